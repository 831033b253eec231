/- walk (item): it hands on all items, in order, till one isn't right. -/
import Derived.Test.YtgnfinbhnoofpaaDoorE0
import Derived.Test.YtgnfinbhnoofpaaDoorItem
import Derived.Test.YtgnfinbhnoofpaaDoorVH
set_option linter.unusedVariables false
set_option linter.unusedSimpArgs false
set_option linter.unusedSectionVars false
open Go Go.V
set_option maxRecDepth 100000
set_option maxHeartbeats 4000000
namespace Go.V.W
/-- what the first one that isn't right has -/
def firstW (wr : It → Int) : List It → Int
  | [] => 0
  | y :: l => if wr y = 0 then firstW wr l else wr y
theorem firstW_app (wr : It → Int) : ∀ a b : List It, firstW wr (a ++ b) = if firstW wr a = 0 then firstW wr b else firstW wr a
  | [], b => by simp [firstW]
  | x :: a, b => by
    simp only [List.cons_append, firstW, firstW_app wr a b]
    by_cases h : wr x = 0 <;> simp [h]
noncomputable def E2 : Env := { E0 with native := fun _ => some (fun _ S => some (.bool true, S)) }
noncomputable def P80 : Pos := (goT E2 1 (ctxOf E0 80) 26 (entry E0 80 [.agg [.int .i64 0, .int .u64 0, .str [], .sli [] 0 .nil], .int .i64 1, .fn 1 []] ⟨[], []⟩)).pos
section
variable {S0 : St} {S1 : Int → St} {lp : Nat} {wr : It → Int}
/-- what walk does of an item -/
def Walked (S0 : St) (S1 : Int → St) (lp : Nat) (wr : It → Int) (x : It) (d : Int) : Prop :=
  (firstW wr (itemsI x) = 0 → Go.V.Call E0 80 [.agg (encI x), .int .i64 d, .yield lp] S0 (.bool true) S0) ∧
  (firstW wr (itemsI x) ≠ 0 → Go.V.Call E0 80 [.agg (encI x), .int .i64 d, .yield lp] S0 (.bool false) (S1 (firstW wr (itemsI x))))
theorem L80 (d : Int) (l : List It) (q : Q) (hlen : l.length ≤ 2 ^ 30) (hcall : ∀ y ∈ l, Walked S0 S1 lp wr y (IntKind.wrap .i64 (d + 1))) : ∀ (m i : Nat), i + m = l.length →
    (firstW wr (itemsL (l.drop i)) = 0 → EvC E0 (ctxOf E0 80) ⟨P80, [(1, .int .i64 d), (2, .yield lp), (15, .sli (encL l) l.length q), (16, .int .i64 (l.length : Int)), (17, .int .i64 (i : Int))], S0⟩ (Go.V.Fin E0 80 S0 (.bool true) S0)) ∧
    (firstW wr (itemsL (l.drop i)) ≠ 0 → EvC E0 (ctxOf E0 80) ⟨P80, [(1, .int .i64 d), (2, .yield lp), (15, .sli (encL l) l.length q), (16, .int .i64 (l.length : Int)), (17, .int .i64 (i : Int))], S0⟩ (Go.V.Fin E0 80 S0 (.bool false) (S1 (firstW wr (itemsL (l.drop i)))))) := by
  intro m
  induction m with
  | zero =>
    intro i hi
    have e : l.drop i = [] := List.drop_eq_nil_of_le (by omega)
    rw [e]
    refine ⟨fun _ => ?_, fun h => absurd rfl h⟩
    refine evc_g 5 ?_
    refine evc_i 18 (decide ((↑i : Int) < (↑l.length : Int))) false ?_
    refine evc_g 6 ?_
    exact evc_e (Val.bool Bool.true) (S0)
  | succ m ihm =>
    intro i hi
    have hlt : i < l.length := by omega
    obtain ⟨y, hy⟩ : ∃ y, l[i]? = some y := ⟨l[i], List.getElem?_eq_getElem hlt⟩
    have hc := cut_enc hy
    have hdr : l.drop i = y :: l.drop (i + 1) := by
      obtain ⟨_, rfl⟩ := List.getElem?_eq_some_iff.1 hy
      exact List.drop_eq_getElem_cons hlt
    obtain ⟨c1, c2⟩ := hcall y (List.mem_of_getElem? hy)
    obtain ⟨ih1, ih2⟩ := ihm (i + 1) (by omega)
    have hf : firstW wr (itemsL (l.drop i)) = if firstW wr (itemsI y) = 0 then firstW wr (itemsL (l.drop (i + 1))) else firstW wr (itemsI y) := by
      rw [hdr]; simp only [itemsL, firstW_app]
    rw [hf]
    generalize firstW wr (itemsI y) = a at *
    generalize firstW wr (itemsL (l.drop (i + 1))) = b at *
    cases y with
    | mk ky ny sy qy ly =>
      rw [encI_mk] at hc c1 c2
      by_cases ha : a = 0
      · have hcl := c1 ha
        simp only [ha, if_true]
        refine ⟨fun h => ?_, fun h => ?_⟩
        · have ih := ih1 h
          clear ih1 ih2 c1 c2 hcall ihm
          refine evc_g 5 ?_
          refine evc_i 18 (decide ((↑i : Int) < (↑l.length : Int))) true ?_
          refine evc_g 6 ?_
          refine evc_idx (i) (l.length) (encL l) 4 (by kernel_rfl) (by first | with_reducible rfl | assumption | (simp_all; done) | omega | (simp_all; omega)) (by kernel_rfl) ?_
          refine evc_cut (encL l) (i * 4) 4 (Go.V.i4 ky ny sy ly qy) .pure (by kernel_rfl) hc (by kernel_rfl) ?_
          refine evc_g 9 ?_
          refine evc_c (hcl) ?_
          refine evc_g 10 ?_
          refine evc_set 17 (Val.int IntKind.i64 (IntKind.i64.wrap ((↑i : Int) + 1))) (Val.int IntKind.i64 (↑(i + 1) : Int)) (by kernel_rfl) (congrArg (Val.int IntKind.i64) (wrap_nat (i := i) (m := 1) (by omega))) ?_
          exact evc_a (ih)
        · have ih := ih2 h
          clear ih1 ih2 c1 c2 hcall ihm
          refine evc_g 5 ?_
          refine evc_i 18 (decide ((↑i : Int) < (↑l.length : Int))) true ?_
          refine evc_g 6 ?_
          refine evc_idx (i) (l.length) (encL l) 4 (by kernel_rfl) (by first | with_reducible rfl | assumption | (simp_all; done) | omega | (simp_all; omega)) (by kernel_rfl) ?_
          refine evc_cut (encL l) (i * 4) 4 (Go.V.i4 ky ny sy ly qy) .pure (by kernel_rfl) hc (by kernel_rfl) ?_
          refine evc_g 9 ?_
          refine evc_c (hcl) ?_
          refine evc_g 10 ?_
          refine evc_set 17 (Val.int IntKind.i64 (IntKind.i64.wrap ((↑i : Int) + 1))) (Val.int IntKind.i64 (↑(i + 1) : Int)) (by kernel_rfl) (congrArg (Val.int IntKind.i64) (wrap_nat (i := i) (m := 1) (by omega))) ?_
          exact evc_a (ih)
      · have hcl := c2 ha
        simp only [ha, if_false]
        refine ⟨fun h => h.elim, fun h => ?_⟩
        clear ih1 ih2 c1 c2 hcall ihm
        refine evc_g 5 ?_
        refine evc_i 18 (decide ((↑i : Int) < (↑l.length : Int))) true ?_
        refine evc_g 6 ?_
        refine evc_idx (i) (l.length) (encL l) 4 (by kernel_rfl) (by first | with_reducible rfl | assumption | (simp_all; done) | omega | (simp_all; omega)) (by kernel_rfl) ?_
        refine evc_cut (encL l) (i * 4) 4 (Go.V.i4 ky ny sy ly qy) .pure (by kernel_rfl) hc (by kernel_rfl) ?_
        refine evc_g 9 ?_
        refine evc_c (hcl) ?_
        refine evc_g 7 ?_
        exact evc_e (Val.bool Bool.false) (S1 a)
/-- WALK, given what a round does -/
theorem c80 {P : It → Prop} (hP : ∀ k n s q l, P (.mk k n s q l) → ∀ y ∈ l, P y) (hy : ∀ x d, P x → (wr x = 0 → Yld E0 lp [.int .i64 d, .agg (encI x)] S0 (.bool true) S0) ∧ (wr x ≠ 0 → Yld E0 lp [.int .i64 d, .agg (encI x)] S0 (.bool false) (S1 (wr x)))) :
    ∀ (N : Nat) (x : It) (d : Int), P x → (itemsI x).length ≤ N → N ≤ 2 ^ 30 → Walked S0 S1 lp wr x d
  | 0, x, _, _, h, _ => by have := itemsI_pos x; omega
  | N + 1, .mk k n s q l, d, hp, h, hN => by
    simp only [itemsI, List.length_cons] at h
    have hcall : ∀ y ∈ l, Walked S0 S1 lp wr y (IntKind.wrap .i64 (d + 1)) := fun y hm => c80 hP hy N y _ (hP _ _ _ _ _ hp y hm) (by have := itemsL_mem hm; omega) (by omega)
    obtain ⟨L1, L2⟩ := L80 d l q (by have := length_itemsL l; omega) hcall l.length 0 (by omega)
    obtain ⟨y1, y2⟩ := hy (.mk k n s q l) d hp
    unfold Walked
    have hf : firstW wr (itemsI (.mk k n s q l)) = if wr (.mk k n s q l) = 0 then firstW wr (itemsL (l.drop 0)) else wr (.mk k n s q l) := by simp [itemsI, firstW]
    rw [hf, encI_mk]
    rw [encI_mk] at y1 y2
    generalize wr (.mk k n s q l) = a at *
    generalize firstW wr (itemsL (l.drop 0)) = b at *
    clear hcall
    by_cases ha : a = 0
    · have hyl := y1 ha
      simp only [ha, if_true]
      refine ⟨fun h => ?_, fun h => ?_⟩
      · have L := L1 h
        clear L1 L2 y1 y2
        refine call_cfg (by kernel_rfl) ?_
        refine evc_g 11 ?_
        refine evc_yld (by kernel_rfl) (by kernel_rfl) (hyl) (by kernel_rfl) ?_
        refine evc_g 14 ?_
        exact evc_a (L)
      · have L := L2 h
        clear L1 L2 y1 y2
        refine call_cfg (by kernel_rfl) ?_
        refine evc_g 11 ?_
        refine evc_yld (by kernel_rfl) (by kernel_rfl) (hyl) (by kernel_rfl) ?_
        refine evc_g 14 ?_
        exact evc_a (L)
    · have hyl := y2 ha
      simp only [ha, if_false]
      refine ⟨fun h => h.elim, fun h => ?_⟩
      clear L1 L2 y1 y2
      refine call_cfg (by kernel_rfl) ?_
      refine evc_g 11 ?_
      refine evc_yld (by kernel_rfl) (by kernel_rfl) (hyl) (by kernel_rfl) ?_
      refine evc_g 7 ?_
      exact evc_e (Val.bool Bool.false) (S1 a)
end
end Go.V.W
