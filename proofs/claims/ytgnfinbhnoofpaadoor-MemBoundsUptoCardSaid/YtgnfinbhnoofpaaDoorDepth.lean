/- Depth, Size (item): what they answer, of any item. -/
import Derived.Test.YtgnfinbhnoofpaaDoorE0
import Derived.Test.YtgnfinbhnoofpaaDoorItem
import Derived.Test.YtgnfinbhnoofpaaDoorVH
set_option linter.unusedVariables false
set_option linter.unusedSimpArgs false
set_option linter.unusedSectionVars false
open Go Go.V
set_option maxRecDepth 100000
set_option maxHeartbeats 4000000
namespace Go.V.W
mutual
/-- how deep items stand in one another -/
def depthI : It → Nat
  | .mk _ _ _ _ l => depthL l + 1
def depthL : List It → Nat
  | [] => 0
  | x :: l => max (depthI x) (depthL l)
end
mutual
theorem depthI_le : ∀ x : It, depthI x ≤ (itemsI x).length
  | .mk _ _ _ _ l => by simp only [depthI, itemsI, List.length_cons]; have := depthL_le l; omega
theorem depthL_le : ∀ l : List It, depthL l ≤ (itemsL l).length
  | [] => by simp [depthL]
  | x :: l => by simp only [depthL, itemsL, List.length_append]; have := depthI_le x; have := depthL_le l; omega
end
theorem depthL_app : ∀ a b : List It, depthL (a ++ b) = max (depthL a) (depthL b)
  | [], b => by simp [depthL]
  | x :: a, b => by simp only [List.cons_append, depthL, depthL_app a b]; omega
noncomputable def P21 : Pos := (goT E0 1000 (ctxOf E0 21) 20 (entry E0 21 [.agg [.int .i64 0, .int .u64 0, .str [], .sli [] 0 .nil]] ⟨[], []⟩)).pos
theorem L21 (k n : Int) (s : List UInt8) (q : Q) (l : List It) (S : St) (hl : (itemsL l).length ≤ 2 ^ 30) (hcall : ∀ y ∈ l, ∀ S, Go.V.Call E0 21 [.agg (encI y)] S (.int .i64 ((depthI y : Nat) : Int)) S) :
    ∀ (m i a : Nat), i + m = l.length → a ≤ 2 ^ 30 → EvC E0 (ctxOf E0 21) ⟨P21, [(3, .int .i64 (a : Int)), (7, .sli (encL l) l.length q), (8, .int .i64 (l.length : Int)), (9, .int .i64 (i : Int))], S⟩ (Go.V.Fin E0 21 S (.int .i64 ((max a (depthL (l.drop i)) + 1 : Nat) : Int)) S) := by
  intro m
  induction m with
  | zero =>
    intro i a hi ha
    have e : l.drop i = [] := List.drop_eq_nil_of_le (by omega)
    have e2 : IntKind.wrap .i64 ((a : Int) + 1) = ((max a (depthL (l.drop i)) + 1 : Nat) : Int) := by
      rw [e]; simp only [depthL, Nat.max_zero]; exact wrap_nat (m := 1) (by omega)
    rw [← e2]
    refine evc_g 4 ?_
    refine evc_i 10 (decide ((↑i : Int) < (↑l.length : Int))) false ?_
    refine evc_g 8 ?_
    exact evc_endS (Val.int IntKind.i64 (IntKind.i64.wrap ((↑a : Int) + 1))) (by kernel_rfl) (by kernel_rfl) (by first | with_reducible rfl | assumption | (simp_all; done) | omega | (simp_all; omega)) (by first | rfl | simp [Val.low, Val.lows, low_encL, low_encI])
  | succ m ihm =>
    intro i a hi ha
    have hlen : l.length ≤ 2 ^ 30 := by have := length_itemsL l; omega
    have hlt : i < l.length := by omega
    obtain ⟨y, hy⟩ : ∃ y, l[i]? = some y := ⟨l[i], List.getElem?_eq_getElem hlt⟩
    have hc := cut_enc hy
    have hdr : l.drop i = y :: l.drop (i + 1) := by
      obtain ⟨_, rfl⟩ := List.getElem?_eq_some_iff.1 hy
      exact List.drop_eq_getElem_cons hlt
    have hcl := hcall y (List.mem_of_getElem? hy) S
    have hd := depthI_le y
    have hm := itemsL_mem (List.mem_of_getElem? hy)
    have e1 : (if ((depthI y : Nat) : Int) > (a : Int) then ((depthI y : Nat) : Int) else (a : Int)) = ((max a (depthI y) : Nat) : Int) := by split <;> omega
    have ih := ihm (i + 1) (max a (depthI y)) (by omega) (by omega)
    rw [hdr]
    have e3 : max a (depthL (y :: l.drop (i + 1))) + 1 = max (max a (depthI y)) (depthL (l.drop (i + 1))) + 1 := by simp only [depthL]; omega
    rw [e3]
    generalize hD : depthI y = D at *
    cases y with
    | mk ky ny sy qy ly =>
      rw [encI_mk] at hc hcl
      refine evc_g 4 ?_
      refine evc_i 10 (decide ((↑i : Int) < (↑l.length : Int))) true ?_
      refine evc_g 6 ?_
      refine evc_idx (i) (l.length) (encL l) 4 (by kernel_rfl) (by first | with_reducible rfl | assumption | (simp_all; done) | omega | (simp_all; omega)) (by kernel_rfl) ?_
      refine evc_cut (encL l) (i * 4) 4 (Go.V.i4 ky ny sy ly qy) .pure (by kernel_rfl) hc (by kernel_rfl) ?_
      refine evc_g 6 ?_
      refine evc_c (hcl) ?_
      refine evc_g 10 ?_
      refine evc_set 3 (Val.int IntKind.i64 (if (↑D : Int) > (↑a : Int) then (↑D : Int) else (↑a : Int))) (Val.int IntKind.i64 (↑(Max.max a D) : Int)) (by kernel_rfl) (congrArg (Val.int IntKind.i64) e1) ?_
      refine evc_set 9 (Val.int IntKind.i64 (IntKind.i64.wrap ((↑i : Int) + 1))) (Val.int IntKind.i64 (↑(i + 1) : Int)) (by kernel_rfl) (congrArg (Val.int IntKind.i64) (wrap_nat (i := i) (m := 1) (by omega))) ?_
      exact evc_a (ih)
theorem c21 : ∀ (N : Nat) (x : It), (itemsI x).length ≤ N → N ≤ 2 ^ 30 → ∀ S, Go.V.Call E0 21 [.agg (encI x)] S (.int .i64 ((depthI x : Nat) : Int)) S
  | 0, x, h, _, _ => by have := itemsI_pos x; omega
  | N + 1, .mk k n s q l, h, hN, S => by
    simp only [itemsI, List.length_cons] at h
    have hcall : ∀ y ∈ l, ∀ S, Go.V.Call E0 21 [.agg (encI y)] S (.int .i64 ((depthI y : Nat) : Int)) S := fun y hy S => c21 N y (by have := itemsL_mem hy; omega) (by omega) S
    have e : depthI (.mk k n s q l) = max 0 (depthL (l.drop 0)) + 1 := by simp [depthI]
    have L := L21 k n s q l S (by omega) hcall l.length 0 0 (by omega) (by omega)
    rw [e, encI_mk]
    refine call_cfg (by kernel_rfl) ?_
    refine evc_g 20 ?_
    exact evc_a (L)
end Go.V.W
