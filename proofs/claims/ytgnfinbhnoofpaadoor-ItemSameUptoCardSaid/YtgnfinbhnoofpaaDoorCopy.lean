/- Copy (item): what it makes, of any item, in any state. -/
import Derived.Test.YtgnfinbhnoofpaaDoorE0
import Derived.Test.YtgnfinbhnoofpaaDoorRep
import Derived.Test.YtgnfinbhnoofpaaDoorVH
set_option linter.unusedVariables false
set_option linter.unusedSimpArgs false
set_option linter.unusedSectionVars false
open Go Go.V
set_option maxRecDepth 100000
set_option maxHeartbeats 4000000
namespace Go.V.W
theorem el23' : elemIs E0 23 4 56 = true := by kernel_rfl
noncomputable def P28 : Pos := (goT E0 1000 (ctxOf E0 28) 26 (entry E0 28 [.agg [.int .i64 0, .int .u64 0, .str [], .sli [] 0 .nil]] ⟨[], []⟩)).pos
/-- a copy was made -/
def Copied (S : St) (x : It) (X : List Block) (cs : List Val) : Prop := RepP (S.H ++ X) (fun c => S.H.length ≤ c ∧ c < S.H.length + X.length) x cs
theorem mid {α : Type} {H X Z : List α} {o : α} : (H ++ (X ++ o :: Z))[H.length + X.length]? = some o := by
  rw [List.getElem?_append_right (by omega), show H.length + X.length - H.length = X.length by omega, List.getElem?_append_right (by omega)]; simp
theorem set_mid {α : Type} {H X Z : List α} {o o' : α} : (H ++ (X ++ o :: Z)).set (H.length + X.length) o' = H ++ (X ++ o' :: Z) := by
  rw [List.set_append_right (h := by omega), show H.length + X.length - H.length = X.length by omega, List.set_append_right (h := by omega)]; simp
theorem mid_ne {α : Type} {H X Z Y : List α} {o o' p : α} {c : Nat} (h : c ≠ H.length + X.length) (hp : (H ++ (X ++ o :: Z))[c]? = some p) : (H ++ (X ++ o' :: (Z ++ Y)))[c]? = some p := by
  have e : H ++ (X ++ o :: Z) = (H ++ X) ++ (o :: Z) := by simp
  have e' : H ++ (X ++ o' :: (Z ++ Y)) = (H ++ X) ++ (o' :: (Z ++ Y)) := by simp
  rw [e] at hp; rw [e']
  rcases Nat.lt_or_ge c (H ++ X).length with hlt | hge
  · rw [List.getElem?_append_left hlt] at hp ⊢; exact hp
  · rw [List.getElem?_append_right hge] at hp ⊢
    obtain ⟨j, hj⟩ : ∃ j, c - (H ++ X).length = j + 1 := ⟨c - (H ++ X).length - 1, by simp only [List.length_append] at hge ⊢; omega⟩
    rw [hj] at hp ⊢
    simp only [List.getElem?_cons_succ] at hp ⊢
    have := (List.getElem?_eq_some_iff.1 hp).1
    rw [List.getElem?_append_left this]; exact hp
theorem L28 (k n : Int) (s : List UInt8) (q : Q) (l : List It) (S : St) (hlen : l.length ≤ 2 ^ 30) (hcall : ∀ y ∈ l, ∀ S, ∃ X cs, Go.V.Call E0 28 [.agg (encI y)] S (.agg cs) ⟨S.H ++ X, S.L⟩ ∧ Copied S y X cs) :
    ∀ (m j : Nat) (X0 Z : List Block) (hcs : List Val) (e0 : Nat), j + m = l.length → 0 < j → hcs.length = j * 4 → hcs.length = e0 →
      (∀ i y, i < j → l[i]? = some y → ∃ c4, cut hcs (i * 4) 4 = some c4 ∧ RepP (S.H ++ (X0 ++ .cells hcs true :: Z)) (fun c => (S.H.length ≤ c ∧ c < S.H.length + (X0.length + 1 + Z.length)) ∧ c ≠ S.H.length + X0.length) y c4) →
      ∃ X cs, EvC E0 (ctxOf E0 28) ⟨P28, [(2, .lv [.int .i64 0, .int .u64 0, .str [], .sli [] 0 .nil]), (3, .lv [.int .i64 k, .int .u64 n, .str s, .sl (S.H.length + X0.length) 0 j 4 (.flex e0)]), (9, .sli (encL l) l.length q), (10, .int .i64 (l.length : Int)), (11, .int .i64 (j : Int))], ⟨S.H ++ (X0 ++ .cells hcs true :: Z), S.L⟩⟩
        (Go.V.Fin E0 28 S (.agg cs) ⟨S.H ++ X, S.L⟩) ∧ Copied S (.mk k n s q l) X cs
  | 0, j, X0, Z, hcs, e0, hj, h0, hl, he, hr => by
    subst he
    refine ⟨X0 ++ .cells hcs true :: Z, [.int .i64 k, .int .u64 n, .str s, .sl (S.H.length + X0.length) 0 j 4 (.flex hcs.length)], ?_, ?_⟩
    refine evc_go 1000 5 (by kernel_rfl) ?_
    refine evc_is 12 (Decidable.decide ((↑j : Int) < (↑l.length : Int))) false (by kernel_rfl) (by first | with_reducible rfl | assumption | (simp_all; done) | omega | (simp_all; omega)) ?_
    refine evc_go 1000 7 (by kernel_rfl) ?_
    exact evc_end (Go.V.Val.agg [Go.V.Val.int Go.IntKind.i64 k, Go.V.Val.int Go.IntKind.u64 n, Go.V.Val.str s, Go.V.Val.sl (S.1.length + X0.length) 0 j 4 (Go.V.Cap.flex hcs.length)]) ({ H := S.1 ++ (X0 ++ Go.V.Block.cells hcs Bool.true :: Z), L := S.2 }) (by kernel_rfl) (by first | with_reducible rfl | assumption | (simp_all; done) | omega | (simp_all; omega)) (by first | with_reducible rfl | assumption | (simp_all; done) | omega | (simp_all; omega))
    · simp only [Copied, RepP]
      refine ⟨_, rfl, .inr ⟨S.H.length + X0.length, hcs, ⟨by omega, by simp⟩, by rw [show j = l.length by omega], mid, by omega, RepPH_of fun i y hy => ?_⟩⟩
      obtain ⟨c4, h1, h2⟩ := hr i y (by have := (List.getElem?_eq_some_iff.1 hy).1; omega) hy
      refine ⟨c4, by simpa using h1, h2.mono fun b hb => ⟨⟨⟨hb.1.1, ?_⟩, hb.2⟩, fun _ h => h⟩⟩
      have := hb.1.2
      simp only [List.length_append, List.length_cons]; omega
  | m + 1, j, X0, Z, hcs, e0, hj, h0, hl, he, hr => by
    subst he
    have hlt : j < l.length := by omega
    obtain ⟨y, hy⟩ : ∃ y, l[j]? = some y := ⟨l[j], List.getElem?_eq_getElem hlt⟩
    have hc := cut_enc hy
    obtain ⟨Y, cy, hcl, hcp⟩ := hcall y (List.mem_of_getElem? hy) ⟨S.H ++ (X0 ++ .cells hcs true :: Z), S.L⟩
    cases y with
    | mk ky ny sy qy ly =>
      rw [encI_mk] at hc hcl
      have hcp' := hcp
      simp only [Copied, RepP] at hcp'
      obtain ⟨wy, rfl, _⟩ := hcp'
      have hS : ({ H := S.H ++ (X0 ++ Block.cells hcs true :: Z) ++ Y, L := S.L } : St) = ⟨S.H ++ (X0 ++ .cells hcs true :: (Z ++ Y)), S.L⟩ := by simp
      simp only [hS] at hcl
      have e1 : appendOp E0 ⟨S.H ++ (X0 ++ .cells hcs true :: (Z ++ Y)), S.L⟩ 23 (.sl (S.H.length + X0.length) 0 j 4 (.flex hcs.length)) (.sli [.int .i64 ky, .int .u64 ny, .str sy, wy] 1 .exact) = some (.sl (S.H.length + X0.length) 0 (j + 1) 4 (.flex (hcs ++ [.int .i64 ky, .int .u64 ny, .str sy, wy]).length), .eh, ⟨S.H ++ (X0 ++ .cells (hcs ++ [.int .i64 ky, .int .u64 ny, .str sy, wy]) true :: (Z ++ Y)), S.L⟩) := by
        rw [app_flex (nb := 56) el23' mid hl rfl (by omega) (by omega) (by omega) (by omega), set_mid]
      obtain ⟨X, cs, ih, ihc⟩ := L28 k n s q l S hlen hcall m (j + 1) X0 (Z ++ Y) (hcs ++ [.int .i64 ky, .int .u64 ny, .str sy, wy]) (hcs ++ [.int .i64 ky, .int .u64 ny, .str sy, wy]).length (by omega) (by omega) (by simp only [List.length_append, List.length_cons, List.length_nil]; omega) rfl (fun i z hi hz => by
        rcases Nat.lt_or_ge i j with hij | hij
        · obtain ⟨c4, h1, h2⟩ := hr i z hij hz
          refine ⟨c4, cut_app h1, h2.mono fun b hb => ⟨⟨⟨hb.1.1, by have := hb.1.2; simp only [List.length_append]; omega⟩, hb.2⟩, fun o ho => mid_ne hb.2 ho⟩⟩
        · obtain rfl : i = j := by omega
          rw [hy] at hz; cases hz
          refine ⟨_, cut_app_right (b := [.int .i64 ky, .int .u64 ny, .str sy, wy]) hl, ?_⟩
          simp only [Copied] at hcp
          refine hcp.mono fun b hb => ?_
          have h1 := hb.1
          have h2 := hb.2
          simp only [List.length_append, List.length_cons] at h1 h2 ⊢
          refine ⟨⟨⟨by omega, by omega⟩, by omega⟩, fun o ho => ?_⟩
          have ho' : (S.H ++ (X0 ++ Block.cells hcs true :: (Z ++ Y)))[b]? = some o := by simpa using ho
          simpa using mid_ne (Y := []) (by omega) ho')
      refine ⟨X, cs, ?_, ihc⟩
      refine evc_go 1000 5 (by kernel_rfl) ?_
      refine evc_is 12 (Decidable.decide ((↑j : Int) < (↑l.length : Int))) true (by kernel_rfl) (by first | with_reducible rfl | assumption | (simp_all; done) | omega | (simp_all; omega)) ?_
      refine evc_go 1000 6 (by kernel_rfl) ?_
      refine evc_idx (j) (l.length) (Go.V.encL l) 4 (by kernel_rfl) (by first | with_reducible rfl | assumption | (simp_all; done) | omega | (simp_all; omega)) (by kernel_rfl) ?_
      refine evc_cut (Go.V.encL l) (j * 4) 4 (Go.V.i4 ky ny sy ly qy) .pure (by kernel_rfl) hc (by kernel_rfl) ?_
      refine evc_go 1000 7 (by kernel_rfl) ?_
      refine evc_call (by kernel_rfl) (by kernel_rfl) (hcl) (by kernel_rfl) ?_
      refine evc_go 1000 1 (by kernel_rfl) ?_
      refine evc_app ({ H := S.H ++ (X0 ++ Go.V.Block.cells hcs Bool.true :: (Z ++ Y)), L := S.L }) 23 (Go.V.Val.sl (S.H.length + X0.length) 0 j 4 (Go.V.Cap.flex hcs.length)) (Go.V.Val.sli [Go.V.Val.int Go.IntKind.i64 ky, Go.V.Val.int Go.IntKind.u64 ny, Go.V.Val.str sy, wy] 1 Go.V.Q.exact) (Go.V.Val.sl (S.H.length + X0.length) 0 (j + 1) 4 (Go.V.Cap.flex (hcs ++ [Go.V.Val.int Go.IntKind.i64 ky, Go.V.Val.int Go.IntKind.u64 ny, Go.V.Val.str sy, wy]).length)) (Go.V.Cls.eh) ({ H := S.H ++ (X0 ++ Go.V.Block.cells (hcs ++ [Go.V.Val.int Go.IntKind.i64 ky, Go.V.Val.int Go.IntKind.u64 ny, Go.V.Val.str sy, wy]) Bool.true :: (Z ++ Y)), L := S.L }) (by kernel_rfl) (by kernel_rfl) e1 (by kernel_rfl) ?_
      refine evc_go 1000 9 (by kernel_rfl) ?_
      refine evc_set 11 (Go.V.Val.int Go.IntKind.i64 (Go.IntKind.i64.wrap ((↑j : Int) + 1))) (Go.V.Val.int Go.IntKind.i64 (↑(j + 1) : Int)) (by kernel_rfl) (congrArg (Go.V.Val.int Go.IntKind.i64) (wrap_nat (i := j) (m := 1) (by omega))) ?_
      exact evc_at (ih) (by kernel_rfl) (by first | rfl | (simp_all; done))
end Go.V.W
