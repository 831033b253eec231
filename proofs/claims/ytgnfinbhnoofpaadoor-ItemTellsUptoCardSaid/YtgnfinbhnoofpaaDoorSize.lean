/- Size (item): how many items there are. -/
import Derived.Test.YtgnfinbhnoofpaaDoorE0
import Derived.Test.YtgnfinbhnoofpaaDoorItem
import Derived.Test.YtgnfinbhnoofpaaDoorVH
set_option linter.unusedVariables false
set_option linter.unusedSimpArgs false
set_option linter.unusedSectionVars false
open Go Go.V
set_option maxRecDepth 100000
set_option maxHeartbeats 4000000
namespace Go.V.W
noncomputable def P23 : Pos := (goT E0 1000 (ctxOf E0 23) 20 (entry E0 23 [.agg [.int .i64 0, .int .u64 0, .str [], .sli [] 0 .nil]] ⟨[], []⟩)).pos
theorem L23 (l : List It) (q : Q) (S : St) (hcall : ∀ y ∈ l, ∀ S, Go.V.Call E0 23 [.agg (encI y)] S (.int .i64 (((itemsI y).length : Nat) : Int)) S) :
    ∀ (m i a : Nat), i + m = l.length → l.length ≤ 2 ^ 30 → a + (itemsL (l.drop i)).length ≤ 2 ^ 31 → EvC E0 (ctxOf E0 23) ⟨P23, [(3, .int .i64 (a : Int)), (7, .sli (encL l) l.length q), (8, .int .i64 (l.length : Int)), (9, .int .i64 (i : Int))], S⟩ (Go.V.Fin E0 23 S (.int .i64 ((a + (itemsL (l.drop i)).length : Nat) : Int)) S) := by
  intro m
  induction m with
  | zero =>
    intro i a hi hl ha
    have e : l.drop i = [] := List.drop_eq_nil_of_le (by omega)
    rw [e]
    simp only [itemsL, List.length_nil, Nat.add_zero]
    refine evc_go 1000 4 (by kernel_rfl) ?_
    refine evc_is 10 (Decidable.decide ((↑i : Int) < (↑l.length : Int))) false (by kernel_rfl) (by first | with_reducible rfl | assumption | (simp_all; done) | omega | (simp_all; omega)) ?_
    refine evc_go 1000 7 (by kernel_rfl) ?_
    exact evc_endS (Go.V.Val.int Go.IntKind.i64 (↑a : Int)) (by kernel_rfl) (by kernel_rfl) (by first | with_reducible rfl | assumption | (simp_all; done) | omega | (simp_all; omega)) (by first | rfl | simp [Val.low, Val.lows, low_encL, low_encI])
  | succ m ihm =>
    intro i a hi hl ha
    have hlt : i < l.length := by omega
    obtain ⟨y, hy⟩ : ∃ y, l[i]? = some y := ⟨l[i], List.getElem?_eq_getElem hlt⟩
    have hc := cut_enc hy
    have hdr : l.drop i = y :: l.drop (i + 1) := by
      obtain ⟨_, rfl⟩ := List.getElem?_eq_some_iff.1 hy
      exact List.drop_eq_getElem_cons hlt
    have hcl := hcall y (List.mem_of_getElem? hy) S
    have e0 : (itemsL (l.drop i)).length = (itemsI y).length + (itemsL (l.drop (i + 1))).length := by rw [hdr]; simp [itemsL]
    rw [e0] at ha
    have e1 : IntKind.wrap .i64 ((a : Int) + (((itemsI y).length : Nat) : Int)) = ((a + (itemsI y).length : Nat) : Int) := wrap_nat (by omega)
    have ih := ihm (i + 1) (a + (itemsI y).length) (by omega) hl (by omega)
    rw [e0, ← Nat.add_assoc]
    generalize (itemsI y).length = D at *
    cases y with
    | mk ky ny sy qy ly =>
      rw [encI_mk] at hc hcl
      clear e0 ihm hcall
      refine evc_go 1000 4 (by kernel_rfl) ?_
      refine evc_is 10 (Decidable.decide ((↑i : Int) < (↑l.length : Int))) true (by kernel_rfl) (by first | with_reducible rfl | assumption | (simp_all; done) | omega | (simp_all; omega)) ?_
      refine evc_go 1000 6 (by kernel_rfl) ?_
      refine evc_idx (i) (l.length) (Go.V.encL l) 4 (by kernel_rfl) (by first | with_reducible rfl | assumption | (simp_all; done) | omega | (simp_all; omega)) (by kernel_rfl) ?_
      refine evc_cut (Go.V.encL l) (i * 4) 4 (Go.V.i4 ky ny sy ly qy) .pure (by kernel_rfl) hc (by kernel_rfl) ?_
      refine evc_go 1000 6 (by kernel_rfl) ?_
      refine evc_call (by kernel_rfl) (by kernel_rfl) (hcl) (by kernel_rfl) ?_
      refine evc_go 1000 10 (by kernel_rfl) ?_
      refine evc_set 3 (Go.V.Val.int Go.IntKind.i64 (Go.IntKind.i64.wrap ((↑a : Int) + (↑D : Int)))) (Go.V.Val.int Go.IntKind.i64 (↑(a + D) : Int)) (by kernel_rfl) (congrArg (Go.V.Val.int Go.IntKind.i64) e1) ?_
      refine evc_set 9 (Go.V.Val.int Go.IntKind.i64 (Go.IntKind.i64.wrap ((↑i : Int) + 1))) (Go.V.Val.int Go.IntKind.i64 (↑(i + 1) : Int)) (by kernel_rfl) (congrArg (Go.V.Val.int Go.IntKind.i64) (wrap_nat (i := i) (m := 1) (by omega))) ?_
      exact evc_at (ih) (by kernel_rfl) (by first | rfl | (simp_all; done))
theorem c23 : ∀ (N : Nat) (x : It), (itemsI x).length ≤ N → N ≤ 2 ^ 30 → ∀ S, Go.V.Call E0 23 [.agg (encI x)] S (.int .i64 (((itemsI x).length : Nat) : Int)) S
  | 0, x, h, _, _ => by have := itemsI_pos x; omega
  | N + 1, .mk k n s q l, h, hN, S => by
    simp only [itemsI, List.length_cons] at h
    have hcall : ∀ y ∈ l, ∀ S, Go.V.Call E0 23 [.agg (encI y)] S (.int .i64 (((itemsI y).length : Nat) : Int)) S := fun y hy S => c23 N y (by have := itemsL_mem hy; omega) (by omega) S
    have e : (itemsI (.mk k n s q l)).length = 1 + (itemsL (l.drop 0)).length := by simp [itemsI]; omega
    have L := L23 l q S hcall l.length 0 1 (by omega) (by have := length_itemsL l; omega) (by simp; omega)
    rw [e, encI_mk]
    refine call_cfg (by kernel_rfl) ?_
    refine evc_go 1000 20 (by kernel_rfl) ?_
    exact evc_at (L) (by kernel_rfl) (by first | rfl | (simp_all; done))
end Go.V.W
