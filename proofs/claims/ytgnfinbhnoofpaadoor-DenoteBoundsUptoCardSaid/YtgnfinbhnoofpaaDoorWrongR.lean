/- wrong (ullageref08): what it answers of any item, case by case. Printed by a program (wip/tools/genwrongr.py). -/
import Derived.Test.YtgnfinbhnoofpaaDoorVH
import Derived.Test.YtgnfinbhnoofpaaDoorAlikeR
import Derived.Test.YtgnfinbhnoofpaaDoorTwice
import Derived.Test.YtgnfinbhnoofpaaDoorFirst
import Derived.Test.YtgnfinbhnoofpaaDoorWrong
set_option linter.unusedVariables false
set_option linter.unusedSimpArgs false
set_option linter.unusedSectionVars false
open Go Go.V
set_option maxRecDepth 100000
set_option maxHeartbeats 4000000
namespace Go.V.W
def e14 : Bool → Int
  | true => 14
  | false => 0
section
variable (n : Nat) (s : List UInt8) (q : Q) (l : List It)
noncomputable def PO82 : Pos := (goT E0 1 (ctxOf E0 82) 164 (entry E0 82 [.agg [.int .i64 5, .int .u64 0, .str [], .sli (z4 ++ z4) 2 .exact]] ⟨[], []⟩)).pos
noncomputable def PI82 : Pos := (goT E0 1 (ctxOf E0 82) 185 (entry E0 82 [.agg [.int .i64 5, .int .u64 0, .str [], .sli (z4 ++ z4) 2 .exact]] ⟨[], []⟩)).pos
section
variable (m : Nat) (hm : l.length = 2 * m) (hl : m ≤ 2 ^ 29) (S : St)
include hm hl
theorem LI82 (hcall : ∀ x ∈ l, ∀ y S, Go.V.Call E0 115 [.agg (encI x), .agg (encI y)] S (.bool (alikeI x y)) S) (i : Nat) (hi : i < m) (x : It) (hx : l[2 * i]? = some x) (RO : Bool)
    (ihO : EvC E0 (ctxOf E0 82) ⟨PO82, [(1, .lv (i4 5 n s l q)), (8, .int .i64 ((2 * (i + 1) : Nat) : Int))], S⟩ (Go.V.Fin E0 82 S (.int .i64 (e14 RO)) S)) : ∀ (r j : Nat), j + r = m → 0 < j →
    EvC E0 (ctxOf E0 82) ⟨PI82, [(1, .lv (i4 5 n s l q)), (8, .int .i64 ((2 * i : Nat) : Int)), (9, .int .i64 ((2 * j : Nat) : Int))], S⟩ (Go.V.Fin E0 82 S (.int .i64 (e14 (rowA x ((evens l).drop j) || RO))) S) := by
  have w1 := wrap2 (i := i) (by omega)
  intro r
  induction r with
  | zero =>
    intro j hj _
    have e : (evens l).drop j = [] := List.drop_eq_nil_of_le (by rw [evens_len]; omega)
    have g5 : ¬ ((2 * j : Nat) : Int) < (l.length : Int) := by omega
    rw [e]
    simp only [rowA, List.any_nil, Bool.false_or]
    clear hcall
    refine evc_go 1000 9 (by kernel_rfl) ?_
    refine evc_is 137 (Decidable.decide ((↑(2 * j) : Int) < (↑l.length : Int))) false (by kernel_rfl) (by first | with_reducible rfl | assumption | (simp_all; done) | omega | (simp_all; omega) | ((try simp only [decide_eq_true_eq, decide_eq_false_iff_not, beq_iff_eq, beq_eq_false_iff_ne, ne_eq, Bool.and_eq_true, Bool.or_eq_true] at *); (repeat' split) <;> first | rfl | (exfalso; omega))) ?_
    refine evc_go 1000 9 (by kernel_rfl) ?_
    refine evc_set 8 (Go.V.Val.int Go.IntKind.i64 (Go.IntKind.i64.wrap ((↑(2 * i) : Int) + 2))) (Go.V.Val.int Go.IntKind.i64 (↑(2 * (i + 1)) : Int)) (by kernel_rfl) (congrArg (Go.V.Val.int Go.IntKind.i64) w1) ?_
    exact evc_at (ihO) (by kernel_rfl) (by first | rfl | (simp_all; done))
  | succ r ihr =>
    intro j hj h0
    obtain ⟨y, hy⟩ : ∃ y, l[2 * j]? = some y := ⟨l[2 * j], List.getElem?_eq_getElem (by omega)⟩
    have hey := evens_get hy
    have e : (evens l).drop j = y :: (evens l).drop (j + 1) := by
      obtain ⟨hl', rfl⟩ := List.getElem?_eq_some_iff.1 hey
      exact List.drop_eq_getElem_cons hl'
    have g5 : ((2 * j : Nat) : Int) < (l.length : Int) := by omega
    have w2 := wrap2 (i := j) (by omega)
    have hcx := cut_enc hx
    have hcy := cut_enc hy
    have c := hcall x (List.mem_of_getElem? hx) y S
    have ih := ihr (j + 1) (by omega) (by omega)
    rw [e]
    simp only [rowA, List.any_cons] at ih ⊢
    generalize ((evens l).drop (j + 1)).any (fun y => alikeI x y) = b at *
    generalize alikeI x y = a at *
    clear ihr hcall e hey ihO
    cases x with
    | mk kx nx sx qx lx =>
    cases y with
    | mk ky ny sy qy ly =>
    rw [encI_mk] at hcx hcy
    rw [encI_mk, encI_mk] at c
    cases a with
    | true =>
      simp only [Bool.true_or, e14]
      clear ih
      refine evc_go 1000 9 (by kernel_rfl) ?_
      refine evc_is 137 (Decidable.decide ((↑(2 * j) : Int) < (↑l.length : Int))) true (by kernel_rfl) (by first | with_reducible rfl | assumption | (simp_all; done) | omega | (simp_all; omega) | ((try simp only [decide_eq_true_eq, decide_eq_false_iff_not, beq_iff_eq, beq_eq_false_iff_ne, ne_eq, Bool.and_eq_true, Bool.or_eq_true] at *); (repeat' split) <;> first | rfl | (exfalso; omega))) ?_
      refine evc_go 1000 9 (by kernel_rfl) ?_
      refine evc_idx (2 * i) (l.length) (Go.V.encL l) 4 (by kernel_rfl) (by first | with_reducible rfl | assumption | (simp_all; done) | omega | (simp_all; omega) | ((try simp only [decide_eq_true_eq, decide_eq_false_iff_not, beq_iff_eq, beq_eq_false_iff_ne, ne_eq, Bool.and_eq_true, Bool.or_eq_true] at *); (repeat' split) <;> first | rfl | (exfalso; omega))) (by kernel_rfl) ?_
      refine evc_cut (Go.V.encL l) (2 * i * 4) 4 (Go.V.i4 kx nx sx lx qx) .pure (by kernel_rfl) hcx (by kernel_rfl) ?_
      refine evc_go 1000 3 (by kernel_rfl) ?_
      refine evc_idx (2 * j) (l.length) (Go.V.encL l) 4 (by kernel_rfl) (by first | with_reducible rfl | assumption | (simp_all; done) | omega | (simp_all; omega) | ((try simp only [decide_eq_true_eq, decide_eq_false_iff_not, beq_iff_eq, beq_eq_false_iff_ne, ne_eq, Bool.and_eq_true, Bool.or_eq_true] at *); (repeat' split) <;> first | rfl | (exfalso; omega))) (by kernel_rfl) ?_
      refine evc_cut (Go.V.encL l) (2 * j * 4) 4 (Go.V.i4 ky ny sy ly qy) .pure (by kernel_rfl) hcy (by kernel_rfl) ?_
      refine evc_call (by kernel_rfl) (by kernel_rfl) (c) (by kernel_rfl) ?_
      refine evc_go 1000 6 (by kernel_rfl) ?_
      exact evc_endT (Go.V.Val.int Go.IntKind.i64 14) (by kernel_rfl) (by kernel_rfl) (by first | with_reducible rfl | assumption | (simp_all; done) | omega | (simp_all; omega) | ((try simp only [decide_eq_true_eq, decide_eq_false_iff_not, beq_iff_eq, beq_eq_false_iff_ne, ne_eq, Bool.and_eq_true, Bool.or_eq_true] at *); (repeat' split) <;> first | rfl | (exfalso; omega))) (by first | rfl | simp [Val.low, Val.lows, low_encL, low_encI])
    | false =>
      simp only [Bool.false_or]
      refine evc_go 1000 9 (by kernel_rfl) ?_
      refine evc_is 137 (Decidable.decide ((↑(2 * j) : Int) < (↑l.length : Int))) true (by kernel_rfl) (by first | with_reducible rfl | assumption | (simp_all; done) | omega | (simp_all; omega) | ((try simp only [decide_eq_true_eq, decide_eq_false_iff_not, beq_iff_eq, beq_eq_false_iff_ne, ne_eq, Bool.and_eq_true, Bool.or_eq_true] at *); (repeat' split) <;> first | rfl | (exfalso; omega))) ?_
      refine evc_go 1000 9 (by kernel_rfl) ?_
      refine evc_idx (2 * i) (l.length) (Go.V.encL l) 4 (by kernel_rfl) (by first | with_reducible rfl | assumption | (simp_all; done) | omega | (simp_all; omega) | ((try simp only [decide_eq_true_eq, decide_eq_false_iff_not, beq_iff_eq, beq_eq_false_iff_ne, ne_eq, Bool.and_eq_true, Bool.or_eq_true] at *); (repeat' split) <;> first | rfl | (exfalso; omega))) (by kernel_rfl) ?_
      refine evc_cut (Go.V.encL l) (2 * i * 4) 4 (Go.V.i4 kx nx sx lx qx) .pure (by kernel_rfl) hcx (by kernel_rfl) ?_
      refine evc_go 1000 3 (by kernel_rfl) ?_
      refine evc_idx (2 * j) (l.length) (Go.V.encL l) 4 (by kernel_rfl) (by first | with_reducible rfl | assumption | (simp_all; done) | omega | (simp_all; omega) | ((try simp only [decide_eq_true_eq, decide_eq_false_iff_not, beq_iff_eq, beq_eq_false_iff_ne, ne_eq, Bool.and_eq_true, Bool.or_eq_true] at *); (repeat' split) <;> first | rfl | (exfalso; omega))) (by kernel_rfl) ?_
      refine evc_cut (Go.V.encL l) (2 * j * 4) 4 (Go.V.i4 ky ny sy ly qy) .pure (by kernel_rfl) hcy (by kernel_rfl) ?_
      refine evc_call (by kernel_rfl) (by kernel_rfl) (c) (by kernel_rfl) ?_
      refine evc_go 1000 10 (by kernel_rfl) ?_
      refine evc_set 9 (Go.V.Val.int Go.IntKind.i64 (Go.IntKind.i64.wrap ((↑(2 * j) : Int) + 2))) (Go.V.Val.int Go.IntKind.i64 (↑(2 * (j + 1)) : Int)) (by kernel_rfl) (congrArg (Go.V.Val.int Go.IntKind.i64) w2) ?_
      exact evc_at (ih) (by kernel_rfl) (by first | rfl | (simp_all; done))
theorem LO82 (hcall : ∀ x ∈ l, ∀ y S, Go.V.Call E0 115 [.agg (encI x), .agg (encI y)] S (.bool (alikeI x y)) S) : ∀ (r i : Nat), i + r = m →
    EvC E0 (ctxOf E0 82) ⟨PO82, [(1, .lv (i4 5 n s l q)), (8, .int .i64 ((2 * i : Nat) : Int))], S⟩ (Go.V.Fin E0 82 S (.int .i64 (e14 (twR ((evens l).drop i)))) S) := by
  intro r
  induction r with
  | zero =>
    intro i hi
    have e : (evens l).drop i = [] := List.drop_eq_nil_of_le (by rw [evens_len]; omega)
    have g5 : ¬ ((2 * i : Nat) : Int) < (l.length : Int) := by omega
    rw [e]
    simp only [twR, e14]
    clear hcall
    refine evc_go 1000 9 (by kernel_rfl) ?_
    refine evc_is 128 (Decidable.decide ((↑(2 * i) : Int) < (↑l.length : Int))) false (by kernel_rfl) (by first | with_reducible rfl | assumption | (simp_all; done) | omega | (simp_all; omega) | ((try simp only [decide_eq_true_eq, decide_eq_false_iff_not, beq_iff_eq, beq_eq_false_iff_ne, ne_eq, Bool.and_eq_true, Bool.or_eq_true] at *); (repeat' split) <;> first | rfl | (exfalso; omega))) ?_
    refine evc_go 1000 6 (by kernel_rfl) ?_
    exact evc_endT (Go.V.Val.int Go.IntKind.i64 0) (by kernel_rfl) (by kernel_rfl) (by first | with_reducible rfl | assumption | (simp_all; done) | omega | (simp_all; omega) | ((try simp only [decide_eq_true_eq, decide_eq_false_iff_not, beq_iff_eq, beq_eq_false_iff_ne, ne_eq, Bool.and_eq_true, Bool.or_eq_true] at *); (repeat' split) <;> first | rfl | (exfalso; omega))) (by first | rfl | simp [Val.low, Val.lows, low_encL, low_encI])
  | succ r ihr =>
    intro i hi
    obtain ⟨x, hx⟩ : ∃ x, l[2 * i]? = some x := ⟨l[2 * i], List.getElem?_eq_getElem (by omega)⟩
    have hex := evens_get hx
    have e : (evens l).drop i = x :: (evens l).drop (i + 1) := by
      obtain ⟨hl', rfl⟩ := List.getElem?_eq_some_iff.1 hex
      exact List.drop_eq_getElem_cons hl'
    have g5 : ((2 * i : Nat) : Int) < (l.length : Int) := by omega
    have w2 := wrap2 (i := i) (by omega)
    have L := LI82 n s q l m hm hl S hcall i (by omega) x hx _ (ihr (i + 1) (by omega)) (m - (i + 1)) (i + 1) (by omega) (by omega)
    rw [e]
    simp only [twR]
    generalize (rowA x ((evens l).drop (i + 1)) || twR ((evens l).drop (i + 1))) = R at *
    clear ihr hcall e hex
    refine evc_go 1000 9 (by kernel_rfl) ?_
    refine evc_is 128 (Decidable.decide ((↑(2 * i) : Int) < (↑l.length : Int))) true (by kernel_rfl) (by first | with_reducible rfl | assumption | (simp_all; done) | omega | (simp_all; omega) | ((try simp only [decide_eq_true_eq, decide_eq_false_iff_not, beq_iff_eq, beq_eq_false_iff_ne, ne_eq, Bool.and_eq_true, Bool.or_eq_true] at *); (repeat' split) <;> first | rfl | (exfalso; omega))) ?_
    refine evc_go 1000 12 (by kernel_rfl) ?_
    refine evc_set 9 (Go.V.Val.int Go.IntKind.i64 (Go.IntKind.i64.wrap ((↑(2 * i) : Int) + 2))) (Go.V.Val.int Go.IntKind.i64 (↑(2 * (i + 1)) : Int)) (by kernel_rfl) (congrArg (Go.V.Val.int Go.IntKind.i64) w2) ?_
    exact evc_at (L) (by kernel_rfl) (by first | rfl | (simp_all; done))
end
theorem w82_lo (k : Int) (h : k < 0) (S : St) : Go.V.Call E0 82 [.agg (i4 k n s l q)] S (.int .i64 11) S := by
  refine call_cfg (by kernel_rfl) ?_
  refine evc_go 1000 17 (by kernel_rfl) ?_
  refine evc_is 14 (Decidable.decide (k < 0)) true (by kernel_rfl) (by first | with_reducible rfl | assumption | (simp_all; done) | omega | (simp_all; omega) | ((try simp only [decide_eq_true_eq, decide_eq_false_iff_not, beq_iff_eq, beq_eq_false_iff_ne, ne_eq, Bool.and_eq_true, Bool.or_eq_true] at *); (repeat' split) <;> first | rfl | (exfalso; omega))) ?_
  refine evc_go 1000 9 (by kernel_rfl) ?_
  exact evc_endT (Go.V.Val.int Go.IntKind.i64 11) (by kernel_rfl) (by kernel_rfl) (by first | with_reducible rfl | assumption | (simp_all; done) | omega | (simp_all; omega) | ((try simp only [decide_eq_true_eq, decide_eq_false_iff_not, beq_iff_eq, beq_eq_false_iff_ne, ne_eq, Bool.and_eq_true, Bool.or_eq_true] at *); (repeat' split) <;> first | rfl | (exfalso; omega))) (by first | rfl | simp [Val.low, Val.lows, low_encL, low_encI])
theorem w82_hi (k : Int) (h : 8 < k) (S : St) : Go.V.Call E0 82 [.agg (i4 k n s l q)] S (.int .i64 11) S := by
  refine call_cfg (by kernel_rfl) ?_
  refine evc_go 1000 17 (by kernel_rfl) ?_
  refine evc_is 14 (Decidable.decide (k < 0)) false (by kernel_rfl) (by first | with_reducible rfl | assumption | (simp_all; done) | omega | (simp_all; omega) | ((try simp only [decide_eq_true_eq, decide_eq_false_iff_not, beq_iff_eq, beq_eq_false_iff_ne, ne_eq, Bool.and_eq_true, Bool.or_eq_true] at *); (repeat' split) <;> first | rfl | (exfalso; omega))) ?_
  refine evc_go 1000 4 (by kernel_rfl) ?_
  refine evc_is 17 (Decidable.decide (k > 8)) true (by kernel_rfl) (by first | with_reducible rfl | assumption | (simp_all; done) | omega | (simp_all; omega) | ((try simp only [decide_eq_true_eq, decide_eq_false_iff_not, beq_iff_eq, beq_eq_false_iff_ne, ne_eq, Bool.and_eq_true, Bool.or_eq_true] at *); (repeat' split) <;> first | rfl | (exfalso; omega))) ?_
  refine evc_go 1000 5 (by kernel_rfl) ?_
  exact evc_endT (Go.V.Val.int Go.IntKind.i64 11) (by kernel_rfl) (by kernel_rfl) (by first | with_reducible rfl | assumption | (simp_all; done) | omega | (simp_all; omega) | ((try simp only [decide_eq_true_eq, decide_eq_false_iff_not, beq_iff_eq, beq_eq_false_iff_ne, ne_eq, Bool.and_eq_true, Bool.or_eq_true] at *); (repeat' split) <;> first | rfl | (exfalso; omega))) (by first | rfl | simp [Val.low, Val.lows, low_encL, low_encI])
theorem w82_0_s (h : s ≠ []) (S : St) : Go.V.Call E0 82 [.agg (i4 0 n s l q)] S (.int .i64 11) S := by
  refine call_cfg (by kernel_rfl) ?_
  refine evc_go 1000 54 (by kernel_rfl) ?_
  refine evc_is 37 (!s == []) true (by kernel_rfl) (by first | with_reducible rfl | assumption | (simp_all; done) | omega | (simp_all; omega) | ((try simp only [decide_eq_true_eq, decide_eq_false_iff_not, beq_iff_eq, beq_eq_false_iff_ne, ne_eq, Bool.and_eq_true, Bool.or_eq_true] at *); (repeat' split) <;> first | rfl | (exfalso; omega))) ?_
  refine evc_go 1000 16 (by kernel_rfl) ?_
  exact evc_endT (Go.V.Val.int Go.IntKind.i64 11) (by kernel_rfl) (by kernel_rfl) (by first | with_reducible rfl | assumption | (simp_all; done) | omega | (simp_all; omega) | ((try simp only [decide_eq_true_eq, decide_eq_false_iff_not, beq_iff_eq, beq_eq_false_iff_ne, ne_eq, Bool.and_eq_true, Bool.or_eq_true] at *); (repeat' split) <;> first | rfl | (exfalso; omega))) (by first | rfl | simp [Val.low, Val.lows, low_encL, low_encI])
theorem w82_0_l (h : s = []) (h2 : (l.length : Int) ≠ 0) (S : St) : Go.V.Call E0 82 [.agg (i4 0 n s l q)] S (.int .i64 11) S := by
  refine call_cfg (by kernel_rfl) ?_
  refine evc_go 1000 54 (by kernel_rfl) ?_
  refine evc_is 37 (!s == []) false (by kernel_rfl) (by first | with_reducible rfl | assumption | (simp_all; done) | omega | (simp_all; omega) | ((try simp only [decide_eq_true_eq, decide_eq_false_iff_not, beq_iff_eq, beq_eq_false_iff_ne, ne_eq, Bool.and_eq_true, Bool.or_eq_true] at *); (repeat' split) <;> first | rfl | (exfalso; omega))) ?_
  refine evc_go 1000 50 (by kernel_rfl) ?_
  refine evc_is 80 ((↑l.length : Int) != 0) true (by kernel_rfl) (by first | with_reducible rfl | assumption | (simp_all; done) | omega | (simp_all; omega) | ((try simp only [decide_eq_true_eq, decide_eq_false_iff_not, beq_iff_eq, beq_eq_false_iff_ne, ne_eq, Bool.and_eq_true, Bool.or_eq_true] at *); (repeat' split) <;> first | rfl | (exfalso; omega))) ?_
  refine evc_go 1000 5 (by kernel_rfl) ?_
  exact evc_endT (Go.V.Val.int Go.IntKind.i64 11) (by kernel_rfl) (by kernel_rfl) (by first | with_reducible rfl | assumption | (simp_all; done) | omega | (simp_all; omega) | ((try simp only [decide_eq_true_eq, decide_eq_false_iff_not, beq_iff_eq, beq_eq_false_iff_ne, ne_eq, Bool.and_eq_true, Bool.or_eq_true] at *); (repeat' split) <;> first | rfl | (exfalso; omega))) (by first | rfl | simp [Val.low, Val.lows, low_encL, low_encI])
theorem w82_0_o (h : s = []) (h2 : (l.length : Int) = 0) (S : St) : Go.V.Call E0 82 [.agg (i4 0 n s l q)] S (.int .i64 0) S := by
  refine call_cfg (by kernel_rfl) ?_
  refine evc_go 1000 54 (by kernel_rfl) ?_
  refine evc_is 37 (!s == []) false (by kernel_rfl) (by first | with_reducible rfl | assumption | (simp_all; done) | omega | (simp_all; omega) | ((try simp only [decide_eq_true_eq, decide_eq_false_iff_not, beq_iff_eq, beq_eq_false_iff_ne, ne_eq, Bool.and_eq_true, Bool.or_eq_true] at *); (repeat' split) <;> first | rfl | (exfalso; omega))) ?_
  refine evc_go 1000 50 (by kernel_rfl) ?_
  refine evc_is 80 ((↑l.length : Int) != 0) false (by kernel_rfl) (by first | with_reducible rfl | assumption | (simp_all; done) | omega | (simp_all; omega) | ((try simp only [decide_eq_true_eq, decide_eq_false_iff_not, beq_iff_eq, beq_eq_false_iff_ne, ne_eq, Bool.and_eq_true, Bool.or_eq_true] at *); (repeat' split) <;> first | rfl | (exfalso; omega))) ?_
  refine evc_go 1000 59 (by kernel_rfl) ?_
  exact evc_endT (Go.V.Val.int Go.IntKind.i64 0) (by kernel_rfl) (by kernel_rfl) (by first | with_reducible rfl | assumption | (simp_all; done) | omega | (simp_all; omega) | ((try simp only [decide_eq_true_eq, decide_eq_false_iff_not, beq_iff_eq, beq_eq_false_iff_ne, ne_eq, Bool.and_eq_true, Bool.or_eq_true] at *); (repeat' split) <;> first | rfl | (exfalso; omega))) (by first | rfl | simp [Val.low, Val.lows, low_encL, low_encI])
theorem w82_1_s (h : s ≠ []) (S : St) : Go.V.Call E0 82 [.agg (i4 1 n s l q)] S (.int .i64 11) S := by
  refine call_cfg (by kernel_rfl) ?_
  refine evc_go 1000 54 (by kernel_rfl) ?_
  refine evc_is 37 (!s == []) true (by kernel_rfl) (by first | with_reducible rfl | assumption | (simp_all; done) | omega | (simp_all; omega) | ((try simp only [decide_eq_true_eq, decide_eq_false_iff_not, beq_iff_eq, beq_eq_false_iff_ne, ne_eq, Bool.and_eq_true, Bool.or_eq_true] at *); (repeat' split) <;> first | rfl | (exfalso; omega))) ?_
  refine evc_go 1000 16 (by kernel_rfl) ?_
  exact evc_endT (Go.V.Val.int Go.IntKind.i64 11) (by kernel_rfl) (by kernel_rfl) (by first | with_reducible rfl | assumption | (simp_all; done) | omega | (simp_all; omega) | ((try simp only [decide_eq_true_eq, decide_eq_false_iff_not, beq_iff_eq, beq_eq_false_iff_ne, ne_eq, Bool.and_eq_true, Bool.or_eq_true] at *); (repeat' split) <;> first | rfl | (exfalso; omega))) (by first | rfl | simp [Val.low, Val.lows, low_encL, low_encI])
theorem w82_1_l (h : s = []) (h2 : (l.length : Int) ≠ 0) (S : St) : Go.V.Call E0 82 [.agg (i4 1 n s l q)] S (.int .i64 11) S := by
  refine call_cfg (by kernel_rfl) ?_
  refine evc_go 1000 54 (by kernel_rfl) ?_
  refine evc_is 37 (!s == []) false (by kernel_rfl) (by first | with_reducible rfl | assumption | (simp_all; done) | omega | (simp_all; omega) | ((try simp only [decide_eq_true_eq, decide_eq_false_iff_not, beq_iff_eq, beq_eq_false_iff_ne, ne_eq, Bool.and_eq_true, Bool.or_eq_true] at *); (repeat' split) <;> first | rfl | (exfalso; omega))) ?_
  refine evc_go 1000 50 (by kernel_rfl) ?_
  refine evc_is 80 ((↑l.length : Int) != 0) true (by kernel_rfl) (by first | with_reducible rfl | assumption | (simp_all; done) | omega | (simp_all; omega) | ((try simp only [decide_eq_true_eq, decide_eq_false_iff_not, beq_iff_eq, beq_eq_false_iff_ne, ne_eq, Bool.and_eq_true, Bool.or_eq_true] at *); (repeat' split) <;> first | rfl | (exfalso; omega))) ?_
  refine evc_go 1000 5 (by kernel_rfl) ?_
  exact evc_endT (Go.V.Val.int Go.IntKind.i64 11) (by kernel_rfl) (by kernel_rfl) (by first | with_reducible rfl | assumption | (simp_all; done) | omega | (simp_all; omega) | ((try simp only [decide_eq_true_eq, decide_eq_false_iff_not, beq_iff_eq, beq_eq_false_iff_ne, ne_eq, Bool.and_eq_true, Bool.or_eq_true] at *); (repeat' split) <;> first | rfl | (exfalso; omega))) (by first | rfl | simp [Val.low, Val.lows, low_encL, low_encI])
theorem w82_1_o (h : s = []) (h2 : (l.length : Int) = 0) (S : St) : Go.V.Call E0 82 [.agg (i4 1 n s l q)] S (.int .i64 0) S := by
  refine call_cfg (by kernel_rfl) ?_
  refine evc_go 1000 54 (by kernel_rfl) ?_
  refine evc_is 37 (!s == []) false (by kernel_rfl) (by first | with_reducible rfl | assumption | (simp_all; done) | omega | (simp_all; omega) | ((try simp only [decide_eq_true_eq, decide_eq_false_iff_not, beq_iff_eq, beq_eq_false_iff_ne, ne_eq, Bool.and_eq_true, Bool.or_eq_true] at *); (repeat' split) <;> first | rfl | (exfalso; omega))) ?_
  refine evc_go 1000 50 (by kernel_rfl) ?_
  refine evc_is 80 ((↑l.length : Int) != 0) false (by kernel_rfl) (by first | with_reducible rfl | assumption | (simp_all; done) | omega | (simp_all; omega) | ((try simp only [decide_eq_true_eq, decide_eq_false_iff_not, beq_iff_eq, beq_eq_false_iff_ne, ne_eq, Bool.and_eq_true, Bool.or_eq_true] at *); (repeat' split) <;> first | rfl | (exfalso; omega))) ?_
  refine evc_go 1000 59 (by kernel_rfl) ?_
  exact evc_endT (Go.V.Val.int Go.IntKind.i64 0) (by kernel_rfl) (by kernel_rfl) (by first | with_reducible rfl | assumption | (simp_all; done) | omega | (simp_all; omega) | ((try simp only [decide_eq_true_eq, decide_eq_false_iff_not, beq_iff_eq, beq_eq_false_iff_ne, ne_eq, Bool.and_eq_true, Bool.or_eq_true] at *); (repeat' split) <;> first | rfl | (exfalso; omega))) (by first | rfl | simp [Val.low, Val.lows, low_encL, low_encI])
theorem w82_2_n (h : (n : Int) ≠ 0) (S : St) : Go.V.Call E0 82 [.agg (i4 2 n s l q)] S (.int .i64 11) S := by
  refine call_cfg (by kernel_rfl) ?_
  refine evc_go 1000 65 (by kernel_rfl) ?_
  refine evc_is 47 ((↑n : Int) != 0) true (by kernel_rfl) (by first | with_reducible rfl | assumption | (simp_all; done) | omega | (simp_all; omega) | ((try simp only [decide_eq_true_eq, decide_eq_false_iff_not, beq_iff_eq, beq_eq_false_iff_ne, ne_eq, Bool.and_eq_true, Bool.or_eq_true] at *); (repeat' split) <;> first | rfl | (exfalso; omega))) ?_
  refine evc_go 1000 5 (by kernel_rfl) ?_
  exact evc_endT (Go.V.Val.int Go.IntKind.i64 11) (by kernel_rfl) (by kernel_rfl) (by first | with_reducible rfl | assumption | (simp_all; done) | omega | (simp_all; omega) | ((try simp only [decide_eq_true_eq, decide_eq_false_iff_not, beq_iff_eq, beq_eq_false_iff_ne, ne_eq, Bool.and_eq_true, Bool.or_eq_true] at *); (repeat' split) <;> first | rfl | (exfalso; omega))) (by first | rfl | simp [Val.low, Val.lows, low_encL, low_encI])
theorem w82_2_l (h : (n : Int) = 0) (h2 : (l.length : Int) ≠ 0) (S : St) : Go.V.Call E0 82 [.agg (i4 2 n s l q)] S (.int .i64 11) S := by
  refine call_cfg (by kernel_rfl) ?_
  refine evc_go 1000 65 (by kernel_rfl) ?_
  refine evc_is 47 ((↑n : Int) != 0) false (by kernel_rfl) (by first | with_reducible rfl | assumption | (simp_all; done) | omega | (simp_all; omega) | ((try simp only [decide_eq_true_eq, decide_eq_false_iff_not, beq_iff_eq, beq_eq_false_iff_ne, ne_eq, Bool.and_eq_true, Bool.or_eq_true] at *); (repeat' split) <;> first | rfl | (exfalso; omega))) ?_
  refine evc_go 1000 39 (by kernel_rfl) ?_
  refine evc_is 80 ((↑l.length : Int) != 0) true (by kernel_rfl) (by first | with_reducible rfl | assumption | (simp_all; done) | omega | (simp_all; omega) | ((try simp only [decide_eq_true_eq, decide_eq_false_iff_not, beq_iff_eq, beq_eq_false_iff_ne, ne_eq, Bool.and_eq_true, Bool.or_eq_true] at *); (repeat' split) <;> first | rfl | (exfalso; omega))) ?_
  refine evc_go 1000 5 (by kernel_rfl) ?_
  exact evc_endT (Go.V.Val.int Go.IntKind.i64 11) (by kernel_rfl) (by kernel_rfl) (by first | with_reducible rfl | assumption | (simp_all; done) | omega | (simp_all; omega) | ((try simp only [decide_eq_true_eq, decide_eq_false_iff_not, beq_iff_eq, beq_eq_false_iff_ne, ne_eq, Bool.and_eq_true, Bool.or_eq_true] at *); (repeat' split) <;> first | rfl | (exfalso; omega))) (by first | rfl | simp [Val.low, Val.lows, low_encL, low_encI])
theorem w82_3_n (h : (n : Int) ≠ 0) (S : St) : Go.V.Call E0 82 [.agg (i4 3 n s l q)] S (.int .i64 11) S := by
  refine call_cfg (by kernel_rfl) ?_
  refine evc_go 1000 65 (by kernel_rfl) ?_
  refine evc_is 47 ((↑n : Int) != 0) true (by kernel_rfl) (by first | with_reducible rfl | assumption | (simp_all; done) | omega | (simp_all; omega) | ((try simp only [decide_eq_true_eq, decide_eq_false_iff_not, beq_iff_eq, beq_eq_false_iff_ne, ne_eq, Bool.and_eq_true, Bool.or_eq_true] at *); (repeat' split) <;> first | rfl | (exfalso; omega))) ?_
  refine evc_go 1000 5 (by kernel_rfl) ?_
  exact evc_endT (Go.V.Val.int Go.IntKind.i64 11) (by kernel_rfl) (by kernel_rfl) (by first | with_reducible rfl | assumption | (simp_all; done) | omega | (simp_all; omega) | ((try simp only [decide_eq_true_eq, decide_eq_false_iff_not, beq_iff_eq, beq_eq_false_iff_ne, ne_eq, Bool.and_eq_true, Bool.or_eq_true] at *); (repeat' split) <;> first | rfl | (exfalso; omega))) (by first | rfl | simp [Val.low, Val.lows, low_encL, low_encI])
theorem w82_3_l (h : (n : Int) = 0) (h2 : (l.length : Int) ≠ 0) (S : St) : Go.V.Call E0 82 [.agg (i4 3 n s l q)] S (.int .i64 11) S := by
  refine call_cfg (by kernel_rfl) ?_
  refine evc_go 1000 65 (by kernel_rfl) ?_
  refine evc_is 47 ((↑n : Int) != 0) false (by kernel_rfl) (by first | with_reducible rfl | assumption | (simp_all; done) | omega | (simp_all; omega) | ((try simp only [decide_eq_true_eq, decide_eq_false_iff_not, beq_iff_eq, beq_eq_false_iff_ne, ne_eq, Bool.and_eq_true, Bool.or_eq_true] at *); (repeat' split) <;> first | rfl | (exfalso; omega))) ?_
  refine evc_go 1000 39 (by kernel_rfl) ?_
  refine evc_is 80 ((↑l.length : Int) != 0) true (by kernel_rfl) (by first | with_reducible rfl | assumption | (simp_all; done) | omega | (simp_all; omega) | ((try simp only [decide_eq_true_eq, decide_eq_false_iff_not, beq_iff_eq, beq_eq_false_iff_ne, ne_eq, Bool.and_eq_true, Bool.or_eq_true] at *); (repeat' split) <;> first | rfl | (exfalso; omega))) ?_
  refine evc_go 1000 5 (by kernel_rfl) ?_
  exact evc_endT (Go.V.Val.int Go.IntKind.i64 11) (by kernel_rfl) (by kernel_rfl) (by first | with_reducible rfl | assumption | (simp_all; done) | omega | (simp_all; omega) | ((try simp only [decide_eq_true_eq, decide_eq_false_iff_not, beq_iff_eq, beq_eq_false_iff_ne, ne_eq, Bool.and_eq_true, Bool.or_eq_true] at *); (repeat' split) <;> first | rfl | (exfalso; omega))) (by first | rfl | simp [Val.low, Val.lows, low_encL, low_encI])
theorem w82_2_o (h : (n : Int) = 0) (h2 : (l.length : Int) = 0) (S : St) : Go.V.Call E0 82 [.agg (i4 2 n s l q)] S (.int .i64 0) S := by
  refine call_cfg (by kernel_rfl) ?_
  refine evc_go 1000 65 (by kernel_rfl) ?_
  refine evc_is 47 ((↑n : Int) != 0) false (by kernel_rfl) (by first | with_reducible rfl | assumption | (simp_all; done) | omega | (simp_all; omega) | ((try simp only [decide_eq_true_eq, decide_eq_false_iff_not, beq_iff_eq, beq_eq_false_iff_ne, ne_eq, Bool.and_eq_true, Bool.or_eq_true] at *); (repeat' split) <;> first | rfl | (exfalso; omega))) ?_
  refine evc_go 1000 39 (by kernel_rfl) ?_
  refine evc_is 80 ((↑l.length : Int) != 0) false (by kernel_rfl) (by first | with_reducible rfl | assumption | (simp_all; done) | omega | (simp_all; omega) | ((try simp only [decide_eq_true_eq, decide_eq_false_iff_not, beq_iff_eq, beq_eq_false_iff_ne, ne_eq, Bool.and_eq_true, Bool.or_eq_true] at *); (repeat' split) <;> first | rfl | (exfalso; omega))) ?_
  refine evc_go 1000 59 (by kernel_rfl) ?_
  exact evc_endT (Go.V.Val.int Go.IntKind.i64 0) (by kernel_rfl) (by kernel_rfl) (by first | with_reducible rfl | assumption | (simp_all; done) | omega | (simp_all; omega) | ((try simp only [decide_eq_true_eq, decide_eq_false_iff_not, beq_iff_eq, beq_eq_false_iff_ne, ne_eq, Bool.and_eq_true, Bool.or_eq_true] at *); (repeat' split) <;> first | rfl | (exfalso; omega))) (by first | rfl | simp [Val.low, Val.lows, low_encL, low_encI])
theorem w82_3_o (h : (n : Int) = 0) (h2 : (l.length : Int) = 0) (a : Int) (val : Bool) (h75 : ∀ S, Go.V.Call E0 75 [.str s] S (.tup [.int .i64 a, .bool val]) S) (S : St) : Go.V.Call E0 82 [.agg (i4 3 n s l q)] S (.int .i64 (if val then 0 else 6)) S := by
  refine call_cfg (by kernel_rfl) ?_
  refine evc_go 1000 65 (by kernel_rfl) ?_
  refine evc_is 47 ((↑n : Int) != 0) false (by kernel_rfl) (by first | with_reducible rfl | assumption | (simp_all; done) | omega | (simp_all; omega) | ((try simp only [decide_eq_true_eq, decide_eq_false_iff_not, beq_iff_eq, beq_eq_false_iff_ne, ne_eq, Bool.and_eq_true, Bool.or_eq_true] at *); (repeat' split) <;> first | rfl | (exfalso; omega))) ?_
  refine evc_go 1000 39 (by kernel_rfl) ?_
  refine evc_is 80 ((↑l.length : Int) != 0) false (by kernel_rfl) (by first | with_reducible rfl | assumption | (simp_all; done) | omega | (simp_all; omega) | ((try simp only [decide_eq_true_eq, decide_eq_false_iff_not, beq_iff_eq, beq_eq_false_iff_ne, ne_eq, Bool.and_eq_true, Bool.or_eq_true] at *); (repeat' split) <;> first | rfl | (exfalso; omega))) ?_
  refine evc_go 1000 50 (by kernel_rfl) ?_
  refine evc_call (by kernel_rfl) (by kernel_rfl) (h75 (S)) (by kernel_rfl) ?_
  refine evc_go 1000 11 (by kernel_rfl) ?_
  refine evc_split 121 (!val) (by kernel_rfl) (fun h12 => ?_) (fun h12 => ?_)
  · refine evc_go 1000 5 (by kernel_rfl) ?_
    exact evc_endT (Go.V.Val.int Go.IntKind.i64 6) (by kernel_rfl) (by kernel_rfl) (by first | with_reducible rfl | assumption | (simp_all; done) | omega | (simp_all; omega) | ((try simp only [decide_eq_true_eq, decide_eq_false_iff_not, beq_iff_eq, beq_eq_false_iff_ne, ne_eq, Bool.and_eq_true, Bool.or_eq_true] at *); (repeat' split) <;> first | rfl | (exfalso; omega))) (by first | rfl | simp [Val.low, Val.lows, low_encL, low_encI])
  · refine evc_go 1000 14 (by kernel_rfl) ?_
    exact evc_endT (Go.V.Val.int Go.IntKind.i64 0) (by kernel_rfl) (by kernel_rfl) (by first | with_reducible rfl | assumption | (simp_all; done) | omega | (simp_all; omega) | ((try simp only [decide_eq_true_eq, decide_eq_false_iff_not, beq_iff_eq, beq_eq_false_iff_ne, ne_eq, Bool.and_eq_true, Bool.or_eq_true] at *); (repeat' split) <;> first | rfl | (exfalso; omega))) (by first | rfl | simp [Val.low, Val.lows, low_encL, low_encI])
theorem w82_4_s (h : s ≠ []) (S : St) : Go.V.Call E0 82 [.agg (i4 4 n s l q)] S (.int .i64 11) S := by
  refine call_cfg (by kernel_rfl) ?_
  refine evc_go 1000 54 (by kernel_rfl) ?_
  refine evc_is 37 (!s == []) true (by kernel_rfl) (by first | with_reducible rfl | assumption | (simp_all; done) | omega | (simp_all; omega) | ((try simp only [decide_eq_true_eq, decide_eq_false_iff_not, beq_iff_eq, beq_eq_false_iff_ne, ne_eq, Bool.and_eq_true, Bool.or_eq_true] at *); (repeat' split) <;> first | rfl | (exfalso; omega))) ?_
  refine evc_go 1000 16 (by kernel_rfl) ?_
  exact evc_endT (Go.V.Val.int Go.IntKind.i64 11) (by kernel_rfl) (by kernel_rfl) (by first | with_reducible rfl | assumption | (simp_all; done) | omega | (simp_all; omega) | ((try simp only [decide_eq_true_eq, decide_eq_false_iff_not, beq_iff_eq, beq_eq_false_iff_ne, ne_eq, Bool.and_eq_true, Bool.or_eq_true] at *); (repeat' split) <;> first | rfl | (exfalso; omega))) (by first | rfl | simp [Val.low, Val.lows, low_encL, low_encI])
theorem w82_4_n (h : s = []) (h2 : (n : Int) ≠ 0) (S : St) : Go.V.Call E0 82 [.agg (i4 4 n s l q)] S (.int .i64 11) S := by
  refine call_cfg (by kernel_rfl) ?_
  refine evc_go 1000 54 (by kernel_rfl) ?_
  refine evc_is 37 (!s == []) false (by kernel_rfl) (by first | with_reducible rfl | assumption | (simp_all; done) | omega | (simp_all; omega) | ((try simp only [decide_eq_true_eq, decide_eq_false_iff_not, beq_iff_eq, beq_eq_false_iff_ne, ne_eq, Bool.and_eq_true, Bool.or_eq_true] at *); (repeat' split) <;> first | rfl | (exfalso; omega))) ?_
  refine evc_go 1000 11 (by kernel_rfl) ?_
  refine evc_is 47 ((↑n : Int) != 0) true (by kernel_rfl) (by first | with_reducible rfl | assumption | (simp_all; done) | omega | (simp_all; omega) | ((try simp only [decide_eq_true_eq, decide_eq_false_iff_not, beq_iff_eq, beq_eq_false_iff_ne, ne_eq, Bool.and_eq_true, Bool.or_eq_true] at *); (repeat' split) <;> first | rfl | (exfalso; omega))) ?_
  refine evc_go 1000 5 (by kernel_rfl) ?_
  exact evc_endT (Go.V.Val.int Go.IntKind.i64 11) (by kernel_rfl) (by kernel_rfl) (by first | with_reducible rfl | assumption | (simp_all; done) | omega | (simp_all; omega) | ((try simp only [decide_eq_true_eq, decide_eq_false_iff_not, beq_iff_eq, beq_eq_false_iff_ne, ne_eq, Bool.and_eq_true, Bool.or_eq_true] at *); (repeat' split) <;> first | rfl | (exfalso; omega))) (by first | rfl | simp [Val.low, Val.lows, low_encL, low_encI])
theorem w82_5_s (h : s ≠ []) (S : St) : Go.V.Call E0 82 [.agg (i4 5 n s l q)] S (.int .i64 11) S := by
  refine call_cfg (by kernel_rfl) ?_
  refine evc_go 1000 54 (by kernel_rfl) ?_
  refine evc_is 37 (!s == []) true (by kernel_rfl) (by first | with_reducible rfl | assumption | (simp_all; done) | omega | (simp_all; omega) | ((try simp only [decide_eq_true_eq, decide_eq_false_iff_not, beq_iff_eq, beq_eq_false_iff_ne, ne_eq, Bool.and_eq_true, Bool.or_eq_true] at *); (repeat' split) <;> first | rfl | (exfalso; omega))) ?_
  refine evc_go 1000 16 (by kernel_rfl) ?_
  exact evc_endT (Go.V.Val.int Go.IntKind.i64 11) (by kernel_rfl) (by kernel_rfl) (by first | with_reducible rfl | assumption | (simp_all; done) | omega | (simp_all; omega) | ((try simp only [decide_eq_true_eq, decide_eq_false_iff_not, beq_iff_eq, beq_eq_false_iff_ne, ne_eq, Bool.and_eq_true, Bool.or_eq_true] at *); (repeat' split) <;> first | rfl | (exfalso; omega))) (by first | rfl | simp [Val.low, Val.lows, low_encL, low_encI])
theorem w82_5_n (h : s = []) (h2 : (n : Int) ≠ 0) (S : St) : Go.V.Call E0 82 [.agg (i4 5 n s l q)] S (.int .i64 11) S := by
  refine call_cfg (by kernel_rfl) ?_
  refine evc_go 1000 54 (by kernel_rfl) ?_
  refine evc_is 37 (!s == []) false (by kernel_rfl) (by first | with_reducible rfl | assumption | (simp_all; done) | omega | (simp_all; omega) | ((try simp only [decide_eq_true_eq, decide_eq_false_iff_not, beq_iff_eq, beq_eq_false_iff_ne, ne_eq, Bool.and_eq_true, Bool.or_eq_true] at *); (repeat' split) <;> first | rfl | (exfalso; omega))) ?_
  refine evc_go 1000 11 (by kernel_rfl) ?_
  refine evc_is 47 ((↑n : Int) != 0) true (by kernel_rfl) (by first | with_reducible rfl | assumption | (simp_all; done) | omega | (simp_all; omega) | ((try simp only [decide_eq_true_eq, decide_eq_false_iff_not, beq_iff_eq, beq_eq_false_iff_ne, ne_eq, Bool.and_eq_true, Bool.or_eq_true] at *); (repeat' split) <;> first | rfl | (exfalso; omega))) ?_
  refine evc_go 1000 5 (by kernel_rfl) ?_
  exact evc_endT (Go.V.Val.int Go.IntKind.i64 11) (by kernel_rfl) (by kernel_rfl) (by first | with_reducible rfl | assumption | (simp_all; done) | omega | (simp_all; omega) | ((try simp only [decide_eq_true_eq, decide_eq_false_iff_not, beq_iff_eq, beq_eq_false_iff_ne, ne_eq, Bool.and_eq_true, Bool.or_eq_true] at *); (repeat' split) <;> first | rfl | (exfalso; omega))) (by first | rfl | simp [Val.low, Val.lows, low_encL, low_encI])
theorem w82_4_o (h : s = []) (h2 : (n : Int) = 0) (S : St) : Go.V.Call E0 82 [.agg (i4 4 n s l q)] S (.int .i64 0) S := by
  refine call_cfg (by kernel_rfl) ?_
  refine evc_go 1000 54 (by kernel_rfl) ?_
  refine evc_is 37 (!s == []) false (by kernel_rfl) (by first | with_reducible rfl | assumption | (simp_all; done) | omega | (simp_all; omega) | ((try simp only [decide_eq_true_eq, decide_eq_false_iff_not, beq_iff_eq, beq_eq_false_iff_ne, ne_eq, Bool.and_eq_true, Bool.or_eq_true] at *); (repeat' split) <;> first | rfl | (exfalso; omega))) ?_
  refine evc_go 1000 11 (by kernel_rfl) ?_
  refine evc_is 47 ((↑n : Int) != 0) false (by kernel_rfl) (by first | with_reducible rfl | assumption | (simp_all; done) | omega | (simp_all; omega) | ((try simp only [decide_eq_true_eq, decide_eq_false_iff_not, beq_iff_eq, beq_eq_false_iff_ne, ne_eq, Bool.and_eq_true, Bool.or_eq_true] at *); (repeat' split) <;> first | rfl | (exfalso; omega))) ?_
  refine evc_go 1000 98 (by kernel_rfl) ?_
  exact evc_endT (Go.V.Val.int Go.IntKind.i64 0) (by kernel_rfl) (by kernel_rfl) (by first | with_reducible rfl | assumption | (simp_all; done) | omega | (simp_all; omega) | ((try simp only [decide_eq_true_eq, decide_eq_false_iff_not, beq_iff_eq, beq_eq_false_iff_ne, ne_eq, Bool.and_eq_true, Bool.or_eq_true] at *); (repeat' split) <;> first | rfl | (exfalso; omega))) (by first | rfl | simp [Val.low, Val.lows, low_encL, low_encI])
theorem w82_5_l (h : s = []) (h2 : (n : Int) = 0) (h3 : ((l.length : Int).tmod 2) ≠ 0) (S : St) : Go.V.Call E0 82 [.agg (i4 5 n s l q)] S (.int .i64 11) S := by
  refine call_cfg (by kernel_rfl) ?_
  refine evc_go 1000 54 (by kernel_rfl) ?_
  refine evc_is 37 (!s == []) false (by kernel_rfl) (by first | with_reducible rfl | assumption | (simp_all; done) | omega | (simp_all; omega) | ((try simp only [decide_eq_true_eq, decide_eq_false_iff_not, beq_iff_eq, beq_eq_false_iff_ne, ne_eq, Bool.and_eq_true, Bool.or_eq_true] at *); (repeat' split) <;> first | rfl | (exfalso; omega))) ?_
  refine evc_go 1000 11 (by kernel_rfl) ?_
  refine evc_is 47 ((↑n : Int) != 0) false (by kernel_rfl) (by first | with_reducible rfl | assumption | (simp_all; done) | omega | (simp_all; omega) | ((try simp only [decide_eq_true_eq, decide_eq_false_iff_not, beq_iff_eq, beq_eq_false_iff_ne, ne_eq, Bool.and_eq_true, Bool.or_eq_true] at *); (repeat' split) <;> first | rfl | (exfalso; omega))) ?_
  refine evc_go 1000 25 (by kernel_rfl) ?_
  refine evc_is 67 ((↑l.length : Int).tmod 2 != 0) true (by kernel_rfl) (by first | with_reducible rfl | assumption | (simp_all; done) | omega | (simp_all; omega) | ((try simp only [decide_eq_true_eq, decide_eq_false_iff_not, beq_iff_eq, beq_eq_false_iff_ne, ne_eq, Bool.and_eq_true, Bool.or_eq_true] at *); (repeat' split) <;> first | rfl | (exfalso; omega))) ?_
  refine evc_go 1000 19 (by kernel_rfl) ?_
  exact evc_endT (Go.V.Val.int Go.IntKind.i64 11) (by kernel_rfl) (by kernel_rfl) (by first | with_reducible rfl | assumption | (simp_all; done) | omega | (simp_all; omega) | ((try simp only [decide_eq_true_eq, decide_eq_false_iff_not, beq_iff_eq, beq_eq_false_iff_ne, ne_eq, Bool.and_eq_true, Bool.or_eq_true] at *); (repeat' split) <;> first | rfl | (exfalso; omega))) (by first | rfl | simp [Val.low, Val.lows, low_encL, low_encI])
theorem w82_5_o (h : s = []) (h2 : (n : Int) = 0) (h3 : ((l.length : Int).tmod 2) = 0) (m : Nat) (hm : l.length = 2 * m) (hl : m ≤ 2 ^ 29) (S : St) (hcall : ∀ x ∈ l, ∀ y S, Go.V.Call E0 115 [.agg (encI x), .agg (encI y)] S (.bool (alikeI x y)) S) :
    Go.V.Call E0 82 [.agg (i4 5 n s l q)] S (.int .i64 (e14 (twR (evens l)))) S := by
  have L := LO82 n s q l m hm hl S hcall m 0 (by omega)
  simp only [List.drop_zero] at L
  generalize twR (evens l) = R at *
  clear hcall
  refine call_cfg (by kernel_rfl) ?_
  refine evc_go 1000 54 (by kernel_rfl) ?_
  refine evc_is 37 (!s == []) false (by kernel_rfl) (by first | with_reducible rfl | assumption | (simp_all; done) | omega | (simp_all; omega) | ((try simp only [decide_eq_true_eq, decide_eq_false_iff_not, beq_iff_eq, beq_eq_false_iff_ne, ne_eq, Bool.and_eq_true, Bool.or_eq_true] at *); (repeat' split) <;> first | rfl | (exfalso; omega))) ?_
  refine evc_go 1000 11 (by kernel_rfl) ?_
  refine evc_is 47 ((↑n : Int) != 0) false (by kernel_rfl) (by first | with_reducible rfl | assumption | (simp_all; done) | omega | (simp_all; omega) | ((try simp only [decide_eq_true_eq, decide_eq_false_iff_not, beq_iff_eq, beq_eq_false_iff_ne, ne_eq, Bool.and_eq_true, Bool.or_eq_true] at *); (repeat' split) <;> first | rfl | (exfalso; omega))) ?_
  refine evc_go 1000 25 (by kernel_rfl) ?_
  refine evc_is 67 ((↑l.length : Int).tmod 2 != 0) false (by kernel_rfl) (by first | with_reducible rfl | assumption | (simp_all; done) | omega | (simp_all; omega) | ((try simp only [decide_eq_true_eq, decide_eq_false_iff_not, beq_iff_eq, beq_eq_false_iff_ne, ne_eq, Bool.and_eq_true, Bool.or_eq_true] at *); (repeat' split) <;> first | rfl | (exfalso; omega))) ?_
  refine evc_go 1000 74 (by kernel_rfl) ?_
  exact evc_at (L) (by kernel_rfl) (by first | rfl | (simp_all; done))
theorem w82_6_s (h : s ≠ []) (S : St) : Go.V.Call E0 82 [.agg (i4 6 n s l q)] S (.int .i64 11) S := by
  refine call_cfg (by kernel_rfl) ?_
  refine evc_go 1000 54 (by kernel_rfl) ?_
  refine evc_is 37 (!s == []) true (by kernel_rfl) (by first | with_reducible rfl | assumption | (simp_all; done) | omega | (simp_all; omega) | ((try simp only [decide_eq_true_eq, decide_eq_false_iff_not, beq_iff_eq, beq_eq_false_iff_ne, ne_eq, Bool.and_eq_true, Bool.or_eq_true] at *); (repeat' split) <;> first | rfl | (exfalso; omega))) ?_
  refine evc_go 1000 16 (by kernel_rfl) ?_
  exact evc_endT (Go.V.Val.int Go.IntKind.i64 11) (by kernel_rfl) (by kernel_rfl) (by first | with_reducible rfl | assumption | (simp_all; done) | omega | (simp_all; omega) | ((try simp only [decide_eq_true_eq, decide_eq_false_iff_not, beq_iff_eq, beq_eq_false_iff_ne, ne_eq, Bool.and_eq_true, Bool.or_eq_true] at *); (repeat' split) <;> first | rfl | (exfalso; omega))) (by first | rfl | simp [Val.low, Val.lows, low_encL, low_encI])
theorem w82_6_l (h : s = []) (h2 : (l.length : Int) ≠ 1) (S : St) : Go.V.Call E0 82 [.agg (i4 6 n s l q)] S (.int .i64 11) S := by
  refine call_cfg (by kernel_rfl) ?_
  refine evc_go 1000 54 (by kernel_rfl) ?_
  refine evc_is 37 (!s == []) false (by kernel_rfl) (by first | with_reducible rfl | assumption | (simp_all; done) | omega | (simp_all; omega) | ((try simp only [decide_eq_true_eq, decide_eq_false_iff_not, beq_iff_eq, beq_eq_false_iff_ne, ne_eq, Bool.and_eq_true, Bool.or_eq_true] at *); (repeat' split) <;> first | rfl | (exfalso; omega))) ?_
  refine evc_go 1000 25 (by kernel_rfl) ?_
  refine evc_is 56 ((↑l.length : Int) != 1) true (by kernel_rfl) (by first | with_reducible rfl | assumption | (simp_all; done) | omega | (simp_all; omega) | ((try simp only [decide_eq_true_eq, decide_eq_false_iff_not, beq_iff_eq, beq_eq_false_iff_ne, ne_eq, Bool.and_eq_true, Bool.or_eq_true] at *); (repeat' split) <;> first | rfl | (exfalso; omega))) ?_
  refine evc_go 1000 30 (by kernel_rfl) ?_
  exact evc_endT (Go.V.Val.int Go.IntKind.i64 11) (by kernel_rfl) (by kernel_rfl) (by first | with_reducible rfl | assumption | (simp_all; done) | omega | (simp_all; omega) | ((try simp only [decide_eq_true_eq, decide_eq_false_iff_not, beq_iff_eq, beq_eq_false_iff_ne, ne_eq, Bool.and_eq_true, Bool.or_eq_true] at *); (repeat' split) <;> first | rfl | (exfalso; omega))) (by first | rfl | simp [Val.low, Val.lows, low_encL, low_encI])
theorem w82_6_o (h : s = []) (h2 : (l.length : Int) = 1) (S : St) : Go.V.Call E0 82 [.agg (i4 6 n s l q)] S (.int .i64 0) S := by
  refine call_cfg (by kernel_rfl) ?_
  refine evc_go 1000 54 (by kernel_rfl) ?_
  refine evc_is 37 (!s == []) false (by kernel_rfl) (by first | with_reducible rfl | assumption | (simp_all; done) | omega | (simp_all; omega) | ((try simp only [decide_eq_true_eq, decide_eq_false_iff_not, beq_iff_eq, beq_eq_false_iff_ne, ne_eq, Bool.and_eq_true, Bool.or_eq_true] at *); (repeat' split) <;> first | rfl | (exfalso; omega))) ?_
  refine evc_go 1000 25 (by kernel_rfl) ?_
  refine evc_is 56 ((↑l.length : Int) != 1) false (by kernel_rfl) (by first | with_reducible rfl | assumption | (simp_all; done) | omega | (simp_all; omega) | ((try simp only [decide_eq_true_eq, decide_eq_false_iff_not, beq_iff_eq, beq_eq_false_iff_ne, ne_eq, Bool.and_eq_true, Bool.or_eq_true] at *); (repeat' split) <;> first | rfl | (exfalso; omega))) ?_
  refine evc_go 1000 84 (by kernel_rfl) ?_
  exact evc_endT (Go.V.Val.int Go.IntKind.i64 0) (by kernel_rfl) (by kernel_rfl) (by first | with_reducible rfl | assumption | (simp_all; done) | omega | (simp_all; omega) | ((try simp only [decide_eq_true_eq, decide_eq_false_iff_not, beq_iff_eq, beq_eq_false_iff_ne, ne_eq, Bool.and_eq_true, Bool.or_eq_true] at *); (repeat' split) <;> first | rfl | (exfalso; omega))) (by first | rfl | simp [Val.low, Val.lows, low_encL, low_encI])
theorem w82_7_s (h : s ≠ []) (S : St) : Go.V.Call E0 82 [.agg (i4 7 n s l q)] S (.int .i64 11) S := by
  refine call_cfg (by kernel_rfl) ?_
  refine evc_go 1000 54 (by kernel_rfl) ?_
  refine evc_is 37 (!s == []) true (by kernel_rfl) (by first | with_reducible rfl | assumption | (simp_all; done) | omega | (simp_all; omega) | ((try simp only [decide_eq_true_eq, decide_eq_false_iff_not, beq_iff_eq, beq_eq_false_iff_ne, ne_eq, Bool.and_eq_true, Bool.or_eq_true] at *); (repeat' split) <;> first | rfl | (exfalso; omega))) ?_
  refine evc_go 1000 16 (by kernel_rfl) ?_
  exact evc_endT (Go.V.Val.int Go.IntKind.i64 11) (by kernel_rfl) (by kernel_rfl) (by first | with_reducible rfl | assumption | (simp_all; done) | omega | (simp_all; omega) | ((try simp only [decide_eq_true_eq, decide_eq_false_iff_not, beq_iff_eq, beq_eq_false_iff_ne, ne_eq, Bool.and_eq_true, Bool.or_eq_true] at *); (repeat' split) <;> first | rfl | (exfalso; omega))) (by first | rfl | simp [Val.low, Val.lows, low_encL, low_encI])
theorem w82_7_l (h : s = []) (h2 : (l.length : Int) ≠ 0) (S : St) : Go.V.Call E0 82 [.agg (i4 7 n s l q)] S (.int .i64 11) S := by
  refine call_cfg (by kernel_rfl) ?_
  refine evc_go 1000 54 (by kernel_rfl) ?_
  refine evc_is 37 (!s == []) false (by kernel_rfl) (by first | with_reducible rfl | assumption | (simp_all; done) | omega | (simp_all; omega) | ((try simp only [decide_eq_true_eq, decide_eq_false_iff_not, beq_iff_eq, beq_eq_false_iff_ne, ne_eq, Bool.and_eq_true, Bool.or_eq_true] at *); (repeat' split) <;> first | rfl | (exfalso; omega))) ?_
  refine evc_go 1000 50 (by kernel_rfl) ?_
  refine evc_is 80 ((↑l.length : Int) != 0) true (by kernel_rfl) (by first | with_reducible rfl | assumption | (simp_all; done) | omega | (simp_all; omega) | ((try simp only [decide_eq_true_eq, decide_eq_false_iff_not, beq_iff_eq, beq_eq_false_iff_ne, ne_eq, Bool.and_eq_true, Bool.or_eq_true] at *); (repeat' split) <;> first | rfl | (exfalso; omega))) ?_
  refine evc_go 1000 5 (by kernel_rfl) ?_
  exact evc_endT (Go.V.Val.int Go.IntKind.i64 11) (by kernel_rfl) (by kernel_rfl) (by first | with_reducible rfl | assumption | (simp_all; done) | omega | (simp_all; omega) | ((try simp only [decide_eq_true_eq, decide_eq_false_iff_not, beq_iff_eq, beq_eq_false_iff_ne, ne_eq, Bool.and_eq_true, Bool.or_eq_true] at *); (repeat' split) <;> first | rfl | (exfalso; omega))) (by first | rfl | simp [Val.low, Val.lows, low_encL, low_encI])
theorem w82_8_s (h : s ≠ []) (S : St) : Go.V.Call E0 82 [.agg (i4 8 n s l q)] S (.int .i64 11) S := by
  refine call_cfg (by kernel_rfl) ?_
  refine evc_go 1000 54 (by kernel_rfl) ?_
  refine evc_is 37 (!s == []) true (by kernel_rfl) (by first | with_reducible rfl | assumption | (simp_all; done) | omega | (simp_all; omega) | ((try simp only [decide_eq_true_eq, decide_eq_false_iff_not, beq_iff_eq, beq_eq_false_iff_ne, ne_eq, Bool.and_eq_true, Bool.or_eq_true] at *); (repeat' split) <;> first | rfl | (exfalso; omega))) ?_
  refine evc_go 1000 16 (by kernel_rfl) ?_
  exact evc_endT (Go.V.Val.int Go.IntKind.i64 11) (by kernel_rfl) (by kernel_rfl) (by first | with_reducible rfl | assumption | (simp_all; done) | omega | (simp_all; omega) | ((try simp only [decide_eq_true_eq, decide_eq_false_iff_not, beq_iff_eq, beq_eq_false_iff_ne, ne_eq, Bool.and_eq_true, Bool.or_eq_true] at *); (repeat' split) <;> first | rfl | (exfalso; omega))) (by first | rfl | simp [Val.low, Val.lows, low_encL, low_encI])
theorem w82_8_l (h : s = []) (h2 : (l.length : Int) ≠ 0) (S : St) : Go.V.Call E0 82 [.agg (i4 8 n s l q)] S (.int .i64 11) S := by
  refine call_cfg (by kernel_rfl) ?_
  refine evc_go 1000 54 (by kernel_rfl) ?_
  refine evc_is 37 (!s == []) false (by kernel_rfl) (by first | with_reducible rfl | assumption | (simp_all; done) | omega | (simp_all; omega) | ((try simp only [decide_eq_true_eq, decide_eq_false_iff_not, beq_iff_eq, beq_eq_false_iff_ne, ne_eq, Bool.and_eq_true, Bool.or_eq_true] at *); (repeat' split) <;> first | rfl | (exfalso; omega))) ?_
  refine evc_go 1000 50 (by kernel_rfl) ?_
  refine evc_is 80 ((↑l.length : Int) != 0) true (by kernel_rfl) (by first | with_reducible rfl | assumption | (simp_all; done) | omega | (simp_all; omega) | ((try simp only [decide_eq_true_eq, decide_eq_false_iff_not, beq_iff_eq, beq_eq_false_iff_ne, ne_eq, Bool.and_eq_true, Bool.or_eq_true] at *); (repeat' split) <;> first | rfl | (exfalso; omega))) ?_
  refine evc_go 1000 5 (by kernel_rfl) ?_
  exact evc_endT (Go.V.Val.int Go.IntKind.i64 11) (by kernel_rfl) (by kernel_rfl) (by first | with_reducible rfl | assumption | (simp_all; done) | omega | (simp_all; omega) | ((try simp only [decide_eq_true_eq, decide_eq_false_iff_not, beq_iff_eq, beq_eq_false_iff_ne, ne_eq, Bool.and_eq_true, Bool.or_eq_true] at *); (repeat' split) <;> first | rfl | (exfalso; omega))) (by first | rfl | simp [Val.low, Val.lows, low_encL, low_encI])
theorem w82_7_a (h : s = []) (h2 : (l.length : Int) = 0) (h3 : (n : Int) > 255) (S : St) : Go.V.Call E0 82 [.agg (i4 7 n s l q)] S (.int .i64 15) S := by
  refine call_cfg (by kernel_rfl) ?_
  refine evc_go 1000 54 (by kernel_rfl) ?_
  refine evc_is 37 (!s == []) false (by kernel_rfl) (by first | with_reducible rfl | assumption | (simp_all; done) | omega | (simp_all; omega) | ((try simp only [decide_eq_true_eq, decide_eq_false_iff_not, beq_iff_eq, beq_eq_false_iff_ne, ne_eq, Bool.and_eq_true, Bool.or_eq_true] at *); (repeat' split) <;> first | rfl | (exfalso; omega))) ?_
  refine evc_go 1000 50 (by kernel_rfl) ?_
  refine evc_is 80 ((↑l.length : Int) != 0) false (by kernel_rfl) (by first | with_reducible rfl | assumption | (simp_all; done) | omega | (simp_all; omega) | ((try simp only [decide_eq_true_eq, decide_eq_false_iff_not, beq_iff_eq, beq_eq_false_iff_ne, ne_eq, Bool.and_eq_true, Bool.or_eq_true] at *); (repeat' split) <;> first | rfl | (exfalso; omega))) ?_
  refine evc_go 1000 12 (by kernel_rfl) ?_
  refine evc_is 87 (Decidable.decide ((↑n : Int) > 255)) true (by kernel_rfl) (by first | with_reducible rfl | assumption | (simp_all; done) | omega | (simp_all; omega) | ((try simp only [decide_eq_true_eq, decide_eq_false_iff_not, beq_iff_eq, beq_eq_false_iff_ne, ne_eq, Bool.and_eq_true, Bool.or_eq_true] at *); (repeat' split) <;> first | rfl | (exfalso; omega))) ?_
  refine evc_go 1000 30 (by kernel_rfl) ?_
  exact evc_endT (Go.V.Val.int Go.IntKind.i64 15) (by kernel_rfl) (by kernel_rfl) (by first | with_reducible rfl | assumption | (simp_all; done) | omega | (simp_all; omega) | ((try simp only [decide_eq_true_eq, decide_eq_false_iff_not, beq_iff_eq, beq_eq_false_iff_ne, ne_eq, Bool.and_eq_true, Bool.or_eq_true] at *); (repeat' split) <;> first | rfl | (exfalso; omega))) (by first | rfl | simp [Val.low, Val.lows, low_encL, low_encI])
theorem w82_7_b (h : s = []) (h2 : (l.length : Int) = 0) (h3 : (n : Int) > 23) (h4 : (n : Int) < 32) (S : St) : Go.V.Call E0 82 [.agg (i4 7 n s l q)] S (.int .i64 15) S := by
  refine call_cfg (by kernel_rfl) ?_
  refine evc_go 1000 54 (by kernel_rfl) ?_
  refine evc_is 37 (!s == []) false (by kernel_rfl) (by first | with_reducible rfl | assumption | (simp_all; done) | omega | (simp_all; omega) | ((try simp only [decide_eq_true_eq, decide_eq_false_iff_not, beq_iff_eq, beq_eq_false_iff_ne, ne_eq, Bool.and_eq_true, Bool.or_eq_true] at *); (repeat' split) <;> first | rfl | (exfalso; omega))) ?_
  refine evc_go 1000 50 (by kernel_rfl) ?_
  refine evc_is 80 ((↑l.length : Int) != 0) false (by kernel_rfl) (by first | with_reducible rfl | assumption | (simp_all; done) | omega | (simp_all; omega) | ((try simp only [decide_eq_true_eq, decide_eq_false_iff_not, beq_iff_eq, beq_eq_false_iff_ne, ne_eq, Bool.and_eq_true, Bool.or_eq_true] at *); (repeat' split) <;> first | rfl | (exfalso; omega))) ?_
  refine evc_go 1000 12 (by kernel_rfl) ?_
  refine evc_is 87 (Decidable.decide ((↑n : Int) > 255)) false (by kernel_rfl) (by first | with_reducible rfl | assumption | (simp_all; done) | omega | (simp_all; omega) | ((try simp only [decide_eq_true_eq, decide_eq_false_iff_not, beq_iff_eq, beq_eq_false_iff_ne, ne_eq, Bool.and_eq_true, Bool.or_eq_true] at *); (repeat' split) <;> first | rfl | (exfalso; omega))) ?_
  refine evc_go 1000 4 (by kernel_rfl) ?_
  refine evc_is 91 (Decidable.decide ((↑n : Int) > 23)) true (by kernel_rfl) (by first | with_reducible rfl | assumption | (simp_all; done) | omega | (simp_all; omega) | ((try simp only [decide_eq_true_eq, decide_eq_false_iff_not, beq_iff_eq, beq_eq_false_iff_ne, ne_eq, Bool.and_eq_true, Bool.or_eq_true] at *); (repeat' split) <;> first | rfl | (exfalso; omega))) ?_
  refine evc_go 1000 7 (by kernel_rfl) ?_
  refine evc_is 98 (Decidable.decide ((↑n : Int) < 32)) true (by kernel_rfl) (by first | with_reducible rfl | assumption | (simp_all; done) | omega | (simp_all; omega) | ((try simp only [decide_eq_true_eq, decide_eq_false_iff_not, beq_iff_eq, beq_eq_false_iff_ne, ne_eq, Bool.and_eq_true, Bool.or_eq_true] at *); (repeat' split) <;> first | rfl | (exfalso; omega))) ?_
  refine evc_go 1000 19 (by kernel_rfl) ?_
  exact evc_endT (Go.V.Val.int Go.IntKind.i64 15) (by kernel_rfl) (by kernel_rfl) (by first | with_reducible rfl | assumption | (simp_all; done) | omega | (simp_all; omega) | ((try simp only [decide_eq_true_eq, decide_eq_false_iff_not, beq_iff_eq, beq_eq_false_iff_ne, ne_eq, Bool.and_eq_true, Bool.or_eq_true] at *); (repeat' split) <;> first | rfl | (exfalso; omega))) (by first | rfl | simp [Val.low, Val.lows, low_encL, low_encI])
theorem w82_7_c (h : s = []) (h2 : (l.length : Int) = 0) (h3 : ¬ (n : Int) > 23) (S : St) : Go.V.Call E0 82 [.agg (i4 7 n s l q)] S (.int .i64 0) S := by
  refine call_cfg (by kernel_rfl) ?_
  refine evc_go 1000 54 (by kernel_rfl) ?_
  refine evc_is 37 (!s == []) false (by kernel_rfl) (by first | with_reducible rfl | assumption | (simp_all; done) | omega | (simp_all; omega) | ((try simp only [decide_eq_true_eq, decide_eq_false_iff_not, beq_iff_eq, beq_eq_false_iff_ne, ne_eq, Bool.and_eq_true, Bool.or_eq_true] at *); (repeat' split) <;> first | rfl | (exfalso; omega))) ?_
  refine evc_go 1000 50 (by kernel_rfl) ?_
  refine evc_is 80 ((↑l.length : Int) != 0) false (by kernel_rfl) (by first | with_reducible rfl | assumption | (simp_all; done) | omega | (simp_all; omega) | ((try simp only [decide_eq_true_eq, decide_eq_false_iff_not, beq_iff_eq, beq_eq_false_iff_ne, ne_eq, Bool.and_eq_true, Bool.or_eq_true] at *); (repeat' split) <;> first | rfl | (exfalso; omega))) ?_
  refine evc_go 1000 12 (by kernel_rfl) ?_
  refine evc_is 87 (Decidable.decide ((↑n : Int) > 255)) false (by kernel_rfl) (by first | with_reducible rfl | assumption | (simp_all; done) | omega | (simp_all; omega) | ((try simp only [decide_eq_true_eq, decide_eq_false_iff_not, beq_iff_eq, beq_eq_false_iff_ne, ne_eq, Bool.and_eq_true, Bool.or_eq_true] at *); (repeat' split) <;> first | rfl | (exfalso; omega))) ?_
  refine evc_go 1000 4 (by kernel_rfl) ?_
  refine evc_is 91 (Decidable.decide ((↑n : Int) > 23)) false (by kernel_rfl) (by first | with_reducible rfl | assumption | (simp_all; done) | omega | (simp_all; omega) | ((try simp only [decide_eq_true_eq, decide_eq_false_iff_not, beq_iff_eq, beq_eq_false_iff_ne, ne_eq, Bool.and_eq_true, Bool.or_eq_true] at *); (repeat' split) <;> first | rfl | (exfalso; omega))) ?_
  refine evc_go 1000 43 (by kernel_rfl) ?_
  exact evc_endT (Go.V.Val.int Go.IntKind.i64 0) (by kernel_rfl) (by kernel_rfl) (by first | with_reducible rfl | assumption | (simp_all; done) | omega | (simp_all; omega) | ((try simp only [decide_eq_true_eq, decide_eq_false_iff_not, beq_iff_eq, beq_eq_false_iff_ne, ne_eq, Bool.and_eq_true, Bool.or_eq_true] at *); (repeat' split) <;> first | rfl | (exfalso; omega))) (by first | rfl | simp [Val.low, Val.lows, low_encL, low_encI])
theorem w82_7_d (h : s = []) (h2 : (l.length : Int) = 0) (h3 : ¬ (n : Int) < 32) (h4 : ¬ (n : Int) > 255) (S : St) : Go.V.Call E0 82 [.agg (i4 7 n s l q)] S (.int .i64 0) S := by
  refine call_cfg (by kernel_rfl) ?_
  refine evc_go 1000 54 (by kernel_rfl) ?_
  refine evc_is 37 (!s == []) false (by kernel_rfl) (by first | with_reducible rfl | assumption | (simp_all; done) | omega | (simp_all; omega) | ((try simp only [decide_eq_true_eq, decide_eq_false_iff_not, beq_iff_eq, beq_eq_false_iff_ne, ne_eq, Bool.and_eq_true, Bool.or_eq_true] at *); (repeat' split) <;> first | rfl | (exfalso; omega))) ?_
  refine evc_go 1000 50 (by kernel_rfl) ?_
  refine evc_is 80 ((↑l.length : Int) != 0) false (by kernel_rfl) (by first | with_reducible rfl | assumption | (simp_all; done) | omega | (simp_all; omega) | ((try simp only [decide_eq_true_eq, decide_eq_false_iff_not, beq_iff_eq, beq_eq_false_iff_ne, ne_eq, Bool.and_eq_true, Bool.or_eq_true] at *); (repeat' split) <;> first | rfl | (exfalso; omega))) ?_
  refine evc_go 1000 12 (by kernel_rfl) ?_
  refine evc_is 87 (Decidable.decide ((↑n : Int) > 255)) false (by kernel_rfl) (by first | with_reducible rfl | assumption | (simp_all; done) | omega | (simp_all; omega) | ((try simp only [decide_eq_true_eq, decide_eq_false_iff_not, beq_iff_eq, beq_eq_false_iff_ne, ne_eq, Bool.and_eq_true, Bool.or_eq_true] at *); (repeat' split) <;> first | rfl | (exfalso; omega))) ?_
  refine evc_go 1000 4 (by kernel_rfl) ?_
  refine evc_is 91 (Decidable.decide ((↑n : Int) > 23)) true (by kernel_rfl) (by first | with_reducible rfl | assumption | (simp_all; done) | omega | (simp_all; omega) | ((try simp only [decide_eq_true_eq, decide_eq_false_iff_not, beq_iff_eq, beq_eq_false_iff_ne, ne_eq, Bool.and_eq_true, Bool.or_eq_true] at *); (repeat' split) <;> first | rfl | (exfalso; omega))) ?_
  refine evc_go 1000 7 (by kernel_rfl) ?_
  refine evc_is 98 (Decidable.decide ((↑n : Int) < 32)) false (by kernel_rfl) (by first | with_reducible rfl | assumption | (simp_all; done) | omega | (simp_all; omega) | ((try simp only [decide_eq_true_eq, decide_eq_false_iff_not, beq_iff_eq, beq_eq_false_iff_ne, ne_eq, Bool.and_eq_true, Bool.or_eq_true] at *); (repeat' split) <;> first | rfl | (exfalso; omega))) ?_
  refine evc_go 1000 36 (by kernel_rfl) ?_
  exact evc_endT (Go.V.Val.int Go.IntKind.i64 0) (by kernel_rfl) (by kernel_rfl) (by first | with_reducible rfl | assumption | (simp_all; done) | omega | (simp_all; omega) | ((try simp only [decide_eq_true_eq, decide_eq_false_iff_not, beq_iff_eq, beq_eq_false_iff_ne, ne_eq, Bool.and_eq_true, Bool.or_eq_true] at *); (repeat' split) <;> first | rfl | (exfalso; omega))) (by first | rfl | simp [Val.low, Val.lows, low_encL, low_encI])
theorem w82_8_a (h : s = []) (h2 : (l.length : Int) = 0) (h114 : ∀ S, Go.V.Call E0 114 [.int .u64 (n : Int)] S (.bool false) S) (S : St) : Go.V.Call E0 82 [.agg (i4 8 n s l q)] S (.int .i64 0) S := by
  refine call_cfg (by kernel_rfl) ?_
  refine evc_go 1000 54 (by kernel_rfl) ?_
  refine evc_is 37 (!s == []) false (by kernel_rfl) (by first | with_reducible rfl | assumption | (simp_all; done) | omega | (simp_all; omega) | ((try simp only [decide_eq_true_eq, decide_eq_false_iff_not, beq_iff_eq, beq_eq_false_iff_ne, ne_eq, Bool.and_eq_true, Bool.or_eq_true] at *); (repeat' split) <;> first | rfl | (exfalso; omega))) ?_
  refine evc_go 1000 50 (by kernel_rfl) ?_
  refine evc_is 80 ((↑l.length : Int) != 0) false (by kernel_rfl) (by first | with_reducible rfl | assumption | (simp_all; done) | omega | (simp_all; omega) | ((try simp only [decide_eq_true_eq, decide_eq_false_iff_not, beq_iff_eq, beq_eq_false_iff_ne, ne_eq, Bool.and_eq_true, Bool.or_eq_true] at *); (repeat' split) <;> first | rfl | (exfalso; omega))) ?_
  refine evc_go 1000 28 (by kernel_rfl) ?_
  refine evc_call (by kernel_rfl) (by kernel_rfl) (h114 (S)) (by kernel_rfl) ?_
  refine evc_go 1000 30 (by kernel_rfl) ?_
  exact evc_endT (Go.V.Val.int Go.IntKind.i64 0) (by kernel_rfl) (by kernel_rfl) (by first | with_reducible rfl | assumption | (simp_all; done) | omega | (simp_all; omega) | ((try simp only [decide_eq_true_eq, decide_eq_false_iff_not, beq_iff_eq, beq_eq_false_iff_ne, ne_eq, Bool.and_eq_true, Bool.or_eq_true] at *); (repeat' split) <;> first | rfl | (exfalso; omega))) (by first | rfl | simp [Val.low, Val.lows, low_encL, low_encI])
theorem w82_8_b (h : s = []) (h2 : (l.length : Int) = 0) (h3 : (n : Int) ≠ 9221120237041090560) (h114 : ∀ S, Go.V.Call E0 114 [.int .u64 (n : Int)] S (.bool true) S) (S : St) : Go.V.Call E0 82 [.agg (i4 8 n s l q)] S (.int .i64 15) S := by
  refine call_cfg (by kernel_rfl) ?_
  refine evc_go 1000 54 (by kernel_rfl) ?_
  refine evc_is 37 (!s == []) false (by kernel_rfl) (by first | with_reducible rfl | assumption | (simp_all; done) | omega | (simp_all; omega) | ((try simp only [decide_eq_true_eq, decide_eq_false_iff_not, beq_iff_eq, beq_eq_false_iff_ne, ne_eq, Bool.and_eq_true, Bool.or_eq_true] at *); (repeat' split) <;> first | rfl | (exfalso; omega))) ?_
  refine evc_go 1000 50 (by kernel_rfl) ?_
  refine evc_is 80 ((↑l.length : Int) != 0) false (by kernel_rfl) (by first | with_reducible rfl | assumption | (simp_all; done) | omega | (simp_all; omega) | ((try simp only [decide_eq_true_eq, decide_eq_false_iff_not, beq_iff_eq, beq_eq_false_iff_ne, ne_eq, Bool.and_eq_true, Bool.or_eq_true] at *); (repeat' split) <;> first | rfl | (exfalso; omega))) ?_
  refine evc_go 1000 28 (by kernel_rfl) ?_
  refine evc_call (by kernel_rfl) (by kernel_rfl) (h114 (S)) (by kernel_rfl) ?_
  refine evc_go 1000 8 (by kernel_rfl) ?_
  refine evc_is 111 ((↑n : Int) != 9221120237041090560) true (by kernel_rfl) (by first | with_reducible rfl | assumption | (simp_all; done) | omega | (simp_all; omega) | ((try simp only [decide_eq_true_eq, decide_eq_false_iff_not, beq_iff_eq, beq_eq_false_iff_ne, ne_eq, Bool.and_eq_true, Bool.or_eq_true] at *); (repeat' split) <;> first | rfl | (exfalso; omega))) ?_
  refine evc_go 1000 5 (by kernel_rfl) ?_
  exact evc_endT (Go.V.Val.int Go.IntKind.i64 15) (by kernel_rfl) (by kernel_rfl) (by first | with_reducible rfl | assumption | (simp_all; done) | omega | (simp_all; omega) | ((try simp only [decide_eq_true_eq, decide_eq_false_iff_not, beq_iff_eq, beq_eq_false_iff_ne, ne_eq, Bool.and_eq_true, Bool.or_eq_true] at *); (repeat' split) <;> first | rfl | (exfalso; omega))) (by first | rfl | simp [Val.low, Val.lows, low_encL, low_encI])
theorem w82_8_c (h : s = []) (h2 : (l.length : Int) = 0) (h3 : (n : Int) = 9221120237041090560) (h114 : ∀ S, Go.V.Call E0 114 [.int .u64 (n : Int)] S (.bool true) S) (S : St) : Go.V.Call E0 82 [.agg (i4 8 n s l q)] S (.int .i64 0) S := by
  refine call_cfg (by kernel_rfl) ?_
  refine evc_go 1000 54 (by kernel_rfl) ?_
  refine evc_is 37 (!s == []) false (by kernel_rfl) (by first | with_reducible rfl | assumption | (simp_all; done) | omega | (simp_all; omega) | ((try simp only [decide_eq_true_eq, decide_eq_false_iff_not, beq_iff_eq, beq_eq_false_iff_ne, ne_eq, Bool.and_eq_true, Bool.or_eq_true] at *); (repeat' split) <;> first | rfl | (exfalso; omega))) ?_
  refine evc_go 1000 50 (by kernel_rfl) ?_
  refine evc_is 80 ((↑l.length : Int) != 0) false (by kernel_rfl) (by first | with_reducible rfl | assumption | (simp_all; done) | omega | (simp_all; omega) | ((try simp only [decide_eq_true_eq, decide_eq_false_iff_not, beq_iff_eq, beq_eq_false_iff_ne, ne_eq, Bool.and_eq_true, Bool.or_eq_true] at *); (repeat' split) <;> first | rfl | (exfalso; omega))) ?_
  refine evc_go 1000 28 (by kernel_rfl) ?_
  refine evc_call (by kernel_rfl) (by kernel_rfl) (h114 (S)) (by kernel_rfl) ?_
  refine evc_go 1000 8 (by kernel_rfl) ?_
  refine evc_is 111 ((↑n : Int) != 9221120237041090560) false (by kernel_rfl) (by first | with_reducible rfl | assumption | (simp_all; done) | omega | (simp_all; omega) | ((try simp only [decide_eq_true_eq, decide_eq_false_iff_not, beq_iff_eq, beq_eq_false_iff_ne, ne_eq, Bool.and_eq_true, Bool.or_eq_true] at *); (repeat' split) <;> first | rfl | (exfalso; omega))) ?_
  refine evc_go 1000 22 (by kernel_rfl) ?_
  exact evc_endT (Go.V.Val.int Go.IntKind.i64 0) (by kernel_rfl) (by kernel_rfl) (by first | with_reducible rfl | assumption | (simp_all; done) | omega | (simp_all; omega) | ((try simp only [decide_eq_true_eq, decide_eq_false_iff_not, beq_iff_eq, beq_eq_false_iff_ne, ne_eq, Bool.and_eq_true, Bool.or_eq_true] at *); (repeat' split) <;> first | rfl | (exfalso; omega))) (by first | rfl | simp [Val.low, Val.lows, low_encL, low_encI])
end
end Go.V.W
