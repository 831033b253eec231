/- DenoteBounds (ullagelaw18): the whole call. Printed by a program (wip/tools/gendb3.py). -/
import Derived.Test.YtgnfinbhnoofpaaDoorVH
import Derived.Test.YtgnfinbhnoofpaaDoorDB2
import Derived.Test.YtgnfinbhnoofpaaDoorItemCheck
import Derived.Test.YtgnfinbhnoofpaaDoorGreat
set_option linter.unusedVariables false
set_option linter.unusedSimpArgs false
set_option linter.unusedSectionVars false
open Go Go.V
set_option maxRecDepth 100000
set_option maxHeartbeats 4000000
namespace Go.V.W
theorem d48 : Go.V.Call E0 48 [] s0 (.bool true) s0 := call_run 100000 (by kernel_rfl)
theorem d49_1_0 (a b c d : Int) (h0 : 0 ≤ a) (h : a ≤ b) (h2 : 0 ≤ c) (h3 : c ≤ d) (kx n : Int) (s : List UInt8) (q : Q) (l : List It) (ch : Int) (h24 : Go.V.Call E0 24 [.agg (i4 kx n s l q)] s0 (.int .i64 ch) s0) :
    Go.V.Call E0 49 [sc 1 a b c d, .int .i64 0, .agg (i4 kx n s l q)] s0 (.bool (decide (ch = 0) && (inB (numK 1 kx n s) a b || inB (numK 1 kx n s) c d))) s0 := by
  have w := d31_1 a b c d h0 h h2 h3
  have u0 := d91_1_0 a b c d kx n s q l
  have u := d91_1_0 a b c d kx n s q l
  generalize inB (numK 1 kx n s) a b = x at *
  generalize inB (numK 1 kx n s) c d = y at *
  by_cases hc : ch = 0
  · subst hc
    have v : Go.V.Call E0 52 [sc 1 a b c d, .agg (i4 kx n s l q)] s0 (.tup [.bool (x || y), .int .i64 0]) s0 := by
      refine call_cfg (by kernel_rfl) ?_
      refine evc_go 1000 11 (by kernel_rfl) ?_
      refine evc_call (by kernel_rfl) (by kernel_rfl) (w) (by kernel_rfl) ?_
      refine evc_go 1000 17 (by kernel_rfl) ?_
      refine evc_call (by kernel_rfl) (by kernel_rfl) (h24) (by kernel_rfl) ?_
      refine evc_go 1000 13 (by kernel_rfl) ?_
      refine evc_call (by kernel_rfl) (by kernel_rfl) (u0) (by kernel_rfl) ?_
      refine evc_go 1000 3 (by kernel_rfl) ?_
      exact evc_end (Go.V.Val.tup [Go.V.Val.bool (x || y), Go.V.Val.int Go.IntKind.i64 0]) ({ H := [], L := [] }) (by kernel_rfl) (by first | with_reducible rfl | assumption | (simp_all; done) | omega | (simp_all; omega) | ((try simp only [decide_eq_true_eq, decide_eq_false_iff_not, beq_iff_eq, beq_eq_false_iff_ne, ne_eq, Bool.and_eq_true, Bool.or_eq_true] at *); (repeat' split) <;> first | rfl | (exfalso; omega))) (by first | with_reducible rfl | assumption | (simp_all; done) | omega | (simp_all; omega) | ((try simp only [decide_eq_true_eq, decide_eq_false_iff_not, beq_iff_eq, beq_eq_false_iff_ne, ne_eq, Bool.and_eq_true, Bool.or_eq_true] at *); (repeat' split) <;> first | rfl | (exfalso; omega)))
    simp only [decide_true, Bool.true_and]
    clear w u0 h24
    refine call_cfg (by kernel_rfl) ?_
    refine evc_go 1000 10 (by kernel_rfl) ?_
    refine evc_call (by kernel_rfl) (by kernel_rfl) (v) (by kernel_rfl) ?_
    refine evc_go 1000 25 (by kernel_rfl) ?_
    refine evc_call (by kernel_rfl) (by kernel_rfl) (u) (by kernel_rfl) ?_
    refine evc_go 1000 3 (by kernel_rfl) ?_
    exact evc_end (Go.V.Val.bool (x || y)) ({ H := [], L := [] }) (by kernel_rfl) (by first | with_reducible rfl | assumption | (simp_all; done) | omega | (simp_all; omega) | ((try simp only [decide_eq_true_eq, decide_eq_false_iff_not, beq_iff_eq, beq_eq_false_iff_ne, ne_eq, Bool.and_eq_true, Bool.or_eq_true] at *); (repeat' split) <;> first | rfl | (exfalso; omega))) (by first | with_reducible rfl | assumption | (simp_all; done) | omega | (simp_all; omega) | ((try simp only [decide_eq_true_eq, decide_eq_false_iff_not, beq_iff_eq, beq_eq_false_iff_ne, ne_eq, Bool.and_eq_true, Bool.or_eq_true] at *); (repeat' split) <;> first | rfl | (exfalso; omega)))
  · have v : Go.V.Call E0 52 [sc 1 a b c d, .agg (i4 kx n s l q)] s0 (.tup [.bool false, .int .i64 ch]) s0 := by
      refine call_cfg (by kernel_rfl) ?_
      refine evc_go 1000 11 (by kernel_rfl) ?_
      refine evc_call (by kernel_rfl) (by kernel_rfl) (w) (by kernel_rfl) ?_
      refine evc_go 1000 17 (by kernel_rfl) ?_
      refine evc_call (by kernel_rfl) (by kernel_rfl) (h24) (by kernel_rfl) ?_
      refine evc_go 1000 7 (by kernel_rfl) ?_
      refine evc_is 20 (ch != 0) true (by kernel_rfl) (by first | with_reducible rfl | assumption | (simp_all; done) | omega | (simp_all; omega) | ((try simp only [decide_eq_true_eq, decide_eq_false_iff_not, beq_iff_eq, beq_eq_false_iff_ne, ne_eq, Bool.and_eq_true, Bool.or_eq_true] at *); (repeat' split) <;> first | rfl | (exfalso; omega))) ?_
      refine evc_go 1000 7 (by kernel_rfl) ?_
      exact evc_end (Go.V.Val.tup [Go.V.Val.bool Bool.false, Go.V.Val.int Go.IntKind.i64 ch]) ({ H := [], L := [] }) (by kernel_rfl) (by first | with_reducible rfl | assumption | (simp_all; done) | omega | (simp_all; omega) | ((try simp only [decide_eq_true_eq, decide_eq_false_iff_not, beq_iff_eq, beq_eq_false_iff_ne, ne_eq, Bool.and_eq_true, Bool.or_eq_true] at *); (repeat' split) <;> first | rfl | (exfalso; omega))) (by first | with_reducible rfl | assumption | (simp_all; done) | omega | (simp_all; omega) | ((try simp only [decide_eq_true_eq, decide_eq_false_iff_not, beq_iff_eq, beq_eq_false_iff_ne, ne_eq, Bool.and_eq_true, Bool.or_eq_true] at *); (repeat' split) <;> first | rfl | (exfalso; omega)))
    simp only [hc, decide_false, Bool.false_and]
    clear w u0 u h24
    refine call_cfg (by kernel_rfl) ?_
    refine evc_go 1000 10 (by kernel_rfl) ?_
    refine evc_call (by kernel_rfl) (by kernel_rfl) (v) (by kernel_rfl) ?_
    refine evc_go 1000 11 (by kernel_rfl) ?_
    refine evc_is 17 (ch == 0) false (by kernel_rfl) (by first | with_reducible rfl | assumption | (simp_all; done) | omega | (simp_all; omega) | ((try simp only [decide_eq_true_eq, decide_eq_false_iff_not, beq_iff_eq, beq_eq_false_iff_ne, ne_eq, Bool.and_eq_true, Bool.or_eq_true] at *); (repeat' split) <;> first | rfl | (exfalso; omega))) ?_
    refine evc_go 1000 18 (by kernel_rfl) ?_
    exact evc_end (Go.V.Val.bool Bool.false) ({ H := [], L := [] }) (by kernel_rfl) (by first | with_reducible rfl | assumption | (simp_all; done) | omega | (simp_all; omega) | ((try simp only [decide_eq_true_eq, decide_eq_false_iff_not, beq_iff_eq, beq_eq_false_iff_ne, ne_eq, Bool.and_eq_true, Bool.or_eq_true] at *); (repeat' split) <;> first | rfl | (exfalso; omega))) (by first | with_reducible rfl | assumption | (simp_all; done) | omega | (simp_all; omega) | ((try simp only [decide_eq_true_eq, decide_eq_false_iff_not, beq_iff_eq, beq_eq_false_iff_ne, ne_eq, Bool.and_eq_true, Bool.or_eq_true] at *); (repeat' split) <;> first | rfl | (exfalso; omega)))
theorem d49_1_1 (a b c d : Int) (h0 : 0 ≤ a) (h : a ≤ b) (h2 : 0 ≤ c) (h3 : c ≤ d) (kx n : Int) (s : List UInt8) (q : Q) (l : List It) (ch : Int) (h24 : Go.V.Call E0 24 [.agg (i4 kx n s l q)] s0 (.int .i64 ch) s0) :
    Go.V.Call E0 49 [sc 1 a b c d, .int .i64 1, .agg (i4 kx n s l q)] s0 (.bool (decide (ch = 0) && inB (numK 1 kx n s) a b)) s0 := by
  have w := d31_1 a b c d h0 h h2 h3
  have u0 := d91_1_0 a b c d kx n s q l
  have u := d91_1_1 a b c d kx n s q l
  generalize inB (numK 1 kx n s) a b = x at *
  generalize inB (numK 1 kx n s) c d = y at *
  by_cases hc : ch = 0
  · subst hc
    have v : Go.V.Call E0 52 [sc 1 a b c d, .agg (i4 kx n s l q)] s0 (.tup [.bool (x || y), .int .i64 0]) s0 := by
      refine call_cfg (by kernel_rfl) ?_
      refine evc_go 1000 11 (by kernel_rfl) ?_
      refine evc_call (by kernel_rfl) (by kernel_rfl) (w) (by kernel_rfl) ?_
      refine evc_go 1000 17 (by kernel_rfl) ?_
      refine evc_call (by kernel_rfl) (by kernel_rfl) (h24) (by kernel_rfl) ?_
      refine evc_go 1000 13 (by kernel_rfl) ?_
      refine evc_call (by kernel_rfl) (by kernel_rfl) (u0) (by kernel_rfl) ?_
      refine evc_go 1000 3 (by kernel_rfl) ?_
      exact evc_end (Go.V.Val.tup [Go.V.Val.bool (x || y), Go.V.Val.int Go.IntKind.i64 0]) ({ H := [], L := [] }) (by kernel_rfl) (by first | with_reducible rfl | assumption | (simp_all; done) | omega | (simp_all; omega) | ((try simp only [decide_eq_true_eq, decide_eq_false_iff_not, beq_iff_eq, beq_eq_false_iff_ne, ne_eq, Bool.and_eq_true, Bool.or_eq_true] at *); (repeat' split) <;> first | rfl | (exfalso; omega))) (by first | with_reducible rfl | assumption | (simp_all; done) | omega | (simp_all; omega) | ((try simp only [decide_eq_true_eq, decide_eq_false_iff_not, beq_iff_eq, beq_eq_false_iff_ne, ne_eq, Bool.and_eq_true, Bool.or_eq_true] at *); (repeat' split) <;> first | rfl | (exfalso; omega)))
    simp only [decide_true, Bool.true_and]
    clear w u0 h24
    refine call_cfg (by kernel_rfl) ?_
    refine evc_go 1000 10 (by kernel_rfl) ?_
    refine evc_call (by kernel_rfl) (by kernel_rfl) (v) (by kernel_rfl) ?_
    refine evc_go 1000 25 (by kernel_rfl) ?_
    refine evc_call (by kernel_rfl) (by kernel_rfl) (u) (by kernel_rfl) ?_
    refine evc_go 1000 3 (by kernel_rfl) ?_
    exact evc_end (Go.V.Val.bool x) ({ H := [], L := [] }) (by kernel_rfl) (by first | with_reducible rfl | assumption | (simp_all; done) | omega | (simp_all; omega) | ((try simp only [decide_eq_true_eq, decide_eq_false_iff_not, beq_iff_eq, beq_eq_false_iff_ne, ne_eq, Bool.and_eq_true, Bool.or_eq_true] at *); (repeat' split) <;> first | rfl | (exfalso; omega))) (by first | with_reducible rfl | assumption | (simp_all; done) | omega | (simp_all; omega) | ((try simp only [decide_eq_true_eq, decide_eq_false_iff_not, beq_iff_eq, beq_eq_false_iff_ne, ne_eq, Bool.and_eq_true, Bool.or_eq_true] at *); (repeat' split) <;> first | rfl | (exfalso; omega)))
  · have v : Go.V.Call E0 52 [sc 1 a b c d, .agg (i4 kx n s l q)] s0 (.tup [.bool false, .int .i64 ch]) s0 := by
      refine call_cfg (by kernel_rfl) ?_
      refine evc_go 1000 11 (by kernel_rfl) ?_
      refine evc_call (by kernel_rfl) (by kernel_rfl) (w) (by kernel_rfl) ?_
      refine evc_go 1000 17 (by kernel_rfl) ?_
      refine evc_call (by kernel_rfl) (by kernel_rfl) (h24) (by kernel_rfl) ?_
      refine evc_go 1000 7 (by kernel_rfl) ?_
      refine evc_is 20 (ch != 0) true (by kernel_rfl) (by first | with_reducible rfl | assumption | (simp_all; done) | omega | (simp_all; omega) | ((try simp only [decide_eq_true_eq, decide_eq_false_iff_not, beq_iff_eq, beq_eq_false_iff_ne, ne_eq, Bool.and_eq_true, Bool.or_eq_true] at *); (repeat' split) <;> first | rfl | (exfalso; omega))) ?_
      refine evc_go 1000 7 (by kernel_rfl) ?_
      exact evc_end (Go.V.Val.tup [Go.V.Val.bool Bool.false, Go.V.Val.int Go.IntKind.i64 ch]) ({ H := [], L := [] }) (by kernel_rfl) (by first | with_reducible rfl | assumption | (simp_all; done) | omega | (simp_all; omega) | ((try simp only [decide_eq_true_eq, decide_eq_false_iff_not, beq_iff_eq, beq_eq_false_iff_ne, ne_eq, Bool.and_eq_true, Bool.or_eq_true] at *); (repeat' split) <;> first | rfl | (exfalso; omega))) (by first | with_reducible rfl | assumption | (simp_all; done) | omega | (simp_all; omega) | ((try simp only [decide_eq_true_eq, decide_eq_false_iff_not, beq_iff_eq, beq_eq_false_iff_ne, ne_eq, Bool.and_eq_true, Bool.or_eq_true] at *); (repeat' split) <;> first | rfl | (exfalso; omega)))
    simp only [hc, decide_false, Bool.false_and]
    clear w u0 u h24
    refine call_cfg (by kernel_rfl) ?_
    refine evc_go 1000 10 (by kernel_rfl) ?_
    refine evc_call (by kernel_rfl) (by kernel_rfl) (v) (by kernel_rfl) ?_
    refine evc_go 1000 11 (by kernel_rfl) ?_
    refine evc_is 17 (ch == 0) false (by kernel_rfl) (by first | with_reducible rfl | assumption | (simp_all; done) | omega | (simp_all; omega) | ((try simp only [decide_eq_true_eq, decide_eq_false_iff_not, beq_iff_eq, beq_eq_false_iff_ne, ne_eq, Bool.and_eq_true, Bool.or_eq_true] at *); (repeat' split) <;> first | rfl | (exfalso; omega))) ?_
    refine evc_go 1000 18 (by kernel_rfl) ?_
    exact evc_end (Go.V.Val.bool Bool.false) ({ H := [], L := [] }) (by kernel_rfl) (by first | with_reducible rfl | assumption | (simp_all; done) | omega | (simp_all; omega) | ((try simp only [decide_eq_true_eq, decide_eq_false_iff_not, beq_iff_eq, beq_eq_false_iff_ne, ne_eq, Bool.and_eq_true, Bool.or_eq_true] at *); (repeat' split) <;> first | rfl | (exfalso; omega))) (by first | with_reducible rfl | assumption | (simp_all; done) | omega | (simp_all; omega) | ((try simp only [decide_eq_true_eq, decide_eq_false_iff_not, beq_iff_eq, beq_eq_false_iff_ne, ne_eq, Bool.and_eq_true, Bool.or_eq_true] at *); (repeat' split) <;> first | rfl | (exfalso; omega)))
theorem d49_1_2 (a b c d : Int) (h0 : 0 ≤ a) (h : a ≤ b) (h2 : 0 ≤ c) (h3 : c ≤ d) (kx n : Int) (s : List UInt8) (q : Q) (l : List It) (ch : Int) (h24 : Go.V.Call E0 24 [.agg (i4 kx n s l q)] s0 (.int .i64 ch) s0) :
    Go.V.Call E0 49 [sc 1 a b c d, .int .i64 2, .agg (i4 kx n s l q)] s0 (.bool (decide (ch = 0) && inB (numK 1 kx n s) c d)) s0 := by
  have w := d31_1 a b c d h0 h h2 h3
  have u0 := d91_1_0 a b c d kx n s q l
  have u := d91_1_2 a b c d kx n s q l
  generalize inB (numK 1 kx n s) a b = x at *
  generalize inB (numK 1 kx n s) c d = y at *
  by_cases hc : ch = 0
  · subst hc
    have v : Go.V.Call E0 52 [sc 1 a b c d, .agg (i4 kx n s l q)] s0 (.tup [.bool (x || y), .int .i64 0]) s0 := by
      refine call_cfg (by kernel_rfl) ?_
      refine evc_go 1000 11 (by kernel_rfl) ?_
      refine evc_call (by kernel_rfl) (by kernel_rfl) (w) (by kernel_rfl) ?_
      refine evc_go 1000 17 (by kernel_rfl) ?_
      refine evc_call (by kernel_rfl) (by kernel_rfl) (h24) (by kernel_rfl) ?_
      refine evc_go 1000 13 (by kernel_rfl) ?_
      refine evc_call (by kernel_rfl) (by kernel_rfl) (u0) (by kernel_rfl) ?_
      refine evc_go 1000 3 (by kernel_rfl) ?_
      exact evc_end (Go.V.Val.tup [Go.V.Val.bool (x || y), Go.V.Val.int Go.IntKind.i64 0]) ({ H := [], L := [] }) (by kernel_rfl) (by first | with_reducible rfl | assumption | (simp_all; done) | omega | (simp_all; omega) | ((try simp only [decide_eq_true_eq, decide_eq_false_iff_not, beq_iff_eq, beq_eq_false_iff_ne, ne_eq, Bool.and_eq_true, Bool.or_eq_true] at *); (repeat' split) <;> first | rfl | (exfalso; omega))) (by first | with_reducible rfl | assumption | (simp_all; done) | omega | (simp_all; omega) | ((try simp only [decide_eq_true_eq, decide_eq_false_iff_not, beq_iff_eq, beq_eq_false_iff_ne, ne_eq, Bool.and_eq_true, Bool.or_eq_true] at *); (repeat' split) <;> first | rfl | (exfalso; omega)))
    simp only [decide_true, Bool.true_and]
    clear w u0 h24
    refine call_cfg (by kernel_rfl) ?_
    refine evc_go 1000 10 (by kernel_rfl) ?_
    refine evc_call (by kernel_rfl) (by kernel_rfl) (v) (by kernel_rfl) ?_
    refine evc_go 1000 25 (by kernel_rfl) ?_
    refine evc_call (by kernel_rfl) (by kernel_rfl) (u) (by kernel_rfl) ?_
    refine evc_go 1000 3 (by kernel_rfl) ?_
    exact evc_end (Go.V.Val.bool y) ({ H := [], L := [] }) (by kernel_rfl) (by first | with_reducible rfl | assumption | (simp_all; done) | omega | (simp_all; omega) | ((try simp only [decide_eq_true_eq, decide_eq_false_iff_not, beq_iff_eq, beq_eq_false_iff_ne, ne_eq, Bool.and_eq_true, Bool.or_eq_true] at *); (repeat' split) <;> first | rfl | (exfalso; omega))) (by first | with_reducible rfl | assumption | (simp_all; done) | omega | (simp_all; omega) | ((try simp only [decide_eq_true_eq, decide_eq_false_iff_not, beq_iff_eq, beq_eq_false_iff_ne, ne_eq, Bool.and_eq_true, Bool.or_eq_true] at *); (repeat' split) <;> first | rfl | (exfalso; omega)))
  · have v : Go.V.Call E0 52 [sc 1 a b c d, .agg (i4 kx n s l q)] s0 (.tup [.bool false, .int .i64 ch]) s0 := by
      refine call_cfg (by kernel_rfl) ?_
      refine evc_go 1000 11 (by kernel_rfl) ?_
      refine evc_call (by kernel_rfl) (by kernel_rfl) (w) (by kernel_rfl) ?_
      refine evc_go 1000 17 (by kernel_rfl) ?_
      refine evc_call (by kernel_rfl) (by kernel_rfl) (h24) (by kernel_rfl) ?_
      refine evc_go 1000 7 (by kernel_rfl) ?_
      refine evc_is 20 (ch != 0) true (by kernel_rfl) (by first | with_reducible rfl | assumption | (simp_all; done) | omega | (simp_all; omega) | ((try simp only [decide_eq_true_eq, decide_eq_false_iff_not, beq_iff_eq, beq_eq_false_iff_ne, ne_eq, Bool.and_eq_true, Bool.or_eq_true] at *); (repeat' split) <;> first | rfl | (exfalso; omega))) ?_
      refine evc_go 1000 7 (by kernel_rfl) ?_
      exact evc_end (Go.V.Val.tup [Go.V.Val.bool Bool.false, Go.V.Val.int Go.IntKind.i64 ch]) ({ H := [], L := [] }) (by kernel_rfl) (by first | with_reducible rfl | assumption | (simp_all; done) | omega | (simp_all; omega) | ((try simp only [decide_eq_true_eq, decide_eq_false_iff_not, beq_iff_eq, beq_eq_false_iff_ne, ne_eq, Bool.and_eq_true, Bool.or_eq_true] at *); (repeat' split) <;> first | rfl | (exfalso; omega))) (by first | with_reducible rfl | assumption | (simp_all; done) | omega | (simp_all; omega) | ((try simp only [decide_eq_true_eq, decide_eq_false_iff_not, beq_iff_eq, beq_eq_false_iff_ne, ne_eq, Bool.and_eq_true, Bool.or_eq_true] at *); (repeat' split) <;> first | rfl | (exfalso; omega)))
    simp only [hc, decide_false, Bool.false_and]
    clear w u0 u h24
    refine call_cfg (by kernel_rfl) ?_
    refine evc_go 1000 10 (by kernel_rfl) ?_
    refine evc_call (by kernel_rfl) (by kernel_rfl) (v) (by kernel_rfl) ?_
    refine evc_go 1000 11 (by kernel_rfl) ?_
    refine evc_is 17 (ch == 0) false (by kernel_rfl) (by first | with_reducible rfl | assumption | (simp_all; done) | omega | (simp_all; omega) | ((try simp only [decide_eq_true_eq, decide_eq_false_iff_not, beq_iff_eq, beq_eq_false_iff_ne, ne_eq, Bool.and_eq_true, Bool.or_eq_true] at *); (repeat' split) <;> first | rfl | (exfalso; omega))) ?_
    refine evc_go 1000 18 (by kernel_rfl) ?_
    exact evc_end (Go.V.Val.bool Bool.false) ({ H := [], L := [] }) (by kernel_rfl) (by first | with_reducible rfl | assumption | (simp_all; done) | omega | (simp_all; omega) | ((try simp only [decide_eq_true_eq, decide_eq_false_iff_not, beq_iff_eq, beq_eq_false_iff_ne, ne_eq, Bool.and_eq_true, Bool.or_eq_true] at *); (repeat' split) <;> first | rfl | (exfalso; omega))) (by first | with_reducible rfl | assumption | (simp_all; done) | omega | (simp_all; omega) | ((try simp only [decide_eq_true_eq, decide_eq_false_iff_not, beq_iff_eq, beq_eq_false_iff_ne, ne_eq, Bool.and_eq_true, Bool.or_eq_true] at *); (repeat' split) <;> first | rfl | (exfalso; omega)))
theorem d49_2_0 (a b c d : Int) (h0 : 0 ≤ a) (h : a ≤ b) (h2 : 0 ≤ c) (h3 : c ≤ d) (kx n : Int) (s : List UInt8) (q : Q) (l : List It) (ch : Int) (h24 : Go.V.Call E0 24 [.agg (i4 kx n s l q)] s0 (.int .i64 ch) s0) :
    Go.V.Call E0 49 [sc 2 a b c d, .int .i64 0, .agg (i4 kx n s l q)] s0 (.bool (decide (ch = 0) && (inB (numK 2 kx n s) a b || inB (numK 2 kx n s) c d))) s0 := by
  have w := d31_2 a b c d h0 h h2 h3
  have u0 := d91_2_0 a b c d kx n s q l
  have u := d91_2_0 a b c d kx n s q l
  generalize inB (numK 2 kx n s) a b = x at *
  generalize inB (numK 2 kx n s) c d = y at *
  by_cases hc : ch = 0
  · subst hc
    have v : Go.V.Call E0 52 [sc 2 a b c d, .agg (i4 kx n s l q)] s0 (.tup [.bool (x || y), .int .i64 0]) s0 := by
      refine call_cfg (by kernel_rfl) ?_
      refine evc_go 1000 11 (by kernel_rfl) ?_
      refine evc_call (by kernel_rfl) (by kernel_rfl) (w) (by kernel_rfl) ?_
      refine evc_go 1000 17 (by kernel_rfl) ?_
      refine evc_call (by kernel_rfl) (by kernel_rfl) (h24) (by kernel_rfl) ?_
      refine evc_go 1000 13 (by kernel_rfl) ?_
      refine evc_call (by kernel_rfl) (by kernel_rfl) (u0) (by kernel_rfl) ?_
      refine evc_go 1000 3 (by kernel_rfl) ?_
      exact evc_end (Go.V.Val.tup [Go.V.Val.bool (x || y), Go.V.Val.int Go.IntKind.i64 0]) ({ H := [], L := [] }) (by kernel_rfl) (by first | with_reducible rfl | assumption | (simp_all; done) | omega | (simp_all; omega) | ((try simp only [decide_eq_true_eq, decide_eq_false_iff_not, beq_iff_eq, beq_eq_false_iff_ne, ne_eq, Bool.and_eq_true, Bool.or_eq_true] at *); (repeat' split) <;> first | rfl | (exfalso; omega))) (by first | with_reducible rfl | assumption | (simp_all; done) | omega | (simp_all; omega) | ((try simp only [decide_eq_true_eq, decide_eq_false_iff_not, beq_iff_eq, beq_eq_false_iff_ne, ne_eq, Bool.and_eq_true, Bool.or_eq_true] at *); (repeat' split) <;> first | rfl | (exfalso; omega)))
    simp only [decide_true, Bool.true_and]
    clear w u0 h24
    refine call_cfg (by kernel_rfl) ?_
    refine evc_go 1000 10 (by kernel_rfl) ?_
    refine evc_call (by kernel_rfl) (by kernel_rfl) (v) (by kernel_rfl) ?_
    refine evc_go 1000 25 (by kernel_rfl) ?_
    refine evc_call (by kernel_rfl) (by kernel_rfl) (u) (by kernel_rfl) ?_
    refine evc_go 1000 3 (by kernel_rfl) ?_
    exact evc_end (Go.V.Val.bool (x || y)) ({ H := [], L := [] }) (by kernel_rfl) (by first | with_reducible rfl | assumption | (simp_all; done) | omega | (simp_all; omega) | ((try simp only [decide_eq_true_eq, decide_eq_false_iff_not, beq_iff_eq, beq_eq_false_iff_ne, ne_eq, Bool.and_eq_true, Bool.or_eq_true] at *); (repeat' split) <;> first | rfl | (exfalso; omega))) (by first | with_reducible rfl | assumption | (simp_all; done) | omega | (simp_all; omega) | ((try simp only [decide_eq_true_eq, decide_eq_false_iff_not, beq_iff_eq, beq_eq_false_iff_ne, ne_eq, Bool.and_eq_true, Bool.or_eq_true] at *); (repeat' split) <;> first | rfl | (exfalso; omega)))
  · have v : Go.V.Call E0 52 [sc 2 a b c d, .agg (i4 kx n s l q)] s0 (.tup [.bool false, .int .i64 ch]) s0 := by
      refine call_cfg (by kernel_rfl) ?_
      refine evc_go 1000 11 (by kernel_rfl) ?_
      refine evc_call (by kernel_rfl) (by kernel_rfl) (w) (by kernel_rfl) ?_
      refine evc_go 1000 17 (by kernel_rfl) ?_
      refine evc_call (by kernel_rfl) (by kernel_rfl) (h24) (by kernel_rfl) ?_
      refine evc_go 1000 7 (by kernel_rfl) ?_
      refine evc_is 20 (ch != 0) true (by kernel_rfl) (by first | with_reducible rfl | assumption | (simp_all; done) | omega | (simp_all; omega) | ((try simp only [decide_eq_true_eq, decide_eq_false_iff_not, beq_iff_eq, beq_eq_false_iff_ne, ne_eq, Bool.and_eq_true, Bool.or_eq_true] at *); (repeat' split) <;> first | rfl | (exfalso; omega))) ?_
      refine evc_go 1000 7 (by kernel_rfl) ?_
      exact evc_end (Go.V.Val.tup [Go.V.Val.bool Bool.false, Go.V.Val.int Go.IntKind.i64 ch]) ({ H := [], L := [] }) (by kernel_rfl) (by first | with_reducible rfl | assumption | (simp_all; done) | omega | (simp_all; omega) | ((try simp only [decide_eq_true_eq, decide_eq_false_iff_not, beq_iff_eq, beq_eq_false_iff_ne, ne_eq, Bool.and_eq_true, Bool.or_eq_true] at *); (repeat' split) <;> first | rfl | (exfalso; omega))) (by first | with_reducible rfl | assumption | (simp_all; done) | omega | (simp_all; omega) | ((try simp only [decide_eq_true_eq, decide_eq_false_iff_not, beq_iff_eq, beq_eq_false_iff_ne, ne_eq, Bool.and_eq_true, Bool.or_eq_true] at *); (repeat' split) <;> first | rfl | (exfalso; omega)))
    simp only [hc, decide_false, Bool.false_and]
    clear w u0 u h24
    refine call_cfg (by kernel_rfl) ?_
    refine evc_go 1000 10 (by kernel_rfl) ?_
    refine evc_call (by kernel_rfl) (by kernel_rfl) (v) (by kernel_rfl) ?_
    refine evc_go 1000 11 (by kernel_rfl) ?_
    refine evc_is 17 (ch == 0) false (by kernel_rfl) (by first | with_reducible rfl | assumption | (simp_all; done) | omega | (simp_all; omega) | ((try simp only [decide_eq_true_eq, decide_eq_false_iff_not, beq_iff_eq, beq_eq_false_iff_ne, ne_eq, Bool.and_eq_true, Bool.or_eq_true] at *); (repeat' split) <;> first | rfl | (exfalso; omega))) ?_
    refine evc_go 1000 18 (by kernel_rfl) ?_
    exact evc_end (Go.V.Val.bool Bool.false) ({ H := [], L := [] }) (by kernel_rfl) (by first | with_reducible rfl | assumption | (simp_all; done) | omega | (simp_all; omega) | ((try simp only [decide_eq_true_eq, decide_eq_false_iff_not, beq_iff_eq, beq_eq_false_iff_ne, ne_eq, Bool.and_eq_true, Bool.or_eq_true] at *); (repeat' split) <;> first | rfl | (exfalso; omega))) (by first | with_reducible rfl | assumption | (simp_all; done) | omega | (simp_all; omega) | ((try simp only [decide_eq_true_eq, decide_eq_false_iff_not, beq_iff_eq, beq_eq_false_iff_ne, ne_eq, Bool.and_eq_true, Bool.or_eq_true] at *); (repeat' split) <;> first | rfl | (exfalso; omega)))
theorem d49_2_1 (a b c d : Int) (h0 : 0 ≤ a) (h : a ≤ b) (h2 : 0 ≤ c) (h3 : c ≤ d) (kx n : Int) (s : List UInt8) (q : Q) (l : List It) (ch : Int) (h24 : Go.V.Call E0 24 [.agg (i4 kx n s l q)] s0 (.int .i64 ch) s0) :
    Go.V.Call E0 49 [sc 2 a b c d, .int .i64 1, .agg (i4 kx n s l q)] s0 (.bool (decide (ch = 0) && inB (numK 2 kx n s) a b)) s0 := by
  have w := d31_2 a b c d h0 h h2 h3
  have u0 := d91_2_0 a b c d kx n s q l
  have u := d91_2_1 a b c d kx n s q l
  generalize inB (numK 2 kx n s) a b = x at *
  generalize inB (numK 2 kx n s) c d = y at *
  by_cases hc : ch = 0
  · subst hc
    have v : Go.V.Call E0 52 [sc 2 a b c d, .agg (i4 kx n s l q)] s0 (.tup [.bool (x || y), .int .i64 0]) s0 := by
      refine call_cfg (by kernel_rfl) ?_
      refine evc_go 1000 11 (by kernel_rfl) ?_
      refine evc_call (by kernel_rfl) (by kernel_rfl) (w) (by kernel_rfl) ?_
      refine evc_go 1000 17 (by kernel_rfl) ?_
      refine evc_call (by kernel_rfl) (by kernel_rfl) (h24) (by kernel_rfl) ?_
      refine evc_go 1000 13 (by kernel_rfl) ?_
      refine evc_call (by kernel_rfl) (by kernel_rfl) (u0) (by kernel_rfl) ?_
      refine evc_go 1000 3 (by kernel_rfl) ?_
      exact evc_end (Go.V.Val.tup [Go.V.Val.bool (x || y), Go.V.Val.int Go.IntKind.i64 0]) ({ H := [], L := [] }) (by kernel_rfl) (by first | with_reducible rfl | assumption | (simp_all; done) | omega | (simp_all; omega) | ((try simp only [decide_eq_true_eq, decide_eq_false_iff_not, beq_iff_eq, beq_eq_false_iff_ne, ne_eq, Bool.and_eq_true, Bool.or_eq_true] at *); (repeat' split) <;> first | rfl | (exfalso; omega))) (by first | with_reducible rfl | assumption | (simp_all; done) | omega | (simp_all; omega) | ((try simp only [decide_eq_true_eq, decide_eq_false_iff_not, beq_iff_eq, beq_eq_false_iff_ne, ne_eq, Bool.and_eq_true, Bool.or_eq_true] at *); (repeat' split) <;> first | rfl | (exfalso; omega)))
    simp only [decide_true, Bool.true_and]
    clear w u0 h24
    refine call_cfg (by kernel_rfl) ?_
    refine evc_go 1000 10 (by kernel_rfl) ?_
    refine evc_call (by kernel_rfl) (by kernel_rfl) (v) (by kernel_rfl) ?_
    refine evc_go 1000 25 (by kernel_rfl) ?_
    refine evc_call (by kernel_rfl) (by kernel_rfl) (u) (by kernel_rfl) ?_
    refine evc_go 1000 3 (by kernel_rfl) ?_
    exact evc_end (Go.V.Val.bool x) ({ H := [], L := [] }) (by kernel_rfl) (by first | with_reducible rfl | assumption | (simp_all; done) | omega | (simp_all; omega) | ((try simp only [decide_eq_true_eq, decide_eq_false_iff_not, beq_iff_eq, beq_eq_false_iff_ne, ne_eq, Bool.and_eq_true, Bool.or_eq_true] at *); (repeat' split) <;> first | rfl | (exfalso; omega))) (by first | with_reducible rfl | assumption | (simp_all; done) | omega | (simp_all; omega) | ((try simp only [decide_eq_true_eq, decide_eq_false_iff_not, beq_iff_eq, beq_eq_false_iff_ne, ne_eq, Bool.and_eq_true, Bool.or_eq_true] at *); (repeat' split) <;> first | rfl | (exfalso; omega)))
  · have v : Go.V.Call E0 52 [sc 2 a b c d, .agg (i4 kx n s l q)] s0 (.tup [.bool false, .int .i64 ch]) s0 := by
      refine call_cfg (by kernel_rfl) ?_
      refine evc_go 1000 11 (by kernel_rfl) ?_
      refine evc_call (by kernel_rfl) (by kernel_rfl) (w) (by kernel_rfl) ?_
      refine evc_go 1000 17 (by kernel_rfl) ?_
      refine evc_call (by kernel_rfl) (by kernel_rfl) (h24) (by kernel_rfl) ?_
      refine evc_go 1000 7 (by kernel_rfl) ?_
      refine evc_is 20 (ch != 0) true (by kernel_rfl) (by first | with_reducible rfl | assumption | (simp_all; done) | omega | (simp_all; omega) | ((try simp only [decide_eq_true_eq, decide_eq_false_iff_not, beq_iff_eq, beq_eq_false_iff_ne, ne_eq, Bool.and_eq_true, Bool.or_eq_true] at *); (repeat' split) <;> first | rfl | (exfalso; omega))) ?_
      refine evc_go 1000 7 (by kernel_rfl) ?_
      exact evc_end (Go.V.Val.tup [Go.V.Val.bool Bool.false, Go.V.Val.int Go.IntKind.i64 ch]) ({ H := [], L := [] }) (by kernel_rfl) (by first | with_reducible rfl | assumption | (simp_all; done) | omega | (simp_all; omega) | ((try simp only [decide_eq_true_eq, decide_eq_false_iff_not, beq_iff_eq, beq_eq_false_iff_ne, ne_eq, Bool.and_eq_true, Bool.or_eq_true] at *); (repeat' split) <;> first | rfl | (exfalso; omega))) (by first | with_reducible rfl | assumption | (simp_all; done) | omega | (simp_all; omega) | ((try simp only [decide_eq_true_eq, decide_eq_false_iff_not, beq_iff_eq, beq_eq_false_iff_ne, ne_eq, Bool.and_eq_true, Bool.or_eq_true] at *); (repeat' split) <;> first | rfl | (exfalso; omega)))
    simp only [hc, decide_false, Bool.false_and]
    clear w u0 u h24
    refine call_cfg (by kernel_rfl) ?_
    refine evc_go 1000 10 (by kernel_rfl) ?_
    refine evc_call (by kernel_rfl) (by kernel_rfl) (v) (by kernel_rfl) ?_
    refine evc_go 1000 11 (by kernel_rfl) ?_
    refine evc_is 17 (ch == 0) false (by kernel_rfl) (by first | with_reducible rfl | assumption | (simp_all; done) | omega | (simp_all; omega) | ((try simp only [decide_eq_true_eq, decide_eq_false_iff_not, beq_iff_eq, beq_eq_false_iff_ne, ne_eq, Bool.and_eq_true, Bool.or_eq_true] at *); (repeat' split) <;> first | rfl | (exfalso; omega))) ?_
    refine evc_go 1000 18 (by kernel_rfl) ?_
    exact evc_end (Go.V.Val.bool Bool.false) ({ H := [], L := [] }) (by kernel_rfl) (by first | with_reducible rfl | assumption | (simp_all; done) | omega | (simp_all; omega) | ((try simp only [decide_eq_true_eq, decide_eq_false_iff_not, beq_iff_eq, beq_eq_false_iff_ne, ne_eq, Bool.and_eq_true, Bool.or_eq_true] at *); (repeat' split) <;> first | rfl | (exfalso; omega))) (by first | with_reducible rfl | assumption | (simp_all; done) | omega | (simp_all; omega) | ((try simp only [decide_eq_true_eq, decide_eq_false_iff_not, beq_iff_eq, beq_eq_false_iff_ne, ne_eq, Bool.and_eq_true, Bool.or_eq_true] at *); (repeat' split) <;> first | rfl | (exfalso; omega)))
theorem d49_2_2 (a b c d : Int) (h0 : 0 ≤ a) (h : a ≤ b) (h2 : 0 ≤ c) (h3 : c ≤ d) (kx n : Int) (s : List UInt8) (q : Q) (l : List It) (ch : Int) (h24 : Go.V.Call E0 24 [.agg (i4 kx n s l q)] s0 (.int .i64 ch) s0) :
    Go.V.Call E0 49 [sc 2 a b c d, .int .i64 2, .agg (i4 kx n s l q)] s0 (.bool (decide (ch = 0) && inB (numK 2 kx n s) c d)) s0 := by
  have w := d31_2 a b c d h0 h h2 h3
  have u0 := d91_2_0 a b c d kx n s q l
  have u := d91_2_2 a b c d kx n s q l
  generalize inB (numK 2 kx n s) a b = x at *
  generalize inB (numK 2 kx n s) c d = y at *
  by_cases hc : ch = 0
  · subst hc
    have v : Go.V.Call E0 52 [sc 2 a b c d, .agg (i4 kx n s l q)] s0 (.tup [.bool (x || y), .int .i64 0]) s0 := by
      refine call_cfg (by kernel_rfl) ?_
      refine evc_go 1000 11 (by kernel_rfl) ?_
      refine evc_call (by kernel_rfl) (by kernel_rfl) (w) (by kernel_rfl) ?_
      refine evc_go 1000 17 (by kernel_rfl) ?_
      refine evc_call (by kernel_rfl) (by kernel_rfl) (h24) (by kernel_rfl) ?_
      refine evc_go 1000 13 (by kernel_rfl) ?_
      refine evc_call (by kernel_rfl) (by kernel_rfl) (u0) (by kernel_rfl) ?_
      refine evc_go 1000 3 (by kernel_rfl) ?_
      exact evc_end (Go.V.Val.tup [Go.V.Val.bool (x || y), Go.V.Val.int Go.IntKind.i64 0]) ({ H := [], L := [] }) (by kernel_rfl) (by first | with_reducible rfl | assumption | (simp_all; done) | omega | (simp_all; omega) | ((try simp only [decide_eq_true_eq, decide_eq_false_iff_not, beq_iff_eq, beq_eq_false_iff_ne, ne_eq, Bool.and_eq_true, Bool.or_eq_true] at *); (repeat' split) <;> first | rfl | (exfalso; omega))) (by first | with_reducible rfl | assumption | (simp_all; done) | omega | (simp_all; omega) | ((try simp only [decide_eq_true_eq, decide_eq_false_iff_not, beq_iff_eq, beq_eq_false_iff_ne, ne_eq, Bool.and_eq_true, Bool.or_eq_true] at *); (repeat' split) <;> first | rfl | (exfalso; omega)))
    simp only [decide_true, Bool.true_and]
    clear w u0 h24
    refine call_cfg (by kernel_rfl) ?_
    refine evc_go 1000 10 (by kernel_rfl) ?_
    refine evc_call (by kernel_rfl) (by kernel_rfl) (v) (by kernel_rfl) ?_
    refine evc_go 1000 25 (by kernel_rfl) ?_
    refine evc_call (by kernel_rfl) (by kernel_rfl) (u) (by kernel_rfl) ?_
    refine evc_go 1000 3 (by kernel_rfl) ?_
    exact evc_end (Go.V.Val.bool y) ({ H := [], L := [] }) (by kernel_rfl) (by first | with_reducible rfl | assumption | (simp_all; done) | omega | (simp_all; omega) | ((try simp only [decide_eq_true_eq, decide_eq_false_iff_not, beq_iff_eq, beq_eq_false_iff_ne, ne_eq, Bool.and_eq_true, Bool.or_eq_true] at *); (repeat' split) <;> first | rfl | (exfalso; omega))) (by first | with_reducible rfl | assumption | (simp_all; done) | omega | (simp_all; omega) | ((try simp only [decide_eq_true_eq, decide_eq_false_iff_not, beq_iff_eq, beq_eq_false_iff_ne, ne_eq, Bool.and_eq_true, Bool.or_eq_true] at *); (repeat' split) <;> first | rfl | (exfalso; omega)))
  · have v : Go.V.Call E0 52 [sc 2 a b c d, .agg (i4 kx n s l q)] s0 (.tup [.bool false, .int .i64 ch]) s0 := by
      refine call_cfg (by kernel_rfl) ?_
      refine evc_go 1000 11 (by kernel_rfl) ?_
      refine evc_call (by kernel_rfl) (by kernel_rfl) (w) (by kernel_rfl) ?_
      refine evc_go 1000 17 (by kernel_rfl) ?_
      refine evc_call (by kernel_rfl) (by kernel_rfl) (h24) (by kernel_rfl) ?_
      refine evc_go 1000 7 (by kernel_rfl) ?_
      refine evc_is 20 (ch != 0) true (by kernel_rfl) (by first | with_reducible rfl | assumption | (simp_all; done) | omega | (simp_all; omega) | ((try simp only [decide_eq_true_eq, decide_eq_false_iff_not, beq_iff_eq, beq_eq_false_iff_ne, ne_eq, Bool.and_eq_true, Bool.or_eq_true] at *); (repeat' split) <;> first | rfl | (exfalso; omega))) ?_
      refine evc_go 1000 7 (by kernel_rfl) ?_
      exact evc_end (Go.V.Val.tup [Go.V.Val.bool Bool.false, Go.V.Val.int Go.IntKind.i64 ch]) ({ H := [], L := [] }) (by kernel_rfl) (by first | with_reducible rfl | assumption | (simp_all; done) | omega | (simp_all; omega) | ((try simp only [decide_eq_true_eq, decide_eq_false_iff_not, beq_iff_eq, beq_eq_false_iff_ne, ne_eq, Bool.and_eq_true, Bool.or_eq_true] at *); (repeat' split) <;> first | rfl | (exfalso; omega))) (by first | with_reducible rfl | assumption | (simp_all; done) | omega | (simp_all; omega) | ((try simp only [decide_eq_true_eq, decide_eq_false_iff_not, beq_iff_eq, beq_eq_false_iff_ne, ne_eq, Bool.and_eq_true, Bool.or_eq_true] at *); (repeat' split) <;> first | rfl | (exfalso; omega)))
    simp only [hc, decide_false, Bool.false_and]
    clear w u0 u h24
    refine call_cfg (by kernel_rfl) ?_
    refine evc_go 1000 10 (by kernel_rfl) ?_
    refine evc_call (by kernel_rfl) (by kernel_rfl) (v) (by kernel_rfl) ?_
    refine evc_go 1000 11 (by kernel_rfl) ?_
    refine evc_is 17 (ch == 0) false (by kernel_rfl) (by first | with_reducible rfl | assumption | (simp_all; done) | omega | (simp_all; omega) | ((try simp only [decide_eq_true_eq, decide_eq_false_iff_not, beq_iff_eq, beq_eq_false_iff_ne, ne_eq, Bool.and_eq_true, Bool.or_eq_true] at *); (repeat' split) <;> first | rfl | (exfalso; omega))) ?_
    refine evc_go 1000 18 (by kernel_rfl) ?_
    exact evc_end (Go.V.Val.bool Bool.false) ({ H := [], L := [] }) (by kernel_rfl) (by first | with_reducible rfl | assumption | (simp_all; done) | omega | (simp_all; omega) | ((try simp only [decide_eq_true_eq, decide_eq_false_iff_not, beq_iff_eq, beq_eq_false_iff_ne, ne_eq, Bool.and_eq_true, Bool.or_eq_true] at *); (repeat' split) <;> first | rfl | (exfalso; omega))) (by first | with_reducible rfl | assumption | (simp_all; done) | omega | (simp_all; omega) | ((try simp only [decide_eq_true_eq, decide_eq_false_iff_not, beq_iff_eq, beq_eq_false_iff_ne, ne_eq, Bool.and_eq_true, Bool.or_eq_true] at *); (repeat' split) <;> first | rfl | (exfalso; omega)))
theorem d49_3_0 (a b c d : Int) (h0 : 0 ≤ a) (h : a ≤ b) (h2 : 0 ≤ c) (h3 : c ≤ d) (kx n : Int) (s : List UInt8) (q : Q) (l : List It) (ch : Int) (h24 : Go.V.Call E0 24 [.agg (i4 kx n s l q)] s0 (.int .i64 ch) s0) :
    Go.V.Call E0 49 [sc 3 a b c d, .int .i64 0, .agg (i4 kx n s l q)] s0 (.bool (decide (ch = 0) && (inB (numK 3 kx n s) a b || inB (numK 3 kx n s) c d))) s0 := by
  have w := d31_3 a b c d h0 h h2 h3
  have u0 := d91_3_0 a b c d kx n s q l
  have u := d91_3_0 a b c d kx n s q l
  generalize inB (numK 3 kx n s) a b = x at *
  generalize inB (numK 3 kx n s) c d = y at *
  by_cases hc : ch = 0
  · subst hc
    have v : Go.V.Call E0 52 [sc 3 a b c d, .agg (i4 kx n s l q)] s0 (.tup [.bool (x || y), .int .i64 0]) s0 := by
      refine call_cfg (by kernel_rfl) ?_
      refine evc_go 1000 11 (by kernel_rfl) ?_
      refine evc_call (by kernel_rfl) (by kernel_rfl) (w) (by kernel_rfl) ?_
      refine evc_go 1000 17 (by kernel_rfl) ?_
      refine evc_call (by kernel_rfl) (by kernel_rfl) (h24) (by kernel_rfl) ?_
      refine evc_go 1000 13 (by kernel_rfl) ?_
      refine evc_call (by kernel_rfl) (by kernel_rfl) (u0) (by kernel_rfl) ?_
      refine evc_go 1000 3 (by kernel_rfl) ?_
      exact evc_end (Go.V.Val.tup [Go.V.Val.bool (x || y), Go.V.Val.int Go.IntKind.i64 0]) ({ H := [], L := [] }) (by kernel_rfl) (by first | with_reducible rfl | assumption | (simp_all; done) | omega | (simp_all; omega) | ((try simp only [decide_eq_true_eq, decide_eq_false_iff_not, beq_iff_eq, beq_eq_false_iff_ne, ne_eq, Bool.and_eq_true, Bool.or_eq_true] at *); (repeat' split) <;> first | rfl | (exfalso; omega))) (by first | with_reducible rfl | assumption | (simp_all; done) | omega | (simp_all; omega) | ((try simp only [decide_eq_true_eq, decide_eq_false_iff_not, beq_iff_eq, beq_eq_false_iff_ne, ne_eq, Bool.and_eq_true, Bool.or_eq_true] at *); (repeat' split) <;> first | rfl | (exfalso; omega)))
    simp only [decide_true, Bool.true_and]
    clear w u0 h24
    refine call_cfg (by kernel_rfl) ?_
    refine evc_go 1000 10 (by kernel_rfl) ?_
    refine evc_call (by kernel_rfl) (by kernel_rfl) (v) (by kernel_rfl) ?_
    refine evc_go 1000 25 (by kernel_rfl) ?_
    refine evc_call (by kernel_rfl) (by kernel_rfl) (u) (by kernel_rfl) ?_
    refine evc_go 1000 3 (by kernel_rfl) ?_
    exact evc_end (Go.V.Val.bool (x || y)) ({ H := [], L := [] }) (by kernel_rfl) (by first | with_reducible rfl | assumption | (simp_all; done) | omega | (simp_all; omega) | ((try simp only [decide_eq_true_eq, decide_eq_false_iff_not, beq_iff_eq, beq_eq_false_iff_ne, ne_eq, Bool.and_eq_true, Bool.or_eq_true] at *); (repeat' split) <;> first | rfl | (exfalso; omega))) (by first | with_reducible rfl | assumption | (simp_all; done) | omega | (simp_all; omega) | ((try simp only [decide_eq_true_eq, decide_eq_false_iff_not, beq_iff_eq, beq_eq_false_iff_ne, ne_eq, Bool.and_eq_true, Bool.or_eq_true] at *); (repeat' split) <;> first | rfl | (exfalso; omega)))
  · have v : Go.V.Call E0 52 [sc 3 a b c d, .agg (i4 kx n s l q)] s0 (.tup [.bool false, .int .i64 ch]) s0 := by
      refine call_cfg (by kernel_rfl) ?_
      refine evc_go 1000 11 (by kernel_rfl) ?_
      refine evc_call (by kernel_rfl) (by kernel_rfl) (w) (by kernel_rfl) ?_
      refine evc_go 1000 17 (by kernel_rfl) ?_
      refine evc_call (by kernel_rfl) (by kernel_rfl) (h24) (by kernel_rfl) ?_
      refine evc_go 1000 7 (by kernel_rfl) ?_
      refine evc_is 20 (ch != 0) true (by kernel_rfl) (by first | with_reducible rfl | assumption | (simp_all; done) | omega | (simp_all; omega) | ((try simp only [decide_eq_true_eq, decide_eq_false_iff_not, beq_iff_eq, beq_eq_false_iff_ne, ne_eq, Bool.and_eq_true, Bool.or_eq_true] at *); (repeat' split) <;> first | rfl | (exfalso; omega))) ?_
      refine evc_go 1000 7 (by kernel_rfl) ?_
      exact evc_end (Go.V.Val.tup [Go.V.Val.bool Bool.false, Go.V.Val.int Go.IntKind.i64 ch]) ({ H := [], L := [] }) (by kernel_rfl) (by first | with_reducible rfl | assumption | (simp_all; done) | omega | (simp_all; omega) | ((try simp only [decide_eq_true_eq, decide_eq_false_iff_not, beq_iff_eq, beq_eq_false_iff_ne, ne_eq, Bool.and_eq_true, Bool.or_eq_true] at *); (repeat' split) <;> first | rfl | (exfalso; omega))) (by first | with_reducible rfl | assumption | (simp_all; done) | omega | (simp_all; omega) | ((try simp only [decide_eq_true_eq, decide_eq_false_iff_not, beq_iff_eq, beq_eq_false_iff_ne, ne_eq, Bool.and_eq_true, Bool.or_eq_true] at *); (repeat' split) <;> first | rfl | (exfalso; omega)))
    simp only [hc, decide_false, Bool.false_and]
    clear w u0 u h24
    refine call_cfg (by kernel_rfl) ?_
    refine evc_go 1000 10 (by kernel_rfl) ?_
    refine evc_call (by kernel_rfl) (by kernel_rfl) (v) (by kernel_rfl) ?_
    refine evc_go 1000 11 (by kernel_rfl) ?_
    refine evc_is 17 (ch == 0) false (by kernel_rfl) (by first | with_reducible rfl | assumption | (simp_all; done) | omega | (simp_all; omega) | ((try simp only [decide_eq_true_eq, decide_eq_false_iff_not, beq_iff_eq, beq_eq_false_iff_ne, ne_eq, Bool.and_eq_true, Bool.or_eq_true] at *); (repeat' split) <;> first | rfl | (exfalso; omega))) ?_
    refine evc_go 1000 18 (by kernel_rfl) ?_
    exact evc_end (Go.V.Val.bool Bool.false) ({ H := [], L := [] }) (by kernel_rfl) (by first | with_reducible rfl | assumption | (simp_all; done) | omega | (simp_all; omega) | ((try simp only [decide_eq_true_eq, decide_eq_false_iff_not, beq_iff_eq, beq_eq_false_iff_ne, ne_eq, Bool.and_eq_true, Bool.or_eq_true] at *); (repeat' split) <;> first | rfl | (exfalso; omega))) (by first | with_reducible rfl | assumption | (simp_all; done) | omega | (simp_all; omega) | ((try simp only [decide_eq_true_eq, decide_eq_false_iff_not, beq_iff_eq, beq_eq_false_iff_ne, ne_eq, Bool.and_eq_true, Bool.or_eq_true] at *); (repeat' split) <;> first | rfl | (exfalso; omega)))
theorem d49_3_1 (a b c d : Int) (h0 : 0 ≤ a) (h : a ≤ b) (h2 : 0 ≤ c) (h3 : c ≤ d) (kx n : Int) (s : List UInt8) (q : Q) (l : List It) (ch : Int) (h24 : Go.V.Call E0 24 [.agg (i4 kx n s l q)] s0 (.int .i64 ch) s0) :
    Go.V.Call E0 49 [sc 3 a b c d, .int .i64 1, .agg (i4 kx n s l q)] s0 (.bool (decide (ch = 0) && inB (numK 3 kx n s) a b)) s0 := by
  have w := d31_3 a b c d h0 h h2 h3
  have u0 := d91_3_0 a b c d kx n s q l
  have u := d91_3_1 a b c d kx n s q l
  generalize inB (numK 3 kx n s) a b = x at *
  generalize inB (numK 3 kx n s) c d = y at *
  by_cases hc : ch = 0
  · subst hc
    have v : Go.V.Call E0 52 [sc 3 a b c d, .agg (i4 kx n s l q)] s0 (.tup [.bool (x || y), .int .i64 0]) s0 := by
      refine call_cfg (by kernel_rfl) ?_
      refine evc_go 1000 11 (by kernel_rfl) ?_
      refine evc_call (by kernel_rfl) (by kernel_rfl) (w) (by kernel_rfl) ?_
      refine evc_go 1000 17 (by kernel_rfl) ?_
      refine evc_call (by kernel_rfl) (by kernel_rfl) (h24) (by kernel_rfl) ?_
      refine evc_go 1000 13 (by kernel_rfl) ?_
      refine evc_call (by kernel_rfl) (by kernel_rfl) (u0) (by kernel_rfl) ?_
      refine evc_go 1000 3 (by kernel_rfl) ?_
      exact evc_end (Go.V.Val.tup [Go.V.Val.bool (x || y), Go.V.Val.int Go.IntKind.i64 0]) ({ H := [], L := [] }) (by kernel_rfl) (by first | with_reducible rfl | assumption | (simp_all; done) | omega | (simp_all; omega) | ((try simp only [decide_eq_true_eq, decide_eq_false_iff_not, beq_iff_eq, beq_eq_false_iff_ne, ne_eq, Bool.and_eq_true, Bool.or_eq_true] at *); (repeat' split) <;> first | rfl | (exfalso; omega))) (by first | with_reducible rfl | assumption | (simp_all; done) | omega | (simp_all; omega) | ((try simp only [decide_eq_true_eq, decide_eq_false_iff_not, beq_iff_eq, beq_eq_false_iff_ne, ne_eq, Bool.and_eq_true, Bool.or_eq_true] at *); (repeat' split) <;> first | rfl | (exfalso; omega)))
    simp only [decide_true, Bool.true_and]
    clear w u0 h24
    refine call_cfg (by kernel_rfl) ?_
    refine evc_go 1000 10 (by kernel_rfl) ?_
    refine evc_call (by kernel_rfl) (by kernel_rfl) (v) (by kernel_rfl) ?_
    refine evc_go 1000 25 (by kernel_rfl) ?_
    refine evc_call (by kernel_rfl) (by kernel_rfl) (u) (by kernel_rfl) ?_
    refine evc_go 1000 3 (by kernel_rfl) ?_
    exact evc_end (Go.V.Val.bool x) ({ H := [], L := [] }) (by kernel_rfl) (by first | with_reducible rfl | assumption | (simp_all; done) | omega | (simp_all; omega) | ((try simp only [decide_eq_true_eq, decide_eq_false_iff_not, beq_iff_eq, beq_eq_false_iff_ne, ne_eq, Bool.and_eq_true, Bool.or_eq_true] at *); (repeat' split) <;> first | rfl | (exfalso; omega))) (by first | with_reducible rfl | assumption | (simp_all; done) | omega | (simp_all; omega) | ((try simp only [decide_eq_true_eq, decide_eq_false_iff_not, beq_iff_eq, beq_eq_false_iff_ne, ne_eq, Bool.and_eq_true, Bool.or_eq_true] at *); (repeat' split) <;> first | rfl | (exfalso; omega)))
  · have v : Go.V.Call E0 52 [sc 3 a b c d, .agg (i4 kx n s l q)] s0 (.tup [.bool false, .int .i64 ch]) s0 := by
      refine call_cfg (by kernel_rfl) ?_
      refine evc_go 1000 11 (by kernel_rfl) ?_
      refine evc_call (by kernel_rfl) (by kernel_rfl) (w) (by kernel_rfl) ?_
      refine evc_go 1000 17 (by kernel_rfl) ?_
      refine evc_call (by kernel_rfl) (by kernel_rfl) (h24) (by kernel_rfl) ?_
      refine evc_go 1000 7 (by kernel_rfl) ?_
      refine evc_is 20 (ch != 0) true (by kernel_rfl) (by first | with_reducible rfl | assumption | (simp_all; done) | omega | (simp_all; omega) | ((try simp only [decide_eq_true_eq, decide_eq_false_iff_not, beq_iff_eq, beq_eq_false_iff_ne, ne_eq, Bool.and_eq_true, Bool.or_eq_true] at *); (repeat' split) <;> first | rfl | (exfalso; omega))) ?_
      refine evc_go 1000 7 (by kernel_rfl) ?_
      exact evc_end (Go.V.Val.tup [Go.V.Val.bool Bool.false, Go.V.Val.int Go.IntKind.i64 ch]) ({ H := [], L := [] }) (by kernel_rfl) (by first | with_reducible rfl | assumption | (simp_all; done) | omega | (simp_all; omega) | ((try simp only [decide_eq_true_eq, decide_eq_false_iff_not, beq_iff_eq, beq_eq_false_iff_ne, ne_eq, Bool.and_eq_true, Bool.or_eq_true] at *); (repeat' split) <;> first | rfl | (exfalso; omega))) (by first | with_reducible rfl | assumption | (simp_all; done) | omega | (simp_all; omega) | ((try simp only [decide_eq_true_eq, decide_eq_false_iff_not, beq_iff_eq, beq_eq_false_iff_ne, ne_eq, Bool.and_eq_true, Bool.or_eq_true] at *); (repeat' split) <;> first | rfl | (exfalso; omega)))
    simp only [hc, decide_false, Bool.false_and]
    clear w u0 u h24
    refine call_cfg (by kernel_rfl) ?_
    refine evc_go 1000 10 (by kernel_rfl) ?_
    refine evc_call (by kernel_rfl) (by kernel_rfl) (v) (by kernel_rfl) ?_
    refine evc_go 1000 11 (by kernel_rfl) ?_
    refine evc_is 17 (ch == 0) false (by kernel_rfl) (by first | with_reducible rfl | assumption | (simp_all; done) | omega | (simp_all; omega) | ((try simp only [decide_eq_true_eq, decide_eq_false_iff_not, beq_iff_eq, beq_eq_false_iff_ne, ne_eq, Bool.and_eq_true, Bool.or_eq_true] at *); (repeat' split) <;> first | rfl | (exfalso; omega))) ?_
    refine evc_go 1000 18 (by kernel_rfl) ?_
    exact evc_end (Go.V.Val.bool Bool.false) ({ H := [], L := [] }) (by kernel_rfl) (by first | with_reducible rfl | assumption | (simp_all; done) | omega | (simp_all; omega) | ((try simp only [decide_eq_true_eq, decide_eq_false_iff_not, beq_iff_eq, beq_eq_false_iff_ne, ne_eq, Bool.and_eq_true, Bool.or_eq_true] at *); (repeat' split) <;> first | rfl | (exfalso; omega))) (by first | with_reducible rfl | assumption | (simp_all; done) | omega | (simp_all; omega) | ((try simp only [decide_eq_true_eq, decide_eq_false_iff_not, beq_iff_eq, beq_eq_false_iff_ne, ne_eq, Bool.and_eq_true, Bool.or_eq_true] at *); (repeat' split) <;> first | rfl | (exfalso; omega)))
theorem d49_3_2 (a b c d : Int) (h0 : 0 ≤ a) (h : a ≤ b) (h2 : 0 ≤ c) (h3 : c ≤ d) (kx n : Int) (s : List UInt8) (q : Q) (l : List It) (ch : Int) (h24 : Go.V.Call E0 24 [.agg (i4 kx n s l q)] s0 (.int .i64 ch) s0) :
    Go.V.Call E0 49 [sc 3 a b c d, .int .i64 2, .agg (i4 kx n s l q)] s0 (.bool (decide (ch = 0) && inB (numK 3 kx n s) c d)) s0 := by
  have w := d31_3 a b c d h0 h h2 h3
  have u0 := d91_3_0 a b c d kx n s q l
  have u := d91_3_2 a b c d kx n s q l
  generalize inB (numK 3 kx n s) a b = x at *
  generalize inB (numK 3 kx n s) c d = y at *
  by_cases hc : ch = 0
  · subst hc
    have v : Go.V.Call E0 52 [sc 3 a b c d, .agg (i4 kx n s l q)] s0 (.tup [.bool (x || y), .int .i64 0]) s0 := by
      refine call_cfg (by kernel_rfl) ?_
      refine evc_go 1000 11 (by kernel_rfl) ?_
      refine evc_call (by kernel_rfl) (by kernel_rfl) (w) (by kernel_rfl) ?_
      refine evc_go 1000 17 (by kernel_rfl) ?_
      refine evc_call (by kernel_rfl) (by kernel_rfl) (h24) (by kernel_rfl) ?_
      refine evc_go 1000 13 (by kernel_rfl) ?_
      refine evc_call (by kernel_rfl) (by kernel_rfl) (u0) (by kernel_rfl) ?_
      refine evc_go 1000 3 (by kernel_rfl) ?_
      exact evc_end (Go.V.Val.tup [Go.V.Val.bool (x || y), Go.V.Val.int Go.IntKind.i64 0]) ({ H := [], L := [] }) (by kernel_rfl) (by first | with_reducible rfl | assumption | (simp_all; done) | omega | (simp_all; omega) | ((try simp only [decide_eq_true_eq, decide_eq_false_iff_not, beq_iff_eq, beq_eq_false_iff_ne, ne_eq, Bool.and_eq_true, Bool.or_eq_true] at *); (repeat' split) <;> first | rfl | (exfalso; omega))) (by first | with_reducible rfl | assumption | (simp_all; done) | omega | (simp_all; omega) | ((try simp only [decide_eq_true_eq, decide_eq_false_iff_not, beq_iff_eq, beq_eq_false_iff_ne, ne_eq, Bool.and_eq_true, Bool.or_eq_true] at *); (repeat' split) <;> first | rfl | (exfalso; omega)))
    simp only [decide_true, Bool.true_and]
    clear w u0 h24
    refine call_cfg (by kernel_rfl) ?_
    refine evc_go 1000 10 (by kernel_rfl) ?_
    refine evc_call (by kernel_rfl) (by kernel_rfl) (v) (by kernel_rfl) ?_
    refine evc_go 1000 25 (by kernel_rfl) ?_
    refine evc_call (by kernel_rfl) (by kernel_rfl) (u) (by kernel_rfl) ?_
    refine evc_go 1000 3 (by kernel_rfl) ?_
    exact evc_end (Go.V.Val.bool y) ({ H := [], L := [] }) (by kernel_rfl) (by first | with_reducible rfl | assumption | (simp_all; done) | omega | (simp_all; omega) | ((try simp only [decide_eq_true_eq, decide_eq_false_iff_not, beq_iff_eq, beq_eq_false_iff_ne, ne_eq, Bool.and_eq_true, Bool.or_eq_true] at *); (repeat' split) <;> first | rfl | (exfalso; omega))) (by first | with_reducible rfl | assumption | (simp_all; done) | omega | (simp_all; omega) | ((try simp only [decide_eq_true_eq, decide_eq_false_iff_not, beq_iff_eq, beq_eq_false_iff_ne, ne_eq, Bool.and_eq_true, Bool.or_eq_true] at *); (repeat' split) <;> first | rfl | (exfalso; omega)))
  · have v : Go.V.Call E0 52 [sc 3 a b c d, .agg (i4 kx n s l q)] s0 (.tup [.bool false, .int .i64 ch]) s0 := by
      refine call_cfg (by kernel_rfl) ?_
      refine evc_go 1000 11 (by kernel_rfl) ?_
      refine evc_call (by kernel_rfl) (by kernel_rfl) (w) (by kernel_rfl) ?_
      refine evc_go 1000 17 (by kernel_rfl) ?_
      refine evc_call (by kernel_rfl) (by kernel_rfl) (h24) (by kernel_rfl) ?_
      refine evc_go 1000 7 (by kernel_rfl) ?_
      refine evc_is 20 (ch != 0) true (by kernel_rfl) (by first | with_reducible rfl | assumption | (simp_all; done) | omega | (simp_all; omega) | ((try simp only [decide_eq_true_eq, decide_eq_false_iff_not, beq_iff_eq, beq_eq_false_iff_ne, ne_eq, Bool.and_eq_true, Bool.or_eq_true] at *); (repeat' split) <;> first | rfl | (exfalso; omega))) ?_
      refine evc_go 1000 7 (by kernel_rfl) ?_
      exact evc_end (Go.V.Val.tup [Go.V.Val.bool Bool.false, Go.V.Val.int Go.IntKind.i64 ch]) ({ H := [], L := [] }) (by kernel_rfl) (by first | with_reducible rfl | assumption | (simp_all; done) | omega | (simp_all; omega) | ((try simp only [decide_eq_true_eq, decide_eq_false_iff_not, beq_iff_eq, beq_eq_false_iff_ne, ne_eq, Bool.and_eq_true, Bool.or_eq_true] at *); (repeat' split) <;> first | rfl | (exfalso; omega))) (by first | with_reducible rfl | assumption | (simp_all; done) | omega | (simp_all; omega) | ((try simp only [decide_eq_true_eq, decide_eq_false_iff_not, beq_iff_eq, beq_eq_false_iff_ne, ne_eq, Bool.and_eq_true, Bool.or_eq_true] at *); (repeat' split) <;> first | rfl | (exfalso; omega)))
    simp only [hc, decide_false, Bool.false_and]
    clear w u0 u h24
    refine call_cfg (by kernel_rfl) ?_
    refine evc_go 1000 10 (by kernel_rfl) ?_
    refine evc_call (by kernel_rfl) (by kernel_rfl) (v) (by kernel_rfl) ?_
    refine evc_go 1000 11 (by kernel_rfl) ?_
    refine evc_is 17 (ch == 0) false (by kernel_rfl) (by first | with_reducible rfl | assumption | (simp_all; done) | omega | (simp_all; omega) | ((try simp only [decide_eq_true_eq, decide_eq_false_iff_not, beq_iff_eq, beq_eq_false_iff_ne, ne_eq, Bool.and_eq_true, Bool.or_eq_true] at *); (repeat' split) <;> first | rfl | (exfalso; omega))) ?_
    refine evc_go 1000 18 (by kernel_rfl) ?_
    exact evc_end (Go.V.Val.bool Bool.false) ({ H := [], L := [] }) (by kernel_rfl) (by first | with_reducible rfl | assumption | (simp_all; done) | omega | (simp_all; omega) | ((try simp only [decide_eq_true_eq, decide_eq_false_iff_not, beq_iff_eq, beq_eq_false_iff_ne, ne_eq, Bool.and_eq_true, Bool.or_eq_true] at *); (repeat' split) <;> first | rfl | (exfalso; omega))) (by first | with_reducible rfl | assumption | (simp_all; done) | omega | (simp_all; omega) | ((try simp only [decide_eq_true_eq, decide_eq_false_iff_not, beq_iff_eq, beq_eq_false_iff_ne, ne_eq, Bool.and_eq_true, Bool.or_eq_true] at *); (repeat' split) <;> first | rfl | (exfalso; omega)))
theorem inB_wider (o : Option Int) {a b c d : Int} (h1 : c ≤ a) (h2 : b ≤ d) (h : inB o a b = true) : inB o c d = true := by
  cases o with
  | none => simp [inB] at h
  | some v =>
    simp only [inB, Bool.and_eq_true, decide_eq_true_eq] at h ⊢
    omega
theorem wrap_id {n : Int} (h : -9223372036854775808 ≤ n) (h' : n ≤ 9223372036854775807) : IntKind.wrap .i64 n = n := wrap_i64 h h'
/-- the law, where the kind is the one of number 0 -/
theorem D8_1 (kx n : Int) (s : List UInt8) (q : Q) (l : List It) (kd lo hi more : Nat) (hkd : kd < 256) (hlo : lo < 256) (hhi : hi < 256) (hmo : more < 256) (hr : kd % 3 = 0) (g : Bool) (e : Int) (ch : Int)
    (h18 : Go.V.Call E0 18 [.agg (i4 kx n s l q)] s0 (.bool g) s0) (h25 : g = false → Go.V.Call E0 25 [.agg (i4 kx n s l q)] s0 (.int .i64 e) s0) (h24 : g = false → Go.V.Call E0 24 [.agg (i4 kx n s l q)] s0 (.int .i64 ch) s0) :
    Go.V.Call E0 8 [.agg (i4 kx n s l q), .int .u8 (kd : Int), .int .u8 (lo : Int), .int .u8 (hi : Int), .int .u8 (more : Int)] s0 (.bool true) s0 := by
  have h48 := d48
  cases g with
  | true =>
    clear h25 h24
    refine call_cfg (by kernel_rfl) ?_
    refine evc_go 1000 8 (by kernel_rfl) ?_
    refine evc_call (by kernel_rfl) (by kernel_rfl) (h48) (by kernel_rfl) ?_
    refine evc_go 1000 8 (by kernel_rfl) ?_
    refine evc_call (by kernel_rfl) (by kernel_rfl) (h18) (by kernel_rfl) ?_
    refine evc_go 1000 11 (by kernel_rfl) ?_
    exact evc_end (Go.V.Val.bool Bool.true) ({ H := [], L := [] }) (by kernel_rfl) (by first | with_reducible rfl | assumption | (simp_all; done) | omega | (simp_all; omega) | ((try simp only [decide_eq_true_eq, decide_eq_false_iff_not, beq_iff_eq, beq_eq_false_iff_ne, ne_eq, Bool.and_eq_true, Bool.or_eq_true] at *); (repeat' split) <;> first | rfl | (exfalso; omega))) (by first | with_reducible rfl | assumption | (simp_all; done) | omega | (simp_all; omega) | ((try simp only [decide_eq_true_eq, decide_eq_false_iff_not, beq_iff_eq, beq_eq_false_iff_ne, ne_eq, Bool.and_eq_true, Bool.or_eq_true] at *); (repeat' split) <;> first | rfl | (exfalso; omega)))
  | false =>
    have k25 := h25 rfl
    have k24 := h24 rfl
    clear h25 h24
    by_cases he : e = 0
    · subst he
      have w1 : IntKind.wrap .i64 (kd : Int) = (kd : Int) := wrap_id (by omega) (by omega)
      have w2 : IntKind.wrap .i64 (lo : Int) = (lo : Int) := wrap_id (by omega) (by omega)
      have w3 : IntKind.wrap .i64 (hi : Int) = (hi : Int) := wrap_id (by omega) (by omega)
      have w4 : IntKind.wrap .i64 (more : Int) = (more : Int) := wrap_id (by omega) (by omega)
      have w5 : IntKind.wrap .i64 (IntKind.wrap .i64 (lo : Int) + IntKind.wrap .i64 (hi : Int)) = ((lo + hi : Nat) : Int) := by rw [w2, w3]; exact wrap_id (by omega) (by omega)
      have w6 : IntKind.wrap .i64 (IntKind.wrap .i64 (lo : Int) - IntKind.wrap .i64 (more : Int)) = (lo : Int) - (more : Int) := by rw [w2, w4]; exact wrap_id (by omega) (by omega)
      have w7 : IntKind.wrap .i64 (IntKind.wrap .i64 (IntKind.wrap .i64 (lo : Int) + IntKind.wrap .i64 (hi : Int)) + IntKind.wrap .i64 (more : Int)) = ((lo + hi + more : Nat) : Int) := by rw [w5, w4]; exact wrap_id (by omega) (by omega)
      have hk : IntKind.wrap .i64 ((IntKind.wrap .i64 (kd : Int)).tmod 3) = ((0 : Nat) : Int) := by
        rw [w1]
        have : (kd : Int).tmod 3 = ((kd % 3 : Nat) : Int) := (Int.ofNat_tmod kd 3).symm
        rw [this, hr]; exact wrap_id (by omega) (by omega)
      have hk2 : (IntKind.wrap .i64 (kd : Int)).tmod 3 = ((0 : Nat) : Int) := by
        rw [w1]
        have : (kd : Int).tmod 3 = ((kd % 3 : Nat) : Int) := (Int.ofNat_tmod kd 3).symm
        rw [this, hr]
      have b0 : 0 ≤ IntKind.wrap .i64 (lo : Int) := by rw [w2]; omega
      have b1 : IntKind.wrap .i64 (lo : Int) ≤ IntKind.wrap .i64 (IntKind.wrap .i64 (lo : Int) + IntKind.wrap .i64 (hi : Int)) := by rw [w5, w2]; omega
      have b2 : 0 ≤ (if 0 > IntKind.wrap .i64 (IntKind.wrap .i64 (lo : Int) - IntKind.wrap .i64 (more : Int)) then 0 else IntKind.wrap .i64 (IntKind.wrap .i64 (lo : Int) - IntKind.wrap .i64 (more : Int))) := by rw [w6]; split <;> omega
      have b3 : (if 0 > IntKind.wrap .i64 (IntKind.wrap .i64 (lo : Int) - IntKind.wrap .i64 (more : Int)) then 0 else IntKind.wrap .i64 (IntKind.wrap .i64 (lo : Int) - IntKind.wrap .i64 (more : Int))) ≤ IntKind.wrap .i64 (IntKind.wrap .i64 (IntKind.wrap .i64 (lo : Int) + IntKind.wrap .i64 (hi : Int)) + IntKind.wrap .i64 (more : Int)) := by rw [w6, w7]; split <;> omega
      have b4 : (if 0 > IntKind.wrap .i64 (IntKind.wrap .i64 (lo : Int) - IntKind.wrap .i64 (more : Int)) then 0 else IntKind.wrap .i64 (IntKind.wrap .i64 (lo : Int) - IntKind.wrap .i64 (more : Int))) ≤ IntKind.wrap .i64 (lo : Int) := by rw [w6, w2]; split <;> omega
      have b5 : IntKind.wrap .i64 (IntKind.wrap .i64 (lo : Int) + IntKind.wrap .i64 (hi : Int)) ≤ IntKind.wrap .i64 (IntKind.wrap .i64 (IntKind.wrap .i64 (lo : Int) + IntKind.wrap .i64 (hi : Int)) + IntKind.wrap .i64 (more : Int)) := by rw [w7, w5]; omega
      have hwid := inB_wider (numK 1 kx n s) b4 b5
      have m0 := d49_1_0 _ _ _ _ b0 b1 b2 b3 kx n s q l ch k24
      have m1 := d49_1_1 _ _ _ _ b0 b1 b2 b3 kx n s q l ch k24
      have m2 := d49_1_2 _ _ _ _ b0 b1 b2 b3 kx n s q l ch k24
      generalize inB (numK 1 kx n s) _ (IntKind.wrap .i64 (IntKind.wrap .i64 (lo : Int) + IntKind.wrap .i64 (hi : Int))) = x at *
      generalize inB (numK 1 kx n s) _ (IntKind.wrap .i64 (IntKind.wrap .i64 (IntKind.wrap .i64 (lo : Int) + IntKind.wrap .i64 (hi : Int)) + IntKind.wrap .i64 (more : Int))) = y at *
      generalize decide (ch = 0) = z at *
      clear k24 w1 w2 w3 w4 w5 w6 w7 hk b0 b1 b2 b3 b4 b5
      cases z with
      | false =>
        simp only [Bool.false_and] at m0 m1 m2
        clear hwid
        refine call_cfg (by kernel_rfl) ?_
        refine evc_go 1000 8 (by kernel_rfl) ?_
        refine evc_call (by kernel_rfl) (by kernel_rfl) (h48) (by kernel_rfl) ?_
        refine evc_go 1000 8 (by kernel_rfl) ?_
        refine evc_call (by kernel_rfl) (by kernel_rfl) (h18) (by kernel_rfl) ?_
        refine evc_go 1000 2 (by kernel_rfl) ?_
        refine evc_call (by kernel_rfl) (by kernel_rfl) (k25) (by kernel_rfl) ?_
        refine evc_go 1000 11 (by kernel_rfl) ?_
        refine evc_set 30 (Go.V.Val.int Go.IntKind.i64 ((Go.IntKind.i64.wrap (↑kd : Int)).tmod 3)) (Go.V.Val.int Go.IntKind.i64 (↑0 : Int)) (by kernel_rfl) (congrArg (Go.V.Val.int Go.IntKind.i64) hk2) ?_
        refine evc_go 1000 44 (by kernel_rfl) ?_
        refine evc_call (by kernel_rfl) (by kernel_rfl) (m0) (by kernel_rfl) ?_
        refine evc_go 1000 2 (by kernel_rfl) ?_
        refine evc_call (by kernel_rfl) (by kernel_rfl) (m1) (by kernel_rfl) ?_
        refine evc_go 1000 2 (by kernel_rfl) ?_
        refine evc_call (by kernel_rfl) (by kernel_rfl) (m2) (by kernel_rfl) ?_
        refine evc_go 1000 26 (by kernel_rfl) ?_
        exact evc_end (Go.V.Val.bool Bool.true) ({ H := [], L := [] }) (by kernel_rfl) (by first | with_reducible rfl | assumption | (simp_all; done) | omega | (simp_all; omega) | ((try simp only [decide_eq_true_eq, decide_eq_false_iff_not, beq_iff_eq, beq_eq_false_iff_ne, ne_eq, Bool.and_eq_true, Bool.or_eq_true] at *); (repeat' split) <;> first | rfl | (exfalso; omega))) (by first | with_reducible rfl | assumption | (simp_all; done) | omega | (simp_all; omega) | ((try simp only [decide_eq_true_eq, decide_eq_false_iff_not, beq_iff_eq, beq_eq_false_iff_ne, ne_eq, Bool.and_eq_true, Bool.or_eq_true] at *); (repeat' split) <;> first | rfl | (exfalso; omega)))
      | true =>
        simp only [Bool.true_and] at m0 m1 m2
        cases x with
        | true =>
          have hy := hwid rfl
          subst hy
          clear hwid
          simp only [Bool.or_self] at m0
          refine call_cfg (by kernel_rfl) ?_
          refine evc_go 1000 8 (by kernel_rfl) ?_
          refine evc_call (by kernel_rfl) (by kernel_rfl) (h48) (by kernel_rfl) ?_
          refine evc_go 1000 8 (by kernel_rfl) ?_
          refine evc_call (by kernel_rfl) (by kernel_rfl) (h18) (by kernel_rfl) ?_
          refine evc_go 1000 2 (by kernel_rfl) ?_
          refine evc_call (by kernel_rfl) (by kernel_rfl) (k25) (by kernel_rfl) ?_
          refine evc_go 1000 11 (by kernel_rfl) ?_
          refine evc_set 30 (Go.V.Val.int Go.IntKind.i64 ((Go.IntKind.i64.wrap (↑kd : Int)).tmod 3)) (Go.V.Val.int Go.IntKind.i64 (↑0 : Int)) (by kernel_rfl) (congrArg (Go.V.Val.int Go.IntKind.i64) hk2) ?_
          refine evc_go 1000 44 (by kernel_rfl) ?_
          refine evc_call (by kernel_rfl) (by kernel_rfl) (m0) (by kernel_rfl) ?_
          refine evc_go 1000 2 (by kernel_rfl) ?_
          refine evc_call (by kernel_rfl) (by kernel_rfl) (m1) (by kernel_rfl) ?_
          refine evc_go 1000 2 (by kernel_rfl) ?_
          refine evc_call (by kernel_rfl) (by kernel_rfl) (m2) (by kernel_rfl) ?_
          refine evc_go 1000 26 (by kernel_rfl) ?_
          exact evc_end (Go.V.Val.bool Bool.true) ({ H := [], L := [] }) (by kernel_rfl) (by first | with_reducible rfl | assumption | (simp_all; done) | omega | (simp_all; omega) | ((try simp only [decide_eq_true_eq, decide_eq_false_iff_not, beq_iff_eq, beq_eq_false_iff_ne, ne_eq, Bool.and_eq_true, Bool.or_eq_true] at *); (repeat' split) <;> first | rfl | (exfalso; omega))) (by first | with_reducible rfl | assumption | (simp_all; done) | omega | (simp_all; omega) | ((try simp only [decide_eq_true_eq, decide_eq_false_iff_not, beq_iff_eq, beq_eq_false_iff_ne, ne_eq, Bool.and_eq_true, Bool.or_eq_true] at *); (repeat' split) <;> first | rfl | (exfalso; omega)))
        | false =>
          clear hwid
          simp only [Bool.false_or] at m0
          cases y with
          | true =>
            refine call_cfg (by kernel_rfl) ?_
            refine evc_go 1000 8 (by kernel_rfl) ?_
            refine evc_call (by kernel_rfl) (by kernel_rfl) (h48) (by kernel_rfl) ?_
            refine evc_go 1000 8 (by kernel_rfl) ?_
            refine evc_call (by kernel_rfl) (by kernel_rfl) (h18) (by kernel_rfl) ?_
            refine evc_go 1000 2 (by kernel_rfl) ?_
            refine evc_call (by kernel_rfl) (by kernel_rfl) (k25) (by kernel_rfl) ?_
            refine evc_go 1000 11 (by kernel_rfl) ?_
            refine evc_set 30 (Go.V.Val.int Go.IntKind.i64 ((Go.IntKind.i64.wrap (↑kd : Int)).tmod 3)) (Go.V.Val.int Go.IntKind.i64 (↑0 : Int)) (by kernel_rfl) (congrArg (Go.V.Val.int Go.IntKind.i64) hk2) ?_
            refine evc_go 1000 44 (by kernel_rfl) ?_
            refine evc_call (by kernel_rfl) (by kernel_rfl) (m0) (by kernel_rfl) ?_
            refine evc_go 1000 2 (by kernel_rfl) ?_
            refine evc_call (by kernel_rfl) (by kernel_rfl) (m1) (by kernel_rfl) ?_
            refine evc_go 1000 2 (by kernel_rfl) ?_
            refine evc_call (by kernel_rfl) (by kernel_rfl) (m2) (by kernel_rfl) ?_
            refine evc_go 1000 26 (by kernel_rfl) ?_
            exact evc_end (Go.V.Val.bool Bool.true) ({ H := [], L := [] }) (by kernel_rfl) (by first | with_reducible rfl | assumption | (simp_all; done) | omega | (simp_all; omega) | ((try simp only [decide_eq_true_eq, decide_eq_false_iff_not, beq_iff_eq, beq_eq_false_iff_ne, ne_eq, Bool.and_eq_true, Bool.or_eq_true] at *); (repeat' split) <;> first | rfl | (exfalso; omega))) (by first | with_reducible rfl | assumption | (simp_all; done) | omega | (simp_all; omega) | ((try simp only [decide_eq_true_eq, decide_eq_false_iff_not, beq_iff_eq, beq_eq_false_iff_ne, ne_eq, Bool.and_eq_true, Bool.or_eq_true] at *); (repeat' split) <;> first | rfl | (exfalso; omega)))
          | false =>
            refine call_cfg (by kernel_rfl) ?_
            refine evc_go 1000 8 (by kernel_rfl) ?_
            refine evc_call (by kernel_rfl) (by kernel_rfl) (h48) (by kernel_rfl) ?_
            refine evc_go 1000 8 (by kernel_rfl) ?_
            refine evc_call (by kernel_rfl) (by kernel_rfl) (h18) (by kernel_rfl) ?_
            refine evc_go 1000 2 (by kernel_rfl) ?_
            refine evc_call (by kernel_rfl) (by kernel_rfl) (k25) (by kernel_rfl) ?_
            refine evc_go 1000 11 (by kernel_rfl) ?_
            refine evc_set 30 (Go.V.Val.int Go.IntKind.i64 ((Go.IntKind.i64.wrap (↑kd : Int)).tmod 3)) (Go.V.Val.int Go.IntKind.i64 (↑0 : Int)) (by kernel_rfl) (congrArg (Go.V.Val.int Go.IntKind.i64) hk2) ?_
            refine evc_go 1000 44 (by kernel_rfl) ?_
            refine evc_call (by kernel_rfl) (by kernel_rfl) (m0) (by kernel_rfl) ?_
            refine evc_go 1000 2 (by kernel_rfl) ?_
            refine evc_call (by kernel_rfl) (by kernel_rfl) (m1) (by kernel_rfl) ?_
            refine evc_go 1000 2 (by kernel_rfl) ?_
            refine evc_call (by kernel_rfl) (by kernel_rfl) (m2) (by kernel_rfl) ?_
            refine evc_go 1000 26 (by kernel_rfl) ?_
            exact evc_end (Go.V.Val.bool Bool.true) ({ H := [], L := [] }) (by kernel_rfl) (by first | with_reducible rfl | assumption | (simp_all; done) | omega | (simp_all; omega) | ((try simp only [decide_eq_true_eq, decide_eq_false_iff_not, beq_iff_eq, beq_eq_false_iff_ne, ne_eq, Bool.and_eq_true, Bool.or_eq_true] at *); (repeat' split) <;> first | rfl | (exfalso; omega))) (by first | with_reducible rfl | assumption | (simp_all; done) | omega | (simp_all; omega) | ((try simp only [decide_eq_true_eq, decide_eq_false_iff_not, beq_iff_eq, beq_eq_false_iff_ne, ne_eq, Bool.and_eq_true, Bool.or_eq_true] at *); (repeat' split) <;> first | rfl | (exfalso; omega)))
    · clear k24
      refine call_cfg (by kernel_rfl) ?_
      refine evc_go 1000 8 (by kernel_rfl) ?_
      refine evc_call (by kernel_rfl) (by kernel_rfl) (h48) (by kernel_rfl) ?_
      refine evc_go 1000 8 (by kernel_rfl) ?_
      refine evc_call (by kernel_rfl) (by kernel_rfl) (h18) (by kernel_rfl) ?_
      refine evc_go 1000 2 (by kernel_rfl) ?_
      refine evc_call (by kernel_rfl) (by kernel_rfl) (k25) (by kernel_rfl) ?_
      refine evc_go 1000 3 (by kernel_rfl) ?_
      refine evc_is 26 (e != 0) true (by kernel_rfl) (by first | with_reducible rfl | assumption | (simp_all; done) | omega | (simp_all; omega) | ((try simp only [decide_eq_true_eq, decide_eq_false_iff_not, beq_iff_eq, beq_eq_false_iff_ne, ne_eq, Bool.and_eq_true, Bool.or_eq_true] at *); (repeat' split) <;> first | rfl | (exfalso; omega))) ?_
      refine evc_go 1000 5 (by kernel_rfl) ?_
      exact evc_end (Go.V.Val.bool Bool.true) ({ H := [], L := [] }) (by kernel_rfl) (by first | with_reducible rfl | assumption | (simp_all; done) | omega | (simp_all; omega) | ((try simp only [decide_eq_true_eq, decide_eq_false_iff_not, beq_iff_eq, beq_eq_false_iff_ne, ne_eq, Bool.and_eq_true, Bool.or_eq_true] at *); (repeat' split) <;> first | rfl | (exfalso; omega))) (by first | with_reducible rfl | assumption | (simp_all; done) | omega | (simp_all; omega) | ((try simp only [decide_eq_true_eq, decide_eq_false_iff_not, beq_iff_eq, beq_eq_false_iff_ne, ne_eq, Bool.and_eq_true, Bool.or_eq_true] at *); (repeat' split) <;> first | rfl | (exfalso; omega)))
/-- the law, where the kind is the one of number 1 -/
theorem D8_2 (kx n : Int) (s : List UInt8) (q : Q) (l : List It) (kd lo hi more : Nat) (hkd : kd < 256) (hlo : lo < 256) (hhi : hi < 256) (hmo : more < 256) (hr : kd % 3 = 1) (g : Bool) (e : Int) (ch : Int)
    (h18 : Go.V.Call E0 18 [.agg (i4 kx n s l q)] s0 (.bool g) s0) (h25 : g = false → Go.V.Call E0 25 [.agg (i4 kx n s l q)] s0 (.int .i64 e) s0) (h24 : g = false → Go.V.Call E0 24 [.agg (i4 kx n s l q)] s0 (.int .i64 ch) s0) :
    Go.V.Call E0 8 [.agg (i4 kx n s l q), .int .u8 (kd : Int), .int .u8 (lo : Int), .int .u8 (hi : Int), .int .u8 (more : Int)] s0 (.bool true) s0 := by
  have h48 := d48
  cases g with
  | true =>
    clear h25 h24
    refine call_cfg (by kernel_rfl) ?_
    refine evc_go 1000 8 (by kernel_rfl) ?_
    refine evc_call (by kernel_rfl) (by kernel_rfl) (h48) (by kernel_rfl) ?_
    refine evc_go 1000 8 (by kernel_rfl) ?_
    refine evc_call (by kernel_rfl) (by kernel_rfl) (h18) (by kernel_rfl) ?_
    refine evc_go 1000 11 (by kernel_rfl) ?_
    exact evc_end (Go.V.Val.bool Bool.true) ({ H := [], L := [] }) (by kernel_rfl) (by first | with_reducible rfl | assumption | (simp_all; done) | omega | (simp_all; omega) | ((try simp only [decide_eq_true_eq, decide_eq_false_iff_not, beq_iff_eq, beq_eq_false_iff_ne, ne_eq, Bool.and_eq_true, Bool.or_eq_true] at *); (repeat' split) <;> first | rfl | (exfalso; omega))) (by first | with_reducible rfl | assumption | (simp_all; done) | omega | (simp_all; omega) | ((try simp only [decide_eq_true_eq, decide_eq_false_iff_not, beq_iff_eq, beq_eq_false_iff_ne, ne_eq, Bool.and_eq_true, Bool.or_eq_true] at *); (repeat' split) <;> first | rfl | (exfalso; omega)))
  | false =>
    have k25 := h25 rfl
    have k24 := h24 rfl
    clear h25 h24
    by_cases he : e = 0
    · subst he
      have w1 : IntKind.wrap .i64 (kd : Int) = (kd : Int) := wrap_id (by omega) (by omega)
      have w2 : IntKind.wrap .i64 (lo : Int) = (lo : Int) := wrap_id (by omega) (by omega)
      have w3 : IntKind.wrap .i64 (hi : Int) = (hi : Int) := wrap_id (by omega) (by omega)
      have w4 : IntKind.wrap .i64 (more : Int) = (more : Int) := wrap_id (by omega) (by omega)
      have w5 : IntKind.wrap .i64 (IntKind.wrap .i64 (lo : Int) + IntKind.wrap .i64 (hi : Int)) = ((lo + hi : Nat) : Int) := by rw [w2, w3]; exact wrap_id (by omega) (by omega)
      have w6 : IntKind.wrap .i64 (IntKind.wrap .i64 (lo : Int) - IntKind.wrap .i64 (more : Int)) = (lo : Int) - (more : Int) := by rw [w2, w4]; exact wrap_id (by omega) (by omega)
      have w7 : IntKind.wrap .i64 (IntKind.wrap .i64 (IntKind.wrap .i64 (lo : Int) + IntKind.wrap .i64 (hi : Int)) + IntKind.wrap .i64 (more : Int)) = ((lo + hi + more : Nat) : Int) := by rw [w5, w4]; exact wrap_id (by omega) (by omega)
      have hk : IntKind.wrap .i64 ((IntKind.wrap .i64 (kd : Int)).tmod 3) = ((1 : Nat) : Int) := by
        rw [w1]
        have : (kd : Int).tmod 3 = ((kd % 3 : Nat) : Int) := (Int.ofNat_tmod kd 3).symm
        rw [this, hr]; exact wrap_id (by omega) (by omega)
      have hk2 : (IntKind.wrap .i64 (kd : Int)).tmod 3 = ((1 : Nat) : Int) := by
        rw [w1]
        have : (kd : Int).tmod 3 = ((kd % 3 : Nat) : Int) := (Int.ofNat_tmod kd 3).symm
        rw [this, hr]
      have b0 : 0 ≤ IntKind.wrap .i64 (lo : Int) := by rw [w2]; omega
      have b1 : IntKind.wrap .i64 (lo : Int) ≤ IntKind.wrap .i64 (IntKind.wrap .i64 (lo : Int) + IntKind.wrap .i64 (hi : Int)) := by rw [w5, w2]; omega
      have b2 : 0 ≤ (if 0 > IntKind.wrap .i64 (IntKind.wrap .i64 (lo : Int) - IntKind.wrap .i64 (more : Int)) then 0 else IntKind.wrap .i64 (IntKind.wrap .i64 (lo : Int) - IntKind.wrap .i64 (more : Int))) := by rw [w6]; split <;> omega
      have b3 : (if 0 > IntKind.wrap .i64 (IntKind.wrap .i64 (lo : Int) - IntKind.wrap .i64 (more : Int)) then 0 else IntKind.wrap .i64 (IntKind.wrap .i64 (lo : Int) - IntKind.wrap .i64 (more : Int))) ≤ IntKind.wrap .i64 (IntKind.wrap .i64 (IntKind.wrap .i64 (lo : Int) + IntKind.wrap .i64 (hi : Int)) + IntKind.wrap .i64 (more : Int)) := by rw [w6, w7]; split <;> omega
      have b4 : (if 0 > IntKind.wrap .i64 (IntKind.wrap .i64 (lo : Int) - IntKind.wrap .i64 (more : Int)) then 0 else IntKind.wrap .i64 (IntKind.wrap .i64 (lo : Int) - IntKind.wrap .i64 (more : Int))) ≤ IntKind.wrap .i64 (lo : Int) := by rw [w6, w2]; split <;> omega
      have b5 : IntKind.wrap .i64 (IntKind.wrap .i64 (lo : Int) + IntKind.wrap .i64 (hi : Int)) ≤ IntKind.wrap .i64 (IntKind.wrap .i64 (IntKind.wrap .i64 (lo : Int) + IntKind.wrap .i64 (hi : Int)) + IntKind.wrap .i64 (more : Int)) := by rw [w7, w5]; omega
      have hwid := inB_wider (numK 2 kx n s) b4 b5
      have m0 := d49_2_0 _ _ _ _ b0 b1 b2 b3 kx n s q l ch k24
      have m1 := d49_2_1 _ _ _ _ b0 b1 b2 b3 kx n s q l ch k24
      have m2 := d49_2_2 _ _ _ _ b0 b1 b2 b3 kx n s q l ch k24
      generalize inB (numK 2 kx n s) _ (IntKind.wrap .i64 (IntKind.wrap .i64 (lo : Int) + IntKind.wrap .i64 (hi : Int))) = x at *
      generalize inB (numK 2 kx n s) _ (IntKind.wrap .i64 (IntKind.wrap .i64 (IntKind.wrap .i64 (lo : Int) + IntKind.wrap .i64 (hi : Int)) + IntKind.wrap .i64 (more : Int))) = y at *
      generalize decide (ch = 0) = z at *
      clear k24 w1 w2 w3 w4 w5 w6 w7 hk b0 b1 b2 b3 b4 b5
      cases z with
      | false =>
        simp only [Bool.false_and] at m0 m1 m2
        clear hwid
        refine call_cfg (by kernel_rfl) ?_
        refine evc_go 1000 8 (by kernel_rfl) ?_
        refine evc_call (by kernel_rfl) (by kernel_rfl) (h48) (by kernel_rfl) ?_
        refine evc_go 1000 8 (by kernel_rfl) ?_
        refine evc_call (by kernel_rfl) (by kernel_rfl) (h18) (by kernel_rfl) ?_
        refine evc_go 1000 2 (by kernel_rfl) ?_
        refine evc_call (by kernel_rfl) (by kernel_rfl) (k25) (by kernel_rfl) ?_
        refine evc_go 1000 11 (by kernel_rfl) ?_
        refine evc_set 30 (Go.V.Val.int Go.IntKind.i64 ((Go.IntKind.i64.wrap (↑kd : Int)).tmod 3)) (Go.V.Val.int Go.IntKind.i64 (↑1 : Int)) (by kernel_rfl) (congrArg (Go.V.Val.int Go.IntKind.i64) hk2) ?_
        refine evc_go 1000 44 (by kernel_rfl) ?_
        refine evc_call (by kernel_rfl) (by kernel_rfl) (m0) (by kernel_rfl) ?_
        refine evc_go 1000 2 (by kernel_rfl) ?_
        refine evc_call (by kernel_rfl) (by kernel_rfl) (m1) (by kernel_rfl) ?_
        refine evc_go 1000 2 (by kernel_rfl) ?_
        refine evc_call (by kernel_rfl) (by kernel_rfl) (m2) (by kernel_rfl) ?_
        refine evc_go 1000 26 (by kernel_rfl) ?_
        exact evc_end (Go.V.Val.bool Bool.true) ({ H := [], L := [] }) (by kernel_rfl) (by first | with_reducible rfl | assumption | (simp_all; done) | omega | (simp_all; omega) | ((try simp only [decide_eq_true_eq, decide_eq_false_iff_not, beq_iff_eq, beq_eq_false_iff_ne, ne_eq, Bool.and_eq_true, Bool.or_eq_true] at *); (repeat' split) <;> first | rfl | (exfalso; omega))) (by first | with_reducible rfl | assumption | (simp_all; done) | omega | (simp_all; omega) | ((try simp only [decide_eq_true_eq, decide_eq_false_iff_not, beq_iff_eq, beq_eq_false_iff_ne, ne_eq, Bool.and_eq_true, Bool.or_eq_true] at *); (repeat' split) <;> first | rfl | (exfalso; omega)))
      | true =>
        simp only [Bool.true_and] at m0 m1 m2
        cases x with
        | true =>
          have hy := hwid rfl
          subst hy
          clear hwid
          simp only [Bool.or_self] at m0
          refine call_cfg (by kernel_rfl) ?_
          refine evc_go 1000 8 (by kernel_rfl) ?_
          refine evc_call (by kernel_rfl) (by kernel_rfl) (h48) (by kernel_rfl) ?_
          refine evc_go 1000 8 (by kernel_rfl) ?_
          refine evc_call (by kernel_rfl) (by kernel_rfl) (h18) (by kernel_rfl) ?_
          refine evc_go 1000 2 (by kernel_rfl) ?_
          refine evc_call (by kernel_rfl) (by kernel_rfl) (k25) (by kernel_rfl) ?_
          refine evc_go 1000 11 (by kernel_rfl) ?_
          refine evc_set 30 (Go.V.Val.int Go.IntKind.i64 ((Go.IntKind.i64.wrap (↑kd : Int)).tmod 3)) (Go.V.Val.int Go.IntKind.i64 (↑1 : Int)) (by kernel_rfl) (congrArg (Go.V.Val.int Go.IntKind.i64) hk2) ?_
          refine evc_go 1000 44 (by kernel_rfl) ?_
          refine evc_call (by kernel_rfl) (by kernel_rfl) (m0) (by kernel_rfl) ?_
          refine evc_go 1000 2 (by kernel_rfl) ?_
          refine evc_call (by kernel_rfl) (by kernel_rfl) (m1) (by kernel_rfl) ?_
          refine evc_go 1000 2 (by kernel_rfl) ?_
          refine evc_call (by kernel_rfl) (by kernel_rfl) (m2) (by kernel_rfl) ?_
          refine evc_go 1000 26 (by kernel_rfl) ?_
          exact evc_end (Go.V.Val.bool Bool.true) ({ H := [], L := [] }) (by kernel_rfl) (by first | with_reducible rfl | assumption | (simp_all; done) | omega | (simp_all; omega) | ((try simp only [decide_eq_true_eq, decide_eq_false_iff_not, beq_iff_eq, beq_eq_false_iff_ne, ne_eq, Bool.and_eq_true, Bool.or_eq_true] at *); (repeat' split) <;> first | rfl | (exfalso; omega))) (by first | with_reducible rfl | assumption | (simp_all; done) | omega | (simp_all; omega) | ((try simp only [decide_eq_true_eq, decide_eq_false_iff_not, beq_iff_eq, beq_eq_false_iff_ne, ne_eq, Bool.and_eq_true, Bool.or_eq_true] at *); (repeat' split) <;> first | rfl | (exfalso; omega)))
        | false =>
          clear hwid
          simp only [Bool.false_or] at m0
          cases y with
          | true =>
            refine call_cfg (by kernel_rfl) ?_
            refine evc_go 1000 8 (by kernel_rfl) ?_
            refine evc_call (by kernel_rfl) (by kernel_rfl) (h48) (by kernel_rfl) ?_
            refine evc_go 1000 8 (by kernel_rfl) ?_
            refine evc_call (by kernel_rfl) (by kernel_rfl) (h18) (by kernel_rfl) ?_
            refine evc_go 1000 2 (by kernel_rfl) ?_
            refine evc_call (by kernel_rfl) (by kernel_rfl) (k25) (by kernel_rfl) ?_
            refine evc_go 1000 11 (by kernel_rfl) ?_
            refine evc_set 30 (Go.V.Val.int Go.IntKind.i64 ((Go.IntKind.i64.wrap (↑kd : Int)).tmod 3)) (Go.V.Val.int Go.IntKind.i64 (↑1 : Int)) (by kernel_rfl) (congrArg (Go.V.Val.int Go.IntKind.i64) hk2) ?_
            refine evc_go 1000 44 (by kernel_rfl) ?_
            refine evc_call (by kernel_rfl) (by kernel_rfl) (m0) (by kernel_rfl) ?_
            refine evc_go 1000 2 (by kernel_rfl) ?_
            refine evc_call (by kernel_rfl) (by kernel_rfl) (m1) (by kernel_rfl) ?_
            refine evc_go 1000 2 (by kernel_rfl) ?_
            refine evc_call (by kernel_rfl) (by kernel_rfl) (m2) (by kernel_rfl) ?_
            refine evc_go 1000 26 (by kernel_rfl) ?_
            exact evc_end (Go.V.Val.bool Bool.true) ({ H := [], L := [] }) (by kernel_rfl) (by first | with_reducible rfl | assumption | (simp_all; done) | omega | (simp_all; omega) | ((try simp only [decide_eq_true_eq, decide_eq_false_iff_not, beq_iff_eq, beq_eq_false_iff_ne, ne_eq, Bool.and_eq_true, Bool.or_eq_true] at *); (repeat' split) <;> first | rfl | (exfalso; omega))) (by first | with_reducible rfl | assumption | (simp_all; done) | omega | (simp_all; omega) | ((try simp only [decide_eq_true_eq, decide_eq_false_iff_not, beq_iff_eq, beq_eq_false_iff_ne, ne_eq, Bool.and_eq_true, Bool.or_eq_true] at *); (repeat' split) <;> first | rfl | (exfalso; omega)))
          | false =>
            refine call_cfg (by kernel_rfl) ?_
            refine evc_go 1000 8 (by kernel_rfl) ?_
            refine evc_call (by kernel_rfl) (by kernel_rfl) (h48) (by kernel_rfl) ?_
            refine evc_go 1000 8 (by kernel_rfl) ?_
            refine evc_call (by kernel_rfl) (by kernel_rfl) (h18) (by kernel_rfl) ?_
            refine evc_go 1000 2 (by kernel_rfl) ?_
            refine evc_call (by kernel_rfl) (by kernel_rfl) (k25) (by kernel_rfl) ?_
            refine evc_go 1000 11 (by kernel_rfl) ?_
            refine evc_set 30 (Go.V.Val.int Go.IntKind.i64 ((Go.IntKind.i64.wrap (↑kd : Int)).tmod 3)) (Go.V.Val.int Go.IntKind.i64 (↑1 : Int)) (by kernel_rfl) (congrArg (Go.V.Val.int Go.IntKind.i64) hk2) ?_
            refine evc_go 1000 44 (by kernel_rfl) ?_
            refine evc_call (by kernel_rfl) (by kernel_rfl) (m0) (by kernel_rfl) ?_
            refine evc_go 1000 2 (by kernel_rfl) ?_
            refine evc_call (by kernel_rfl) (by kernel_rfl) (m1) (by kernel_rfl) ?_
            refine evc_go 1000 2 (by kernel_rfl) ?_
            refine evc_call (by kernel_rfl) (by kernel_rfl) (m2) (by kernel_rfl) ?_
            refine evc_go 1000 26 (by kernel_rfl) ?_
            exact evc_end (Go.V.Val.bool Bool.true) ({ H := [], L := [] }) (by kernel_rfl) (by first | with_reducible rfl | assumption | (simp_all; done) | omega | (simp_all; omega) | ((try simp only [decide_eq_true_eq, decide_eq_false_iff_not, beq_iff_eq, beq_eq_false_iff_ne, ne_eq, Bool.and_eq_true, Bool.or_eq_true] at *); (repeat' split) <;> first | rfl | (exfalso; omega))) (by first | with_reducible rfl | assumption | (simp_all; done) | omega | (simp_all; omega) | ((try simp only [decide_eq_true_eq, decide_eq_false_iff_not, beq_iff_eq, beq_eq_false_iff_ne, ne_eq, Bool.and_eq_true, Bool.or_eq_true] at *); (repeat' split) <;> first | rfl | (exfalso; omega)))
    · clear k24
      refine call_cfg (by kernel_rfl) ?_
      refine evc_go 1000 8 (by kernel_rfl) ?_
      refine evc_call (by kernel_rfl) (by kernel_rfl) (h48) (by kernel_rfl) ?_
      refine evc_go 1000 8 (by kernel_rfl) ?_
      refine evc_call (by kernel_rfl) (by kernel_rfl) (h18) (by kernel_rfl) ?_
      refine evc_go 1000 2 (by kernel_rfl) ?_
      refine evc_call (by kernel_rfl) (by kernel_rfl) (k25) (by kernel_rfl) ?_
      refine evc_go 1000 3 (by kernel_rfl) ?_
      refine evc_is 26 (e != 0) true (by kernel_rfl) (by first | with_reducible rfl | assumption | (simp_all; done) | omega | (simp_all; omega) | ((try simp only [decide_eq_true_eq, decide_eq_false_iff_not, beq_iff_eq, beq_eq_false_iff_ne, ne_eq, Bool.and_eq_true, Bool.or_eq_true] at *); (repeat' split) <;> first | rfl | (exfalso; omega))) ?_
      refine evc_go 1000 5 (by kernel_rfl) ?_
      exact evc_end (Go.V.Val.bool Bool.true) ({ H := [], L := [] }) (by kernel_rfl) (by first | with_reducible rfl | assumption | (simp_all; done) | omega | (simp_all; omega) | ((try simp only [decide_eq_true_eq, decide_eq_false_iff_not, beq_iff_eq, beq_eq_false_iff_ne, ne_eq, Bool.and_eq_true, Bool.or_eq_true] at *); (repeat' split) <;> first | rfl | (exfalso; omega))) (by first | with_reducible rfl | assumption | (simp_all; done) | omega | (simp_all; omega) | ((try simp only [decide_eq_true_eq, decide_eq_false_iff_not, beq_iff_eq, beq_eq_false_iff_ne, ne_eq, Bool.and_eq_true, Bool.or_eq_true] at *); (repeat' split) <;> first | rfl | (exfalso; omega)))
/-- the law, where the kind is the one of number 2 -/
theorem D8_3 (kx n : Int) (s : List UInt8) (q : Q) (l : List It) (kd lo hi more : Nat) (hkd : kd < 256) (hlo : lo < 256) (hhi : hi < 256) (hmo : more < 256) (hr : kd % 3 = 2) (g : Bool) (e : Int) (ch : Int)
    (h18 : Go.V.Call E0 18 [.agg (i4 kx n s l q)] s0 (.bool g) s0) (h25 : g = false → Go.V.Call E0 25 [.agg (i4 kx n s l q)] s0 (.int .i64 e) s0) (h24 : g = false → Go.V.Call E0 24 [.agg (i4 kx n s l q)] s0 (.int .i64 ch) s0) :
    Go.V.Call E0 8 [.agg (i4 kx n s l q), .int .u8 (kd : Int), .int .u8 (lo : Int), .int .u8 (hi : Int), .int .u8 (more : Int)] s0 (.bool true) s0 := by
  have h48 := d48
  cases g with
  | true =>
    clear h25 h24
    refine call_cfg (by kernel_rfl) ?_
    refine evc_go 1000 8 (by kernel_rfl) ?_
    refine evc_call (by kernel_rfl) (by kernel_rfl) (h48) (by kernel_rfl) ?_
    refine evc_go 1000 8 (by kernel_rfl) ?_
    refine evc_call (by kernel_rfl) (by kernel_rfl) (h18) (by kernel_rfl) ?_
    refine evc_go 1000 11 (by kernel_rfl) ?_
    exact evc_end (Go.V.Val.bool Bool.true) ({ H := [], L := [] }) (by kernel_rfl) (by first | with_reducible rfl | assumption | (simp_all; done) | omega | (simp_all; omega) | ((try simp only [decide_eq_true_eq, decide_eq_false_iff_not, beq_iff_eq, beq_eq_false_iff_ne, ne_eq, Bool.and_eq_true, Bool.or_eq_true] at *); (repeat' split) <;> first | rfl | (exfalso; omega))) (by first | with_reducible rfl | assumption | (simp_all; done) | omega | (simp_all; omega) | ((try simp only [decide_eq_true_eq, decide_eq_false_iff_not, beq_iff_eq, beq_eq_false_iff_ne, ne_eq, Bool.and_eq_true, Bool.or_eq_true] at *); (repeat' split) <;> first | rfl | (exfalso; omega)))
  | false =>
    have k25 := h25 rfl
    have k24 := h24 rfl
    clear h25 h24
    by_cases he : e = 0
    · subst he
      have w1 : IntKind.wrap .i64 (kd : Int) = (kd : Int) := wrap_id (by omega) (by omega)
      have w2 : IntKind.wrap .i64 (lo : Int) = (lo : Int) := wrap_id (by omega) (by omega)
      have w3 : IntKind.wrap .i64 (hi : Int) = (hi : Int) := wrap_id (by omega) (by omega)
      have w4 : IntKind.wrap .i64 (more : Int) = (more : Int) := wrap_id (by omega) (by omega)
      have w5 : IntKind.wrap .i64 (IntKind.wrap .i64 (lo : Int) + IntKind.wrap .i64 (hi : Int)) = ((lo + hi : Nat) : Int) := by rw [w2, w3]; exact wrap_id (by omega) (by omega)
      have w6 : IntKind.wrap .i64 (IntKind.wrap .i64 (lo : Int) - IntKind.wrap .i64 (more : Int)) = (lo : Int) - (more : Int) := by rw [w2, w4]; exact wrap_id (by omega) (by omega)
      have w7 : IntKind.wrap .i64 (IntKind.wrap .i64 (IntKind.wrap .i64 (lo : Int) + IntKind.wrap .i64 (hi : Int)) + IntKind.wrap .i64 (more : Int)) = ((lo + hi + more : Nat) : Int) := by rw [w5, w4]; exact wrap_id (by omega) (by omega)
      have hk : IntKind.wrap .i64 ((IntKind.wrap .i64 (kd : Int)).tmod 3) = ((2 : Nat) : Int) := by
        rw [w1]
        have : (kd : Int).tmod 3 = ((kd % 3 : Nat) : Int) := (Int.ofNat_tmod kd 3).symm
        rw [this, hr]; exact wrap_id (by omega) (by omega)
      have hk2 : (IntKind.wrap .i64 (kd : Int)).tmod 3 = ((2 : Nat) : Int) := by
        rw [w1]
        have : (kd : Int).tmod 3 = ((kd % 3 : Nat) : Int) := (Int.ofNat_tmod kd 3).symm
        rw [this, hr]
      have b0 : 0 ≤ IntKind.wrap .i64 (lo : Int) := by rw [w2]; omega
      have b1 : IntKind.wrap .i64 (lo : Int) ≤ IntKind.wrap .i64 (IntKind.wrap .i64 (lo : Int) + IntKind.wrap .i64 (hi : Int)) := by rw [w5, w2]; omega
      have b2 : 0 ≤ (if 0 > IntKind.wrap .i64 (IntKind.wrap .i64 (lo : Int) - IntKind.wrap .i64 (more : Int)) then 0 else IntKind.wrap .i64 (IntKind.wrap .i64 (lo : Int) - IntKind.wrap .i64 (more : Int))) := by rw [w6]; split <;> omega
      have b3 : (if 0 > IntKind.wrap .i64 (IntKind.wrap .i64 (lo : Int) - IntKind.wrap .i64 (more : Int)) then 0 else IntKind.wrap .i64 (IntKind.wrap .i64 (lo : Int) - IntKind.wrap .i64 (more : Int))) ≤ IntKind.wrap .i64 (IntKind.wrap .i64 (IntKind.wrap .i64 (lo : Int) + IntKind.wrap .i64 (hi : Int)) + IntKind.wrap .i64 (more : Int)) := by rw [w6, w7]; split <;> omega
      have b4 : (if 0 > IntKind.wrap .i64 (IntKind.wrap .i64 (lo : Int) - IntKind.wrap .i64 (more : Int)) then 0 else IntKind.wrap .i64 (IntKind.wrap .i64 (lo : Int) - IntKind.wrap .i64 (more : Int))) ≤ IntKind.wrap .i64 (lo : Int) := by rw [w6, w2]; split <;> omega
      have b5 : IntKind.wrap .i64 (IntKind.wrap .i64 (lo : Int) + IntKind.wrap .i64 (hi : Int)) ≤ IntKind.wrap .i64 (IntKind.wrap .i64 (IntKind.wrap .i64 (lo : Int) + IntKind.wrap .i64 (hi : Int)) + IntKind.wrap .i64 (more : Int)) := by rw [w7, w5]; omega
      have hwid := inB_wider (numK 3 kx n s) b4 b5
      have m0 := d49_3_0 _ _ _ _ b0 b1 b2 b3 kx n s q l ch k24
      have m1 := d49_3_1 _ _ _ _ b0 b1 b2 b3 kx n s q l ch k24
      have m2 := d49_3_2 _ _ _ _ b0 b1 b2 b3 kx n s q l ch k24
      generalize inB (numK 3 kx n s) _ (IntKind.wrap .i64 (IntKind.wrap .i64 (lo : Int) + IntKind.wrap .i64 (hi : Int))) = x at *
      generalize inB (numK 3 kx n s) _ (IntKind.wrap .i64 (IntKind.wrap .i64 (IntKind.wrap .i64 (lo : Int) + IntKind.wrap .i64 (hi : Int)) + IntKind.wrap .i64 (more : Int))) = y at *
      generalize decide (ch = 0) = z at *
      clear k24 w1 w2 w3 w4 w5 w6 w7 hk b0 b1 b2 b3 b4 b5
      cases z with
      | false =>
        simp only [Bool.false_and] at m0 m1 m2
        clear hwid
        refine call_cfg (by kernel_rfl) ?_
        refine evc_go 1000 8 (by kernel_rfl) ?_
        refine evc_call (by kernel_rfl) (by kernel_rfl) (h48) (by kernel_rfl) ?_
        refine evc_go 1000 8 (by kernel_rfl) ?_
        refine evc_call (by kernel_rfl) (by kernel_rfl) (h18) (by kernel_rfl) ?_
        refine evc_go 1000 2 (by kernel_rfl) ?_
        refine evc_call (by kernel_rfl) (by kernel_rfl) (k25) (by kernel_rfl) ?_
        refine evc_go 1000 11 (by kernel_rfl) ?_
        refine evc_set 30 (Go.V.Val.int Go.IntKind.i64 ((Go.IntKind.i64.wrap (↑kd : Int)).tmod 3)) (Go.V.Val.int Go.IntKind.i64 (↑2 : Int)) (by kernel_rfl) (congrArg (Go.V.Val.int Go.IntKind.i64) hk2) ?_
        refine evc_go 1000 44 (by kernel_rfl) ?_
        refine evc_call (by kernel_rfl) (by kernel_rfl) (m0) (by kernel_rfl) ?_
        refine evc_go 1000 2 (by kernel_rfl) ?_
        refine evc_call (by kernel_rfl) (by kernel_rfl) (m1) (by kernel_rfl) ?_
        refine evc_go 1000 2 (by kernel_rfl) ?_
        refine evc_call (by kernel_rfl) (by kernel_rfl) (m2) (by kernel_rfl) ?_
        refine evc_go 1000 26 (by kernel_rfl) ?_
        exact evc_end (Go.V.Val.bool Bool.true) ({ H := [], L := [] }) (by kernel_rfl) (by first | with_reducible rfl | assumption | (simp_all; done) | omega | (simp_all; omega) | ((try simp only [decide_eq_true_eq, decide_eq_false_iff_not, beq_iff_eq, beq_eq_false_iff_ne, ne_eq, Bool.and_eq_true, Bool.or_eq_true] at *); (repeat' split) <;> first | rfl | (exfalso; omega))) (by first | with_reducible rfl | assumption | (simp_all; done) | omega | (simp_all; omega) | ((try simp only [decide_eq_true_eq, decide_eq_false_iff_not, beq_iff_eq, beq_eq_false_iff_ne, ne_eq, Bool.and_eq_true, Bool.or_eq_true] at *); (repeat' split) <;> first | rfl | (exfalso; omega)))
      | true =>
        simp only [Bool.true_and] at m0 m1 m2
        cases x with
        | true =>
          have hy := hwid rfl
          subst hy
          clear hwid
          simp only [Bool.or_self] at m0
          refine call_cfg (by kernel_rfl) ?_
          refine evc_go 1000 8 (by kernel_rfl) ?_
          refine evc_call (by kernel_rfl) (by kernel_rfl) (h48) (by kernel_rfl) ?_
          refine evc_go 1000 8 (by kernel_rfl) ?_
          refine evc_call (by kernel_rfl) (by kernel_rfl) (h18) (by kernel_rfl) ?_
          refine evc_go 1000 2 (by kernel_rfl) ?_
          refine evc_call (by kernel_rfl) (by kernel_rfl) (k25) (by kernel_rfl) ?_
          refine evc_go 1000 11 (by kernel_rfl) ?_
          refine evc_set 30 (Go.V.Val.int Go.IntKind.i64 ((Go.IntKind.i64.wrap (↑kd : Int)).tmod 3)) (Go.V.Val.int Go.IntKind.i64 (↑2 : Int)) (by kernel_rfl) (congrArg (Go.V.Val.int Go.IntKind.i64) hk2) ?_
          refine evc_go 1000 44 (by kernel_rfl) ?_
          refine evc_call (by kernel_rfl) (by kernel_rfl) (m0) (by kernel_rfl) ?_
          refine evc_go 1000 2 (by kernel_rfl) ?_
          refine evc_call (by kernel_rfl) (by kernel_rfl) (m1) (by kernel_rfl) ?_
          refine evc_go 1000 2 (by kernel_rfl) ?_
          refine evc_call (by kernel_rfl) (by kernel_rfl) (m2) (by kernel_rfl) ?_
          refine evc_go 1000 26 (by kernel_rfl) ?_
          exact evc_end (Go.V.Val.bool Bool.true) ({ H := [], L := [] }) (by kernel_rfl) (by first | with_reducible rfl | assumption | (simp_all; done) | omega | (simp_all; omega) | ((try simp only [decide_eq_true_eq, decide_eq_false_iff_not, beq_iff_eq, beq_eq_false_iff_ne, ne_eq, Bool.and_eq_true, Bool.or_eq_true] at *); (repeat' split) <;> first | rfl | (exfalso; omega))) (by first | with_reducible rfl | assumption | (simp_all; done) | omega | (simp_all; omega) | ((try simp only [decide_eq_true_eq, decide_eq_false_iff_not, beq_iff_eq, beq_eq_false_iff_ne, ne_eq, Bool.and_eq_true, Bool.or_eq_true] at *); (repeat' split) <;> first | rfl | (exfalso; omega)))
        | false =>
          clear hwid
          simp only [Bool.false_or] at m0
          cases y with
          | true =>
            refine call_cfg (by kernel_rfl) ?_
            refine evc_go 1000 8 (by kernel_rfl) ?_
            refine evc_call (by kernel_rfl) (by kernel_rfl) (h48) (by kernel_rfl) ?_
            refine evc_go 1000 8 (by kernel_rfl) ?_
            refine evc_call (by kernel_rfl) (by kernel_rfl) (h18) (by kernel_rfl) ?_
            refine evc_go 1000 2 (by kernel_rfl) ?_
            refine evc_call (by kernel_rfl) (by kernel_rfl) (k25) (by kernel_rfl) ?_
            refine evc_go 1000 11 (by kernel_rfl) ?_
            refine evc_set 30 (Go.V.Val.int Go.IntKind.i64 ((Go.IntKind.i64.wrap (↑kd : Int)).tmod 3)) (Go.V.Val.int Go.IntKind.i64 (↑2 : Int)) (by kernel_rfl) (congrArg (Go.V.Val.int Go.IntKind.i64) hk2) ?_
            refine evc_go 1000 44 (by kernel_rfl) ?_
            refine evc_call (by kernel_rfl) (by kernel_rfl) (m0) (by kernel_rfl) ?_
            refine evc_go 1000 2 (by kernel_rfl) ?_
            refine evc_call (by kernel_rfl) (by kernel_rfl) (m1) (by kernel_rfl) ?_
            refine evc_go 1000 2 (by kernel_rfl) ?_
            refine evc_call (by kernel_rfl) (by kernel_rfl) (m2) (by kernel_rfl) ?_
            refine evc_go 1000 26 (by kernel_rfl) ?_
            exact evc_end (Go.V.Val.bool Bool.true) ({ H := [], L := [] }) (by kernel_rfl) (by first | with_reducible rfl | assumption | (simp_all; done) | omega | (simp_all; omega) | ((try simp only [decide_eq_true_eq, decide_eq_false_iff_not, beq_iff_eq, beq_eq_false_iff_ne, ne_eq, Bool.and_eq_true, Bool.or_eq_true] at *); (repeat' split) <;> first | rfl | (exfalso; omega))) (by first | with_reducible rfl | assumption | (simp_all; done) | omega | (simp_all; omega) | ((try simp only [decide_eq_true_eq, decide_eq_false_iff_not, beq_iff_eq, beq_eq_false_iff_ne, ne_eq, Bool.and_eq_true, Bool.or_eq_true] at *); (repeat' split) <;> first | rfl | (exfalso; omega)))
          | false =>
            refine call_cfg (by kernel_rfl) ?_
            refine evc_go 1000 8 (by kernel_rfl) ?_
            refine evc_call (by kernel_rfl) (by kernel_rfl) (h48) (by kernel_rfl) ?_
            refine evc_go 1000 8 (by kernel_rfl) ?_
            refine evc_call (by kernel_rfl) (by kernel_rfl) (h18) (by kernel_rfl) ?_
            refine evc_go 1000 2 (by kernel_rfl) ?_
            refine evc_call (by kernel_rfl) (by kernel_rfl) (k25) (by kernel_rfl) ?_
            refine evc_go 1000 11 (by kernel_rfl) ?_
            refine evc_set 30 (Go.V.Val.int Go.IntKind.i64 ((Go.IntKind.i64.wrap (↑kd : Int)).tmod 3)) (Go.V.Val.int Go.IntKind.i64 (↑2 : Int)) (by kernel_rfl) (congrArg (Go.V.Val.int Go.IntKind.i64) hk2) ?_
            refine evc_go 1000 44 (by kernel_rfl) ?_
            refine evc_call (by kernel_rfl) (by kernel_rfl) (m0) (by kernel_rfl) ?_
            refine evc_go 1000 2 (by kernel_rfl) ?_
            refine evc_call (by kernel_rfl) (by kernel_rfl) (m1) (by kernel_rfl) ?_
            refine evc_go 1000 2 (by kernel_rfl) ?_
            refine evc_call (by kernel_rfl) (by kernel_rfl) (m2) (by kernel_rfl) ?_
            refine evc_go 1000 26 (by kernel_rfl) ?_
            exact evc_end (Go.V.Val.bool Bool.true) ({ H := [], L := [] }) (by kernel_rfl) (by first | with_reducible rfl | assumption | (simp_all; done) | omega | (simp_all; omega) | ((try simp only [decide_eq_true_eq, decide_eq_false_iff_not, beq_iff_eq, beq_eq_false_iff_ne, ne_eq, Bool.and_eq_true, Bool.or_eq_true] at *); (repeat' split) <;> first | rfl | (exfalso; omega))) (by first | with_reducible rfl | assumption | (simp_all; done) | omega | (simp_all; omega) | ((try simp only [decide_eq_true_eq, decide_eq_false_iff_not, beq_iff_eq, beq_eq_false_iff_ne, ne_eq, Bool.and_eq_true, Bool.or_eq_true] at *); (repeat' split) <;> first | rfl | (exfalso; omega)))
    · clear k24
      refine call_cfg (by kernel_rfl) ?_
      refine evc_go 1000 8 (by kernel_rfl) ?_
      refine evc_call (by kernel_rfl) (by kernel_rfl) (h48) (by kernel_rfl) ?_
      refine evc_go 1000 8 (by kernel_rfl) ?_
      refine evc_call (by kernel_rfl) (by kernel_rfl) (h18) (by kernel_rfl) ?_
      refine evc_go 1000 2 (by kernel_rfl) ?_
      refine evc_call (by kernel_rfl) (by kernel_rfl) (k25) (by kernel_rfl) ?_
      refine evc_go 1000 3 (by kernel_rfl) ?_
      refine evc_is 26 (e != 0) true (by kernel_rfl) (by first | with_reducible rfl | assumption | (simp_all; done) | omega | (simp_all; omega) | ((try simp only [decide_eq_true_eq, decide_eq_false_iff_not, beq_iff_eq, beq_eq_false_iff_ne, ne_eq, Bool.and_eq_true, Bool.or_eq_true] at *); (repeat' split) <;> first | rfl | (exfalso; omega))) ?_
      refine evc_go 1000 5 (by kernel_rfl) ?_
      exact evc_end (Go.V.Val.bool Bool.true) ({ H := [], L := [] }) (by kernel_rfl) (by first | with_reducible rfl | assumption | (simp_all; done) | omega | (simp_all; omega) | ((try simp only [decide_eq_true_eq, decide_eq_false_iff_not, beq_iff_eq, beq_eq_false_iff_ne, ne_eq, Bool.and_eq_true, Bool.or_eq_true] at *); (repeat' split) <;> first | rfl | (exfalso; omega))) (by first | with_reducible rfl | assumption | (simp_all; done) | omega | (simp_all; omega) | ((try simp only [decide_eq_true_eq, decide_eq_false_iff_not, beq_iff_eq, beq_eq_false_iff_ne, ne_eq, Bool.and_eq_true, Bool.or_eq_true] at *); (repeat' split) <;> first | rfl | (exfalso; omega)))
/-- THE LAW, of items of no more than so many items -/
theorem c8 (x : It) (kd lo hi more : Nat) (hkd : kd < 256) (hlo : lo < 256) (hhi : hi < 256) (hmo : more < 256) (hx : (itemsI x).length ≤ 2 ^ 30) (wx : x.wf) :
    Go.V.Call E0 8 [.agg (encI x), .int .u8 (kd : Int), .int .u8 (lo : Int), .int .u8 (hi : Int), .int .u8 (more : Int)] s0 (.bool true) s0 := by
  have h18 := c18 x s0 hx
  have hok : greatI x = false → okI x := fun hg => by
    simp only [greatI, Bool.or_eq_false_iff] at hg
    exact ⟨wx, hx, fun y hy => by have := (over_short 80 x hg.1 y hy).1; omega⟩
  have h24 := fun hg => check24 x (hok hg) s0
  have h25 := fun hg => check25 x (hok hg) s0
  cases x with
  | mk k n s q l =>
    rw [encI_mk] at *
    have hr : kd % 3 = 0 ∨ kd % 3 = 1 ∨ kd % 3 = 2 := by omega
    rcases hr with hr | hr | hr
    · exact D8_1 k n s q l kd lo hi more hkd hlo hhi hmo hr _ _ _ h18 h25 h24
    · exact D8_2 k n s q l kd lo hi more hkd hlo hhi hmo hr _ _ _ h18 h25 h24
    · exact D8_3 k n s q l kd lo hi more hkd hlo hhi hmo hr _ _ _ h18 h25 h24
end Go.V.W
