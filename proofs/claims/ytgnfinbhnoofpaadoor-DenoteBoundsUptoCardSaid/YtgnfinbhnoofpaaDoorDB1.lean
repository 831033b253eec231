/- DenoteBounds: the schema of a choice of two nodes; what is asked of it. Printed by a program (wip/tools/gendb.py). -/
import Derived.Test.YtgnfinbhnoofpaaDoorVH
import Derived.Test.YtgnfinbhnoofpaaDoorE0
import Derived.Test.YtgnfinbhnoofpaaDoorItem
import Derived.Test.YtgnfinbhnoofpaaDoorWrap
import Derived.Test.YtgnfinbhnoofpaaDoorCheck2
set_option linter.unusedVariables false
set_option linter.unusedSimpArgs false
set_option linter.unusedSectionVars false
open Go Go.V
set_option maxRecDepth 100000
set_option maxHeartbeats 4000000
namespace Go.V.W
abbrev s0 : St := ⟨[], []⟩
abbrev nd (k lo hi : Int) : List Val := [.int .i64 k, .int .i64 lo, .int .i64 hi, .int .i64 0, .int .u64 0, .str [], .sli [] 0 .nil, .sli [] 0 .nil, .sli [] 0 .nil]
abbrev nc : List Val := [.int .i64 10, .int .i64 0, .int .i64 0, .int .i64 0, .int .u64 0, .str [], .sli [] 0 .nil, .sli [.int .i64 1, .int .i64 2] 2 .exact, .sli [] 0 .nil]
abbrev scl (k a b c d : Int) : List Val := [.int .i64 10, .int .i64 0, .int .i64 0, .int .i64 0, .int .u64 0, .str [], .sli [] 0 .nil, .sli [.int .i64 1, .int .i64 2] 2 .exact, .sli [] 0 .nil,
  .int .i64 k, .int .i64 a, .int .i64 b, .int .i64 0, .int .u64 0, .str [], .sli [] 0 .nil, .sli [] 0 .nil, .sli [] 0 .nil,
  .int .i64 k, .int .i64 c, .int .i64 d, .int .i64 0, .int .u64 0, .str [], .sli [] 0 .nil, .sli [] 0 .nil, .sli [] 0 .nil]
abbrev sc (k a b c d : Int) : Val := .agg [.sli (scl k a b c d) 3 .exact]
theorem d86_1 (lo hi : Int) : Go.V.Call E0 86 [.agg (nd 1 lo hi), .agg (nd 1 lo hi)] s0 (.bool true) s0 := by
  refine call_cfg (by kernel_rfl) ?_
  refine evc_go 1000 21 (by kernel_rfl) ?_
  refine evc_is 17 (lo == lo) true (by kernel_rfl) (by first | with_reducible rfl | assumption | (simp_all; done) | omega | (simp_all; omega) | ((try simp only [decide_eq_true_eq, decide_eq_false_iff_not, beq_iff_eq, beq_eq_false_iff_ne, ne_eq, Bool.and_eq_true, Bool.or_eq_true] at *); (repeat' split) <;> first | rfl | (exfalso; omega))) ?_
  refine evc_go 1000 7 (by kernel_rfl) ?_
  refine evc_is 24 (hi == hi) true (by kernel_rfl) (by first | with_reducible rfl | assumption | (simp_all; done) | omega | (simp_all; omega) | ((try simp only [decide_eq_true_eq, decide_eq_false_iff_not, beq_iff_eq, beq_eq_false_iff_ne, ne_eq, Bool.and_eq_true, Bool.or_eq_true] at *); (repeat' split) <;> first | rfl | (exfalso; omega))) ?_
  refine evc_go 1000 22 (by kernel_rfl) ?_
  exact evc_end (Go.V.Val.bool Bool.true) ({ H := [], L := [] }) (by kernel_rfl) (by first | with_reducible rfl | assumption | (simp_all; done) | omega | (simp_all; omega) | ((try simp only [decide_eq_true_eq, decide_eq_false_iff_not, beq_iff_eq, beq_eq_false_iff_ne, ne_eq, Bool.and_eq_true, Bool.or_eq_true] at *); (repeat' split) <;> first | rfl | (exfalso; omega))) (by first | with_reducible rfl | assumption | (simp_all; done) | omega | (simp_all; omega) | ((try simp only [decide_eq_true_eq, decide_eq_false_iff_not, beq_iff_eq, beq_eq_false_iff_ne, ne_eq, Bool.and_eq_true, Bool.or_eq_true] at *); (repeat' split) <;> first | rfl | (exfalso; omega)))
theorem d117_1 (lo hi : Int) (h0 : 0 ≤ lo) (h : lo ≤ hi) : Go.V.Call E0 117 [.agg (nd 1 lo hi)] s0 (.bool true) s0 := by
  refine call_cfg (by kernel_rfl) ?_
  refine evc_go 1000 13 (by kernel_rfl) ?_
  refine evc_is 8 (Decidable.decide (lo ≤ hi)) true (by kernel_rfl) (by first | with_reducible rfl | assumption | (simp_all; done) | omega | (simp_all; omega) | ((try simp only [decide_eq_true_eq, decide_eq_false_iff_not, beq_iff_eq, beq_eq_false_iff_ne, ne_eq, Bool.and_eq_true, Bool.or_eq_true] at *); (repeat' split) <;> first | rfl | (exfalso; omega))) ?_
  refine evc_go 1000 21 (by kernel_rfl) ?_
  exact evc_end (Go.V.Val.bool Bool.true) ({ H := [], L := [] }) (by kernel_rfl) (by first | with_reducible rfl | assumption | (simp_all; done) | omega | (simp_all; omega) | ((try simp only [decide_eq_true_eq, decide_eq_false_iff_not, beq_iff_eq, beq_eq_false_iff_ne, ne_eq, Bool.and_eq_true, Bool.or_eq_true] at *); (repeat' split) <;> first | rfl | (exfalso; omega))) (by first | with_reducible rfl | assumption | (simp_all; done) | omega | (simp_all; omega) | ((try simp only [decide_eq_true_eq, decide_eq_false_iff_not, beq_iff_eq, beq_eq_false_iff_ne, ne_eq, Bool.and_eq_true, Bool.or_eq_true] at *); (repeat' split) <;> first | rfl | (exfalso; omega)))
theorem d83_1_0 (a b c d : Int) : Go.V.Call E0 83 [sc 1 a b c d, .int .i64 0] s0 (.int .i64 0) s0 := call_run 100000 (by kernel_rfl)
theorem d83_1_1 (a b c d : Int) (h0 : 0 ≤ a) (h : a ≤ b) : Go.V.Call E0 83 [sc 1 a b c d, .int .i64 1] s0 (.int .i64 0) s0 := by
  have h1 := d86_1 a b
  have h2 := d117_1 a b h0 h
  refine call_cfg (by kernel_rfl) ?_
  refine evc_go 1000 49 (by kernel_rfl) ?_
  refine evc_call (by kernel_rfl) (by kernel_rfl) (h1) (by kernel_rfl) ?_
  refine evc_go 1000 9 (by kernel_rfl) ?_
  refine evc_call (by kernel_rfl) (by kernel_rfl) (h2) (by kernel_rfl) ?_
  refine evc_go 1000 33 (by kernel_rfl) ?_
  exact evc_end (Go.V.Val.int Go.IntKind.i64 0) ({ H := [], L := [] }) (by kernel_rfl) (by first | with_reducible rfl | assumption | (simp_all; done) | omega | (simp_all; omega) | ((try simp only [decide_eq_true_eq, decide_eq_false_iff_not, beq_iff_eq, beq_eq_false_iff_ne, ne_eq, Bool.and_eq_true, Bool.or_eq_true] at *); (repeat' split) <;> first | rfl | (exfalso; omega))) (by first | with_reducible rfl | assumption | (simp_all; done) | omega | (simp_all; omega) | ((try simp only [decide_eq_true_eq, decide_eq_false_iff_not, beq_iff_eq, beq_eq_false_iff_ne, ne_eq, Bool.and_eq_true, Bool.or_eq_true] at *); (repeat' split) <;> first | rfl | (exfalso; omega)))
theorem d83_1_2 (a b c d : Int) (h0 : 0 ≤ c) (h : c ≤ d) : Go.V.Call E0 83 [sc 1 a b c d, .int .i64 2] s0 (.int .i64 0) s0 := by
  have h1 := d86_1 c d
  have h2 := d117_1 c d h0 h
  refine call_cfg (by kernel_rfl) ?_
  refine evc_go 1000 49 (by kernel_rfl) ?_
  refine evc_call (by kernel_rfl) (by kernel_rfl) (h1) (by kernel_rfl) ?_
  refine evc_go 1000 9 (by kernel_rfl) ?_
  refine evc_call (by kernel_rfl) (by kernel_rfl) (h2) (by kernel_rfl) ?_
  refine evc_go 1000 33 (by kernel_rfl) ?_
  exact evc_end (Go.V.Val.int Go.IntKind.i64 0) ({ H := [], L := [] }) (by kernel_rfl) (by first | with_reducible rfl | assumption | (simp_all; done) | omega | (simp_all; omega) | ((try simp only [decide_eq_true_eq, decide_eq_false_iff_not, beq_iff_eq, beq_eq_false_iff_ne, ne_eq, Bool.and_eq_true, Bool.or_eq_true] at *); (repeat' split) <;> first | rfl | (exfalso; omega))) (by first | with_reducible rfl | assumption | (simp_all; done) | omega | (simp_all; omega) | ((try simp only [decide_eq_true_eq, decide_eq_false_iff_not, beq_iff_eq, beq_eq_false_iff_ne, ne_eq, Bool.and_eq_true, Bool.or_eq_true] at *); (repeat' split) <;> first | rfl | (exfalso; omega)))
theorem d31_1 (a b c d : Int) (h0 : 0 ≤ a) (h : a ≤ b) (h2 : 0 ≤ c) (h3 : c ≤ d) : Go.V.Call E0 31 [sc 1 a b c d] s0 (.tup [.int .i64 0, .int .i64 0]) s0 := by
  have w0 := d83_1_0 a b c d
  have w1 := d83_1_1 a b c d h0 h
  have w2 := d83_1_2 a b c d h2 h3
  refine call_cfg (by kernel_rfl) ?_
  refine evc_go 1000 50 (by kernel_rfl) ?_
  refine evc_call (by kernel_rfl) (by kernel_rfl) (w0) (by kernel_rfl) ?_
  refine evc_go 1000 33 (by kernel_rfl) ?_
  refine evc_call (by kernel_rfl) (by kernel_rfl) (w1) (by kernel_rfl) ?_
  refine evc_go 1000 33 (by kernel_rfl) ?_
  refine evc_call (by kernel_rfl) (by kernel_rfl) (w2) (by kernel_rfl) ?_
  refine evc_go 1000 27 (by kernel_rfl) ?_
  exact evc_end (Go.V.Val.tup [Go.V.Val.int Go.IntKind.i64 0, Go.V.Val.int Go.IntKind.i64 0]) ({ H := [], L := [] }) (by kernel_rfl) (by first | with_reducible rfl | assumption | (simp_all; done) | omega | (simp_all; omega) | ((try simp only [decide_eq_true_eq, decide_eq_false_iff_not, beq_iff_eq, beq_eq_false_iff_ne, ne_eq, Bool.and_eq_true, Bool.or_eq_true] at *); (repeat' split) <;> first | rfl | (exfalso; omega))) (by first | with_reducible rfl | assumption | (simp_all; done) | omega | (simp_all; omega) | ((try simp only [decide_eq_true_eq, decide_eq_false_iff_not, beq_iff_eq, beq_eq_false_iff_ne, ne_eq, Bool.and_eq_true, Bool.or_eq_true] at *); (repeat' split) <;> first | rfl | (exfalso; omega)))
theorem d86_2 (lo hi : Int) : Go.V.Call E0 86 [.agg (nd 2 lo hi), .agg (nd 2 lo hi)] s0 (.bool true) s0 := by
  refine call_cfg (by kernel_rfl) ?_
  refine evc_go 1000 21 (by kernel_rfl) ?_
  refine evc_is 17 (lo == lo) true (by kernel_rfl) (by first | with_reducible rfl | assumption | (simp_all; done) | omega | (simp_all; omega) | ((try simp only [decide_eq_true_eq, decide_eq_false_iff_not, beq_iff_eq, beq_eq_false_iff_ne, ne_eq, Bool.and_eq_true, Bool.or_eq_true] at *); (repeat' split) <;> first | rfl | (exfalso; omega))) ?_
  refine evc_go 1000 7 (by kernel_rfl) ?_
  refine evc_is 24 (hi == hi) true (by kernel_rfl) (by first | with_reducible rfl | assumption | (simp_all; done) | omega | (simp_all; omega) | ((try simp only [decide_eq_true_eq, decide_eq_false_iff_not, beq_iff_eq, beq_eq_false_iff_ne, ne_eq, Bool.and_eq_true, Bool.or_eq_true] at *); (repeat' split) <;> first | rfl | (exfalso; omega))) ?_
  refine evc_go 1000 22 (by kernel_rfl) ?_
  exact evc_end (Go.V.Val.bool Bool.true) ({ H := [], L := [] }) (by kernel_rfl) (by first | with_reducible rfl | assumption | (simp_all; done) | omega | (simp_all; omega) | ((try simp only [decide_eq_true_eq, decide_eq_false_iff_not, beq_iff_eq, beq_eq_false_iff_ne, ne_eq, Bool.and_eq_true, Bool.or_eq_true] at *); (repeat' split) <;> first | rfl | (exfalso; omega))) (by first | with_reducible rfl | assumption | (simp_all; done) | omega | (simp_all; omega) | ((try simp only [decide_eq_true_eq, decide_eq_false_iff_not, beq_iff_eq, beq_eq_false_iff_ne, ne_eq, Bool.and_eq_true, Bool.or_eq_true] at *); (repeat' split) <;> first | rfl | (exfalso; omega)))
theorem d117_2 (lo hi : Int) (h0 : 0 ≤ lo) (h : lo ≤ hi) : Go.V.Call E0 117 [.agg (nd 2 lo hi)] s0 (.bool true) s0 := by
  refine call_cfg (by kernel_rfl) ?_
  refine evc_go 1000 13 (by kernel_rfl) ?_
  refine evc_is 8 (Decidable.decide (lo ≤ hi)) true (by kernel_rfl) (by first | with_reducible rfl | assumption | (simp_all; done) | omega | (simp_all; omega) | ((try simp only [decide_eq_true_eq, decide_eq_false_iff_not, beq_iff_eq, beq_eq_false_iff_ne, ne_eq, Bool.and_eq_true, Bool.or_eq_true] at *); (repeat' split) <;> first | rfl | (exfalso; omega))) ?_
  refine evc_go 1000 10 (by kernel_rfl) ?_
  refine evc_is 18 (Decidable.decide (lo ≥ 0)) true (by kernel_rfl) (by first | with_reducible rfl | assumption | (simp_all; done) | omega | (simp_all; omega) | ((try simp only [decide_eq_true_eq, decide_eq_false_iff_not, beq_iff_eq, beq_eq_false_iff_ne, ne_eq, Bool.and_eq_true, Bool.or_eq_true] at *); (repeat' split) <;> first | rfl | (exfalso; omega))) ?_
  refine evc_go 1000 11 (by kernel_rfl) ?_
  exact evc_end (Go.V.Val.bool Bool.true) ({ H := [], L := [] }) (by kernel_rfl) (by first | with_reducible rfl | assumption | (simp_all; done) | omega | (simp_all; omega) | ((try simp only [decide_eq_true_eq, decide_eq_false_iff_not, beq_iff_eq, beq_eq_false_iff_ne, ne_eq, Bool.and_eq_true, Bool.or_eq_true] at *); (repeat' split) <;> first | rfl | (exfalso; omega))) (by first | with_reducible rfl | assumption | (simp_all; done) | omega | (simp_all; omega) | ((try simp only [decide_eq_true_eq, decide_eq_false_iff_not, beq_iff_eq, beq_eq_false_iff_ne, ne_eq, Bool.and_eq_true, Bool.or_eq_true] at *); (repeat' split) <;> first | rfl | (exfalso; omega)))
theorem d83_2_0 (a b c d : Int) : Go.V.Call E0 83 [sc 2 a b c d, .int .i64 0] s0 (.int .i64 0) s0 := call_run 100000 (by kernel_rfl)
theorem d83_2_1 (a b c d : Int) (h0 : 0 ≤ a) (h : a ≤ b) : Go.V.Call E0 83 [sc 2 a b c d, .int .i64 1] s0 (.int .i64 0) s0 := by
  have h1 := d86_2 a b
  have h2 := d117_2 a b h0 h
  refine call_cfg (by kernel_rfl) ?_
  refine evc_go 1000 49 (by kernel_rfl) ?_
  refine evc_call (by kernel_rfl) (by kernel_rfl) (h1) (by kernel_rfl) ?_
  refine evc_go 1000 9 (by kernel_rfl) ?_
  refine evc_call (by kernel_rfl) (by kernel_rfl) (h2) (by kernel_rfl) ?_
  refine evc_go 1000 33 (by kernel_rfl) ?_
  exact evc_end (Go.V.Val.int Go.IntKind.i64 0) ({ H := [], L := [] }) (by kernel_rfl) (by first | with_reducible rfl | assumption | (simp_all; done) | omega | (simp_all; omega) | ((try simp only [decide_eq_true_eq, decide_eq_false_iff_not, beq_iff_eq, beq_eq_false_iff_ne, ne_eq, Bool.and_eq_true, Bool.or_eq_true] at *); (repeat' split) <;> first | rfl | (exfalso; omega))) (by first | with_reducible rfl | assumption | (simp_all; done) | omega | (simp_all; omega) | ((try simp only [decide_eq_true_eq, decide_eq_false_iff_not, beq_iff_eq, beq_eq_false_iff_ne, ne_eq, Bool.and_eq_true, Bool.or_eq_true] at *); (repeat' split) <;> first | rfl | (exfalso; omega)))
theorem d83_2_2 (a b c d : Int) (h0 : 0 ≤ c) (h : c ≤ d) : Go.V.Call E0 83 [sc 2 a b c d, .int .i64 2] s0 (.int .i64 0) s0 := by
  have h1 := d86_2 c d
  have h2 := d117_2 c d h0 h
  refine call_cfg (by kernel_rfl) ?_
  refine evc_go 1000 49 (by kernel_rfl) ?_
  refine evc_call (by kernel_rfl) (by kernel_rfl) (h1) (by kernel_rfl) ?_
  refine evc_go 1000 9 (by kernel_rfl) ?_
  refine evc_call (by kernel_rfl) (by kernel_rfl) (h2) (by kernel_rfl) ?_
  refine evc_go 1000 33 (by kernel_rfl) ?_
  exact evc_end (Go.V.Val.int Go.IntKind.i64 0) ({ H := [], L := [] }) (by kernel_rfl) (by first | with_reducible rfl | assumption | (simp_all; done) | omega | (simp_all; omega) | ((try simp only [decide_eq_true_eq, decide_eq_false_iff_not, beq_iff_eq, beq_eq_false_iff_ne, ne_eq, Bool.and_eq_true, Bool.or_eq_true] at *); (repeat' split) <;> first | rfl | (exfalso; omega))) (by first | with_reducible rfl | assumption | (simp_all; done) | omega | (simp_all; omega) | ((try simp only [decide_eq_true_eq, decide_eq_false_iff_not, beq_iff_eq, beq_eq_false_iff_ne, ne_eq, Bool.and_eq_true, Bool.or_eq_true] at *); (repeat' split) <;> first | rfl | (exfalso; omega)))
theorem d31_2 (a b c d : Int) (h0 : 0 ≤ a) (h : a ≤ b) (h2 : 0 ≤ c) (h3 : c ≤ d) : Go.V.Call E0 31 [sc 2 a b c d] s0 (.tup [.int .i64 0, .int .i64 0]) s0 := by
  have w0 := d83_2_0 a b c d
  have w1 := d83_2_1 a b c d h0 h
  have w2 := d83_2_2 a b c d h2 h3
  refine call_cfg (by kernel_rfl) ?_
  refine evc_go 1000 50 (by kernel_rfl) ?_
  refine evc_call (by kernel_rfl) (by kernel_rfl) (w0) (by kernel_rfl) ?_
  refine evc_go 1000 33 (by kernel_rfl) ?_
  refine evc_call (by kernel_rfl) (by kernel_rfl) (w1) (by kernel_rfl) ?_
  refine evc_go 1000 33 (by kernel_rfl) ?_
  refine evc_call (by kernel_rfl) (by kernel_rfl) (w2) (by kernel_rfl) ?_
  refine evc_go 1000 27 (by kernel_rfl) ?_
  exact evc_end (Go.V.Val.tup [Go.V.Val.int Go.IntKind.i64 0, Go.V.Val.int Go.IntKind.i64 0]) ({ H := [], L := [] }) (by kernel_rfl) (by first | with_reducible rfl | assumption | (simp_all; done) | omega | (simp_all; omega) | ((try simp only [decide_eq_true_eq, decide_eq_false_iff_not, beq_iff_eq, beq_eq_false_iff_ne, ne_eq, Bool.and_eq_true, Bool.or_eq_true] at *); (repeat' split) <;> first | rfl | (exfalso; omega))) (by first | with_reducible rfl | assumption | (simp_all; done) | omega | (simp_all; omega) | ((try simp only [decide_eq_true_eq, decide_eq_false_iff_not, beq_iff_eq, beq_eq_false_iff_ne, ne_eq, Bool.and_eq_true, Bool.or_eq_true] at *); (repeat' split) <;> first | rfl | (exfalso; omega)))
theorem d86_3 (lo hi : Int) : Go.V.Call E0 86 [.agg (nd 3 lo hi), .agg (nd 3 lo hi)] s0 (.bool true) s0 := by
  refine call_cfg (by kernel_rfl) ?_
  refine evc_go 1000 21 (by kernel_rfl) ?_
  refine evc_is 17 (lo == lo) true (by kernel_rfl) (by first | with_reducible rfl | assumption | (simp_all; done) | omega | (simp_all; omega) | ((try simp only [decide_eq_true_eq, decide_eq_false_iff_not, beq_iff_eq, beq_eq_false_iff_ne, ne_eq, Bool.and_eq_true, Bool.or_eq_true] at *); (repeat' split) <;> first | rfl | (exfalso; omega))) ?_
  refine evc_go 1000 7 (by kernel_rfl) ?_
  refine evc_is 24 (hi == hi) true (by kernel_rfl) (by first | with_reducible rfl | assumption | (simp_all; done) | omega | (simp_all; omega) | ((try simp only [decide_eq_true_eq, decide_eq_false_iff_not, beq_iff_eq, beq_eq_false_iff_ne, ne_eq, Bool.and_eq_true, Bool.or_eq_true] at *); (repeat' split) <;> first | rfl | (exfalso; omega))) ?_
  refine evc_go 1000 22 (by kernel_rfl) ?_
  exact evc_end (Go.V.Val.bool Bool.true) ({ H := [], L := [] }) (by kernel_rfl) (by first | with_reducible rfl | assumption | (simp_all; done) | omega | (simp_all; omega) | ((try simp only [decide_eq_true_eq, decide_eq_false_iff_not, beq_iff_eq, beq_eq_false_iff_ne, ne_eq, Bool.and_eq_true, Bool.or_eq_true] at *); (repeat' split) <;> first | rfl | (exfalso; omega))) (by first | with_reducible rfl | assumption | (simp_all; done) | omega | (simp_all; omega) | ((try simp only [decide_eq_true_eq, decide_eq_false_iff_not, beq_iff_eq, beq_eq_false_iff_ne, ne_eq, Bool.and_eq_true, Bool.or_eq_true] at *); (repeat' split) <;> first | rfl | (exfalso; omega)))
theorem d117_3 (lo hi : Int) (h0 : 0 ≤ lo) (h : lo ≤ hi) : Go.V.Call E0 117 [.agg (nd 3 lo hi)] s0 (.bool true) s0 := by
  refine call_cfg (by kernel_rfl) ?_
  refine evc_go 1000 13 (by kernel_rfl) ?_
  refine evc_is 8 (Decidable.decide (lo ≤ hi)) true (by kernel_rfl) (by first | with_reducible rfl | assumption | (simp_all; done) | omega | (simp_all; omega) | ((try simp only [decide_eq_true_eq, decide_eq_false_iff_not, beq_iff_eq, beq_eq_false_iff_ne, ne_eq, Bool.and_eq_true, Bool.or_eq_true] at *); (repeat' split) <;> first | rfl | (exfalso; omega))) ?_
  refine evc_go 1000 10 (by kernel_rfl) ?_
  refine evc_is 18 (Decidable.decide (lo ≥ 0)) true (by kernel_rfl) (by first | with_reducible rfl | assumption | (simp_all; done) | omega | (simp_all; omega) | ((try simp only [decide_eq_true_eq, decide_eq_false_iff_not, beq_iff_eq, beq_eq_false_iff_ne, ne_eq, Bool.and_eq_true, Bool.or_eq_true] at *); (repeat' split) <;> first | rfl | (exfalso; omega))) ?_
  refine evc_go 1000 11 (by kernel_rfl) ?_
  exact evc_end (Go.V.Val.bool Bool.true) ({ H := [], L := [] }) (by kernel_rfl) (by first | with_reducible rfl | assumption | (simp_all; done) | omega | (simp_all; omega) | ((try simp only [decide_eq_true_eq, decide_eq_false_iff_not, beq_iff_eq, beq_eq_false_iff_ne, ne_eq, Bool.and_eq_true, Bool.or_eq_true] at *); (repeat' split) <;> first | rfl | (exfalso; omega))) (by first | with_reducible rfl | assumption | (simp_all; done) | omega | (simp_all; omega) | ((try simp only [decide_eq_true_eq, decide_eq_false_iff_not, beq_iff_eq, beq_eq_false_iff_ne, ne_eq, Bool.and_eq_true, Bool.or_eq_true] at *); (repeat' split) <;> first | rfl | (exfalso; omega)))
theorem d83_3_0 (a b c d : Int) : Go.V.Call E0 83 [sc 3 a b c d, .int .i64 0] s0 (.int .i64 0) s0 := call_run 100000 (by kernel_rfl)
theorem d83_3_1 (a b c d : Int) (h0 : 0 ≤ a) (h : a ≤ b) : Go.V.Call E0 83 [sc 3 a b c d, .int .i64 1] s0 (.int .i64 0) s0 := by
  have h1 := d86_3 a b
  have h2 := d117_3 a b h0 h
  refine call_cfg (by kernel_rfl) ?_
  refine evc_go 1000 49 (by kernel_rfl) ?_
  refine evc_call (by kernel_rfl) (by kernel_rfl) (h1) (by kernel_rfl) ?_
  refine evc_go 1000 9 (by kernel_rfl) ?_
  refine evc_call (by kernel_rfl) (by kernel_rfl) (h2) (by kernel_rfl) ?_
  refine evc_go 1000 33 (by kernel_rfl) ?_
  exact evc_end (Go.V.Val.int Go.IntKind.i64 0) ({ H := [], L := [] }) (by kernel_rfl) (by first | with_reducible rfl | assumption | (simp_all; done) | omega | (simp_all; omega) | ((try simp only [decide_eq_true_eq, decide_eq_false_iff_not, beq_iff_eq, beq_eq_false_iff_ne, ne_eq, Bool.and_eq_true, Bool.or_eq_true] at *); (repeat' split) <;> first | rfl | (exfalso; omega))) (by first | with_reducible rfl | assumption | (simp_all; done) | omega | (simp_all; omega) | ((try simp only [decide_eq_true_eq, decide_eq_false_iff_not, beq_iff_eq, beq_eq_false_iff_ne, ne_eq, Bool.and_eq_true, Bool.or_eq_true] at *); (repeat' split) <;> first | rfl | (exfalso; omega)))
theorem d83_3_2 (a b c d : Int) (h0 : 0 ≤ c) (h : c ≤ d) : Go.V.Call E0 83 [sc 3 a b c d, .int .i64 2] s0 (.int .i64 0) s0 := by
  have h1 := d86_3 c d
  have h2 := d117_3 c d h0 h
  refine call_cfg (by kernel_rfl) ?_
  refine evc_go 1000 49 (by kernel_rfl) ?_
  refine evc_call (by kernel_rfl) (by kernel_rfl) (h1) (by kernel_rfl) ?_
  refine evc_go 1000 9 (by kernel_rfl) ?_
  refine evc_call (by kernel_rfl) (by kernel_rfl) (h2) (by kernel_rfl) ?_
  refine evc_go 1000 33 (by kernel_rfl) ?_
  exact evc_end (Go.V.Val.int Go.IntKind.i64 0) ({ H := [], L := [] }) (by kernel_rfl) (by first | with_reducible rfl | assumption | (simp_all; done) | omega | (simp_all; omega) | ((try simp only [decide_eq_true_eq, decide_eq_false_iff_not, beq_iff_eq, beq_eq_false_iff_ne, ne_eq, Bool.and_eq_true, Bool.or_eq_true] at *); (repeat' split) <;> first | rfl | (exfalso; omega))) (by first | with_reducible rfl | assumption | (simp_all; done) | omega | (simp_all; omega) | ((try simp only [decide_eq_true_eq, decide_eq_false_iff_not, beq_iff_eq, beq_eq_false_iff_ne, ne_eq, Bool.and_eq_true, Bool.or_eq_true] at *); (repeat' split) <;> first | rfl | (exfalso; omega)))
theorem d31_3 (a b c d : Int) (h0 : 0 ≤ a) (h : a ≤ b) (h2 : 0 ≤ c) (h3 : c ≤ d) : Go.V.Call E0 31 [sc 3 a b c d] s0 (.tup [.int .i64 0, .int .i64 0]) s0 := by
  have w0 := d83_3_0 a b c d
  have w1 := d83_3_1 a b c d h0 h
  have w2 := d83_3_2 a b c d h2 h3
  refine call_cfg (by kernel_rfl) ?_
  refine evc_go 1000 50 (by kernel_rfl) ?_
  refine evc_call (by kernel_rfl) (by kernel_rfl) (w0) (by kernel_rfl) ?_
  refine evc_go 1000 33 (by kernel_rfl) ?_
  refine evc_call (by kernel_rfl) (by kernel_rfl) (w1) (by kernel_rfl) ?_
  refine evc_go 1000 33 (by kernel_rfl) ?_
  refine evc_call (by kernel_rfl) (by kernel_rfl) (w2) (by kernel_rfl) ?_
  refine evc_go 1000 27 (by kernel_rfl) ?_
  exact evc_end (Go.V.Val.tup [Go.V.Val.int Go.IntKind.i64 0, Go.V.Val.int Go.IntKind.i64 0]) ({ H := [], L := [] }) (by kernel_rfl) (by first | with_reducible rfl | assumption | (simp_all; done) | omega | (simp_all; omega) | ((try simp only [decide_eq_true_eq, decide_eq_false_iff_not, beq_iff_eq, beq_eq_false_iff_ne, ne_eq, Bool.and_eq_true, Bool.or_eq_true] at *); (repeat' split) <;> first | rfl | (exfalso; omega))) (by first | with_reducible rfl | assumption | (simp_all; done) | omega | (simp_all; omega) | ((try simp only [decide_eq_true_eq, decide_eq_false_iff_not, beq_iff_eq, beq_eq_false_iff_ne, ne_eq, Bool.and_eq_true, Bool.or_eq_true] at *); (repeat' split) <;> first | rfl | (exfalso; omega)))
end Go.V.W
