/- Calls of the program's functions on the road of DenoteNumbers, stepped through by the kernel (the steps are printed by a tool). -/
import Derived.Test.YtgnfinbhnoofpaaDoorDN2
set_option linter.unusedVariables false
set_option linter.unusedSimpArgs false
set_option linter.unusedSectionVars false
open Go Go.V
set_option maxRecDepth 100000
set_option maxHeartbeats 4000000
namespace Go.V.W
theorem c50a (n : Int) (h : n ≤ 9223372036854775807) : Call E0 50 [it 0 n] s0 (.tup [.int .i64 (IntKind.wrap .i64 n), .bool true]) s0 := by
  refine call_cfg (by kernel_rfl) ?_
  refine evc_go 1000 15 (by kernel_rfl) ?_
  refine evc_is 4 (Decidable.decide (n > 9223372036854775807)) false (by kernel_rfl) (by first | with_reducible rfl | assumption | (simp_all; done) | omega | (simp_all; omega)) ?_
  refine evc_go 1000 17 (by kernel_rfl) ?_
  exact evc_end (Go.V.Val.tup [Go.V.Val.int Go.IntKind.i64 (Go.IntKind.i64.wrap n), Go.V.Val.bool Bool.true]) ({ H := [], L := [] }) (by kernel_rfl) (by first | with_reducible rfl | assumption | (simp_all; done) | omega | (simp_all; omega)) (by first | with_reducible rfl | assumption | (simp_all; done) | omega | (simp_all; omega))
theorem c50b (n : Int) (h : n ≤ 9223372036854775807) : Call E0 50 [it 1 n] s0 (.tup [.int .i64 (IntKind.wrap .i64 (-1 - IntKind.wrap .i64 n)), .bool true]) s0 := by
  refine call_cfg (by kernel_rfl) ?_
  refine evc_go 1000 15 (by kernel_rfl) ?_
  refine evc_is 4 (Decidable.decide (n > 9223372036854775807)) false (by kernel_rfl) (by first | with_reducible rfl | assumption | (simp_all; done) | omega | (simp_all; omega)) ?_
  refine evc_go 1000 26 (by kernel_rfl) ?_
  exact evc_end (Go.V.Val.tup [Go.V.Val.int Go.IntKind.i64 (Go.IntKind.i64.wrap (-1 - Go.IntKind.i64.wrap n)), Go.V.Val.bool Bool.true]) ({ H := [], L := [] }) (by kernel_rfl) (by first | with_reducible rfl | assumption | (simp_all; done) | omega | (simp_all; omega)) (by first | with_reducible rfl | assumption | (simp_all; done) | omega | (simp_all; omega))
theorem c50c (n : Int) (h : 9223372036854775807 < n) : Call E0 50 [it 0 n] s0 (.tup [.int .i64 0, .bool false]) s0 := by
  refine call_cfg (by kernel_rfl) ?_
  refine evc_go 1000 15 (by kernel_rfl) ?_
  refine evc_is 4 (Decidable.decide (n > 9223372036854775807)) true (by kernel_rfl) (by first | with_reducible rfl | assumption | (simp_all; done) | omega | (simp_all; omega)) ?_
  refine evc_go 1000 6 (by kernel_rfl) ?_
  exact evc_end (Go.V.Val.tup [Go.V.Val.int Go.IntKind.i64 0, Go.V.Val.bool Bool.false]) ({ H := [], L := [] }) (by kernel_rfl) (by first | with_reducible rfl | assumption | (simp_all; done) | omega | (simp_all; omega)) (by first | with_reducible rfl | assumption | (simp_all; done) | omega | (simp_all; omega))
theorem c91a (lo hi n : Int) (h : n ≤ 9223372036854775807) : Call E0 91 [sv lo hi, .int .i64 0, it 0 n] s0 (.bool (decide (lo ≤ IntKind.wrap .i64 n) && decide (IntKind.wrap .i64 n ≤ hi))) s0 := by
  refine call_cfg (by kernel_rfl) ?_
  refine evc_go 1000 43 (by kernel_rfl) ?_
  refine evc_call (by kernel_rfl) (by kernel_rfl) (Go.V.W.c50a (n) (by first | with_reducible rfl | assumption | (simp_all; done) | omega | (simp_all; omega))) (by kernel_rfl) ?_
  refine evc_go 1000 12 (by kernel_rfl) ?_
  refine evc_call (by kernel_rfl) (by kernel_rfl) (Go.V.W.c125 (lo) (hi) (Go.IntKind.i64.wrap n)) (by kernel_rfl) ?_
  refine evc_go 1000 3 (by kernel_rfl) ?_
  exact evc_end (Go.V.Val.bool (Decidable.decide (lo ≤ Go.IntKind.i64.wrap n) && Decidable.decide (Go.IntKind.i64.wrap n ≤ hi))) ({ H := [], L := [] }) (by kernel_rfl) (by first | with_reducible rfl | assumption | (simp_all; done) | omega | (simp_all; omega)) (by first | with_reducible rfl | assumption | (simp_all; done) | omega | (simp_all; omega))
theorem c91b (lo hi n : Int) (h : n ≤ 9223372036854775807) : Call E0 91 [sv lo hi, .int .i64 0, it 1 n] s0 (.bool (decide (lo ≤ IntKind.wrap .i64 (-1 - IntKind.wrap .i64 n)) && decide (IntKind.wrap .i64 (-1 - IntKind.wrap .i64 n) ≤ hi))) s0 := by
  refine call_cfg (by kernel_rfl) ?_
  refine evc_go 1000 43 (by kernel_rfl) ?_
  refine evc_call (by kernel_rfl) (by kernel_rfl) (Go.V.W.c50b (n) (by first | with_reducible rfl | assumption | (simp_all; done) | omega | (simp_all; omega))) (by kernel_rfl) ?_
  refine evc_go 1000 12 (by kernel_rfl) ?_
  refine evc_call (by kernel_rfl) (by kernel_rfl) (Go.V.W.c125 (lo) (hi) (Go.IntKind.i64.wrap (-1 - Go.IntKind.i64.wrap n))) (by kernel_rfl) ?_
  refine evc_go 1000 3 (by kernel_rfl) ?_
  exact evc_end (Go.V.Val.bool (Decidable.decide (lo ≤ Go.IntKind.i64.wrap (-1 - Go.IntKind.i64.wrap n)) && Decidable.decide (Go.IntKind.i64.wrap (-1 - Go.IntKind.i64.wrap n) ≤ hi))) ({ H := [], L := [] }) (by kernel_rfl) (by first | with_reducible rfl | assumption | (simp_all; done) | omega | (simp_all; omega)) (by first | with_reducible rfl | assumption | (simp_all; done) | omega | (simp_all; omega))
theorem c52a (lo hi n : Int) (hl : lo ≤ hi) (h : n ≤ 9223372036854775807) : Call E0 52 [sv lo hi, it 0 n] s0 (.tup [.bool (decide (lo ≤ IntKind.wrap .i64 n) && decide (IntKind.wrap .i64 n ≤ hi)), .int .i64 0]) s0 := by
  refine call_cfg (by kernel_rfl) ?_
  refine evc_go 1000 11 (by kernel_rfl) ?_
  refine evc_call (by kernel_rfl) (by kernel_rfl) (Go.V.W.c31 (lo) (hi) (by first | with_reducible rfl | assumption | (simp_all; done) | omega | (simp_all; omega))) (by kernel_rfl) ?_
  refine evc_go 1000 17 (by kernel_rfl) ?_
  refine evc_call (by kernel_rfl) (by kernel_rfl) (Go.V.W.c24a (n)) (by kernel_rfl) ?_
  refine evc_go 1000 13 (by kernel_rfl) ?_
  refine evc_call (by kernel_rfl) (by kernel_rfl) (Go.V.W.c91a (lo) (hi) (n) (by first | with_reducible rfl | assumption | (simp_all; done) | omega | (simp_all; omega))) (by kernel_rfl) ?_
  refine evc_go 1000 3 (by kernel_rfl) ?_
  exact evc_end (Go.V.Val.tup [Go.V.Val.bool (Decidable.decide (lo ≤ Go.IntKind.i64.wrap n) && Decidable.decide (Go.IntKind.i64.wrap n ≤ hi)), Go.V.Val.int Go.IntKind.i64 0]) ({ H := [], L := [] }) (by kernel_rfl) (by first | with_reducible rfl | assumption | (simp_all; done) | omega | (simp_all; omega)) (by first | with_reducible rfl | assumption | (simp_all; done) | omega | (simp_all; omega))
theorem c52b (lo hi n : Int) (hl : lo ≤ hi) (h : n ≤ 9223372036854775807) : Call E0 52 [sv lo hi, it 1 n] s0 (.tup [.bool (decide (lo ≤ IntKind.wrap .i64 (-1 - IntKind.wrap .i64 n)) && decide (IntKind.wrap .i64 (-1 - IntKind.wrap .i64 n) ≤ hi)), .int .i64 0]) s0 := by
  refine call_cfg (by kernel_rfl) ?_
  refine evc_go 1000 11 (by kernel_rfl) ?_
  refine evc_call (by kernel_rfl) (by kernel_rfl) (Go.V.W.c31 (lo) (hi) (by first | with_reducible rfl | assumption | (simp_all; done) | omega | (simp_all; omega))) (by kernel_rfl) ?_
  refine evc_go 1000 17 (by kernel_rfl) ?_
  refine evc_call (by kernel_rfl) (by kernel_rfl) (Go.V.W.c24b (n)) (by kernel_rfl) ?_
  refine evc_go 1000 13 (by kernel_rfl) ?_
  refine evc_call (by kernel_rfl) (by kernel_rfl) (Go.V.W.c91b (lo) (hi) (n) (by first | with_reducible rfl | assumption | (simp_all; done) | omega | (simp_all; omega))) (by kernel_rfl) ?_
  refine evc_go 1000 3 (by kernel_rfl) ?_
  exact evc_end (Go.V.Val.tup [Go.V.Val.bool (Decidable.decide (lo ≤ Go.IntKind.i64.wrap (-1 - Go.IntKind.i64.wrap n)) && Decidable.decide (Go.IntKind.i64.wrap (-1 - Go.IntKind.i64.wrap n) ≤ hi)), Go.V.Val.int Go.IntKind.i64 0]) ({ H := [], L := [] }) (by kernel_rfl) (by first | with_reducible rfl | assumption | (simp_all; done) | omega | (simp_all; omega)) (by first | with_reducible rfl | assumption | (simp_all; done) | omega | (simp_all; omega))
theorem c49a (lo hi n : Int) (hl : lo ≤ hi) (h : n ≤ 9223372036854775807) : Call E0 49 [sv lo hi, .int .i64 0, it 0 n] s0 (.bool (decide (lo ≤ IntKind.wrap .i64 n) && decide (IntKind.wrap .i64 n ≤ hi))) s0 := by
  refine call_cfg (by kernel_rfl) ?_
  refine evc_go 1000 10 (by kernel_rfl) ?_
  refine evc_call (by kernel_rfl) (by kernel_rfl) (Go.V.W.c52a (lo) (hi) (n) (by first | with_reducible rfl | assumption | (simp_all; done) | omega | (simp_all; omega)) (by first | with_reducible rfl | assumption | (simp_all; done) | omega | (simp_all; omega))) (by kernel_rfl) ?_
  refine evc_go 1000 25 (by kernel_rfl) ?_
  refine evc_call (by kernel_rfl) (by kernel_rfl) (Go.V.W.c91a (lo) (hi) (n) (by first | with_reducible rfl | assumption | (simp_all; done) | omega | (simp_all; omega))) (by kernel_rfl) ?_
  refine evc_go 1000 3 (by kernel_rfl) ?_
  exact evc_end (Go.V.Val.bool (Decidable.decide (lo ≤ Go.IntKind.i64.wrap n) && Decidable.decide (Go.IntKind.i64.wrap n ≤ hi))) ({ H := [], L := [] }) (by kernel_rfl) (by first | with_reducible rfl | assumption | (simp_all; done) | omega | (simp_all; omega)) (by first | with_reducible rfl | assumption | (simp_all; done) | omega | (simp_all; omega))
theorem c49b (lo hi n : Int) (hl : lo ≤ hi) (h : n ≤ 9223372036854775807) : Call E0 49 [sv lo hi, .int .i64 0, it 1 n] s0 (.bool (decide (lo ≤ IntKind.wrap .i64 (-1 - IntKind.wrap .i64 n)) && decide (IntKind.wrap .i64 (-1 - IntKind.wrap .i64 n) ≤ hi))) s0 := by
  refine call_cfg (by kernel_rfl) ?_
  refine evc_go 1000 10 (by kernel_rfl) ?_
  refine evc_call (by kernel_rfl) (by kernel_rfl) (Go.V.W.c52b (lo) (hi) (n) (by first | with_reducible rfl | assumption | (simp_all; done) | omega | (simp_all; omega)) (by first | with_reducible rfl | assumption | (simp_all; done) | omega | (simp_all; omega))) (by kernel_rfl) ?_
  refine evc_go 1000 25 (by kernel_rfl) ?_
  refine evc_call (by kernel_rfl) (by kernel_rfl) (Go.V.W.c91b (lo) (hi) (n) (by first | with_reducible rfl | assumption | (simp_all; done) | omega | (simp_all; omega))) (by kernel_rfl) ?_
  refine evc_go 1000 3 (by kernel_rfl) ?_
  exact evc_end (Go.V.Val.bool (Decidable.decide (lo ≤ Go.IntKind.i64.wrap (-1 - Go.IntKind.i64.wrap n)) && Decidable.decide (Go.IntKind.i64.wrap (-1 - Go.IntKind.i64.wrap n) ≤ hi))) ({ H := [], L := [] }) (by kernel_rfl) (by first | with_reducible rfl | assumption | (simp_all; done) | omega | (simp_all; omega)) (by first | with_reducible rfl | assumption | (simp_all; done) | omega | (simp_all; omega))
end Go.V.W
