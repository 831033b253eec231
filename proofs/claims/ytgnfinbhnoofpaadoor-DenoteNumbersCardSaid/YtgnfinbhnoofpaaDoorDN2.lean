/- Calls of the program's functions on the road of DenoteNumbers, stepped through by the kernel (the steps are printed by a tool). -/
import Derived.Test.YtgnfinbhnoofpaaDoorDN1
set_option linter.unusedVariables false
set_option linter.unusedSimpArgs false
set_option linter.unusedSectionVars false
open Go Go.V
set_option maxRecDepth 100000
set_option maxHeartbeats 4000000
namespace Go.V.W
abbrev sv (lo hi : Int) : Val := .agg [.sli (ndc lo hi) 1 .exact]
abbrev it (k n : Int) : Val := .agg [.int .i64 k, .int .u64 n, .str [], .sli [] 0 .nil]
theorem c24a (n : Int) : Call E0 24 [it 0 n] s0 (.int .i64 0) s0 := call_run 100000 (by kernel_rfl)
theorem c24b (n : Int) : Call E0 24 [it 1 n] s0 (.int .i64 0) s0 := call_run 100000 (by kernel_rfl)
theorem c83 (lo hi : Int) (h : lo ≤ hi) : Call E0 83 [sv lo hi, .int .i64 0] s0 (.int .i64 0) s0 := by
  refine call_cfg (by kernel_rfl) ?_
  refine evc_go 1000 49 (by kernel_rfl) ?_
  refine evc_call (by kernel_rfl) (by kernel_rfl) (Go.V.W.c86 (lo) (hi) ({ H := [], L := [] }) (by first | with_reducible rfl | assumption | (simp_all; done) | omega | (simp_all; omega))) (by kernel_rfl) ?_
  refine evc_go 1000 9 (by kernel_rfl) ?_
  refine evc_call (by kernel_rfl) (by kernel_rfl) (Go.V.W.c117 (lo) (hi) (by first | with_reducible rfl | assumption | (simp_all; done) | omega | (simp_all; omega))) (by kernel_rfl) ?_
  refine evc_go 1000 33 (by kernel_rfl) ?_
  exact evc_end (Go.V.Val.int Go.IntKind.i64 0) ({ H := [], L := [] }) (by kernel_rfl) (by first | with_reducible rfl | assumption | (simp_all; done) | omega | (simp_all; omega)) (by first | with_reducible rfl | assumption | (simp_all; done) | omega | (simp_all; omega))
theorem c31 (lo hi : Int) (h : lo ≤ hi) : Call E0 31 [sv lo hi] s0 (.tup [.int .i64 0, .int .i64 0]) s0 := by
  refine call_cfg (by kernel_rfl) ?_
  refine evc_go 1000 50 (by kernel_rfl) ?_
  refine evc_call (by kernel_rfl) (by kernel_rfl) (Go.V.W.c83 (lo) (hi) (by first | with_reducible rfl | assumption | (simp_all; done) | omega | (simp_all; omega))) (by kernel_rfl) ?_
  refine evc_go 1000 27 (by kernel_rfl) ?_
  exact evc_end (Go.V.Val.tup [Go.V.Val.int Go.IntKind.i64 0, Go.V.Val.int Go.IntKind.i64 0]) ({ H := [], L := [] }) (by kernel_rfl) (by first | with_reducible rfl | assumption | (simp_all; done) | omega | (simp_all; omega)) (by first | with_reducible rfl | assumption | (simp_all; done) | omega | (simp_all; omega))
end Go.V.W
