/- Calls of the program's functions on the road of DenoteNumbers, stepped through by the kernel (the steps are printed by a tool). -/
import Derived.Test.YtgnfinbhnoofpaaDoorE0
set_option linter.unusedVariables false
set_option linter.unusedSimpArgs false
set_option linter.unusedSectionVars false
open Go Go.V
set_option maxRecDepth 100000
set_option maxHeartbeats 4000000
namespace Go.V.W
abbrev ndc (lo hi : Int) : List Val := [.int .i64 1, .int .i64 lo, .int .i64 hi, .int .i64 0, .int .u64 0, .str [], .sli [] 0 .nil, .sli [] 0 .nil, .sli [] 0 .nil]
abbrev s0 : St := ⟨[], []⟩
theorem c48 : Call E0 48 [] s0 (.bool true) s0 := call_run 100000 (by kernel_rfl)
theorem c125 (lo hi k : Int) : Call E0 125 [.agg (ndc lo hi), .int .i64 k] s0 (.bool (decide (lo ≤ k) && decide (k ≤ hi))) s0 := by
  refine call_cfg (by kernel_rfl) ?_
  refine evc_go 1000 12 (by kernel_rfl) ?_
  refine evc_split 9 (Decidable.decide (lo ≤ k)) (by kernel_rfl) (fun h12 => ?_) (fun h12 => ?_)
  · refine evc_go 1000 7 (by kernel_rfl) ?_
    exact evc_end (Go.V.Val.bool (Decidable.decide (k ≤ hi))) ({ H := [], L := [] }) (by kernel_rfl) (by first | with_reducible rfl | assumption | (simp_all; done) | omega | (simp_all; omega)) (by first | with_reducible rfl | assumption | (simp_all; done) | omega | (simp_all; omega))
  · refine evc_go 1000 7 (by kernel_rfl) ?_
    exact evc_end (Go.V.Val.bool Bool.false) ({ H := [], L := [] }) (by kernel_rfl) (by first | with_reducible rfl | assumption | (simp_all; done) | omega | (simp_all; omega)) (by first | with_reducible rfl | assumption | (simp_all; done) | omega | (simp_all; omega))
theorem c50 (kd n : Int) : Call E0 50 [.agg [.int .i64 kd, .int .u64 n, .str [], .sli [] 0 .nil]] s0 (if n > 9223372036854775807 then .tup [.int .i64 0, .bool false] else if kd = 0 then .tup [.int .i64 (IntKind.wrap .i64 n), .bool true] else if kd = 1 then .tup [.int .i64 (IntKind.wrap .i64 (-1 - (IntKind.wrap .i64 n))), .bool true] else .tup [.int .i64 0, .bool false]) s0 := by
  refine call_cfg (by kernel_rfl) ?_
  refine evc_go 1000 15 (by kernel_rfl) ?_
  refine evc_split 4 (Decidable.decide (n > 9223372036854775807)) (by kernel_rfl) (fun h12 => ?_) (fun h12 => ?_)
  · refine evc_go 1000 6 (by kernel_rfl) ?_
    exact evc_end (Go.V.Val.tup [Go.V.Val.int Go.IntKind.i64 0, Go.V.Val.bool Bool.false]) ({ H := [], L := [] }) (by kernel_rfl) (by first | with_reducible rfl | assumption | (simp_all; done) | omega | (simp_all; omega)) (by first | with_reducible rfl | assumption | (simp_all; done) | omega | (simp_all; omega))
  · refine evc_go 1000 8 (by kernel_rfl) ?_
    refine evc_split 8 (kd == 0) (by kernel_rfl) (fun h11 => ?_) (fun h11 => ?_)
    · refine evc_go 1000 9 (by kernel_rfl) ?_
      exact evc_end (Go.V.Val.tup [Go.V.Val.int Go.IntKind.i64 (Go.IntKind.i64.wrap n), Go.V.Val.bool Bool.true]) ({ H := [], L := [] }) (by kernel_rfl) (by first | with_reducible rfl | assumption | (simp_all; done) | omega | (simp_all; omega)) (by first | with_reducible rfl | assumption | (simp_all; done) | omega | (simp_all; omega))
    · refine evc_go 1000 8 (by kernel_rfl) ?_
      refine evc_split 15 (kd == 1) (by kernel_rfl) (fun h10 => ?_) (fun h10 => ?_)
      · refine evc_go 1000 10 (by kernel_rfl) ?_
        exact evc_end (Go.V.Val.tup [Go.V.Val.int Go.IntKind.i64 (Go.IntKind.i64.wrap (-1 - Go.IntKind.i64.wrap n)), Go.V.Val.bool Bool.true]) ({ H := [], L := [] }) (by kernel_rfl) (by first | with_reducible rfl | assumption | (simp_all; done) | omega | (simp_all; omega)) (by first | with_reducible rfl | assumption | (simp_all; done) | omega | (simp_all; omega))
      · refine evc_go 1000 8 (by kernel_rfl) ?_
        exact evc_end (Go.V.Val.tup [Go.V.Val.int Go.IntKind.i64 0, Go.V.Val.bool Bool.false]) ({ H := [], L := [] }) (by kernel_rfl) (by first | with_reducible rfl | assumption | (simp_all; done) | omega | (simp_all; omega)) (by first | with_reducible rfl | assumption | (simp_all; done) | omega | (simp_all; omega))
theorem c86 (lo hi : Int) (S : St) (hS : S = s0) : Call E0 86 [.agg (ndc lo hi), .agg (ndc lo hi)] S (.bool true) S := by
  subst hS
  refine call_cfg (by kernel_rfl) ?_
  refine evc_go 1000 21 (by kernel_rfl) ?_
  refine evc_is 17 (lo == lo) true (by kernel_rfl) (by first | with_reducible rfl | assumption | (simp_all; done) | omega | (simp_all; omega)) ?_
  refine evc_go 1000 7 (by kernel_rfl) ?_
  refine evc_is 24 (hi == hi) true (by kernel_rfl) (by first | with_reducible rfl | assumption | (simp_all; done) | omega | (simp_all; omega)) ?_
  refine evc_go 1000 22 (by kernel_rfl) ?_
  exact evc_end (Go.V.Val.bool Bool.true) ({ H := [], L := [] }) (by kernel_rfl) (by first | with_reducible rfl | assumption | (simp_all; done) | omega | (simp_all; omega)) (by first | with_reducible rfl | assumption | (simp_all; done) | omega | (simp_all; omega))
theorem c117 (lo hi : Int) (h : lo ≤ hi) : Call E0 117 [.agg (ndc lo hi)] s0 (.bool true) s0 := by
  refine call_cfg (by kernel_rfl) ?_
  refine evc_go 1000 13 (by kernel_rfl) ?_
  refine evc_is 8 (Decidable.decide (lo ≤ hi)) true (by kernel_rfl) (by first | with_reducible rfl | assumption | (simp_all; done) | omega | (simp_all; omega)) ?_
  refine evc_go 1000 21 (by kernel_rfl) ?_
  exact evc_end (Go.V.Val.bool Bool.true) ({ H := [], L := [] }) (by kernel_rfl) (by first | with_reducible rfl | assumption | (simp_all; done) | omega | (simp_all; omega)) (by first | with_reducible rfl | assumption | (simp_all; done) | omega | (simp_all; omega))
end Go.V.W
