/- Calls of the program's functions on the road of DenoteNumbers, stepped through by the kernel (the steps are printed by a tool). -/
import Derived.Test.YtgnfinbhnoofpaaDoorDN3
set_option linter.unusedVariables false
set_option linter.unusedSimpArgs false
set_option linter.unusedSectionVars false
open Go Go.V
set_option maxRecDepth 100000
set_option maxHeartbeats 4000000
namespace Go.V.W
theorem c9a (n lo hi : Int) (h0 : 0 ≤ n) (h : IntKind.wrap .u64 n ≤ 9223372036854775807) (hw : IntKind.wrap .i64 (IntKind.wrap .u64 n) = n)
    (hb : 9223372036854775807 < IntKind.wrap .u64 ((BitVec.ofInt IntKind.u64.bits (IntKind.wrap .u64 n) ||| BitVec.ofInt IntKind.u64.bits 9223372036854775808).toNat : Int)) (hl : (if hi < lo then hi else lo) ≤ (if hi > lo then hi else lo)) :
    Call E0 9 [.int .i64 n, .int .i64 lo, .int .i64 hi] s0 (.bool true) s0 := by
  refine call_cfg (by kernel_rfl) ?_
  refine evc_go 1000 7 (by kernel_rfl) ?_
  refine evc_call (by kernel_rfl) (by kernel_rfl) (Go.V.W.c48) (by kernel_rfl) ?_
  refine evc_go 1000 18 (by kernel_rfl) ?_
  refine evc_is 21 (Decidable.decide (n < 0)) false (by kernel_rfl) (by first | with_reducible rfl | assumption | (simp_all; done) | omega | (simp_all; omega)) ?_
  refine evc_go 1000 5 (by kernel_rfl) ?_
  refine evc_call (by kernel_rfl) (by kernel_rfl) (Go.V.W.c50a (Go.IntKind.u64.wrap n) (by first | with_reducible rfl | assumption | (simp_all; done) | omega | (simp_all; omega))) (by kernel_rfl) ?_
  refine evc_go 1000 12 (by kernel_rfl) ?_
  refine evc_call (by kernel_rfl) (by kernel_rfl) (Go.V.W.c50c (Go.IntKind.u64.wrap ↑(BitVec.ofInt Go.IntKind.u64.bits (Go.IntKind.u64.wrap n) ||| BitVec.ofInt Go.IntKind.u64.bits 9223372036854775808).toNat) (by first | with_reducible rfl | assumption | (simp_all; done) | omega | (simp_all; omega))) (by kernel_rfl) ?_
  refine evc_go 1000 39 (by kernel_rfl) ?_
  refine evc_is 59 (Go.IntKind.i64.wrap (Go.IntKind.u64.wrap n) == n) true (by kernel_rfl) (by first | with_reducible rfl | assumption | (simp_all; done) | omega | (simp_all; omega)) ?_
  refine evc_go 1000 18 (by kernel_rfl) ?_
  refine evc_call (by kernel_rfl) (by kernel_rfl) (Go.V.W.c49a (if Bool.false = Bool.true then if hi > lo then hi else lo else if hi < lo then hi else lo) (if Bool.true = Bool.true then if hi > lo then hi else lo else if hi < lo then hi else lo) (Go.IntKind.u64.wrap n) (by first | with_reducible rfl | assumption | (simp_all; done) | omega | (simp_all; omega)) (by first | with_reducible rfl | assumption | (simp_all; done) | omega | (simp_all; omega))) (by kernel_rfl) ?_
  refine evc_go 1000 6 (by kernel_rfl) ?_
  refine evc_split 84 (Decidable.decide (n ≥ if Bool.false = Bool.true then if hi > lo then hi else lo else if hi < lo then hi else lo)) (by kernel_rfl) (fun h12 => ?_) (fun h12 => ?_)
  · refine evc_go 1000 10 (by kernel_rfl) ?_
    exact evc_end (Go.V.Val.bool ((Decidable.decide ((if Bool.false = Bool.true then if hi > lo then hi else lo else if hi < lo then hi else lo) ≤ Go.IntKind.i64.wrap (Go.IntKind.u64.wrap n)) && Decidable.decide (Go.IntKind.i64.wrap (Go.IntKind.u64.wrap n) ≤ if Bool.true = Bool.true then if hi > lo then hi else lo else if hi < lo then hi else lo)) == Decidable.decide (n ≤ if Bool.true = Bool.true then if hi > lo then hi else lo else if hi < lo then hi else lo))) ({ H := [], L := [] }) (by kernel_rfl) (by first | with_reducible rfl | assumption | (simp_all; done) | omega | (simp_all; omega)) (by first | with_reducible rfl | assumption | (simp_all; done) | omega | (simp_all; omega))
  · refine evc_go 1000 10 (by kernel_rfl) ?_
    exact evc_end (Go.V.Val.bool ((Decidable.decide ((if Bool.false = Bool.true then if hi > lo then hi else lo else if hi < lo then hi else lo) ≤ Go.IntKind.i64.wrap (Go.IntKind.u64.wrap n)) && Decidable.decide (Go.IntKind.i64.wrap (Go.IntKind.u64.wrap n) ≤ if Bool.true = Bool.true then if hi > lo then hi else lo else if hi < lo then hi else lo)) == Bool.false)) ({ H := [], L := [] }) (by kernel_rfl) (by first | with_reducible rfl | assumption | (simp_all; done) | omega | (simp_all; omega)) (by first | with_reducible rfl | assumption | (simp_all; done) | omega | (simp_all; omega))
theorem c9b (n lo hi : Int) (h0 : n < 0) (h : IntKind.wrap .u64 (IntKind.wrap .i64 (-1 - n)) ≤ 9223372036854775807) (hw : IntKind.wrap .i64 (-1 - IntKind.wrap .i64 (IntKind.wrap .u64 (IntKind.wrap .i64 (-1 - n)))) = n)
    (hb : 9223372036854775807 < IntKind.wrap .u64 ((BitVec.ofInt IntKind.u64.bits (IntKind.wrap .u64 n) ||| BitVec.ofInt IntKind.u64.bits 9223372036854775808).toNat : Int)) (hl : (if hi < lo then hi else lo) ≤ (if hi > lo then hi else lo)) :
    Call E0 9 [.int .i64 n, .int .i64 lo, .int .i64 hi] s0 (.bool true) s0 := by
  refine call_cfg (by kernel_rfl) ?_
  refine evc_go 1000 7 (by kernel_rfl) ?_
  refine evc_call (by kernel_rfl) (by kernel_rfl) (Go.V.W.c48) (by kernel_rfl) ?_
  refine evc_go 1000 18 (by kernel_rfl) ?_
  refine evc_is 21 (Decidable.decide (n < 0)) true (by kernel_rfl) (by first | with_reducible rfl | assumption | (simp_all; done) | omega | (simp_all; omega)) ?_
  refine evc_go 1000 11 (by kernel_rfl) ?_
  refine evc_call (by kernel_rfl) (by kernel_rfl) (Go.V.W.c50b (Go.IntKind.u64.wrap (Go.IntKind.i64.wrap (-1 - n))) (by first | with_reducible rfl | assumption | (simp_all; done) | omega | (simp_all; omega))) (by kernel_rfl) ?_
  refine evc_go 1000 12 (by kernel_rfl) ?_
  refine evc_call (by kernel_rfl) (by kernel_rfl) (Go.V.W.c50c (Go.IntKind.u64.wrap ↑(BitVec.ofInt Go.IntKind.u64.bits (Go.IntKind.u64.wrap n) ||| BitVec.ofInt Go.IntKind.u64.bits 9223372036854775808).toNat) (by first | with_reducible rfl | assumption | (simp_all; done) | omega | (simp_all; omega))) (by kernel_rfl) ?_
  refine evc_go 1000 39 (by kernel_rfl) ?_
  refine evc_is 59 (Go.IntKind.i64.wrap (-1 - Go.IntKind.i64.wrap (Go.IntKind.u64.wrap (Go.IntKind.i64.wrap (-1 - n)))) == n) true (by kernel_rfl) (by first | with_reducible rfl | assumption | (simp_all; done) | omega | (simp_all; omega)) ?_
  refine evc_go 1000 18 (by kernel_rfl) ?_
  refine evc_call (by kernel_rfl) (by kernel_rfl) (Go.V.W.c49b (if Bool.false = Bool.true then if hi > lo then hi else lo else if hi < lo then hi else lo) (if Bool.true = Bool.true then if hi > lo then hi else lo else if hi < lo then hi else lo) (Go.IntKind.u64.wrap (Go.IntKind.i64.wrap (-1 - n))) (by first | with_reducible rfl | assumption | (simp_all; done) | omega | (simp_all; omega)) (by first | with_reducible rfl | assumption | (simp_all; done) | omega | (simp_all; omega))) (by kernel_rfl) ?_
  refine evc_go 1000 6 (by kernel_rfl) ?_
  refine evc_split 84 (Decidable.decide (n ≥ if Bool.false = Bool.true then if hi > lo then hi else lo else if hi < lo then hi else lo)) (by kernel_rfl) (fun h12 => ?_) (fun h12 => ?_)
  · refine evc_go 1000 10 (by kernel_rfl) ?_
    exact evc_end (Go.V.Val.bool ((Decidable.decide ((if Bool.false = Bool.true then if hi > lo then hi else lo else if hi < lo then hi else lo) ≤ Go.IntKind.i64.wrap (-1 - Go.IntKind.i64.wrap (Go.IntKind.u64.wrap (Go.IntKind.i64.wrap (-1 - n))))) && Decidable.decide (Go.IntKind.i64.wrap (-1 - Go.IntKind.i64.wrap (Go.IntKind.u64.wrap (Go.IntKind.i64.wrap (-1 - n)))) ≤ if Bool.true = Bool.true then if hi > lo then hi else lo else if hi < lo then hi else lo)) == Decidable.decide (n ≤ if Bool.true = Bool.true then if hi > lo then hi else lo else if hi < lo then hi else lo))) ({ H := [], L := [] }) (by kernel_rfl) (by first | with_reducible rfl | assumption | (simp_all; done) | omega | (simp_all; omega)) (by first | with_reducible rfl | assumption | (simp_all; done) | omega | (simp_all; omega))
  · refine evc_go 1000 10 (by kernel_rfl) ?_
    exact evc_end (Go.V.Val.bool ((Decidable.decide ((if Bool.false = Bool.true then if hi > lo then hi else lo else if hi < lo then hi else lo) ≤ Go.IntKind.i64.wrap (-1 - Go.IntKind.i64.wrap (Go.IntKind.u64.wrap (Go.IntKind.i64.wrap (-1 - n))))) && Decidable.decide (Go.IntKind.i64.wrap (-1 - Go.IntKind.i64.wrap (Go.IntKind.u64.wrap (Go.IntKind.i64.wrap (-1 - n)))) ≤ if Bool.true = Bool.true then if hi > lo then hi else lo else if hi < lo then hi else lo)) == Bool.false)) ({ H := [], L := [] }) (by kernel_rfl) (by first | with_reducible rfl | assumption | (simp_all; done) | omega | (simp_all; omega)) (by first | with_reducible rfl | assumption | (simp_all; done) | omega | (simp_all; omega))
end Go.V.W
