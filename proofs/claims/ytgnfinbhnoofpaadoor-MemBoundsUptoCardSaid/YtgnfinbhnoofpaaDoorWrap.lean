/- Whole numbers of Go's kinds: where a number wraps to itself. -/
import Derived.Test.YtgnfinbhnoofpaaDoorVH
set_option linter.unusedVariables false
set_option linter.unusedSimpArgs false
set_option linter.unusedSectionVars false
namespace Go.V
theorem wrap_i64 {n : Int} (h : -9223372036854775808 ≤ n) (h' : n ≤ 9223372036854775807) : IntKind.wrap .i64 n = n := by
  simp only [IntKind.wrap, IntKind.bits, IntKind.signed]
  simp only [Bool.true_and, decide_eq_true_eq, ge_iff_le]
  split <;> omega
theorem wrap_u64 {n : Int} (h : 0 ≤ n) (h' : n ≤ 18446744073709551615) : IntKind.wrap .u64 n = n := by
  simp only [IntKind.wrap, IntKind.bits, IntKind.signed]
  simp only [Bool.false_and, Bool.false_eq_true, if_false]
  omega
theorem or_top (x : BitVec 64) : (9223372036854775807 : Int) < IntKind.wrap .u64 (((x ||| BitVec.ofInt 64 9223372036854775808).toNat : Nat) : Int) := by
  have h1 : (x ||| BitVec.ofInt 64 9223372036854775808).toNat < 2 ^ 64 := BitVec.isLt _
  have h2 : 9223372036854775808 ≤ (x ||| BitVec.ofInt 64 9223372036854775808).toNat := by
    rw [BitVec.toNat_or]
    have : (BitVec.ofInt 64 9223372036854775808).toNat = 9223372036854775808 := by decide
    rw [this]
    exact Nat.right_le_or
  rw [wrap_u64] <;> omega
end Go.V
