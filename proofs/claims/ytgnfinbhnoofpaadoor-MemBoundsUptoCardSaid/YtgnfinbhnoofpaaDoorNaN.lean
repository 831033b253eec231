/- NaN (float, ullageref08): is a double one? -/
import Derived.Test.YtgnfinbhnoofpaaDoorE0
import Derived.Test.YtgnfinbhnoofpaaDoorItem
set_option linter.unusedVariables false
set_option linter.unusedSimpArgs false
set_option linter.unusedSectionVars false
open Go Go.V
set_option maxRecDepth 100000
set_option maxHeartbeats 4000000
namespace Go.V.W
def nanN (x : Nat) : Bool := x / 4503599627370496 % 2048 == 2047 && x % 4503599627370496 != 0
theorem and_mask {m k : Nat} (hm : m < 2 ^ 64) (hk : k ≤ 63) : (BitVec.ofInt 64 (m : Int) &&& BitVec.ofInt 64 ((2 ^ k - 1 : Nat) : Int)).toNat = m % 2 ^ k := by
  have h1 : 2 ^ k ≤ 2 ^ 63 := Nat.pow_le_pow_right (by omega) hk
  rw [BitVec.toNat_and, BitVec.ofInt_natCast, BitVec.ofInt_natCast, BitVec.toNat_ofNat, BitVec.toNat_ofNat, Nat.mod_eq_of_lt hm, Nat.mod_eq_of_lt (by omega), Nat.and_two_pow_sub_one_eq_mod]
theorem and_mask' {m k : Nat} {M : Int} (hM : M = ((2 ^ k - 1 : Nat) : Int)) (hm : m < 2 ^ 64) (hk : k ≤ 63) : (BitVec.ofInt IntKind.u64.bits (m : Int) &&& BitVec.ofInt IntKind.u64.bits M).toNat = m % 2 ^ k := by
  rw [hM]; exact and_mask hm hk
theorem wrap_u64_nat {n : Nat} (h : n < 18446744073709551616) : IntKind.wrap .u64 (n : Int) = (n : Int) := by
  simp only [IntKind.wrap, IntKind.bits, IntKind.signed]
  simp only [Bool.false_and, Bool.false_eq_true, if_false]
  omega
theorem c143 (S : St) : Go.V.Call E0 143 [.agg [.int .i64 11, .int .i64 52]] S (.int .u64 2047) S := by
  refine call_cfg (by kernel_rfl) ?_
  refine evc_g 13 ?_
  exact evc_endS (Val.int IntKind.u64 2047) (by kernel_rfl) (by kernel_rfl) (by first | with_reducible rfl | assumption | (simp_all; done) | omega | (simp_all; omega)) (by first | rfl | simp [Val.low, Val.lows, low_encL, low_encI])
theorem c142 (x : Nat) (hx : x < 2 ^ 64) (S : St) : Go.V.Call E0 142 [.agg [.int .i64 11, .int .i64 52], .int .u64 (x : Int)] S (.tup [.int .u64 ((x / 9223372036854775808 : Nat) : Int), .int .u64 ((x / 4503599627370496 % 2048 : Nat) : Int), .int .u64 ((x % 4503599627370496 : Nat) : Int)]) S := by
  have e1 : ((x : Int).fdiv 9223372036854775808) = ((x / 9223372036854775808 : Nat) : Int) := (Int.ofNat_fdiv x 9223372036854775808).symm
  have e2 : ((x : Int).fdiv 4503599627370496) = ((x / 4503599627370496 : Nat) : Int) := (Int.ofNat_fdiv x 4503599627370496).symm
  have e3 : IntKind.wrap .u64 ((BitVec.ofInt IntKind.u64.bits ((x : Int).fdiv 4503599627370496) &&& BitVec.ofInt IntKind.u64.bits 2047).toNat : Int) = ((x / 4503599627370496 % 2048 : Nat) : Int) := by
    rw [e2]
    rw [and_mask' (k := 11) (by decide) (by omega) (by omega)]
    exact wrap_u64_nat (by omega)
  have e4 : IntKind.wrap .u64 ((BitVec.ofInt IntKind.u64.bits (x : Int) &&& BitVec.ofInt IntKind.u64.bits 4503599627370495).toNat : Int) = ((x % 4503599627370496 : Nat) : Int) := by
    rw [and_mask' (k := 52) (by decide) hx (by omega)]
    exact wrap_u64_nat (by omega)
  rw [← e1, ← e3, ← e4]
  clear e1 e2 e3 e4
  refine call_cfg (by kernel_rfl) ?_
  refine evc_g 35 ?_
  exact evc_endS (Val.tup [Val.int IntKind.u64 ((↑x : Int).fdiv 9223372036854775808), Val.int IntKind.u64 (IntKind.u64.wrap (↑(BitVec.ofInt IntKind.u64.bits ((↑x : Int).fdiv 4503599627370496) &&& BitVec.ofInt IntKind.u64.bits 2047).toNat : Int)), Val.int IntKind.u64 (IntKind.u64.wrap (↑(BitVec.ofInt IntKind.u64.bits (↑x : Int) &&& BitVec.ofInt IntKind.u64.bits 4503599627370495).toNat : Int))]) (by kernel_rfl) (by kernel_rfl) (by first | with_reducible rfl | assumption | (simp_all; done) | omega | (simp_all; omega)) (by first | rfl | simp [Val.low, Val.lows, low_encL, low_encI])
theorem c111 (x : Nat) (hx : x < 2 ^ 64) (S : St) : Go.V.Call E0 111 [.int .u64 (x : Int)] S (.bool (nanN x)) S := by
  have h1 := c142 x hx S
  have h2 := c143 S
  have e : nanN x = ((((x / 4503599627370496 % 2048 : Nat) : Int) == 2047) && (((x % 4503599627370496 : Nat) : Int) != 0)) := by
    unfold nanN
    rw [Bool.eq_iff_iff]; simp; omega
  rw [e]
  generalize ((x / 4503599627370496 % 2048 : Nat) : Int) = b at *
  generalize ((x % 4503599627370496 : Nat) : Int) = c at *
  refine call_cfg (by kernel_rfl) ?_
  refine evc_g 8 ?_
  refine evc_c (h1) ?_
  refine evc_g 12 ?_
  refine evc_c (h2) ?_
  refine evc_g 2 ?_
  refine evc_s 17 (b == 2047) (fun h12 => ?_) (fun h12 => ?_)
  · refine evc_g 5 ?_
    exact evc_endS (Val.bool (c != 0)) (by kernel_rfl) (by kernel_rfl) (by first | with_reducible rfl | assumption | (simp_all; done) | omega | (simp_all; omega)) (by first | rfl | simp [Val.low, Val.lows, low_encL, low_encI])
  · refine evc_g 5 ?_
    exact evc_endS (Val.bool Bool.false) (by kernel_rfl) (by kernel_rfl) (by first | with_reducible rfl | assumption | (simp_all; done) | omega | (simp_all; omega)) (by first | rfl | simp [Val.low, Val.lows, low_encL, low_encI])
theorem c114 (x : Nat) (S : St) : Go.V.Call E0 114 [.int .u64 (x : Int)] S (.bool (nanN x)) S := by
  have e : nanN x = (((x : Int).fdiv 4503599627370496).tmod 2048 == 2047 && ((x : Int).tmod 4503599627370496 != 0)) := by
    have e2 : ((x : Int).fdiv 4503599627370496) = ((x / 4503599627370496 : Nat) : Int) := (Int.ofNat_fdiv x 4503599627370496).symm
    have e3 : (((x / 4503599627370496 : Nat) : Int).tmod 2048) = ((x / 4503599627370496 % 2048 : Nat) : Int) := (Int.ofNat_tmod (x / 4503599627370496) 2048).symm
    have e4 : ((x : Int).tmod 4503599627370496) = ((x % 4503599627370496 : Nat) : Int) := (Int.ofNat_tmod x 4503599627370496).symm
    rw [e2, e3, e4]
    unfold nanN
    rw [Bool.eq_iff_iff]; simp; omega
  rw [e]
  clear e
  refine call_cfg (by kernel_rfl) ?_
  refine evc_g 11 ?_
  refine evc_s 7 (((↑x : Int).fdiv 4503599627370496).tmod 2048 == 2047) (fun h12 => ?_) (fun h12 => ?_)
  · refine evc_g 6 ?_
    exact evc_endS (Val.bool ((↑x : Int).tmod 4503599627370496 != 0)) (by kernel_rfl) (by kernel_rfl) (by first | with_reducible rfl | assumption | (simp_all; done) | omega | (simp_all; omega)) (by first | rfl | simp [Val.low, Val.lows, low_encL, low_encI])
  · refine evc_g 6 ?_
    exact evc_endS (Val.bool Bool.false) (by kernel_rfl) (by kernel_rfl) (by first | with_reducible rfl | assumption | (simp_all; done) | omega | (simp_all; omega)) (by first | rfl | simp [Val.low, Val.lows, low_encL, low_encI])
end Go.V.W
