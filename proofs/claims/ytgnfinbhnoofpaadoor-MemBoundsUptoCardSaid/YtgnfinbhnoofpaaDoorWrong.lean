/- wrong (item): given what Valid and twice answer. -/
import Derived.Test.YtgnfinbhnoofpaaDoorForm
import Derived.Test.YtgnfinbhnoofpaaDoorNaN
set_option linter.unusedVariables false
set_option linter.unusedSimpArgs false
set_option linter.unusedSectionVars false
open Go Go.V
set_option maxRecDepth 100000
set_option maxHeartbeats 4000000
namespace Go.V.W
def wrongI (k : Int) (n : Nat) (s : List UInt8) (len : Nat) (val tw : Bool) : Int :=
  if formI k n s len then
    if (k == 7 && (decide ((n : Int) > 255) || (decide ((n : Int) ≥ 24) && decide ((n : Int) < 32)))) || (k == 8 && (nanN n && ((n : Int) != 9221120237041090560))) then 15
    else if k == 3 && !val then 6
    else if k == 5 && tw then 14
    else 0
  else 11
theorem c81 (k : Int) (n : Nat) (hn : n < 2 ^ 64) (s : List UInt8) (q : Q) (l : List It) (S : St) (val tw : Bool) (h112 : Go.V.Call E0 112 [.str s] S (.bool val) S) (h113 : Go.V.Call E0 113 [.sli (encL l) l.length q] S (.bool tw) S) :
    Go.V.Call E0 81 [.agg (i4 k n s l q)] S (.int .i64 (wrongI k n s l.length val tw)) S := by
  have h110 := c110 k n s q l S
  have h111 := c111 n hn S
  unfold wrongI
  generalize formI k n s l.length = f at *
  generalize nanN n = nn at *
  clear hn
  refine call_cfg (by kernel_rfl) ?_
  refine evc_g 10 ?_
  refine evc_c (h110) ?_
  refine evc_g 3 ?_
  refine evc_s 3 (!f) (fun h12 => ?_) (fun h12 => ?_)
  · refine evc_g 5 ?_
    exact evc_endS (Val.int IntKind.i64 11) (by kernel_rfl) (by kernel_rfl) (by first | with_reducible rfl | assumption | (simp_all; done) | omega | (simp_all; omega)) (by first | rfl | simp [Val.low, Val.lows, low_encL, low_encI])
  · refine evc_g 8 ?_
    refine evc_s 11 (k == 7) (fun h11 => ?_) (fun h11 => ?_)
    · refine evc_g 4 ?_
      refine evc_s 15 (decide ((↑n : Int) > 255)) (fun h10 => ?_) (fun h10 => ?_)
      · refine evc_g 19 ?_
        exact evc_endS (Val.int IntKind.i64 15) (by kernel_rfl) (by kernel_rfl) (by first | with_reducible rfl | assumption | (simp_all; done) | omega | (simp_all; omega)) (by first | rfl | simp [Val.low, Val.lows, low_encL, low_encI])
      · refine evc_g 4 ?_
        refine evc_s 19 (decide ((↑n : Int) ≥ 24)) (fun h9 => ?_) (fun h9 => ?_)
        · refine evc_g 8 ?_
          refine evc_s 7 (decide ((↑n : Int) < 32)) (fun h8 => ?_) (fun h8 => ?_)
          · refine evc_g 7 ?_
            exact evc_endS (Val.int IntKind.i64 15) (by kernel_rfl) (by kernel_rfl) (by first | with_reducible rfl | assumption | (simp_all; done) | omega | (simp_all; omega)) (by first | rfl | simp [Val.low, Val.lows, low_encL, low_encI])
          · refine evc_g 6 ?_
            refine evc_i 29 (k == 8) false ?_
            refine evc_g 18 ?_
            refine evc_i 43 (k == 3) false ?_
            refine evc_g 14 ?_
            refine evc_i 53 (k == 5) false ?_
            refine evc_g 13 ?_
            exact evc_endS (Val.int IntKind.i64 0) (by kernel_rfl) (by kernel_rfl) (by first | with_reducible rfl | assumption | (simp_all; done) | omega | (simp_all; omega)) (by first | rfl | simp [Val.low, Val.lows, low_encL, low_encI])
        · refine evc_g 14 ?_
          refine evc_i 29 (k == 8) false ?_
          refine evc_g 18 ?_
          refine evc_i 43 (k == 3) false ?_
          refine evc_g 14 ?_
          refine evc_i 53 (k == 5) false ?_
          refine evc_g 13 ?_
          exact evc_endS (Val.int IntKind.i64 0) (by kernel_rfl) (by kernel_rfl) (by first | with_reducible rfl | assumption | (simp_all; done) | omega | (simp_all; omega)) (by first | rfl | simp [Val.low, Val.lows, low_encL, low_encI])
    · refine evc_g 22 ?_
      refine evc_s 29 (k == 8) (fun h10 => ?_) (fun h10 => ?_)
      · refine evc_g 2 ?_
        refine evc_c (h111) ?_
        refine evc_g 2 ?_
        refine evc_s 34 (nn) (fun h9 => ?_) (fun h9 => ?_)
        · refine evc_g 6 ?_
          refine evc_s 7 ((↑n : Int) != 9221120237041090560) (fun h8 => ?_) (fun h8 => ?_)
          · refine evc_g 5 ?_
            exact evc_endS (Val.int IntKind.i64 15) (by kernel_rfl) (by kernel_rfl) (by first | with_reducible rfl | assumption | (simp_all; done) | omega | (simp_all; omega)) (by first | rfl | simp [Val.low, Val.lows, low_encL, low_encI])
          · refine evc_g 7 ?_
            refine evc_i 43 (k == 3) false ?_
            refine evc_g 14 ?_
            refine evc_i 53 (k == 5) false ?_
            refine evc_g 13 ?_
            exact evc_endS (Val.int IntKind.i64 0) (by kernel_rfl) (by kernel_rfl) (by first | with_reducible rfl | assumption | (simp_all; done) | omega | (simp_all; omega)) (by first | rfl | simp [Val.low, Val.lows, low_encL, low_encI])
        · refine evc_g 13 ?_
          refine evc_i 43 (k == 3) false ?_
          refine evc_g 14 ?_
          refine evc_i 53 (k == 5) false ?_
          refine evc_g 13 ?_
          exact evc_endS (Val.int IntKind.i64 0) (by kernel_rfl) (by kernel_rfl) (by first | with_reducible rfl | assumption | (simp_all; done) | omega | (simp_all; omega)) (by first | rfl | simp [Val.low, Val.lows, low_encL, low_encI])
      · refine evc_g 18 ?_
        refine evc_s 43 (k == 3) (fun h9 => ?_) (fun h9 => ?_)
        · refine evc_g 2 ?_
          refine evc_c (h112) ?_
          refine evc_g 4 ?_
          refine evc_s 39 (!val) (fun h8 => ?_) (fun h8 => ?_)
          · refine evc_g 5 ?_
            exact evc_endS (Val.int IntKind.i64 6) (by kernel_rfl) (by kernel_rfl) (by first | with_reducible rfl | assumption | (simp_all; done) | omega | (simp_all; omega)) (by first | rfl | simp [Val.low, Val.lows, low_encL, low_encI])
          · refine evc_g 7 ?_
            refine evc_i 53 (k == 5) false ?_
            refine evc_g 13 ?_
            exact evc_endS (Val.int IntKind.i64 0) (by kernel_rfl) (by kernel_rfl) (by first | with_reducible rfl | assumption | (simp_all; done) | omega | (simp_all; omega)) (by first | rfl | simp [Val.low, Val.lows, low_encL, low_encI])
        · refine evc_g 14 ?_
          refine evc_s 53 (k == 5) (fun h8 => ?_) (fun h8 => ?_)
          · refine evc_g 2 ?_
            refine evc_c (h113) ?_
            refine evc_g 3 ?_
            refine evc_s 49 (tw) (fun h7 => ?_) (fun h7 => ?_)
            · refine evc_g 5 ?_
              exact evc_endS (Val.int IntKind.i64 14) (by kernel_rfl) (by kernel_rfl) (by first | with_reducible rfl | assumption | (simp_all; done) | omega | (simp_all; omega)) (by first | rfl | simp [Val.low, Val.lows, low_encL, low_encI])
            · refine evc_g 7 ?_
              exact evc_endS (Val.int IntKind.i64 0) (by kernel_rfl) (by kernel_rfl) (by first | with_reducible rfl | assumption | (simp_all; done) | omega | (simp_all; omega)) (by first | rfl | simp [Val.low, Val.lows, low_encL, low_encI])
          · refine evc_g 13 ?_
            exact evc_endS (Val.int IntKind.i64 0) (by kernel_rfl) (by kernel_rfl) (by first | with_reducible rfl | assumption | (simp_all; done) | omega | (simp_all; omega)) (by first | rfl | simp [Val.low, Val.lows, low_encL, low_encI])
end Go.V.W
