/- form (item): has an item just the fields of its kind? -/
import Derived.Test.YtgnfinbhnoofpaaDoorE0
import Derived.Test.YtgnfinbhnoofpaaDoorItem
import Derived.Test.YtgnfinbhnoofpaaDoorVH
set_option linter.unusedVariables false
set_option linter.unusedSimpArgs false
set_option linter.unusedSectionVars false
open Go Go.V
set_option maxRecDepth 100000
set_option maxHeartbeats 4000000
namespace Go.V.W
def formI (k n : Int) (s : List UInt8) (len : Nat) : Bool :=
  if k == 0 || (k == 1 || (k == 7 || k == 8)) then s == [] && len == 0
  else if k == 2 || k == 3 then n == 0 && len == 0
  else if k == 4 then n == 0 && s == []
  else if k == 5 then n == 0 && (s == [] && len % 2 == 0)
  else if k == 6 then s == [] && len == 1
  else false
theorem c110 (k n : Int) (s : List UInt8) (q : Q) (l : List It) (S : St) : Go.V.Call E0 110 [.agg (i4 k n s l q)] S (.bool (formI k n s l.length)) S := by
  generalize hL : l.length = L
  have e1 : ((L : Int) == 0) = (L == 0) := by rw [Bool.eq_iff_iff]; simp
  have e2 : ((L : Int) == 1) = (L == 1) := by rw [Bool.eq_iff_iff]; simp; omega
  have e3 : (((L : Int).tmod 2) == 0) = (L % 2 == 0) := by
    have : (L : Int).tmod 2 = ((L % 2 : Nat) : Int) := (Int.ofNat_tmod L 2).symm
    rw [this, Bool.eq_iff_iff]; simp; omega
  unfold formI
  refine call_cfg (by kernel_rfl) ?_
  refine evc_g 28 ?_
  refine evc_s 12 (k == 0) (fun h12 => ?_) (fun h12 => ?_)
  · refine evc_g 22 ?_
    refine evc_s 49 (s == []) (fun h11 => ?_) (fun h11 => ?_)
    · refine evc_g 4 ?_
      exact evc_endS (Val.bool ((↑l.length : Int) == 0)) (by kernel_rfl) (by kernel_rfl) (by first | with_reducible rfl | assumption | (simp_all; done) | omega | (simp_all; omega)) (by first | rfl | simp [Val.low, Val.lows, low_encL, low_encI])
    · refine evc_g 4 ?_
      exact evc_endS (Val.bool Bool.false) (by kernel_rfl) (by kernel_rfl) (by first | with_reducible rfl | assumption | (simp_all; done) | omega | (simp_all; omega)) (by first | rfl | simp [Val.low, Val.lows, low_encL, low_encI])
  · refine evc_g 6 ?_
    refine evc_s 12 (k == 1) (fun h11 => ?_) (fun h11 => ?_)
    · refine evc_g 22 ?_
      refine evc_s 49 (s == []) (fun h10 => ?_) (fun h10 => ?_)
      · refine evc_g 4 ?_
        exact evc_endS (Val.bool ((↑l.length : Int) == 0)) (by kernel_rfl) (by kernel_rfl) (by first | with_reducible rfl | assumption | (simp_all; done) | omega | (simp_all; omega)) (by first | rfl | simp [Val.low, Val.lows, low_encL, low_encI])
      · refine evc_g 4 ?_
        exact evc_endS (Val.bool Bool.false) (by kernel_rfl) (by kernel_rfl) (by first | with_reducible rfl | assumption | (simp_all; done) | omega | (simp_all; omega)) (by first | rfl | simp [Val.low, Val.lows, low_encL, low_encI])
    · refine evc_g 6 ?_
      refine evc_s 12 (k == 7) (fun h10 => ?_) (fun h10 => ?_)
      · refine evc_g 22 ?_
        refine evc_s 49 (s == []) (fun h9 => ?_) (fun h9 => ?_)
        · refine evc_g 4 ?_
          exact evc_endS (Val.bool ((↑l.length : Int) == 0)) (by kernel_rfl) (by kernel_rfl) (by first | with_reducible rfl | assumption | (simp_all; done) | omega | (simp_all; omega)) (by first | rfl | simp [Val.low, Val.lows, low_encL, low_encI])
        · refine evc_g 4 ?_
          exact evc_endS (Val.bool Bool.false) (by kernel_rfl) (by kernel_rfl) (by first | with_reducible rfl | assumption | (simp_all; done) | omega | (simp_all; omega)) (by first | rfl | simp [Val.low, Val.lows, low_encL, low_encI])
      · refine evc_g 5 ?_
        refine evc_s 12 (k == 8) (fun h9 => ?_) (fun h9 => ?_)
        · refine evc_g 20 ?_
          refine evc_s 49 (s == []) (fun h8 => ?_) (fun h8 => ?_)
          · refine evc_g 4 ?_
            exact evc_endS (Val.bool ((↑l.length : Int) == 0)) (by kernel_rfl) (by kernel_rfl) (by first | with_reducible rfl | assumption | (simp_all; done) | omega | (simp_all; omega)) (by first | rfl | simp [Val.low, Val.lows, low_encL, low_encI])
          · refine evc_g 4 ?_
            exact evc_endS (Val.bool Bool.false) (by kernel_rfl) (by kernel_rfl) (by first | with_reducible rfl | assumption | (simp_all; done) | omega | (simp_all; omega)) (by first | rfl | simp [Val.low, Val.lows, low_encL, low_encI])
        · refine evc_g 7 ?_
          refine evc_s 17 (k == 2) (fun h8 => ?_) (fun h8 => ?_)
          · refine evc_g 17 ?_
            refine evc_s 41 (n == 0) (fun h7 => ?_) (fun h7 => ?_)
            · refine evc_g 12 ?_
              exact evc_endS (Val.bool ((↑l.length : Int) == 0)) (by kernel_rfl) (by kernel_rfl) (by first | with_reducible rfl | assumption | (simp_all; done) | omega | (simp_all; omega)) (by first | rfl | simp [Val.low, Val.lows, low_encL, low_encI])
            · refine evc_g 12 ?_
              exact evc_endS (Val.bool Bool.false) (by kernel_rfl) (by kernel_rfl) (by first | with_reducible rfl | assumption | (simp_all; done) | omega | (simp_all; omega)) (by first | rfl | simp [Val.low, Val.lows, low_encL, low_encI])
          · refine evc_g 5 ?_
            refine evc_s 17 (k == 3) (fun h7 => ?_) (fun h7 => ?_)
            · refine evc_g 15 ?_
              refine evc_s 41 (n == 0) (fun h6 => ?_) (fun h6 => ?_)
              · refine evc_g 12 ?_
                exact evc_endS (Val.bool ((↑l.length : Int) == 0)) (by kernel_rfl) (by kernel_rfl) (by first | with_reducible rfl | assumption | (simp_all; done) | omega | (simp_all; omega)) (by first | rfl | simp [Val.low, Val.lows, low_encL, low_encI])
              · refine evc_g 12 ?_
                exact evc_endS (Val.bool Bool.false) (by kernel_rfl) (by kernel_rfl) (by first | with_reducible rfl | assumption | (simp_all; done) | omega | (simp_all; omega)) (by first | rfl | simp [Val.low, Val.lows, low_encL, low_encI])
            · refine evc_g 6 ?_
              refine evc_s 20 (k == 4) (fun h6 => ?_) (fun h6 => ?_)
              · refine evc_g 15 ?_
                refine evc_s 41 (n == 0) (fun h5 => ?_) (fun h5 => ?_)
                · refine evc_g 8 ?_
                  refine evc_s 49 (s == []) (fun h4 => ?_) (fun h4 => ?_)
                  · refine evc_g 4 ?_
                    exact evc_endS (Val.bool Bool.true) (by kernel_rfl) (by kernel_rfl) (by first | with_reducible rfl | assumption | (simp_all; done) | omega | (simp_all; omega)) (by first | rfl | simp [Val.low, Val.lows, low_encL, low_encI])
                  · refine evc_g 4 ?_
                    exact evc_endS (Val.bool Bool.false) (by kernel_rfl) (by kernel_rfl) (by first | with_reducible rfl | assumption | (simp_all; done) | omega | (simp_all; omega)) (by first | rfl | simp [Val.low, Val.lows, low_encL, low_encI])
                · refine evc_g 12 ?_
                  exact evc_endS (Val.bool Bool.false) (by kernel_rfl) (by kernel_rfl) (by first | with_reducible rfl | assumption | (simp_all; done) | omega | (simp_all; omega)) (by first | rfl | simp [Val.low, Val.lows, low_encL, low_encI])
              · refine evc_g 6 ?_
                refine evc_s 22 (k == 5) (fun h5 => ?_) (fun h5 => ?_)
                · refine evc_g 20 ?_
                  refine evc_s 41 (n == 0) (fun h4 => ?_) (fun h4 => ?_)
                  · refine evc_g 8 ?_
                    refine evc_s 49 (s == []) (fun h3 => ?_) (fun h3 => ?_)
                    · refine evc_g 4 ?_
                      exact evc_endS (Val.bool ((↑l.length : Int).tmod 2 == 0)) (by kernel_rfl) (by kernel_rfl) (by first | with_reducible rfl | assumption | (simp_all; done) | omega | (simp_all; omega)) (by first | rfl | simp [Val.low, Val.lows, low_encL, low_encI])
                    · refine evc_g 4 ?_
                      exact evc_endS (Val.bool Bool.false) (by kernel_rfl) (by kernel_rfl) (by first | with_reducible rfl | assumption | (simp_all; done) | omega | (simp_all; omega)) (by first | rfl | simp [Val.low, Val.lows, low_encL, low_encI])
                  · refine evc_g 12 ?_
                    exact evc_endS (Val.bool Bool.false) (by kernel_rfl) (by kernel_rfl) (by first | with_reducible rfl | assumption | (simp_all; done) | omega | (simp_all; omega)) (by first | rfl | simp [Val.low, Val.lows, low_encL, low_encI])
                · refine evc_g 6 ?_
                  refine evc_s 29 (k == 6) (fun h4 => ?_) (fun h4 => ?_)
                  · refine evc_g 26 ?_
                    refine evc_s 49 (s == []) (fun h3 => ?_) (fun h3 => ?_)
                    · refine evc_g 4 ?_
                      exact evc_endS (Val.bool ((↑l.length : Int) == 1)) (by kernel_rfl) (by kernel_rfl) (by first | with_reducible rfl | assumption | (simp_all; done) | omega | (simp_all; omega)) (by first | rfl | simp [Val.low, Val.lows, low_encL, low_encI])
                    · refine evc_g 4 ?_
                      exact evc_endS (Val.bool Bool.false) (by kernel_rfl) (by kernel_rfl) (by first | with_reducible rfl | assumption | (simp_all; done) | omega | (simp_all; omega)) (by first | rfl | simp [Val.low, Val.lows, low_encL, low_encI])
                  · refine evc_g 5 ?_
                    exact evc_endS (Val.bool Bool.false) (by kernel_rfl) (by kernel_rfl) (by first | with_reducible rfl | assumption | (simp_all; done) | omega | (simp_all; omega)) (by first | rfl | simp [Val.low, Val.lows, low_encL, low_encI])
end Go.V.W
