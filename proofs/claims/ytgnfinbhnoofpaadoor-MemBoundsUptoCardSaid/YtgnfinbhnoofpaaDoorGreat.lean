/- Great (ullageref08): is there more than is looked at; and Same of inline items, both of them. -/
import Derived.Test.YtgnfinbhnoofpaaDoorOver
import Derived.Test.YtgnfinbhnoofpaaDoorItems
set_option linter.unusedVariables false
set_option linter.unusedSimpArgs false
set_option linter.unusedSectionVars false
open Go Go.V
set_option maxRecDepth 100000
set_option maxHeartbeats 4000000
namespace Go.V.W
def greatI (x : It) : Bool := overI 80 x || decide (200 < (itemsI x).length)
theorem c18 (x : It) (S : St) (h : (itemsI x).length ≤ 2 ^ 30) : Go.V.Call E0 18 [.agg (encI x)] S (.bool (greatI x)) S := by
  have h78 := c78 80 x S (by omega)
  have h19 := c19 (2 ^ 30) x h (by omega) 1 S
  have h78' : Go.V.Call E0 78 [.agg (encI x), .int .i64 80] S (.bool (overI 80 x)) S := h78
  cases x with
  | mk k n s q l =>
    have e : greatI (.mk k n s q l) = (overI 80 (.mk k n s q l) || decide (((itemsI (.mk k n s q l)).length : Int) > 200)) := by
      unfold greatI; congr 1; rw [decide_eq_decide]; omega
    rw [e]
    generalize hg : overI 80 (.mk k n s q l) = g at *
    generalize hi : itemsI (.mk k n s q l) = il at *
    generalize hd : deepsI (.mk k n s q l) 1 = dl at *
    generalize hq : itq (.mk k n s q l) = qq at *
    rw [encI_mk] at *
    refine call_cfg (by kernel_rfl) ?_
    refine evc_g 9 ?_
    refine evc_c (h78') ?_
    refine evc_g 1 ?_
    refine evc_s 6 (g) (fun h12 => ?_) (fun h12 => ?_)
    · refine evc_g 5 ?_
      exact evc_endS (Val.bool Bool.true) (by kernel_rfl) (by kernel_rfl) (by first | with_reducible rfl | assumption | (simp_all; done) | omega | (simp_all; omega)) (by first | rfl | simp [low_enc])
    · refine evc_g 5 ?_
      refine evc_c (h19) ?_
      refine evc_g 13 ?_
      exact evc_endS (Val.bool (decide ((↑il.length : Int) > 200))) (by kernel_rfl) (by kernel_rfl) (by first | with_reducible rfl | assumption | (simp_all; done) | omega | (simp_all; omega)) (by first | rfl | simp [low_enc])
end Go.V.W
