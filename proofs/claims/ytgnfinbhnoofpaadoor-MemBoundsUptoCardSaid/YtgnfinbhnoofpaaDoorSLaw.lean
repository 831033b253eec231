/- SchemaChecks (ullagelaw16): the whole call. -/
import Derived.Test.YtgnfinbhnoofpaaDoorVH
import Derived.Test.YtgnfinbhnoofpaaDoorSCheck
import Derived.Test.YtgnfinbhnoofpaaDoorSGreat
import Derived.Test.YtgnfinbhnoofpaaDoorDecS
set_option linter.unusedVariables false
set_option linter.unusedSimpArgs false
set_option linter.unusedSectionVars false
open Go Go.V
set_option maxRecDepth 100000
set_option maxHeartbeats 4000000
namespace Go.V.W
abbrev e0 : St := ⟨[], []⟩
theorem s29 : Go.V.Call E0 29 [] e0 (.bool true) e0 := call_run 100000 (by kernel_rfl)
/-- what is no more than is looked at is within bounds -/
theorem ok_schema {ns : List Nd} {b : Nat} (hb : b ≤ 1048576) (hn : ∀ n ∈ ns, NdOk b n) (hg : greatS ns = false) : ns.length ≤ 40 ∧ ∀ n ∈ ns, okNd n ∧ greatN n = false := by
  simp only [greatS, Bool.or_eq_false_iff, decide_eq_false_iff_not] at hg
  have hl : ns.length ≤ 40 := by omega
  refine ⟨hl, fun n hm => ?_⟩
  have h1 := hg.1
  rw [List.take_of_length_le (by omega)] at h1
  have h2 : greatN n = false := by
    false_or_by_contra
    rename_i hc
    have : ns.any greatN = true := List.any_eq_true.2 ⟨n, hm, by simpa using hc⟩
    rw [this] at h1; simp at h1
  have h3 := h2
  simp only [greatN, Bool.or_eq_false_iff, decide_eq_false_iff_not] at h3
  have hgv := h3.2.2.1
  simp only [greatI, Bool.or_eq_false_iff] at hgv
  have hk := hn n hm
  have hi := hk.items
  have hl2 := hk.l
  have hf2 := hk.f
  refine ⟨⟨⟨⟨hk.wf, by omega, fun y hy => by have := (over_short 80 n.v hgv.1 y hy).1; omega⟩, by omega, by omega, fun x hx => by have := hk.keys x hx; omega⟩, hk.nil⟩, h2⟩
theorem great_pre {ns : List Nd} {b : Nat} (hb : b ≤ 1048576) (hn : ∀ n ∈ ns, NdOk b n) : ∀ n ∈ ns, n.f.length ≤ 2 ^ 40 ∧ n.l.length ≤ 2 ^ 40 ∧ (itemsI n.v).length ≤ 2 ^ 30 := fun n hm => by
  have hk := hn n hm
  have := hk.items
  have := hk.l
  have := hk.f
  exact ⟨by omega, by omega, by omega⟩
theorem c5' (ns ns' : List Nd) (q q' : Q) (g g' : Bool) (p : Int × Int) (r : Bool) (w : Int) (h29 : Go.V.Call E0 29 [] e0 (.bool true) e0)
    (h30 : Go.V.Call E0 30 [.agg [.sli (encNs ns) ns.length q]] e0 (.bool g) e0) (h30' : Go.V.Call E0 30 [.agg [.sli (encNs ns') ns'.length q']] e0 (.bool g') e0)
    (h : g = false → g' = false → Go.V.Call E0 31 [.agg [.sli (encNs ns) ns.length q]] e0 (pairV p) e0 ∧ Go.V.Call E0 32 [.agg [.sli (encNs ns) ns.length q]] e0 (pairV p) e0 ∧
      Go.V.Call E0 33 [.agg [.sli (encNs ns) ns.length q], .agg [.sli (encNs ns') ns'.length q']] e0 (.bool r) e0 ∧ Go.V.Call E0 34 [.agg [.sli (encNs ns) ns.length q], .agg [.sli (encNs ns') ns'.length q']] e0 (.bool r) e0 ∧
      Go.V.Call E0 33 [.agg [.sli (encNs ns) ns.length q], .agg [.sli (encNs ns) ns.length q]] e0 (.bool true) e0)
    (h35 : Go.V.Call E0 35 [.agg [.sli (encNs ns) ns.length q]] e0 (.int .i64 (IntKind.wrap .i64 ((IntKind.wrap .i64 ((ns.length : Int) + 63)).tdiv 64))) e0) :
    Go.V.Call E0 5 [.agg [.sli (encNs ns) ns.length q], .agg [.sli (encNs ns') ns'.length q']] e0 (.bool true) e0 := by
  cases g with
  | true =>
    clear h
    refine call_cfg (by kernel_rfl) ?_
    refine evc_g 9 ?_
    refine evc_c (h29) ?_
    refine evc_g 8 ?_
    refine evc_c (h30) ?_
    refine evc_g 10 ?_
    exact evc_e (Val.bool Bool.true) ({ H := [], L := [] })
  | false =>
    cases g' with
    | true =>
      clear h
      refine call_cfg (by kernel_rfl) ?_
      refine evc_g 9 ?_
      refine evc_c (h29) ?_
      refine evc_g 8 ?_
      refine evc_c (h30) ?_
      refine evc_g 2 ?_
      refine evc_c (h30') ?_
      refine evc_g 7 ?_
      exact evc_e (Val.bool Bool.true) ({ H := [], L := [] })
    | false =>
      obtain ⟨h31, h32, h33, h34, h33'⟩ := h rfl rfl
      clear h
      refine call_cfg (by kernel_rfl) ?_
      refine evc_g 9 ?_
      refine evc_c (h29) ?_
      refine evc_g 8 ?_
      refine evc_c (h30) ?_
      refine evc_g 2 ?_
      refine evc_c (h30') ?_
      refine evc_g 7 ?_
      refine evc_c (h31) ?_
      refine evc_g 9 ?_
      refine evc_c (h32) ?_
      refine evc_g 12 ?_
      refine evc_i 30 (p.1 == p.1) true ?_
      refine evc_g 5 ?_
      refine evc_i 35 (p.2 == p.2) true ?_
      refine evc_g 2 ?_
      refine evc_c (h33) ?_
      refine evc_g 2 ?_
      refine evc_c (h34) ?_
      refine evc_g 3 ?_
      refine evc_i 44 (r == r) true ?_
      refine evc_g 2 ?_
      refine evc_c (h33') ?_
      refine evc_g 3 ?_
      refine evc_c (h35) ?_
      refine evc_g 9 ?_
      exact evc_e (Val.bool (IntKind.i64.wrap ((IntKind.i64.wrap ((↑ns.length : Int) + 63)).tdiv 64) == IntKind.i64.wrap ((IntKind.i64.wrap ((↑ns.length : Int) + 63)).tdiv 64))) ({ H := [], L := [] })
/-- THE LAW -/
theorem c5 (ns ns' : List Nd) (q q' : Q) {b b' : Nat} (hb : b ≤ 1048576) (hb' : b' ≤ 1048576) (hn : ∀ n ∈ ns, NdOk b n) (hn' : ∀ n ∈ ns', NdOk b' n) (hl : ns.length ≤ b) (hl' : ns'.length ≤ b') :
    Go.V.Call E0 5 [.agg [.sli (encNs ns) ns.length q], .agg [.sli (encNs ns') ns'.length q']] e0 (.bool true) e0 := by
  refine c5' ns ns' q q' _ _ (checkS ns) (eqNs ns ns') 0 s29 (c30 ns q e0 (by omega) (great_pre hb hn)) (c30 ns' q' e0 (by omega) (great_pre hb' hn')) (fun hg _ => ?_) (c35 ns q e0)
  have hok := (ok_schema hb hn hg).2
  have h33 := c33 ns ns q q e0 (by omega) (fun n hm => (hok n hm).1)
  rw [eqNs_refl ns fun n _ => sameNd_refl n] at h33
  exact ⟨c31 ns q e0 (by omega) fun n hm => (hok n hm).1, c32 ns q e0 (by omega) fun n hm => (hok n hm).1, c33 ns ns' q q' e0 (by omega) fun n hm => (hok n hm).1, c34 ns ns' q q' e0 (by omega) fun n hm => (hok n hm).1, h33⟩
end Go.V.W
