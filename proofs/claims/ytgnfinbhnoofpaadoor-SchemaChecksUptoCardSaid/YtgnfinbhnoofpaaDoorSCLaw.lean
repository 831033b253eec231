/-
  SchemaChecks (ullagelaw16), the second form: for every input of bulk at most 1048576 it answers true, and the arguments read as they did.
  Conditions: the row's own (the variable ullage/float.double is laid as the program's text lays it; the card ties that), and the bulk. The whole call is stepped through by an interpreter of the loaded code (the V texts), which is proved to go as the model goes.
-/
import Derived.Test.YtgnfinbhnoofpaaDoorCards
import Derived.Test.YtgnfinbhnoofpaaDoorTie
import Derived.WalkKit
import Derived.ProofKit
import Derived.OpenShut
import Derived.Deep.DeepHandedRow
import Derived.Test.YtgnfinbhnoofpaaDoorSLaw
import Derived.Test.YtgnfinbhnoofpaaDoorDecS
import Derived.Test.YtgnfinbhnoofpaaDoorVH
set_option linter.unusedVariables false
set_option linter.unusedSimpArgs false
set_option linter.unusedSectionVars false
namespace Go.Proofs.YtgnfinbhnoofpaaDoor.schemaChecks
open Go.ChangeShapes Go.WideShapes Go.ChangeAt Go.RowKit Go.V
set_option maxRecDepth 100000
set_option maxHeartbeats 4000000

theorem own : ownKnob Tryd.prog.godebug = none := by kernel_rfl
theorem gD : Tryd.prog.globalNamed "ullage/float.double" = some 1 := by kernel_rfl
theorem gDType : (Tryd.prog.globals[1]?).map (·.type) = some 159 := by kernel_rfl
theorem c3 : Tryd.prog.cellsOf 3 = 1 := by kernel_rfl
theorem c159 : Tryd.prog.cellsOf 159 = 2 := by kernel_rfl
theorem ok : EnvOk E0 := envOk_of (by kernel_rfl) rfl (by kernel_rfl)
theorem globs {W : World} (h : laidMetH Tryd.prog Rows.schemaChecksUptoRow.laid W) : ∀ g cs, E0.glob g = some cs → RepMem (bare W) g 0 cs := by
  have hr : RepMem (bare W) 1 0 [.int .i64 11, .int .i64 52] := laid_glob (f := 5) gD gDType (show laidMet Tryd.prog [("ullage/float.double", Rows.laid_ullage_float_double)] W from h) (by simp [inV, inFields, Rows.laid_ullage_float_double, Tryd.underlying159, Tryd.underlying3, c3, c159])
  refine glob_one (fun x cs hx => ?_) hr
  have hx' : globL.lookup x = some cs := hx
  unfold globL at hx'
  simp only [List.lookup] at hx'
  split at hx'
  · rename_i he
    simp only [beq_iff_eq] at he
    exact ⟨he, (Option.some.inj hx').symm⟩
  · simp at hx'

theorem arg42 (ns : List Nd) (q : Q) : argOf Tryd.prog 42 [.sli (encNs ns) ns.length q] = some (.agg [.sli (encNs ns) ns.length q]) := by unfold argOf; rw [Tryd.underlying42]

theorem contract (H : Type) (enc : TypeId × Value → H) (W : World) (base : Nat) (args : Array Value) (ds gs : List (DataW H)) (before : List MemPlace)
    (hval : ∀ (j : Nat) t v, Tryd.f5.params[j]? = some t → args[j]? = some v → Value.okWide Tryd.prog W .any base t v)
    (hW : DataW.Whole enc Tryd.prog Tryd.f5.params.toList Rows.schemaChecksSpec.vars false W args.toList ds gs before) (hk : Rows.uptoSmall H (ds ++ gs) = true) (hL : laidMetH Tryd.prog Rows.schemaChecksUptoRow.laid W) :
    Calls Tryd.prog 5 args W fun e W' => ∃ v, e = .returned v ∧ Rows.schemaChecksSpec.post enc Tryd.prog Tryd.f5 false true false false W args v W' := by
  have hval0 := hval
  have hW' := hW
  obtain ⟨p, q, hA0, hV, rfl, hfz, hnd⟩ := hW
  have hA : DataW.TrodAll enc Tryd.prog W 0 (fun _ => true) true Tryd.f5.params.toList args.toList ds p := hA0
  rw [Tryd.params5] at hA hval
  obtain ⟨v0, vs0, d0, ds0, p0, q0, hargs, rfl, rfl, h0, r0⟩ := trodAll_cons hA
  obtain ⟨v1, vs1, d1, ds1, p1, q1, rfl, rfl, rfl, h1, r1⟩ := trodAll_cons r0
  obtain ⟨rfl, rfl, rfl⟩ := trodAll_nil r1
  obtain rfl : args = #[v0, v1] := by cases args; simp_all
  obtain ⟨rfl, rfl⟩ := trodVars_none hV
  obtain ⟨f0, t0⟩ := h0
  obtain ⟨f1, t1⟩ := h1
  obtain ⟨ns, q0', i0, o0, l0⟩ := dec_schema f0 _ _ _ t0
  obtain ⟨ns', q1', i1, o1, l1⟩ := dec_schema f1 _ _ _ t1
  have hb : Rows.uptoBulk d0 + Rows.uptoBulk d1 ≤ 1048576 := by
    have := hk
    simp only [Rows.uptoSmall, List.append_nil, List.cons_append, List.nil_append, Rows.uptoBulkAll, decide_eq_true_eq] at this
    omega
  obtain ⟨N, hc⟩ := Go.V.W.c5 ns ns' q0' q1' (b := Rows.uptoBulk d0) (b' := Rows.uptoBulk d1) (by omega) (by omega) o0 o1 l0 l1
  have hin : inArgs E0.P (max f0 f1) Tryd.f5.params.toList [d0, d1] = some [.agg [.sli (encNs ns) ns.length q0'], .agg [.sli (encNs ns') ns'.length q1']] := by
    rw [Tryd.params5]
    show inArgs Tryd.prog (max f0 f1) [42, 42] [d0, d1] = _
    simp only [inArgs, i0 _ (Nat.le_max_left f0 f1), i1 _ (Nat.le_max_right f0 f1), Option.bind_some, arg42]
  exact post_true ok (L := [42, 40, 54, 3, 25, 22, 9, 23, 28, 52, 101, 4]) (by kernel_rfl) (by rw [Tryd.params5]; simp) rfl (tb := 4) rfl Tryd.underlying4 hW' rfl hval0 (globs hL) rfl hin hc

noncomputable def leaf : Value := .agg #[.slice none 0 0]
def leafD {H : Type} : DataW H := .agg [.nil]
/-- a world for the witness -/
noncomputable def laidWorld (os : Os) : World :=
  { World.holding Tryd.prog os ⟨#[], #[], []⟩ with heap := (World.holding Tryd.prog os ⟨#[], #[], []⟩).heap.modify 1 fun
      | .cells _ t frozen => .cells #[.int .i64 11, .int .i64 52] t frozen
      | o => o }
theorem laid_met (os : Os) : laidMet Tryd.prog Rows.schemaChecksUptoRow.laid ((laidWorld os).forCall (fun _ _ => 0) ⟨#[], #[leaf, leaf], []⟩).memory :=
  laidMet_of_run' 8 (by kernel_rfl) (by kernel_rfl)
theorem reads (os : Os) {H : Type} (enc : TypeId × Value → H) : ∃ places, DataW.whole enc Tryd.prog ((laidWorld os).forCall (fun _ _ => 0) ⟨#[], #[leaf, leaf], []⟩).memory Tryd.f5.params.toList Rows.schemaChecksSpec.vars false #[leaf, leaf].toList 8 = some ([leafD, leafD], [], places) :=
  ⟨[], by kernel_rfl⟩

theorem lifted (os : Os) (started : os.Started) (H : Type) (enc : TypeId × Value → H) (F : Stop.Interp) :
    ReturnsInHanded {} Tryd.checked os 5 .any ((Rows.OpenSpec.upto Rows.schemaChecksSpec).preRow enc Tryd.prog Tryd.f5 Rows.schemaChecksUptoRow.domain false Rows.schemaChecksUptoRow.laid) (((Rows.OpenSpec.upto Rows.schemaChecksSpec).at F).post enc Tryd.prog Tryd.f5 false true false false) := by
  obtain ⟨places, hx⟩ := reads os enc
  refine returnsInHanded_of_row (C := Tryd.checked) (s := Rows.OpenSpec.upto Rows.schemaChecksSpec) own started (by kernel_rfl) Tryd.func5
    (witness_row_at (enc := enc) (C := Tryd.checked) false (laidWorld os) #[leaf, leaf] rfl (by kernel_rfl) (by kernel_rfl) (by kernel_rfl)
      (OpenSpec.preRow_of_cond 8 hx (by kernel_rfl) (fun k hk => by cases hk; kernel_rfl) (by kernel_rfl) (laid_met os))) ?_
  intro W base args ds gs before hval hW _ hcond _ hL _ _
  exact contract H enc W base args ds gs before hval hW (hcond _ rfl) hL

theorem said : Rows.SchemaChecksUptoSaid :=
  OpenClaim.holds_of_cond 5 Tryd.f5 rfl rfl rfl rfl rfl rfl rfl ⟨rfl, rfl, rfl, rfl, rfl⟩ rfl rfl rfl rfl rfl (by kernel_rfl) Tryd.func5 (by kernel_rfl)
    (of_decide_eq_true (by kernel_rfl)) (by unfold Func.isWrapper; first | (rw [if_pos (by decide +kernel)]; kernel_rfl) | (rw [if_neg (by decide +kernel)]; exact ⟨rfl, rfl⟩))
    (fun os started H enc _ F => by rw [OpenClaim.pre_eq_preRow]; exact lifted os started H enc F)

theorem plain (f : FuncId) (fn : Func) (hf : Tryd.pinned.checked.prog.funcNamed "ullage/ullagelaw16.SchemaChecks" = some f) (hfn : Tryd.pinned.checked.prog.funcs[f]? = some fn) :
    false = Tryd.pinned.checked.prog.looks [] ∧ ∀ (j : Nat) t, fn.params[j]? = some t → Tryd.pinned.checked.prog.wantsStandIn t = false := by
  obtain rfl : f = 5 := Option.some.inj ((show Tryd.prog.funcNamed "ullage/ullagelaw16.SchemaChecks" = some 5 by kernel_rfl).symm.trans hf) |>.symm
  obtain rfl : fn = Tryd.f5 := (Option.some.inj (Tryd.func5.symm.trans hfn)).symm
  refine ⟨by kernel_rfl, fun j t ht => ?_⟩
  rw [Tryd.params5] at ht
  obtain rfl : t = 42 := by simpa using Array.mem_of_getElem? ht
  exact (show Tryd.prog.wantsStandIn 42 = false by kernel_rfl)

theorem cardUpto : Rows.SchemaChecksUptoCardSaid :=
  Claim7.holds_tied_plain_at .later [] _ _ _ _ said (fun _ h => by cases h) (by kernel_rfl) (fun _ h => by cases h) schemaChecksUpto_row_tie rfl ⟨rfl, rfl⟩ (by kernel_rfl) rfl plain (by kernel_rfl)
end Go.Proofs.YtgnfinbhnoofpaaDoor.schemaChecks
