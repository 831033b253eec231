/-
  DenoteNumbers (ullagelaw18): for every input it answers true, and the arguments read as they did.
  Conditions: the row's own (the variable ullage/float.double is laid as the program's text lays it; the card ties that). The whole call is stepped through by an interpreter of the loaded code (the V texts), which is proved to go as the model goes.
-/
import Derived.Test.YtgnfinbhnoofpaaDoorCards
import Derived.Test.YtgnfinbhnoofpaaDoorTie
import Derived.WalkKit
import Derived.ProofKit
import Derived.OpenShut
import Derived.Deep.DeepHandedRow
import Derived.Test.YtgnfinbhnoofpaaDoorDN4
import Derived.Test.YtgnfinbhnoofpaaDoorWrap
set_option linter.unusedVariables false
set_option linter.unusedSimpArgs false
set_option linter.unusedSectionVars false
namespace Go.Proofs.YtgnfinbhnoofpaaDoor.denoteNumbers
open Go.ChangeShapes Go.WideShapes Go.ChangeAt Go.RowKit Go.V
set_option maxRecDepth 100000
set_option maxHeartbeats 4000000

theorem law {n lo hi : Int} (h1 : -9223372036854775808 ≤ n) (h2 : n ≤ 9223372036854775807) : Go.V.Call E0 9 [.int .i64 n, .int .i64 lo, .int .i64 hi] ⟨[], []⟩ (.bool true) ⟨[], []⟩ := by
  have hb := or_top (BitVec.ofInt 64 (IntKind.wrap .u64 n))
  have hl : (if hi < lo then hi else lo) ≤ (if hi > lo then hi else lo) := by split <;> split <;> omega
  by_cases h : 0 ≤ n
  · have e : IntKind.wrap .u64 n = n := wrap_u64 h (by omega)
    exact W.c9a n lo hi h (by rw [e]; exact h2) (by rw [e, wrap_i64 h1 h2]) hb hl
  · have e1 : IntKind.wrap .i64 (-1 - n) = -1 - n := wrap_i64 (by omega) (by omega)
    have e2 : IntKind.wrap .u64 (-1 - n) = -1 - n := wrap_u64 (by omega) (by omega)
    exact W.c9b n lo hi (by omega) (by rw [e1, e2]; omega) (by rw [e1, e2, e1, wrap_i64 (by omega) (by omega)]; omega) hb hl

theorem own : ownKnob Tryd.prog.godebug = none := by kernel_rfl
theorem gD : Tryd.prog.globalNamed "ullage/float.double" = some 1 := by kernel_rfl
theorem gDType : (Tryd.prog.globals[1]?).map (·.type) = some 159 := by kernel_rfl
theorem c3 : Tryd.prog.cellsOf 3 = 1 := by kernel_rfl
theorem c159 : Tryd.prog.cellsOf 159 = 2 := by kernel_rfl
theorem ok : EnvOk E0 := envOk_of (by kernel_rfl) rfl (by kernel_rfl)
theorem globs {W : World} (h : laidMetH Tryd.prog Rows.denoteNumbersRow.laid W) : ∀ g cs, E0.glob g = some cs → RepMem (bare W) g 0 cs := by
  have hr : RepMem (bare W) 1 0 [.int .i64 11, .int .i64 52] := laid_glob (f := 5) gD gDType (show laidMet Tryd.prog [("ullage/float.double", Rows.laid_ullage_float_double)] W from h) (by simp [inV, inFields, Rows.laid_ullage_float_double, Tryd.underlying159, Tryd.underlying3, c3, c159])
  refine glob_one (fun x cs hx => ?_) hr
  have hx' : globL.lookup x = some cs := hx
  unfold globL at hx'
  simp only [List.lookup] at hx'
  split at hx'
  · rename_i he
    simp only [beq_iff_eq] at he
    exact ⟨he, (Option.some.inj hx').symm⟩
  · simp at hx'

theorem contract (H : Type) (enc : TypeId × Value → H) (W : World) (base : Nat) (args : Array Value) (ds gs : List (DataW H)) (before : List MemPlace)
    (hval : ∀ (j : Nat) t v, Tryd.f9.params[j]? = some t → args[j]? = some v → Value.okWide Tryd.prog W .any base t v)
    (hW : DataW.Whole enc Tryd.prog Tryd.f9.params.toList Rows.denoteNumbersSpec.vars false W args.toList ds gs before) (hL : laidMetH Tryd.prog Rows.denoteNumbersRow.laid W) :
    Calls Tryd.prog 9 args W fun e W' => ∃ v, e = .returned v ∧ Rows.denoteNumbersSpec.post enc Tryd.prog Tryd.f9 false true false false W args v W' := by
  have hval0 := hval
  have hW' := hW
  obtain ⟨p, q, hA0, hV, rfl, hfz, hnd⟩ := hW
  have hA : DataW.TrodAll enc Tryd.prog W 0 (fun _ => true) true Tryd.f9.params.toList args.toList ds p := hA0
  rw [Tryd.params9] at hA hval
  obtain ⟨v0, vs0, d0, ds0, p0, q0, hargs, rfl, rfl, h0, r0⟩ := trodAll_cons hA
  obtain ⟨v1, vs1, d1, ds1, p1, q1, rfl, rfl, rfl, h1, r1⟩ := trodAll_cons r0
  obtain ⟨v2, vs2, d2, ds2, p2, q2, rfl, rfl, rfl, h2, r2⟩ := trodAll_cons r1
  obtain ⟨rfl, rfl, rfl⟩ := trodAll_nil r2
  obtain rfl : args = #[v0, v1, v2] := by cases args; simp_all
  obtain ⟨rfl, rfl⟩ := trodVars_none hV
  obtain ⟨n0, rfl, rfl, rfl, w0⟩ := open_int Tryd.underlying3 (hval 0 3 v0 rfl rfl) h0
  obtain ⟨n1, rfl, rfl, rfl, w1⟩ := open_int Tryd.underlying3 (hval 1 3 v1 rfl rfl) h1
  obtain ⟨n2, rfl, rfl, rfl, w2⟩ := open_int Tryd.underlying3 (hval 2 3 v2 rfl rfl) h2
  simp only [Lit.wf, Bool.and_eq_true, decide_eq_true_eq] at w0
  have a0 : -9223372036854775808 ≤ n0 := w0.1
  have a1 : n0 ≤ 9223372036854775807 := w0.2
  obtain ⟨N, hc⟩ := law (lo := n1) (hi := n2) a0 a1
  exact post_true ok (L := [3]) (by kernel_rfl) (by rw [Tryd.params9]; simp) rfl (tb := 4) rfl Tryd.underlying4 hW' rfl hval0 (globs hL) rfl (q := 5) (by rw [Tryd.params9]; show inArgs Tryd.prog 5 [3, 3, 3] _ = _; simp [inArgs, inV, argOf, Tryd.underlying3]) hc

/-- a world for the witness -/
noncomputable def laidWorld (os : Os) : World :=
  { World.holding Tryd.prog os ⟨#[], #[], []⟩ with heap := (World.holding Tryd.prog os ⟨#[], #[], []⟩).heap.modify 1 fun
      | .cells _ t frozen => .cells #[.int .i64 11, .int .i64 52] t frozen
      | o => o }
theorem laid_met (os : Os) : laidMet Tryd.prog Rows.denoteNumbersRow.laid ((laidWorld os).forCall (fun _ _ => 0) ⟨#[], #[.int .i64 0, .int .i64 0, .int .i64 0], []⟩).memory :=
  laidMet_of_run' 8 (by kernel_rfl) (by kernel_rfl)
theorem reads (os : Os) {H : Type} (enc : TypeId × Value → H) : ∃ places, DataW.whole enc Tryd.prog ((laidWorld os).forCall (fun _ _ => 0) ⟨#[], #[.int .i64 0, .int .i64 0, .int .i64 0], []⟩).memory Tryd.f9.params.toList Rows.denoteNumbersSpec.vars false #[Value.int .i64 0, .int .i64 0, .int .i64 0].toList 8 = some ([.lit (.int .i64 0), .lit (.int .i64 0), .lit (.int .i64 0)], [], places) :=
  ⟨[], by kernel_rfl⟩

theorem lifted (os : Os) (started : os.Started) (H : Type) (enc : TypeId × Value → H) (F : Stop.Interp) :
    ReturnsInHanded {} Tryd.checked os 9 .any ((OpenSpec.ofChange Rows.denoteNumbersSpec).preRow enc Tryd.prog Tryd.f9 Rows.denoteNumbersRow.domain false Rows.denoteNumbersRow.laid) (((OpenSpec.ofChange Rows.denoteNumbersSpec).at F).post enc Tryd.prog Tryd.f9 false true false false) := by
  obtain ⟨places, hx⟩ := reads os enc
  refine returnsInHanded_of_row (C := Tryd.checked) (s := OpenSpec.ofChange Rows.denoteNumbersSpec) own started (by kernel_rfl) Tryd.func9
    (witness_row_at (enc := enc) (C := Tryd.checked) false (laidWorld os) #[.int .i64 0, .int .i64 0, .int .i64 0] rfl (by kernel_rfl) (by kernel_rfl) (by kernel_rfl)
      (OpenSpec.preRow_of_cond 8 hx (by kernel_rfl) (fun k hk => by cases hk) (by kernel_rfl) (laid_met os))) ?_
  intro W base args ds gs before hval hW _ _ _ hL _ _
  exact contract H enc W base args ds gs before hval hW hL

theorem said : Rows.DenoteNumbersSaid :=
  OpenClaim.holds_of_cond 9 Tryd.f9 rfl rfl rfl rfl rfl rfl rfl ⟨rfl, rfl, rfl, rfl, rfl⟩ rfl rfl rfl rfl rfl (by kernel_rfl) Tryd.func9 (by kernel_rfl)
    (of_decide_eq_true (by kernel_rfl)) (by unfold Func.isWrapper; first | (rw [if_pos (by decide +kernel)]; kernel_rfl) | (rw [if_neg (by decide +kernel)]; exact ⟨rfl, rfl⟩))
    (fun os started H enc _ F => by rw [OpenClaim.pre_eq_preRow]; exact lifted os started H enc F)

theorem plain (f : FuncId) (fn : Func) (hf : Tryd.pinned.checked.prog.funcNamed "ullage/ullagelaw18.DenoteNumbers" = some f) (hfn : Tryd.pinned.checked.prog.funcs[f]? = some fn) :
    false = Tryd.pinned.checked.prog.looks [] ∧ ∀ (j : Nat) t, fn.params[j]? = some t → Tryd.pinned.checked.prog.wantsStandIn t = false := by
  obtain rfl : f = 9 := Option.some.inj ((show Tryd.prog.funcNamed "ullage/ullagelaw18.DenoteNumbers" = some 9 by kernel_rfl).symm.trans hf) |>.symm
  obtain rfl : fn = Tryd.f9 := (Option.some.inj (Tryd.func9.symm.trans hfn)).symm
  refine ⟨by kernel_rfl, fun j t ht => ?_⟩
  rw [Tryd.params9] at ht
  obtain rfl : t = 3 := by simpa using Array.mem_of_getElem? ht
  exact (show Tryd.prog.wantsStandIn 3 = false by kernel_rfl)

theorem card : Rows.DenoteNumbersCardSaid :=
  Claim7.holds_tied_plain_at .later [] _ _ _ _ said (fun _ h => by cases h) (by kernel_rfl) (fun _ h => by cases h) denoteNumbers_row_tie rfl ⟨rfl, rfl⟩ (by kernel_rfl) rfl plain (by kernel_rfl)
end Go.Proofs.YtgnfinbhnoofpaaDoor.denoteNumbers
