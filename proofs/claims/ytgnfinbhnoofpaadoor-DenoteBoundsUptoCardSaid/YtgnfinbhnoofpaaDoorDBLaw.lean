/-
  DenoteBounds (ullagelaw18), the second form: for every input of bulk at most 1048576 it answers true, and the arguments read as they did.
  Conditions: the row's own (the variable ullage/float.double is laid as the program's text lays it; the card ties that), and the bulk. The whole call is stepped through by an interpreter of the loaded code (the V texts), which is proved to go as the model goes.
-/
import Derived.Test.YtgnfinbhnoofpaaDoorCards
import Derived.Test.YtgnfinbhnoofpaaDoorTie
import Derived.WalkKit
import Derived.ProofKit
import Derived.OpenShut
import Derived.Deep.DeepHandedRow
import Derived.Test.YtgnfinbhnoofpaaDoorDB3
import Derived.Test.YtgnfinbhnoofpaaDoorDec
import Derived.Test.YtgnfinbhnoofpaaDoorVH
set_option linter.unusedVariables false
set_option linter.unusedSimpArgs false
set_option linter.unusedSectionVars false
namespace Go.Proofs.YtgnfinbhnoofpaaDoor.denoteBounds
open Go.ChangeShapes Go.WideShapes Go.ChangeAt Go.RowKit Go.V
set_option maxRecDepth 100000
set_option maxHeartbeats 4000000

theorem own : ownKnob Tryd.prog.godebug = none := by kernel_rfl
theorem gD : Tryd.prog.globalNamed "ullage/float.double" = some 1 := by kernel_rfl
theorem gDType : (Tryd.prog.globals[1]?).map (·.type) = some 159 := by kernel_rfl
theorem c3 : Tryd.prog.cellsOf 3 = 1 := by kernel_rfl
theorem c159 : Tryd.prog.cellsOf 159 = 2 := by kernel_rfl
theorem ok : EnvOk E0 := envOk_of (by kernel_rfl) rfl (by kernel_rfl)
theorem globs {W : World} (h : laidMetH Tryd.prog Rows.denoteBoundsUptoRow.laid W) : ∀ g cs, E0.glob g = some cs → RepMem (bare W) g 0 cs := by
  have hr : RepMem (bare W) 1 0 [.int .i64 11, .int .i64 52] := laid_glob (f := 5) gD gDType (show laidMet Tryd.prog [("ullage/float.double", Rows.laid_ullage_float_double)] W from h) (by simp [inV, inFields, Rows.laid_ullage_float_double, Tryd.underlying159, Tryd.underlying3, c3, c159])
  refine glob_one (fun x cs hx => ?_) hr
  have hx' : globL.lookup x = some cs := hx
  unfold globL at hx'
  simp only [List.lookup] at hx'
  split at hx'
  · rename_i he
    simp only [beq_iff_eq] at he
    exact ⟨he, (Option.some.inj hx').symm⟩
  · simp at hx'

theorem arg25 (x : It) : argOf Tryd.prog 25 (encI x) = some (.agg (encI x)) := by unfold argOf; rw [Tryd.underlying25]

theorem contract (H : Type) (enc : TypeId × Value → H) (W : World) (base : Nat) (args : Array Value) (ds gs : List (DataW H)) (before : List MemPlace)
    (hval : ∀ (j : Nat) t v, Tryd.f8.params[j]? = some t → args[j]? = some v → Value.okWide Tryd.prog W .any base t v)
    (hW : DataW.Whole enc Tryd.prog Tryd.f8.params.toList Rows.denoteBoundsSpec.vars false W args.toList ds gs before) (hk : Rows.uptoSmall H (ds ++ gs) = true) (hL : laidMetH Tryd.prog Rows.denoteBoundsUptoRow.laid W) :
    Calls Tryd.prog 8 args W fun e W' => ∃ v, e = .returned v ∧ Rows.denoteBoundsSpec.post enc Tryd.prog Tryd.f8 false true false false W args v W' := by
  have hval0 := hval
  have hW' := hW
  obtain ⟨p, q, hA0, hV, rfl, hfz, hnd⟩ := hW
  have hA : DataW.TrodAll enc Tryd.prog W 0 (fun _ => true) true Tryd.f8.params.toList args.toList ds p := hA0
  rw [Tryd.params8] at hA hval
  obtain ⟨v0, vs0, d0, ds0, p0, q0, hargs, rfl, rfl, h0, r0⟩ := trodAll_cons hA
  obtain ⟨v1, vs1, d1, ds1, p1, q1, rfl, rfl, rfl, h1, r1⟩ := trodAll_cons r0
  obtain ⟨v2, vs2, d2, ds2, p2, q2, rfl, rfl, rfl, h2, r2⟩ := trodAll_cons r1
  obtain ⟨v3, vs3, d3, ds3, p3, q3, rfl, rfl, rfl, h3, r3⟩ := trodAll_cons r2
  obtain ⟨v4, vs4, d4, ds4, p4, q4, rfl, rfl, rfl, h4, r4⟩ := trodAll_cons r3
  obtain ⟨rfl, rfl, rfl⟩ := trodAll_nil r4
  obtain rfl : args = #[v0, v1, v2, v3, v4] := by cases args; simp_all
  obtain ⟨rfl, rfl⟩ := trodVars_none hV
  obtain ⟨f0, t0⟩ := h0
  obtain ⟨n1, rfl, rfl, rfl, w1⟩ := open_int Tryd.underlying5 (hval 1 5 v1 rfl rfl) h1
  simp only [Lit.wf, Bool.and_eq_true, decide_eq_true_eq] at w1
  have a1 : 0 ≤ n1 := w1.1
  have b1 : n1 ≤ 255 := w1.2
  obtain ⟨m1, rfl⟩ : ∃ m : Nat, n1 = m := ⟨n1.toNat, by omega⟩
  obtain ⟨n2, rfl, rfl, rfl, w2⟩ := open_int Tryd.underlying5 (hval 2 5 v2 rfl rfl) h2
  simp only [Lit.wf, Bool.and_eq_true, decide_eq_true_eq] at w2
  have a2 : 0 ≤ n2 := w2.1
  have b2 : n2 ≤ 255 := w2.2
  obtain ⟨m2, rfl⟩ : ∃ m : Nat, n2 = m := ⟨n2.toNat, by omega⟩
  obtain ⟨n3, rfl, rfl, rfl, w3⟩ := open_int Tryd.underlying5 (hval 3 5 v3 rfl rfl) h3
  simp only [Lit.wf, Bool.and_eq_true, decide_eq_true_eq] at w3
  have a3 : 0 ≤ n3 := w3.1
  have b3 : n3 ≤ 255 := w3.2
  obtain ⟨m3, rfl⟩ : ∃ m : Nat, n3 = m := ⟨n3.toNat, by omega⟩
  obtain ⟨n4, rfl, rfl, rfl, w4⟩ := open_int Tryd.underlying5 (hval 4 5 v4 rfl rfl) h4
  simp only [Lit.wf, Bool.and_eq_true, decide_eq_true_eq] at w4
  have a4 : 0 ≤ n4 := w4.1
  have b4 : n4 ≤ 255 := w4.2
  obtain ⟨m4, rfl⟩ : ∃ m : Nat, n4 = m := ⟨n4.toNat, by omega⟩
  obtain ⟨x, i0, wx, bx⟩ := dec f0 _ _ _ t0
  have hb : Rows.uptoBulk d0 ≤ 1048576 := by
    have := hk
    simp only [Rows.uptoSmall, List.append_nil, List.cons_append, List.nil_append, Rows.uptoBulkAll, decide_eq_true_eq] at this
    omega
  obtain ⟨N, hc⟩ := Go.V.W.c8 x m1 m2 m3 m4 (by omega) (by omega) (by omega) (by omega) (by omega) wx
  have i5 : ∀ m : Nat, inV Tryd.prog (f0 + 1) 5 (DataW.lit (H := H) (.int .u8 (m : Int))) = some [.int .u8 (m : Int)] := fun m => by unfold inV; rw [Tryd.underlying5]; simp
  have a5 : ∀ m : Nat, argOf Tryd.prog 5 [.int .u8 (m : Int)] = some (.int .u8 (m : Int)) := fun m => by unfold argOf; rw [Tryd.underlying5]
  have hin : inArgs E0.P (f0 + 1) Tryd.f8.params.toList [d0, .lit (.int .u8 (m1 : Int)), .lit (.int .u8 (m2 : Int)), .lit (.int .u8 (m3 : Int)), .lit (.int .u8 (m4 : Int))] = some [.agg (encI x), .int .u8 (m1 : Int), .int .u8 (m2 : Int), .int .u8 (m3 : Int), .int .u8 (m4 : Int)] := by
    rw [Tryd.params8]
    show inArgs Tryd.prog (f0 + 1) [25, 5, 5, 5, 5] [d0, _, _, _, _] = _
    simp only [inArgs, i0 _ (Nat.le_succ f0), i5, Option.bind_some, arg25, a5]
  exact post_true ok (L := [25, 3, 22, 9, 23, 5]) (by kernel_rfl) (by rw [Tryd.params8]; simp) rfl (tb := 4) rfl Tryd.underlying4 hW' rfl hval0 (globs hL) rfl hin hc

noncomputable def leaf : Value := .agg #[.int .i64 0, .int .u64 0, .string ⟨#[]⟩, .slice none 0 0]
def leafD {H : Type} : DataW H := .agg [.lit (.int .i64 0), .lit (.int .u64 0), .lit (.string []), .nil]
/-- a world for the witness -/
noncomputable def laidWorld (os : Os) : World :=
  { World.holding Tryd.prog os ⟨#[], #[], []⟩ with heap := (World.holding Tryd.prog os ⟨#[], #[], []⟩).heap.modify 1 fun
      | .cells _ t frozen => .cells #[.int .i64 11, .int .i64 52] t frozen
      | o => o }
theorem laid_met (os : Os) : laidMet Tryd.prog Rows.denoteBoundsUptoRow.laid ((laidWorld os).forCall (fun _ _ => 0) ⟨#[], #[leaf, .int .u8 0, .int .u8 0, .int .u8 0, .int .u8 0], []⟩).memory :=
  laidMet_of_run' 8 (by kernel_rfl) (by kernel_rfl)
theorem reads (os : Os) {H : Type} (enc : TypeId × Value → H) : ∃ places, DataW.whole enc Tryd.prog ((laidWorld os).forCall (fun _ _ => 0) ⟨#[], #[leaf, .int .u8 0, .int .u8 0, .int .u8 0, .int .u8 0], []⟩).memory Tryd.f8.params.toList Rows.denoteBoundsSpec.vars false #[leaf, .int .u8 0, .int .u8 0, .int .u8 0, .int .u8 0].toList 8 = some ([leafD, .lit (.int .u8 0), .lit (.int .u8 0), .lit (.int .u8 0), .lit (.int .u8 0)], [], places) :=
  ⟨[], by kernel_rfl⟩

theorem lifted (os : Os) (started : os.Started) (H : Type) (enc : TypeId × Value → H) (F : Stop.Interp) :
    ReturnsInHanded {} Tryd.checked os 8 .any ((Rows.OpenSpec.upto Rows.denoteBoundsSpec).preRow enc Tryd.prog Tryd.f8 Rows.denoteBoundsUptoRow.domain false Rows.denoteBoundsUptoRow.laid) (((Rows.OpenSpec.upto Rows.denoteBoundsSpec).at F).post enc Tryd.prog Tryd.f8 false true false false) := by
  obtain ⟨places, hx⟩ := reads os enc
  refine returnsInHanded_of_row (C := Tryd.checked) (s := Rows.OpenSpec.upto Rows.denoteBoundsSpec) own started (by kernel_rfl) Tryd.func8
    (witness_row_at (enc := enc) (C := Tryd.checked) false (laidWorld os) #[leaf, .int .u8 0, .int .u8 0, .int .u8 0, .int .u8 0] rfl (by kernel_rfl) (by kernel_rfl) (by kernel_rfl)
      (OpenSpec.preRow_of_cond 8 hx (by kernel_rfl) (fun k hk => by cases hk; kernel_rfl) (by kernel_rfl) (laid_met os))) ?_
  intro W base args ds gs before hval hW _ hcond _ hL _ _
  exact contract H enc W base args ds gs before hval hW (hcond _ rfl) hL

theorem said : Rows.DenoteBoundsUptoSaid :=
  OpenClaim.holds_of_cond 8 Tryd.f8 rfl rfl rfl rfl rfl rfl rfl ⟨rfl, rfl, rfl, rfl, rfl⟩ rfl rfl rfl rfl rfl (by kernel_rfl) Tryd.func8 (by kernel_rfl)
    (of_decide_eq_true (by kernel_rfl)) (by unfold Func.isWrapper; first | (rw [if_pos (by decide +kernel)]; kernel_rfl) | (rw [if_neg (by decide +kernel)]; exact ⟨rfl, rfl⟩))
    (fun os started H enc _ F => by rw [OpenClaim.pre_eq_preRow]; exact lifted os started H enc F)

theorem plain (f : FuncId) (fn : Func) (hf : Tryd.pinned.checked.prog.funcNamed "ullage/ullagelaw18.DenoteBounds" = some f) (hfn : Tryd.pinned.checked.prog.funcs[f]? = some fn) :
    false = Tryd.pinned.checked.prog.looks [] ∧ ∀ (j : Nat) t, fn.params[j]? = some t → Tryd.pinned.checked.prog.wantsStandIn t = false := by
  obtain rfl : f = 8 := Option.some.inj ((show Tryd.prog.funcNamed "ullage/ullagelaw18.DenoteBounds" = some 8 by kernel_rfl).symm.trans hf) |>.symm
  obtain rfl : fn = Tryd.f8 := (Option.some.inj (Tryd.func8.symm.trans hfn)).symm
  refine ⟨by kernel_rfl, fun j t ht => ?_⟩
  rw [Tryd.params8] at ht
  have ht' : t = 25 ∨ t = 5 := by simpa using Array.mem_of_getElem? ht
  rcases ht' with rfl | rfl
  · exact (show Tryd.prog.wantsStandIn 25 = false by kernel_rfl)
  · exact (show Tryd.prog.wantsStandIn 5 = false by kernel_rfl)

theorem cardUpto : Rows.DenoteBoundsUptoCardSaid :=
  Claim7.holds_tied_plain_at .later [] _ _ _ _ said (fun _ h => by cases h) (by kernel_rfl) (fun _ h => by cases h) denoteBoundsUpto_row_tie rfl ⟨rfl, rfl⟩ (by kernel_rfl) rfl plain (by kernel_rfl)
end Go.Proofs.YtgnfinbhnoofpaaDoor.denoteBounds
