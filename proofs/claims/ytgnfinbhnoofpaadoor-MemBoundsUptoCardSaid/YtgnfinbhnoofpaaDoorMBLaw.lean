/-
  MemBounds (ullagelaw23), the second form: for every input of bulk at most 1048576 it answers true, and the arguments read as they did.
  Conditions: the row's own (the variable ullage/float.double is laid as the program's text lays it; the card ties that), and the bulk. The whole call is stepped through by an interpreter of the loaded code (the V texts), which is proved to go as the model goes.
-/
import Derived.Test.YtgnfinbhnoofpaaDoorCards
import Derived.Test.YtgnfinbhnoofpaaDoorTie
import Derived.WalkKit
import Derived.ProofKit
import Derived.OpenShut
import Derived.Deep.DeepHandedRow
import Derived.Test.YtgnfinbhnoofpaaDoorMem3
import Derived.Test.YtgnfinbhnoofpaaDoorDecS
import Derived.Test.YtgnfinbhnoofpaaDoorVH
set_option linter.unusedVariables false
set_option linter.unusedSimpArgs false
set_option linter.unusedSectionVars false
namespace Go.Proofs.YtgnfinbhnoofpaaDoor.memBounds
open Go.ChangeShapes Go.WideShapes Go.ChangeAt Go.RowKit Go.V
set_option maxRecDepth 100000
set_option maxHeartbeats 4000000

theorem own : ownKnob Tryd.prog.godebug = none := by kernel_rfl
theorem gD : Tryd.prog.globalNamed "ullage/float.double" = some 1 := by kernel_rfl
theorem gDType : (Tryd.prog.globals[1]?).map (·.type) = some 159 := by kernel_rfl
theorem c3 : Tryd.prog.cellsOf 3 = 1 := by kernel_rfl
theorem c159 : Tryd.prog.cellsOf 159 = 2 := by kernel_rfl
theorem ok : EnvOk E0 := envOk_of (by kernel_rfl) rfl (by kernel_rfl)
theorem globs {W : World} (h : laidMetH Tryd.prog Rows.memBoundsUptoRow.laid W) : ∀ g cs, E0.glob g = some cs → RepMem (bare W) g 0 cs := by
  have hr : RepMem (bare W) 1 0 [.int .i64 11, .int .i64 52] := laid_glob (f := 5) gD gDType (show laidMet Tryd.prog [("ullage/float.double", Rows.laid_ullage_float_double)] W from h) (by simp [inV, inFields, Rows.laid_ullage_float_double, Tryd.underlying159, Tryd.underlying3, c3, c159])
  refine glob_one (fun x cs hx => ?_) hr
  have hx' : globL.lookup x = some cs := hx
  unfold globL at hx'
  simp only [List.lookup] at hx'
  split at hx'
  · rename_i he
    simp only [beq_iff_eq] at he
    exact ⟨he, (Option.some.inj hx').symm⟩
  · simp at hx'

theorem cells59 : Tryd.prog.cellsOf 59 = 3 := by kernel_rfl
theorem dec_limits {H : Type} {enc : TypeId × Value → H} {w : World} {base : Nat} {spare : Nat → Bool} {held : Bool} (fuel : Nat) : ∀ cs (d : DataW H) ps, DataW.trod enc Tryd.prog w base spare held fuel 59 cs = some (d, ps) →
    ∃ a b c : Int, ∀ f, fuel ≤ f → inV Tryd.prog f 59 d = some [.int .i64 a, .int .i64 b, .int .i64 c] := by
  intro cs d ps h
  cases fuel with
  | zero => simp [DataW.trod] at h
  | succ fuel =>
    unfold DataW.trod at h
    rw [Tryd.underlying59] at h
    split at h
    all_goals first | (simp only [Option.some.injEq, reduceCtorEq] at *; done) | skip
    rename_i fs heq
    simp only [Option.some.injEq, TypeDesc.struct.injEq] at heq; subst heq
    split at h
    · simp only [Option.map_eq_some_iff, List.mapM_cons, List.mapM_nil, Option.bind_eq_bind, Option.bind_eq_some_iff, Option.pure_def, Option.some.injEq, Prod.mk.injEq] at h
      obtain ⟨xs, ⟨p0, t0, r0, ⟨p1, t1, r1, ⟨p2, t2, r2, rfl, rfl⟩, rfl⟩, rfl⟩, rfl, _⟩ := h
      obtain ⟨a, _, rfl, _⟩ := DataW.trod_int Tryd.underlying3 t0
      obtain ⟨b, _, rfl, _⟩ := DataW.trod_int Tryd.underlying3 t1
      obtain ⟨c, _, rfl, _⟩ := DataW.trod_int Tryd.underlying3 t2
      refine ⟨a, b, c, fun f hf => ?_⟩
      obtain ⟨f, rfl⟩ : ∃ g, f = g + 1 := ⟨f - 1, by omega⟩
      obtain ⟨f, rfl⟩ : ∃ g, f = g + 1 := ⟨f - 1, by
        cases fuel with
        | zero => simp [DataW.trod] at t0
        | succ => omega⟩
      have j3 : ∀ z : Int, inV Tryd.prog (f + 1) 3 (DataW.lit (H := H) (.int .i64 z)) = some [.int .i64 z] := fun z => by unfold inV; rw [Tryd.underlying3]; simp
      unfold inV
      rw [Tryd.underlying59]
      simp only [List.map_cons, List.map_nil]
      simp [inFields, j3, cells3, cells59]
    · simp at h
    · exact ((by assumption : ∀ fs, some (TypeDesc.struct _) = some (TypeDesc.struct fs) → False) _ rfl).elim
theorem arg42 (ns : List Nd) (q : Q) : argOf Tryd.prog 42 [.sli (encNs ns) ns.length q] = some (.agg [.sli (encNs ns) ns.length q]) := by unfold argOf; rw [Tryd.underlying42]

theorem contract (H : Type) (enc : TypeId × Value → H) (W : World) (base : Nat) (args : Array Value) (ds gs : List (DataW H)) (before : List MemPlace)
    (hval : ∀ (j : Nat) t v, Tryd.f7.params[j]? = some t → args[j]? = some v → Value.okWide Tryd.prog W .any base t v)
    (hW : DataW.Whole enc Tryd.prog Tryd.f7.params.toList Rows.memBoundsSpec.vars false W args.toList ds gs before) (hk : Rows.uptoSmall H (ds ++ gs) = true) (hL : laidMetH Tryd.prog Rows.memBoundsUptoRow.laid W) :
    Calls Tryd.prog 7 args W fun e W' => ∃ v, e = .returned v ∧ Rows.memBoundsSpec.post enc Tryd.prog Tryd.f7 false true false false W args v W' := by
  have hval0 := hval
  have hW' := hW
  obtain ⟨p, q, hA0, hV, rfl, hfz, hnd⟩ := hW
  have hA : DataW.TrodAll enc Tryd.prog W 0 (fun _ => true) true Tryd.f7.params.toList args.toList ds p := hA0
  rw [Tryd.params7] at hA hval
  obtain ⟨v0, vs0, d0, ds0, p0, q0, hargs, rfl, rfl, h0, r0⟩ := trodAll_cons hA
  obtain ⟨v1, vs1, d1, ds1, p1, q1, rfl, rfl, rfl, h1, r1⟩ := trodAll_cons r0
  obtain ⟨v2, vs2, d2, ds2, p2, q2, rfl, rfl, rfl, h2, r2⟩ := trodAll_cons r1
  obtain ⟨v3, vs3, d3, ds3, p3, q3, rfl, rfl, rfl, h3, r3⟩ := trodAll_cons r2
  obtain ⟨rfl, rfl, rfl⟩ := trodAll_nil r3
  obtain rfl : args = #[v0, v1, v2, v3] := by cases args; simp_all
  obtain ⟨rfl, rfl⟩ := trodVars_none hV
  obtain ⟨f0, t0⟩ := h0
  obtain ⟨f1, t1⟩ := h1
  obtain ⟨n2, rfl, rfl, rfl, w2⟩ := open_int Tryd.underlying3 (hval 2 3 v2 rfl rfl) h2
  obtain ⟨n3, rfl, rfl, rfl, w3⟩ := open_int Tryd.underlying3 (hval 3 3 v3 rfl rfl) h3
  simp only [Lit.wf, Bool.and_eq_true, decide_eq_true_eq] at w2
  have a2 : -9223372036854775808 ≤ n2 := w2.1
  have b2 : n2 ≤ 9223372036854775807 := w2.2
  obtain ⟨ld, lk, lz, i0⟩ := dec_limits f0 _ _ _ t0
  obtain ⟨ns, q1', i1, o1, l1⟩ := dec_schema f1 _ _ _ t1
  have hb : Rows.uptoBulk d0 + Rows.uptoBulk d1 ≤ 1048576 := by
    have := hk
    simp only [Rows.uptoSmall, List.append_nil, List.cons_append, List.nil_append, Rows.uptoBulkAll, decide_eq_true_eq] at this
    omega
  obtain ⟨N, hc⟩ := Go.V.W.c7 ns q1' (b := Rows.uptoBulk d1) (by omega) o1 l1 ld lk lz n2 n3 ⟨a2, b2⟩
  have j3 : ∀ z : Int, inV Tryd.prog (max f0 f1 + 1) 3 (DataW.lit (H := H) (.int .i64 z)) = some [.int .i64 z] := fun z => by unfold inV; rw [Tryd.underlying3]; simp
  have k3 : ∀ z : Int, argOf Tryd.prog 3 [.int .i64 z] = some (.int .i64 z) := fun z => by unfold argOf; rw [Tryd.underlying3]
  have k59 : argOf Tryd.prog 59 [.int .i64 ld, .int .i64 lk, .int .i64 lz] = some (.agg [.int .i64 ld, .int .i64 lk, .int .i64 lz]) := by unfold argOf; rw [Tryd.underlying59]
  have hin : inArgs E0.P (max f0 f1 + 1) Tryd.f7.params.toList [d0, d1, .lit (.int .i64 n2), .lit (.int .i64 n3)] = some [.agg [.int .i64 ld, .int .i64 lk, .int .i64 lz], .agg [.sli (encNs ns) ns.length q1'], .int .i64 n2, .int .i64 n3] := by
    rw [Tryd.params7]
    show inArgs Tryd.prog (max f0 f1 + 1) [59, 42, 3, 3] [d0, d1, _, _] = _
    simp only [inArgs, i0 _ (show f0 ≤ max f0 f1 + 1 by omega), i1 _ (show f1 ≤ max f0 f1 + 1 by omega), j3, k3, k59, Option.bind_some, arg42]
  exact post_true ok (L := [42, 40, 54, 3, 25, 22, 9, 23, 28, 52, 101, 4, 59]) (by kernel_rfl) (by rw [Tryd.params7]; simp) rfl (tb := 4) rfl Tryd.underlying4 hW' rfl hval0 (globs hL) rfl hin hc

noncomputable def leaf : Value := .agg #[.slice none 0 0]
noncomputable def lim0 : Value := .agg #[.int .i64 0, .int .i64 0, .int .i64 0]
def limD {H : Type} : DataW H := .agg [.lit (.int .i64 0), .lit (.int .i64 0), .lit (.int .i64 0)]
def leafD {H : Type} : DataW H := .agg [.nil]
/-- a world for the witness -/
noncomputable def laidWorld (os : Os) : World :=
  { World.holding Tryd.prog os ⟨#[], #[], []⟩ with heap := (World.holding Tryd.prog os ⟨#[], #[], []⟩).heap.modify 1 fun
      | .cells _ t frozen => .cells #[.int .i64 11, .int .i64 52] t frozen
      | o => o }
theorem laid_met (os : Os) : laidMet Tryd.prog Rows.memBoundsUptoRow.laid ((laidWorld os).forCall (fun _ _ => 0) ⟨#[], #[lim0, leaf, .int .i64 0, .int .i64 0], []⟩).memory :=
  laidMet_of_run' 8 (by kernel_rfl) (by kernel_rfl)
theorem reads (os : Os) {H : Type} (enc : TypeId × Value → H) : ∃ places, DataW.whole enc Tryd.prog ((laidWorld os).forCall (fun _ _ => 0) ⟨#[], #[lim0, leaf, .int .i64 0, .int .i64 0], []⟩).memory Tryd.f7.params.toList Rows.memBoundsSpec.vars false #[lim0, leaf, .int .i64 0, .int .i64 0].toList 8 = some ([limD, leafD, .lit (.int .i64 0), .lit (.int .i64 0)], [], places) :=
  ⟨[], by kernel_rfl⟩

theorem lifted (os : Os) (started : os.Started) (H : Type) (enc : TypeId × Value → H) (F : Stop.Interp) :
    ReturnsInHanded {} Tryd.checked os 7 .any ((Rows.OpenSpec.upto Rows.memBoundsSpec).preRow enc Tryd.prog Tryd.f7 Rows.memBoundsUptoRow.domain false Rows.memBoundsUptoRow.laid) (((Rows.OpenSpec.upto Rows.memBoundsSpec).at F).post enc Tryd.prog Tryd.f7 false true false false) := by
  obtain ⟨places, hx⟩ := reads os enc
  refine returnsInHanded_of_row (C := Tryd.checked) (s := Rows.OpenSpec.upto Rows.memBoundsSpec) own started (by kernel_rfl) Tryd.func7
    (witness_row_at (enc := enc) (C := Tryd.checked) false (laidWorld os) #[lim0, leaf, .int .i64 0, .int .i64 0] rfl (by kernel_rfl) (by kernel_rfl) (by kernel_rfl)
      (OpenSpec.preRow_of_cond 8 hx (by kernel_rfl) (fun k hk => by cases hk; kernel_rfl) (by kernel_rfl) (laid_met os))) ?_
  intro W base args ds gs before hval hW _ hcond _ hL _ _
  exact contract H enc W base args ds gs before hval hW (hcond _ rfl) hL

theorem said : Rows.MemBoundsUptoSaid :=
  OpenClaim.holds_of_cond 7 Tryd.f7 rfl rfl rfl rfl rfl rfl rfl ⟨rfl, rfl, rfl, rfl, rfl⟩ rfl rfl rfl rfl rfl (by kernel_rfl) Tryd.func7 (by kernel_rfl)
    (of_decide_eq_true (by kernel_rfl)) (by unfold Func.isWrapper; first | (rw [if_pos (by decide +kernel)]; kernel_rfl) | (rw [if_neg (by decide +kernel)]; exact ⟨rfl, rfl⟩))
    (fun os started H enc _ F => by rw [OpenClaim.pre_eq_preRow]; exact lifted os started H enc F)

theorem plain (f : FuncId) (fn : Func) (hf : Tryd.pinned.checked.prog.funcNamed "ullage/ullagelaw23.MemBounds" = some f) (hfn : Tryd.pinned.checked.prog.funcs[f]? = some fn) :
    false = Tryd.pinned.checked.prog.looks [] ∧ ∀ (j : Nat) t, fn.params[j]? = some t → Tryd.pinned.checked.prog.wantsStandIn t = false := by
  obtain rfl : f = 7 := Option.some.inj ((show Tryd.prog.funcNamed "ullage/ullagelaw23.MemBounds" = some 7 by kernel_rfl).symm.trans hf) |>.symm
  obtain rfl : fn = Tryd.f7 := (Option.some.inj (Tryd.func7.symm.trans hfn)).symm
  refine ⟨by kernel_rfl, fun j t ht => ?_⟩
  rw [Tryd.params7] at ht
  have ht' : t = 59 ∨ t = 42 ∨ t = 3 := by simpa using Array.mem_of_getElem? ht
  rcases ht' with rfl | rfl | rfl
  · exact (show Tryd.prog.wantsStandIn 59 = false by kernel_rfl)
  · exact (show Tryd.prog.wantsStandIn 42 = false by kernel_rfl)
  · exact (show Tryd.prog.wantsStandIn 3 = false by kernel_rfl)

theorem cardUpto : Rows.MemBoundsUptoCardSaid :=
  Claim7.holds_tied_plain_at .later [] _ _ _ _ said (fun _ h => by cases h) (by kernel_rfl) (fun _ h => by cases h) memBoundsUpto_row_tie rfl ⟨rfl, rfl⟩ (by kernel_rfl) rfl plain (by kernel_rfl)
end Go.Proofs.YtgnfinbhnoofpaaDoor.memBounds
