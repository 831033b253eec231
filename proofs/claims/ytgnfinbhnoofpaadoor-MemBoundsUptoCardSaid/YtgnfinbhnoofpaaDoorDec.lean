/- Items that are read as data, as Lean data. -/
import Derived.Test.YtgnfinbhnoofpaaDoorRows
import Derived.ChangeArms
import Derived.Test.YtgnfinbhnoofpaaDoorE0
import Derived.Test.YtgnfinbhnoofpaaDoorItem
set_option linter.unusedVariables false
set_option linter.unusedSimpArgs false
set_option linter.unusedSectionVars false
namespace Go.V
open Go.Proofs Go.Proofs.YtgnfinbhnoofpaaDoor
set_option maxRecDepth 100000
theorem cells25 : Tryd.prog.cellsOf 25 = 4 := by kernel_rfl
theorem cells3 : Tryd.prog.cellsOf 3 = 1 := by kernel_rfl
theorem cells22 : Tryd.prog.cellsOf 22 = 1 := by kernel_rfl
theorem cells9 : Tryd.prog.cellsOf 9 = 1 := by kernel_rfl
theorem cells23 : Tryd.prog.cellsOf 23 = 1 := by kernel_rfl
section
variable {H : Type} {enc : TypeId × Value → H} {w : World} {base : Nat} {spare : Nat → Bool} {held : Bool}

def DecOk (enc : TypeId × Value → H) (w : World) (base : Nat) (spare : Nat → Bool) (held : Bool) (fuel : Nat) : Prop :=
  ∀ cs (d : DataW H) ps, DataW.trod enc Tryd.prog w base spare held fuel 25 cs = some (d, ps) →
    ∃ x : It, (∀ f, fuel ≤ f → inV Tryd.prog f 25 d = some (encI x)) ∧ x.wf ∧ (itemsI x).length ≤ Rows.uptoBulk d

theorem dec_list {fuel : Nat} (ih : DecOk enc w base spare held fuel) : ∀ (es : List (DataW H × List MemPlace)), (∀ p ∈ es, ∃ cs, DataW.trod enc Tryd.prog w base spare held fuel 25 cs = some p) →
    ∃ l : List It, (∀ f, fuel ≤ f → inList Tryd.prog f 25 (es.map (·.1)) = some (encL l)) ∧ l.length = es.length ∧ wfL l ∧ (itemsL l).length ≤ Rows.uptoBulkAll (es.map (·.1))
  | [], _ => ⟨[], fun f _ => by simp [inList, encL], rfl, by simp [wfL], by simp [itemsL]⟩
  | (d, ps) :: es, h => by
    obtain ⟨l, h1, h2, h3, h4⟩ := dec_list ih es fun p hp => h p (by simp [hp])
    obtain ⟨cs, hcs⟩ := h (d, ps) (by simp)
    obtain ⟨x, g1, g2, g3⟩ := ih cs d ps hcs
    refine ⟨x :: l, fun f hf => ?_, by simp [h2], by simp [wfL, g2, h3], ?_⟩
    · simp only [List.map_cons, inList, g1 f hf, h1 f hf, encL]
    · simp only [List.map_cons, itemsL, List.length_append, Rows.uptoBulkAll]; omega

theorem dec_slice : ∀ {fuel : Nat}, (∀ m, m < fuel → DecOk enc w base spare held m) → ∀ {cs : List Value} {d : DataW H} {ps : List MemPlace}, DataW.trod enc Tryd.prog w base spare held fuel 23 cs = some (d, ps) →
    ∃ (l : List It) (q : Q), (∀ f, fuel ≤ f → inV Tryd.prog f 23 d = some [.sli (encL l) l.length q]) ∧ wfL l ∧ l.length ≤ 9223372036854775807 ∧ (itemsL l).length ≤ Rows.uptoBulk d
  | 0, _, _, _, _, h => by simp [DataW.trod] at h
  | fuel + 1, ih, cs, d, ps, h => by
    unfold DataW.trod at h
    rw [Tryd.underlying23] at h
    split at h
    all_goals first | (simp only [Option.some.injEq, reduceCtorEq] at *; done) | skip
    · rename_i heq
      simp only [Option.some.injEq, TypeDesc.slice.injEq] at heq; subst heq
      simp only [Option.some.injEq, Prod.mk.injEq] at h
      obtain ⟨rfl, _⟩ := h
      refine ⟨[], .nil, fun f hf => ?_, by simp [wfL], by simp, by simp [itemsL]⟩
      obtain ⟨f, rfl⟩ : ∃ g, f = g + 1 := ⟨f - 1, by omega⟩
      simp [inV, Tryd.underlying23, encL]
    · rename_i e a len cap heq
      simp only [Option.some.injEq, TypeDesc.slice.injEq] at heq; subst heq
      simp only at h
      split at h
      · rename_i hcnd
        simp only [Option.bind_eq_some_iff, Option.map_eq_some_iff, Prod.mk.injEq] at h
        obtain ⟨es, h1, rs, h2, rfl, _⟩ := h
        obtain ⟨hl, hget⟩ := mapM_get h1
        simp only [List.length_range] at hl
        obtain ⟨l, g1, g2, g3, g4⟩ := dec_list (ih fuel (by omega)) es fun p hp => by
          obtain ⟨i, hi⟩ := List.getElem?_of_mem hp
          have hlt := (List.getElem?_eq_some_iff.1 hi).1
          have := hget i i p (by rw [List.getElem?_range (by omega)]) hi
          simp only [Option.bind_eq_some_iff] at this
          obtain ⟨vs, _, hv⟩ := this
          exact ⟨vs, hv⟩
        have hmax : (maxLen : Nat) ≤ 9223372036854775807 := by decide
        refine ⟨l, if (rs.map (·.1)).isEmpty then .exact else .any, fun f hf => ?_, g3, by omega, by simp only [Rows.uptoBulk]; omega⟩
        obtain ⟨f, rfl⟩ : ∃ g, f = g + 1 := ⟨f - 1, by omega⟩
        unfold inV
        rw [Tryd.underlying23]
        dsimp only
        rw [if_neg (by rw [cells25]; omega), g1 f (by omega)]
        simp only [Option.map_some, List.length_map, g2]
      · simp at h

theorem dec : ∀ (fuel : Nat), DecOk enc w base spare held fuel := by
  intro fuel
  induction fuel using Nat.strongRecOn with
  | _ fuel ih =>
    intro cs d ps h
    cases fuel with
    | zero => simp [DataW.trod] at h
    | succ fuel =>
      unfold DataW.trod at h
      rw [Tryd.underlying25] at h
      split at h
      all_goals first | (simp only [Option.some.injEq, reduceCtorEq] at *; done) | skip
      rename_i fs heq
      simp only [Option.some.injEq, TypeDesc.struct.injEq] at heq; subst heq
      split at h
      · simp only [Option.map_eq_some_iff, List.mapM_cons, List.mapM_nil, Option.bind_eq_bind, Option.bind_eq_some_iff, Option.pure_def, Option.some.injEq, Prod.mk.injEq] at h
        obtain ⟨xs, ⟨p0, t0, r0, ⟨p1, t1, r1, ⟨p2, t2, r2, ⟨p3, t3, r3, rfl, rfl⟩, rfl⟩, rfl⟩, rfl⟩, rfl, _⟩ := h
        obtain ⟨n0, _, rfl, w0⟩ := DataW.trod_int Tryd.underlying3 t0
        obtain ⟨n1, _, rfl, w1⟩ := DataW.trod_int Tryd.underlying22 t1
        obtain ⟨s, _, rfl, w2⟩ := DataW.trod_string Tryd.underlying9 t2
        obtain ⟨d3, ps3⟩ := p3
        obtain ⟨l, q, g1, g2, g3, g4⟩ := dec_slice (fun m hm => ih m (by omega)) t3
        simp only [Lit.wf, Bool.and_eq_true, decide_eq_true_eq] at w0 w1
        have hmax : (maxLen : Nat) ≤ 9223372036854775807 := by decide
        refine ⟨.mk n0 n1 s.data.toList q l, fun f hf => ?_, ?_, ?_⟩
        · obtain ⟨f, rfl⟩ : ∃ g, f = g + 1 := ⟨f - 1, by omega⟩
          obtain ⟨f, rfl⟩ : ∃ g, f = g + 1 := ⟨f - 1, by
            cases fuel with
            | zero => simp [DataW.trod] at t0
            | succ => omega⟩
          have gg := g1 (f + 1) (by omega)
          rw [encI_mk]
          have i3 : inV Tryd.prog (f + 1) 3 (DataW.lit (H := H) (.int .i64 n0)) = some [.int .i64 n0] := by unfold inV; rw [Tryd.underlying3]; simp
          have i22 : inV Tryd.prog (f + 1) 22 (DataW.lit (H := H) (.int .u64 n1)) = some [.int .u64 n1] := by unfold inV; rw [Tryd.underlying22]; simp
          have i9 : inV Tryd.prog (f + 1) 9 (DataW.lit (H := H) (.string s.data.toList)) = some [.str s.data.toList] := by unfold inV; rw [Tryd.underlying9]
          unfold inV
          rw [Tryd.underlying25]
          simp only [List.map_cons, List.map_nil]
          simp [inFields, gg, i3, i22, i9, cells3, cells22, cells9, cells23, cells25]
        · simp only [It.wf]
          exact ⟨⟨w0.1, w0.2⟩, ⟨w1.1, w1.2⟩, by simp only [Array.length_toList]; exact Nat.le_trans w2 hmax, g3, g2⟩
        · simp only [itemsI, List.length_cons, List.map_cons, List.map_nil, Rows.uptoBulk, Rows.uptoBulkAll]; omega
      · simp at h
      · exact ((by assumption : ∀ fs, some (TypeDesc.struct _) = some (TypeDesc.struct fs) → False) _ rfl).elim
end
end Go.V
