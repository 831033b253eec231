/- Schemas that are read as data, as Lean data. -/
import Derived.Test.YtgnfinbhnoofpaaDoorDec
import Derived.Test.YtgnfinbhnoofpaaDoorSch
set_option linter.unusedVariables false
set_option linter.unusedSimpArgs false
set_option linter.unusedSectionVars false
namespace Go.V
open Go.Proofs Go.Proofs.YtgnfinbhnoofpaaDoor
set_option maxRecDepth 100000
theorem cells4 : Tryd.prog.cellsOf 4 = 1 := by kernel_rfl
theorem cells28 : Tryd.prog.cellsOf 28 = 1 := by kernel_rfl
theorem cells52 : Tryd.prog.cellsOf 52 = 1 := by kernel_rfl
theorem cells40 : Tryd.prog.cellsOf 40 = 1 := by kernel_rfl
theorem cells101 : Tryd.prog.cellsOf 101 = 3 := by kernel_rfl
theorem cells54 : Tryd.prog.cellsOf 54 = 9 := by kernel_rfl
theorem cells42 : Tryd.prog.cellsOf 42 = 1 := by kernel_rfl
theorem bulk_pos {H : Type} (d : DataW H) : 1 ≤ Rows.uptoBulk d := by
  cases d with
  | lit l => cases l <;> simp [Rows.uptoBulk]
  | _ => simp [Rows.uptoBulk]
section
variable {H : Type} {enc : TypeId × Value → H} {w : World} {base : Nat} {spare : Nat → Bool} {held : Bool}
/-- an element of a type is read as x -/
def ElOk (enc : TypeId × Value → H) (w : World) (base : Nat) (spare : Nat → Bool) (held : Bool) (e : TypeId) {α : Type} (en : α → List Val) (G : Nat → α → Prop) (fuel : Nat) : Prop :=
  ∀ cs (d : DataW H) ps, DataW.trod enc Tryd.prog w base spare held fuel e cs = some (d, ps) → ∃ x : α, (∀ f, fuel ≤ f → inV Tryd.prog f e d = some (en x)) ∧ G (Rows.uptoBulk d) x

theorem dec_lst {e : TypeId} {α : Type} {en : α → List Val} {G : Nat → α → Prop} {fuel : Nat} (ih : ElOk enc w base spare held e en G fuel) : ∀ (es : List (DataW H × List MemPlace)), (∀ p ∈ es, ∃ cs, DataW.trod enc Tryd.prog w base spare held fuel e cs = some p) →
    ∃ l : List α, (∀ f, fuel ≤ f → inList Tryd.prog f e (es.map (·.1)) = some (l.flatMap en)) ∧ l.length = es.length ∧ (∀ x ∈ l, ∃ b, b ≤ Rows.uptoBulkAll (es.map (·.1)) ∧ G b x) ∧ l.length ≤ Rows.uptoBulkAll (es.map (·.1))
  | [], _ => ⟨[], fun f _ => by simp [inList], rfl, by simp, by simp⟩
  | (d, ps) :: es, h => by
    obtain ⟨l, h1, h2, h3, h4⟩ := dec_lst ih es fun p hp => h p (by simp [hp])
    obtain ⟨cs, hcs⟩ := h (d, ps) (by simp)
    obtain ⟨x, g1, g2⟩ := ih cs d ps hcs
    have hb := bulk_pos d
    refine ⟨x :: l, fun f hf => ?_, by simp [h2], fun y hy => ?_, ?_⟩
    · simp only [List.map_cons, inList, g1 f hf, h1 f hf, List.flatMap_cons]
    · simp only [List.map_cons, Rows.uptoBulkAll]
      rcases List.mem_cons.1 hy with rfl | hy
      · exact ⟨_, by omega, g2⟩
      · obtain ⟨b, hb', hg⟩ := h3 y hy; exact ⟨b, by omega, hg⟩
    · simp only [List.map_cons, Rows.uptoBulkAll, List.length_cons]; omega

theorem dec_sl {τ e : TypeId} (hu : Tryd.prog.underlying τ = some (.slice e)) (hc : Tryd.prog.cellsOf e ≠ 0) {α : Type} {en : α → List Val} {G : Nat → α → Prop} :
    ∀ {fuel : Nat}, (∀ m, m < fuel → ElOk enc w base spare held e en G m) → ∀ {cs : List Value} {d : DataW H} {ps : List MemPlace}, DataW.trod enc Tryd.prog w base spare held fuel τ cs = some (d, ps) →
    ∃ (l : List α) (q : Q), (∀ f, fuel ≤ f → inV Tryd.prog f τ d = some [.sli (l.flatMap en) l.length q]) ∧ (∀ x ∈ l, ∃ b, b ≤ Rows.uptoBulk d ∧ G b x) ∧ l.length ≤ Rows.uptoBulk d ∧ (q = .nil → l = [])
  | 0, _, _, _, _, h => by simp [DataW.trod] at h
  | fuel + 1, ih, cs, d, ps, h => by
    unfold DataW.trod at h
    rw [hu] at h
    split at h
    all_goals first | (simp only [Option.some.injEq, reduceCtorEq] at *; done) | skip
    · rename_i heq
      simp only [Option.some.injEq, Prod.mk.injEq] at h
      obtain ⟨rfl, _⟩ := h
      refine ⟨[], .nil, fun f hf => ?_, by simp, by simp, fun _ => rfl⟩
      obtain ⟨f, rfl⟩ : ∃ g, f = g + 1 := ⟨f - 1, by omega⟩
      simp [inV, hu]
    · rename_i e' a len cap heq
      simp only [Option.some.injEq, TypeDesc.slice.injEq] at heq; subst heq
      simp only at h
      split at h
      · rename_i hcnd
        simp only [Option.bind_eq_some_iff, Option.map_eq_some_iff, Prod.mk.injEq] at h
        obtain ⟨es, h1, rs, h2, rfl, _⟩ := h
        obtain ⟨hl, hget⟩ := mapM_get h1
        simp only [List.length_range] at hl
        obtain ⟨l, g1, g2, g3, g4⟩ := dec_lst (ih fuel (by omega)) es fun p hp => by
          obtain ⟨i, hi⟩ := List.getElem?_of_mem hp
          have hlt := (List.getElem?_eq_some_iff.1 hi).1
          have := hget i i p (by rw [List.getElem?_range (by omega)]) hi
          simp only [Option.bind_eq_some_iff] at this
          obtain ⟨vs, _, hv⟩ := this
          exact ⟨vs, hv⟩
        refine ⟨l, if (rs.map (·.1)).isEmpty then .exact else .any, fun f hf => ?_, fun x hx => ?_, by simp only [Rows.uptoBulk]; omega, fun hq => by split at hq <;> simp at hq⟩
        · obtain ⟨f, rfl⟩ : ∃ g, f = g + 1 := ⟨f - 1, by omega⟩
          unfold inV
          rw [hu]
          dsimp only
          rw [if_neg hc, g1 f (by omega)]
          simp only [Option.map_some, List.length_map, g2]
        · obtain ⟨b, hb, hg⟩ := g3 x hx
          exact ⟨b, by simp only [Rows.uptoBulk]; omega, hg⟩
      · simp at h

theorem flat_Z : ∀ l : List Int, l.flatMap (fun z => [Val.int .i64 z]) = encZ l
  | [] => rfl
  | x :: l => by simp only [List.flatMap_cons, flat_Z l, encZ, List.map_cons, List.singleton_append]
theorem el_int (fuel : Nat) : ElOk enc w base spare held 3 (fun z : Int => [Val.int .i64 z]) (fun _ _ => True) fuel := by
  intro cs d ps h
  cases fuel with
  | zero => simp [DataW.trod] at h
  | succ fuel =>
    obtain ⟨n, _, e, _⟩ := DataW.trod_int Tryd.underlying3 h
    simp only [Prod.mk.injEq] at e
    obtain ⟨rfl, _⟩ := e
    refine ⟨n, fun f hf => ?_, trivial⟩
    obtain ⟨f, rfl⟩ : ∃ g, f = g + 1 := ⟨f - 1, by omega⟩
    unfold inV; rw [Tryd.underlying3]; simp
theorem el_field (fuel : Nat) : ElOk enc w base spare held 101 encF (fun b x => x.key.length ≤ b) fuel := by
  intro cs d ps h
  cases fuel with
  | zero => simp [DataW.trod] at h
  | succ fuel =>
    unfold DataW.trod at h
    rw [Tryd.underlying101] at h
    split at h
    all_goals first | (simp only [Option.some.injEq, reduceCtorEq] at *; done) | skip
    rename_i fs heq
    simp only [Option.some.injEq, TypeDesc.struct.injEq] at heq; subst heq
    split at h
    · simp only [Option.map_eq_some_iff, List.mapM_cons, List.mapM_nil, Option.bind_eq_bind, Option.bind_eq_some_iff, Option.pure_def, Option.some.injEq, Prod.mk.injEq] at h
      obtain ⟨xs, ⟨p0, t0, r0, ⟨p1, t1, r1, ⟨p2, t2, r2, rfl, rfl⟩, rfl⟩, rfl⟩, rfl, _⟩ := h
      obtain ⟨s, _, rfl, w0⟩ := DataW.trod_string Tryd.underlying9 t0
      obtain ⟨n, _, rfl, w1⟩ := DataW.trod_int Tryd.underlying3 t1
      obtain ⟨b, _, rfl⟩ := DataW.trod_bool Tryd.underlying4 t2
      refine ⟨⟨s.data.toList, n, b⟩, fun f hf => ?_, by simp only [List.map_cons, List.map_nil, Rows.uptoBulk, Rows.uptoBulkAll]; omega⟩
      obtain ⟨f, rfl⟩ : ∃ g, f = g + 1 := ⟨f - 1, by omega⟩
      obtain ⟨f, rfl⟩ : ∃ g, f = g + 1 := ⟨f - 1, by
        cases fuel with
        | zero => simp [DataW.trod] at t0
        | succ => omega⟩
      have i9 : inV Tryd.prog (f + 1) 9 (DataW.lit (H := H) (.string s.data.toList)) = some [.str s.data.toList] := by unfold inV; rw [Tryd.underlying9]
      have i3 : inV Tryd.prog (f + 1) 3 (DataW.lit (H := H) (.int .i64 n)) = some [.int .i64 n] := by unfold inV; rw [Tryd.underlying3]; simp
      have i4 : inV Tryd.prog (f + 1) 4 (DataW.lit (H := H) (.bool b)) = some [.bool b] := by unfold inV; rw [Tryd.underlying4]
      unfold inV
      rw [Tryd.underlying101]
      simp only [List.map_cons, List.map_nil]
      simp [inFields, i9, i3, i4, cells9, cells3, cells4, cells101, encF]
    · simp at h
    · exact ((by assumption : ∀ fs, some (TypeDesc.struct _) = some (TypeDesc.struct fs) → False) _ rfl).elim
/-- what is known of a node that was read -/
structure NdOk (b : Nat) (n : Nd) : Prop where
  wf : n.v.wf
  items : (itemsI n.v).length ≤ b
  l : n.l.length ≤ b
  f : n.f.length ≤ b
  keys : ∀ x ∈ n.f, x.key.length ≤ b
  nil : n.ql = .nil → n.l = []
theorem el_node (fuel : Nat) : ElOk enc w base spare held 54 encN NdOk fuel := by
  intro cs d ps h
  cases fuel with
  | zero => simp [DataW.trod] at h
  | succ fuel =>
    unfold DataW.trod at h
    rw [Tryd.underlying54] at h
    split at h
    all_goals first | (simp only [Option.some.injEq, reduceCtorEq] at *; done) | skip
    rename_i fs heq
    simp only [Option.some.injEq, TypeDesc.struct.injEq] at heq; subst heq
    split at h
    · simp only [Option.map_eq_some_iff, List.mapM_cons, List.mapM_nil, Option.bind_eq_bind, Option.bind_eq_some_iff, Option.pure_def, Option.some.injEq, Prod.mk.injEq] at h
      obtain ⟨xs, ⟨p0, t0, r0, ⟨p1, t1, r1, ⟨p2, t2, r2, ⟨p3, t3, r3, ⟨p4, t4, r4, ⟨p5, t5, r5, rfl, rfl⟩, rfl⟩, rfl⟩, rfl⟩, rfl⟩, rfl⟩, rfl, _⟩ := h
      obtain ⟨k, _, rfl, w0⟩ := DataW.trod_int Tryd.underlying3 t0
      obtain ⟨lo, _, rfl, w1⟩ := DataW.trod_int Tryd.underlying3 t1
      obtain ⟨hi, _, rfl, w2⟩ := DataW.trod_int Tryd.underlying3 t2
      obtain ⟨d3, ps3⟩ := p3
      obtain ⟨d4, ps4⟩ := p4
      obtain ⟨d5, ps5⟩ := p5
      obtain ⟨v, v1, v2, v3⟩ := dec fuel _ d3 ps3 t3
      obtain ⟨l, ql, l1, l2, l3, l4⟩ := dec_sl Tryd.underlying28 (by rw [cells3]; omega) (fun m _ => el_int m) t4
      obtain ⟨fl, qf, f1, f2, f3, f4⟩ := dec_sl Tryd.underlying52 (by rw [cells101]; omega) (fun m _ => el_field m) t5
      refine ⟨⟨k, lo, hi, v, l, ql, fl, qf⟩, fun f hf => ?_, ⟨v2, ?_, ?_, ?_, fun x hx => ?_, l4⟩⟩
      · obtain ⟨f, rfl⟩ : ∃ g, f = g + 1 := ⟨f - 1, by omega⟩
        obtain ⟨f, rfl⟩ : ∃ g, f = g + 1 := ⟨f - 1, by
          cases fuel with
          | zero => simp [DataW.trod] at t0
          | succ => omega⟩
        have j3 : ∀ z : Int, inV Tryd.prog (f + 1) 3 (DataW.lit (H := H) (.int .i64 z)) = some [.int .i64 z] := fun z => by unfold inV; rw [Tryd.underlying3]; simp
        have j25 := v1 (f + 1) (by omega)
        have j28 := l1 (f + 1) (by omega)
        have j52 := f1 (f + 1) (by omega)
        rw [flat_Z] at j28
        unfold inV
        rw [Tryd.underlying54]
        simp only [List.map_cons, List.map_nil]
        simp [inFields, j3, j25, j28, j52, cells3, cells25, cells28, cells52, cells54, encN, encFs]
      · simp only [List.map_cons, List.map_nil, Rows.uptoBulk, Rows.uptoBulkAll]; omega
      · simp only [List.map_cons, List.map_nil, Rows.uptoBulk, Rows.uptoBulkAll]; omega
      · simp only [List.map_cons, List.map_nil, Rows.uptoBulk, Rows.uptoBulkAll]; omega
      · obtain ⟨b, hb, hk⟩ := f2 x hx
        simp only [List.map_cons, List.map_nil, Rows.uptoBulk, Rows.uptoBulkAll]; omega
    · simp at h
    · exact ((by assumption : ∀ fs, some (TypeDesc.struct _) = some (TypeDesc.struct fs) → False) _ rfl).elim
/-- a schema that is read -/
theorem dec_schema (fuel : Nat) : ∀ cs (d : DataW H) ps, DataW.trod enc Tryd.prog w base spare held fuel 42 cs = some (d, ps) →
    ∃ (ns : List Nd) (q : Q), (∀ f, fuel ≤ f → inV Tryd.prog f 42 d = some [.sli (encNs ns) ns.length q]) ∧ (∀ n ∈ ns, NdOk (Rows.uptoBulk d) n) ∧ ns.length ≤ Rows.uptoBulk d := by
  intro cs d ps h
  cases fuel with
  | zero => simp [DataW.trod] at h
  | succ fuel =>
    unfold DataW.trod at h
    rw [Tryd.underlying42] at h
    split at h
    all_goals first | (simp only [Option.some.injEq, reduceCtorEq] at *; done) | skip
    rename_i fs heq
    simp only [Option.some.injEq, TypeDesc.struct.injEq] at heq; subst heq
    split at h
    · simp only [Option.map_eq_some_iff, List.mapM_cons, List.mapM_nil, Option.bind_eq_bind, Option.bind_eq_some_iff, Option.pure_def, Option.some.injEq, Prod.mk.injEq] at h
      obtain ⟨xs, ⟨p0, t0, r0, rfl, rfl⟩, rfl, _⟩ := h
      obtain ⟨d0, ps0⟩ := p0
      obtain ⟨ns, q, n1, n2, n3, _⟩ := dec_sl Tryd.underlying40 (by rw [cells54]; omega) (fun m _ => el_node m) t0
      refine ⟨ns, q, fun f hf => ?_, fun n hn => ?_, by simp only [List.map_cons, List.map_nil, Rows.uptoBulk, Rows.uptoBulkAll]; omega⟩
      · obtain ⟨f, rfl⟩ : ∃ g, f = g + 1 := ⟨f - 1, by omega⟩
        have j := n1 f (by omega)
        unfold inV
        rw [Tryd.underlying42]
        simp only [List.map_cons, List.map_nil]
        simp [inFields, j, cells40, cells42, encNs]
      · obtain ⟨b, hb, h⟩ := n2 n hn
        simp only [List.map_cons, List.map_nil, Rows.uptoBulk, Rows.uptoBulkAll]
        exact ⟨h.wf, Nat.le_trans h.items (by omega), Nat.le_trans h.l (by omega), Nat.le_trans h.f (by omega), fun x hx => Nat.le_trans (h.keys x hx) (by omega), h.nil⟩
    · simp at h
    · exact ((by assumption : ∀ fs, some (TypeDesc.struct _) = some (TypeDesc.struct fs) → False) _ rfl).elim
end
end Go.V
