/- What an operation depends on. -/
import Derived.Test.YtgnfinbhnoofpaaDoorVE
set_option linter.unusedVariables false
set_option linter.unusedSimpArgs false
set_option linter.unusedSectionVars false
namespace Go.V
section
variable {E : Env} {c : Ctx} {g g' : G} {S S1 : St} {o : Oper}

theorem pureVal_S {X : Option Val} {v : Option Val} {k : Cls} {ups : List (Nat × Val)} (h : pureVal X S = some (.val v k ups S1)) :
    k = .pure ∧ ups = [] ∧ S1 = S ∧ ∀ S2, pureVal X S2 = some (.val v k ups S2) := by
  simp only [pureVal, Option.map_eq_some_iff, Res.val.injEq] at h
  obtain ⟨x, rfl, rfl, rfl, rfl, rfl⟩ := h
  exact ⟨rfl, rfl, rfl, fun S2 => rfl⟩
theorem one_S {X : Option (Val × Cls)} {v : Option Val} {k : Cls} {ups : List (Nat × Val)} (h : one X S = some (.val v k ups S1)) :
    ups = [] ∧ S1 = S ∧ ∃ x, v = some x ∧ X = some (x, k) := by
  simp only [one, Option.map_eq_some_iff, Res.val.injEq] at h
  obtain ⟨⟨x, q⟩, hx, rfl, rfl, rfl, rfl⟩ := h
  exact ⟨rfl, rfl, x, rfl, hx⟩
theorem one_mk (x : Val) (k : Cls) (S2 : St) : one (some (x, k)) S2 = some (.val (some x) k [] S2) := rfl

/-- classes of what does not look at the heap -/
def Cls.quiet : Cls → Bool
  | .pure | .rl _ | .wl _ => true
  | _ => false

theorem cellsAt_S {p : Place} {cs : List Val} (h : cellsAt g S p = some cs) (hq : p.reads.quiet = true) (S2 : St) : cellsAt g S2 p = some cs := by
  cases p <;> simp_all [cellsAt, Place.reads, Cls.quiet]

theorem cellsOfSlice_S {sz : Nat} {x : Val} {n : Nat} {l : List Val} {k : Cls} (h : cellsOfSlice S sz x = some (n, l, k)) (hq : k.quiet = true) (S2 : St) : cellsOfSlice S2 sz x = some (n, l, k) := by
  unfold cellsOfSlice at h ⊢
  split at h
  · exact h
  · split at h
    · simp only [Option.map_eq_some_iff, Prod.mk.injEq] at h
      obtain ⟨_, _, _, _, rfl⟩ := h
      simp [Cls.quiet] at hq
    · simp at h
  · exact h
  · simp at h

theorem mapEnts_S {m : Val} {es : List (Val × Val)} {k : Cls} (h : mapEnts S m = some (es, k)) (hq : k.quiet = true) (S2 : St) : mapEnts S2 m = some (es, k) := by
  unfold mapEnts at h ⊢
  split at h
  · exact h
  · split at h
    · simp only [Option.some.injEq, Prod.mk.injEq] at h
      obtain ⟨_, rfl⟩ := h
      simp [Cls.quiet] at hq
    · simp at h
  · simp at h

theorem append_cls {t : TypeId} {s x v : Val} {k : Cls} {S' : St} (h : appendOp E S t s x = some (v, k, S')) : k = .eh := by
  unfold appendOp at h
  split at h
  · split at h
    · split at h
      · split at h
        · split at h <;> simp only [Option.some.injEq, Prod.mk.injEq, reduceCtorEq] at h
          · exact h.2.1.symm
          · exact h.2.1.symm
        · split at h
          · split at h
            · simp only [grown, Option.some.injEq, Prod.mk.injEq] at h; exact h.2.1.symm
            · simp only [grown, Option.some.injEq, Prod.mk.injEq] at h; exact h.2.1.symm
            · split at h
              · split at h
                · split at h
                  · simp only [Option.some.injEq, Prod.mk.injEq] at h; exact h.2.1.symm
                  · simp at h
                · simp at h
              · simp only [grown, Option.some.injEq, Prod.mk.injEq] at h; exact h.2.1.symm
            · split at h
              · split at h
                · split at h
                  · split at h
                    · simp only [Option.some.injEq, Prod.mk.injEq] at h; exact h.2.1.symm
                    · simp at h
                  · split at h
                    · simp only [Option.some.injEq, Prod.mk.injEq] at h; exact h.2.1.symm
                    · simp at h
                · simp at h
              · simp at h
            · simp at h
          · simp at h
      · simp at h
    · simp at h
  · simp at h

/-- what does not look at the heap does the same in every state -/
theorem opV_S {v : Option Val} {k : Cls} {ups : List (Nat × Val)} (h : opV E c g S o = some (.val v k ups S1)) (hq : k.quiet = true) :
    S1 = S ∧ ∀ S2, opV E c g S2 o = some (.val v k ups S2) := by
  cases ho : o.op <;> simp only [opV, ho] at h ⊢
  all_goals try (simp at h; done)
  case move x => exact (pureVal_S h).2.2
  case assign x => exact (pureVal_S h).2.2
  case pick q a b => split at h <;> first | exact (pureVal_S h).2.2 | simp at h
  case alloc e =>
    split at h
    · unfold lay at h
      split at h
      · split at h
        · simp only [Option.some.injEq, Res.val.injEq] at h
          obtain ⟨_, rfl, _⟩ := h
          simp [Cls.quiet] at hq
        · simp at h
      · simp at h
    · simp at h
  case box e x =>
    split at h
    · split at h
      · unfold lay at h
        split at h
        · split at h
          · simp only [Option.some.injEq, Res.val.injEq] at h
            obtain ⟨_, rfl, _⟩ := h
            simp [Cls.quiet] at hq
          · simp at h
        · simp at h
      · simp at h
    · simp at h
  case build t parts =>
    split at h
    · split at h
      · split at h
        · exact (pureVal_S h).2.2
        · simp at h
      · split at h
        · exact (pureVal_S h).2.2
        · simp at h
      · simp at h
    · simp at h
  case buildSlice t len parts =>
    split at h
    · split at h
      · split at h
        · rename_i hc
          simp only [if_pos hc]
          exact (pureVal_S h).2.2
        · simp at h
      · simp at h
    · simp at h
  case load t a =>
    split at h
    · rename_i d n p hd hn hp
      split at h
      · rename_i cs hcs
        obtain ⟨rfl, rfl, x, rfl, hx⟩ := one_S h
        simp only [Option.map_eq_some_iff, Prod.mk.injEq] at hx
        obtain ⟨y, hy, rfl, rfl⟩ := hx
        exact ⟨rfl, fun S2 => by simp only [cellsAt_S hcs hq S2, hy, Option.map_some, one_mk]⟩
      · simp at h
    · simp at h
  case store t a x =>
    split at h
    · rename_i n p u hn hp hu
      split at h
      · rename_i hc
        simp only [Option.map_eq_some_iff, Res.val.injEq] at h
        obtain ⟨⟨k', ups', S'⟩, hs, rfl, rfl, rfl, rfl⟩ := h
        unfold storeAt at hs ⊢
        split at hs
        · simp at hs
        · split at hs
          · simp only [Option.map_eq_some_iff, Prod.mk.injEq] at hs
            obtain ⟨cs', hov, rfl, rfl, rfl⟩ := hs
            exact ⟨rfl, fun S2 => by simp [hov, hc]⟩
          · simp at hs
        · split at hs
          · simp only [Option.map_eq_some_iff, Prod.mk.injEq] at hs
            obtain ⟨cs', hov, rfl, _⟩ := hs
            simp [Cls.quiet] at hq
          · simp at hs
      · simp at h
    · simp at h
  case nilCheck x =>
    split at h
    · rename_i p hp
      split at h
      · rename_i hc
        obtain ⟨rfl, rfl, x, rfl, hx⟩ := one_S h
        simp only [Option.some.injEq, Prod.mk.injEq] at hx
        obtain ⟨rfl, rfl⟩ := hx
        obtain ⟨cs, hcs⟩ := Option.isSome_iff_exists.1 hc
        exact ⟨rfl, fun S2 => by simp [cellsAt_S hcs hq S2, one_mk]⟩
      · simp at h
    · split at h
      · exact (pureVal_S h).2.2
      · exact (pureVal_S h).2.2
      · simp at h
  case binOp op t x y z =>
    split at h
    · exact (pureVal_S h).2.2
    · simp at h
  case unOp op t x =>
    split at h
    · exact (pureVal_S h).2.2
    · simp at h
  case convert s d x =>
    split at h
    · rename_i a ha
      obtain ⟨rfl, rfl, y, rfl, hy⟩ := one_S h
      refine ⟨rfl, fun S2 => ?_⟩
      have : convertOp E s d S2 a = some (y, k) := by
        unfold convertOp at hy ⊢
        split at hy
        · exact hy
        · exact hy
        · exact hy
        · split at hy
          · split at hy
            · split at hy
              · rename_i hcs
                simp only [Option.map_eq_some_iff, Prod.mk.injEq] at hy
                obtain ⟨bb, hb, rfl, rfl⟩ := hy
                simp only [cellsOfSlice_S hcs hq S2, hb, Option.map_some]
              · simp at hy
            · split at hy
              · rename_i hcs
                simp only [Option.map_eq_some_iff, Prod.mk.injEq] at hy
                obtain ⟨bb, hb, rfl, rfl⟩ := hy
                simp only [cellsOfSlice_S hcs hq S2, hb, Option.map_some]
              · simp at hy
            · simp at hy
          · simp at hy
        · simp at hy
      simp only [this, one_mk]
    · simp at h
  case makeFunc fn first cap =>
    cases fn <;> simp only at h ⊢ <;> first | (simp at h; done) | skip
    split at h
    · rename_i h0
      split at h
      all_goals first | (simp at h; done) | skip
      all_goals
        simp only [Option.some.injEq, Res.val.injEq] at h
        obtain ⟨rfl, rfl, rfl, rfl⟩ := h
        exact ⟨rfl, fun S2 => by simp only [if_pos h0]⟩
    · simp at h
  case makeMap t r =>
    cases r <;> simp only at h ⊢ <;> first | (simp at h; done) | skip
    split at h
    · simp only [Option.some.injEq, Res.val.injEq] at h
      obtain ⟨_, rfl, _⟩ := h
      simp [Cls.quiet] at hq
    · simp at h
  case makeSlice t l q =>
    split at h
    · simp only [Option.map_eq_some_iff, Res.val.injEq] at h
      obtain ⟨_, _, _, rfl, _⟩ := h
      simp [Cls.quiet] at hq
    · simp at h
  case lookup t m q ok =>
    split at h
    · rename_i a b ha hb
      obtain ⟨rfl, rfl, y, rfl, hy⟩ := one_S h
      refine ⟨rfl, fun S2 => ?_⟩
      have : lookupOp E t S2 a b ok = some (y, k) := by
        unfold lookupOp at hy ⊢
        split at hy
        · split at hy
          · split at hy
            · rename_i hk
              rw [if_pos hk]
              split at hy
              · rename_i es cl hes
                have hcl : k = cl := by
                  split at hy
                  · simp only [Option.some.injEq, Prod.mk.injEq] at hy; exact hy.2.symm
                  · split at hy
                    · simp only [Option.some.injEq, Prod.mk.injEq] at hy; exact hy.2.symm
                    · simp at hy
                  · simp at hy
                subst hcl
                rw [mapEnts_S hes hq S2]
                exact hy
              · simp at hy
            · simp at hy
          · simp at hy
        · simp at hy
      simp only [this, one_mk]
    · simp at h
  case mapUpdate t m q v =>
    split at h
    · simp only [Option.map_eq_some_iff, Res.val.injEq] at h
      obtain ⟨_, _, _, rfl, _⟩ := h
      simp [Cls.quiet] at hq
    · simp at h
  case insert t m q v =>
    split at h
    · simp only [Option.map_eq_some_iff, Res.val.injEq] at h
      obtain ⟨_, _, _, rfl, _⟩ := h
      simp [Cls.quiet] at hq
    · simp at h
  case fieldAddr t x i =>
    split at h
    · rename_i fd p hfd hp
      split at h
      · rename_i m cs hsz hcs
        obtain ⟨rfl, rfl, x, rfl, hx⟩ := one_S h
        simp only [Option.some.injEq, Prod.mk.injEq] at hx
        obtain ⟨rfl, rfl⟩ := hx
        exact ⟨rfl, fun S2 => by simp only [hsz, cellsAt_S hcs hq S2, one_mk]⟩
      · simp at h
    · simp at h
  case indexAddr t x i =>
    split at h
    · rename_i q n hi
      split at h
      · split at h
        · split at h
          · rename_i hc
            simp only [if_pos hc]
            exact (pureVal_S h).2.2
          · simp at h
        · split at h
          · obtain ⟨rfl, rfl, x, rfl, hx⟩ := one_S h
            simp only [Option.some.injEq, Prod.mk.injEq] at hx
            obtain ⟨rfl, rfl⟩ := hx
            simp [Cls.quiet] at hq
          · simp at h
        · simp at h
      · split at h
        · rename_i sz p hsz hp
          split at h
          · rename_i hc
            obtain ⟨rfl, rfl, x, rfl, hx⟩ := one_S h
            simp only [Option.some.injEq, Prod.mk.injEq] at hx
            obtain ⟨rfl, rfl⟩ := hx
            obtain ⟨cs, hcs⟩ := Option.isSome_iff_exists.1 hc.2.2
            refine ⟨rfl, fun S2 => ?_⟩
            rw [if_pos ⟨hc.1, hc.2.1, by rw [cellsAt_S hcs hq S2]; rfl⟩]
            rfl
          · simp at h
        · simp at h
      · simp at h
    · simp at h
  case slice t x lo hi mx =>
    obtain ⟨rfl, rfl, y, rfl, hy⟩ := one_S h
    refine ⟨rfl, fun S2 => ?_⟩
    have : sliceOp E g S2 t x lo hi mx = some (y, k) := by
      unfold sliceOp at hy ⊢
      split at hy
      · exact hy
      · split at hy
        · exact hy
        · split at hy
          · simp only [Option.some.injEq, Prod.mk.injEq] at hy
            obtain ⟨_, rfl⟩ := hy
            simp [Cls.quiet] at hq
          · split at hy
            · simp only [Option.some.injEq, Prod.mk.injEq] at hy
              obtain ⟨_, rfl⟩ := hy
              simp [Cls.quiet] at hq
            · simp at hy
        · exact hy
        · simp at hy
      · exact hy
      · simp at hy
    rw [this, one_mk]
  case index t x i =>
    split at h
    · split at h
      · split at h
        · rename_i hc
          simp only [if_pos hc]
          exact (pureVal_S h).2.2
        · simp at h
      · split at h
        · split at h
          · rename_i hc
            simp only [if_pos hc]
            exact (pureVal_S h).2.2
          · simp at h
        · simp at h
      · simp at h
    · simp at h
  case field t x i =>
    split at h
    · split at h
      · exact (pureVal_S h).2.2
      · simp at h
    · simp at h
  case extract x i =>
    split at h
    · exact (pureVal_S h).2.2
    · simp at h
  case makeInterface t x =>
    split at h
    · simp at h
    · rename_i hni hx hu
      exact (pureVal_S h).2.2
    · simp at h
  case call cl =>
    split at h
    · split at h
      · obtain ⟨rfl, rfl, y, rfl, hy⟩ := one_S h
        refine ⟨rfl, fun S2 => ?_⟩
        rename_i x _ _ _ t ht
        have : lenOp E t S2 x = some (y, k) := by
          unfold lenOp at hy ⊢
          split at hy
          · exact hy
          · exact hy
          · exact hy
          · exact hy
          · split at hy
            · simp only [Option.some.injEq, Prod.mk.injEq] at hy
              obtain ⟨_, rfl⟩ := hy
              simp [Cls.quiet] at hq
            · simp at hy
          · simp at hy
        rw [this, one_mk]
      · simp at h
    · split at h
      · exact (pureVal_S h).2.2
      · simp at h
    · have app : ∀ {X : Option (Val × Cls × St)}, (∀ v k S', X = some (v, k, S') → k = .eh) → (X.map fun (v, k, S') => Res.val (some v) k [] S') = some (.val v k ups S1) → False := by
        intro X hX h
        simp only [Option.map_eq_some_iff, Res.val.injEq] at h
        obtain ⟨⟨v', k', S'⟩, hh, _, rfl, _, _⟩ := h
        have := hX _ _ _ hh
        simp only at this hq
        subst this
        simp [Cls.quiet] at hq
      split at h
      · exact (app (fun _ _ _ => append_cls) h).elim
      · exact (app (fun _ _ _ => append_cls) h).elim
      · simp at h
    · split at h
      · simp only [Option.map_eq_some_iff, Res.val.injEq] at h
        obtain ⟨_, _, _, rfl, _⟩ := h
        simp [Cls.quiet] at hq
      · simp at h
    · split at h
      · simp only [Option.map_eq_some_iff, Res.val.injEq] at h
        obtain ⟨_, _, _, rfl, _⟩ := h
        simp [Cls.quiet] at hq
      · simp at h
    · exact (pureVal_S h).2.2
    · exact (pureVal_S h).2.2
    · split at h <;> simp at h
    · simp at h
end
end Go.V

/- What an operation names. -/
namespace Go.V
section
variable {E : Env} {c : Ctx} {g g' : G} {S S1 : St} {o : Oper}

theorem raw_agree {x : Operand} (h : ∀ u, x = .tmp u → g' u = g u) : raw E g' x = raw E g x := by
  cases x <;> simp only [raw]
  exact h _ rfl
theorem ev_agree {x : Operand} (h : ∀ u, x = .tmp u → g' u = g u) : ev E g' x = ev E g x := by
  unfold ev; rw [raw_agree h]
theorem place_agree {x : Operand} (h : ∀ u, x = .tmp u → g' u = g u) : place E g' x = place E g x := by
  cases x <;> simp only [place]
  rw [h _ rfl]
theorem evs_agree : ∀ {l : List Operand}, (∀ u, .tmp u ∈ l → g' u = g u) → evs E g' l = evs E g l
  | [], _ => rfl
  | x :: l, h => by
    simp only [evs]
    rw [ev_agree (fun u hu => h u (by simp [hu])), evs_agree (fun u hu => h u (by simp [hu]))]
theorem evParts_agree : ∀ {l : List (Nat × Operand)}, (∀ u, .tmp u ∈ l.map (·.2) → g' u = g u) → evParts E g' l = evParts E g l
  | [], _ => rfl
  | (i, x) :: l, h => by
    simp only [evParts]
    rw [ev_agree (fun u hu => h u (by simp [hu])), evParts_agree (fun u hu => h u (by rw [List.map_cons]; exact List.mem_cons_of_mem _ hu))]
theorem bound_agree {x : Option Operand} (h : ∀ u, x = some (.tmp u) → g' u = g u) : bound E g' x = bound E g x := by
  cases x with
  | none => rfl
  | some y => simp only [bound]; rw [ev_agree (fun u hu => h u (by rw [hu]))]
theorem capture_agree : ∀ {l : List Operand}, (∀ u, .tmp u ∈ l → g' u = g u) → capture E g' l = capture E g l
  | [], _ => rfl
  | x :: l, h => by
    cases x with
    | tmp t =>
      simp only [capture]
      rw [h t (by simp), capture_agree (fun u hu => h u (List.mem_cons_of_mem _ hu))]
    | _ => rfl

theorem cellsAt_agree {p : Place} {cs : List Val} (h : cellsAt g S p = some cs) (hs : ∀ u ∈ p.reads.slots, g' u = g u) : cellsAt g' S p = some cs := by
  cases p with
  | lcl t off => simp only [cellsAt] at h ⊢; rw [hs t (by simp [Place.reads, Cls.slots])]; exact h
  | _ => exact h

theorem sliceOp_agree {t : TypeId} {x : Operand} {lo hi mx : Option Operand} (hx : ∀ u, x = .tmp u → g' u = g u) (hl : ∀ u, lo = some (.tmp u) → g' u = g u) (hh : ∀ u, hi = some (.tmp u) → g' u = g u) (hm : ∀ u, mx = some (.tmp u) → g' u = g u) :
    sliceOp E g' S t x lo hi mx = sliceOp E g S t x lo hi mx := by
  unfold sliceOp
  rw [bound_agree hl, bound_agree hh, bound_agree hm, ev_agree hx, place_agree hx]

/-- an operation does the same where what it names is the same -/
theorem opV_agree {r : Res} (h : opV E c g S o = some r) (hop : ∀ u, Operand.tmp u ∈ o.op.operands.toList → g' u = g u)
    (hsl : ∀ v k ups S1, r = .val v k ups S1 → ∀ u ∈ k.slots, g' u = g u) : opV E c g' S o = some r := by
  cases ho : o.op <;> rw [ho] at hop <;> simp only [opV, ho] at h ⊢
  all_goals try (simp at h; done)
  case move x => rw [ev_agree (fun u hu => hop u (by simp [Op.operands, hu]))]; exact h
  case assign x => rw [ev_agree (fun u hu => hop u (by simp [Op.operands, hu]))]; exact h
  case pick q a b =>
    rw [ev_agree (fun u hu => hop u (by simp [Op.operands, hu]))]
    split at h
    · rename_i t hq
      rw [ev_agree (x := if t then a else b) (fun u hu => hop u (by cases t <;> simp_all [Op.operands]))]
      exact h
    · simp at h
  case alloc e => exact h
  case box e x => rw [ev_agree (fun u hu => hop u (by simp [Op.operands, hu]))]; exact h
  case build t parts => rw [evParts_agree (fun u hu => hop u (by simpa [Op.operands] using hu))]; exact h
  case buildSlice t len parts => rw [evParts_agree (fun u hu => hop u (by simpa [Op.operands] using hu))]; exact h
  case load t a =>
    rw [place_agree (fun u hu => hop u (by simp [Op.operands, hu]))]
    split at h
    · rename_i d n p hd hn hp
      split at h
      · rename_i cs hcs
        have : cellsAt g' S p = some cs := cellsAt_agree hcs fun u hu => by
          simp only [one, Option.map_eq_some_iff] at h
          obtain ⟨⟨y, q⟩, hy, rfl⟩ := h
          obtain ⟨z, hz, hzz⟩ := hy
          simp only [Prod.mk.injEq] at hzz
          exact hsl _ _ _ _ rfl u (by rw [← hzz.2]; exact hu)
        simp only [this]
        exact h
      · simp at h
    · simp at h
  case store t a x =>
    rw [place_agree (fun u hu => hop u (by simp [Op.operands, hu])), ev_agree (fun u hu => hop u (by simp [Op.operands, hu]))]
    split at h
    · rename_i n p v hn hp hv
      split at h
      · rename_i hc
        have : storeAt g' S p v.cells = storeAt g S p v.cells := by
          unfold storeAt
          split
          · rfl
          · rename_i t off
            simp only [Option.map_eq_some_iff] at h
            obtain ⟨⟨k', ups', S'⟩, hs, rfl⟩ := h
            unfold storeAt at hs
            simp only at hs
            split at hs
            · simp only [Option.map_eq_some_iff, Prod.mk.injEq] at hs
              rename_i cs0 hg0
              obtain ⟨cs', hov, rfl, _, _⟩ := hs
              rw [hsl _ _ _ _ rfl t (by simp [Cls.slots]), hg0]
            · simp at hs
          · rfl
        simp only [if_pos hc, this]
        exact h
      · simp at h
    · simp at h
  case nilCheck x =>
    rw [place_agree (fun u hu => hop u (by simp [Op.operands, hu])), ev_agree (fun u hu => hop u (by simp [Op.operands, hu]))]
    split at h
    · rename_i p hp
      split at h
      · rename_i hc
        obtain ⟨cs, hcs⟩ := Option.isSome_iff_exists.1 hc
        have : cellsAt g' S p = some cs := cellsAt_agree hcs fun u hu => by
          simp only [one, Option.map_some, Option.some.injEq] at h
          exact hsl _ _ _ _ h.symm u hu
        simp only [this, Option.isSome_some, if_true]
        exact h
      · simp at h
    · exact h
  case binOp op t x y z =>
    rw [ev_agree (x := x) (fun u hu => hop u (by simp [Op.operands, hu])), ev_agree (x := y) (fun u hu => hop u (by simp [Op.operands, hu]))]; exact h
  case unOp op t x => rw [ev_agree (fun u hu => hop u (by simp [Op.operands, hu]))]; exact h
  case convert s d x => rw [ev_agree (fun u hu => hop u (by simp [Op.operands, hu]))]; exact h
  case makeFunc fn first cap =>
    cases fn <;> simp only at h ⊢ <;> first | (simp at h; done) | skip
    rw [capture_agree (fun u hu => hop u (by simp [Op.operands]; right; simpa using hu))]; exact h
  case makeMap t r => cases r <;> exact h
  case makeSlice t l q =>
    rw [ev_agree (x := l) (fun u hu => hop u (by simp [Op.operands, hu])), ev_agree (x := q) (fun u hu => hop u (by simp [Op.operands, hu]))]; exact h
  case lookup t m q ok =>
    rw [ev_agree (x := m) (fun u hu => hop u (by simp [Op.operands, hu])), ev_agree (x := q) (fun u hu => hop u (by simp [Op.operands, hu]))]; exact h
  case mapUpdate t m q v =>
    rw [ev_agree (x := m) (fun u hu => hop u (by simp [Op.operands, hu])), ev_agree (x := q) (fun u hu => hop u (by simp [Op.operands, hu])), ev_agree (x := v) (fun u hu => hop u (by simp [Op.operands, hu]))]; exact h
  case insert t m q v =>
    rw [ev_agree (x := m) (fun u hu => hop u (by simp [Op.operands, hu])), ev_agree (x := q) (fun u hu => hop u (by simp [Op.operands, hu])), ev_agree (x := v) (fun u hu => hop u (by simp [Op.operands, hu]))]; exact h
  case fieldAddr t x i =>
    rw [place_agree (fun u hu => hop u (by simp [Op.operands, hu]))]
    split at h
    · rename_i fd p hfd hp
      split at h
      · rename_i m cs hsz hcs
        have : cellsAt g' S p = some cs := cellsAt_agree hcs fun u hu => by
          simp only [one, Option.map_some, Option.some.injEq] at h
          exact hsl _ _ _ _ h.symm u hu
        simp only [this, hsz]
        exact h
      · simp at h
    · simp at h
  case indexAddr t x i =>
    rw [place_agree (x := x) (fun u hu => hop u (by simp [Op.operands, hu])), ev_agree (x := x) (fun u hu => hop u (by simp [Op.operands, hu])), ev_agree (x := i) (fun u hu => hop u (by simp [Op.operands, hu]))]
    split at h
    · rename_i q n hi
      split at h
      · exact h
      · split at h
        · rename_i sz p hsz hp
          split at h
          · rename_i hc
            obtain ⟨cs, hcs⟩ := Option.isSome_iff_exists.1 hc.2.2
            have : cellsAt g' S p = some cs := cellsAt_agree hcs fun u hu => by
              simp only [one, Option.map_some, Option.some.injEq] at h
              exact hsl _ _ _ _ h.symm u hu
            rw [if_pos ⟨hc.1, hc.2.1, by rw [this]; rfl⟩]
            exact h
          · simp at h
        · simp at h
      · simp at h
    · simp at h
  case slice t x lo hi mx =>
    rw [sliceOp_agree (fun u hu => hop u (by simp [Op.operands, hu])) (fun u hu => hop u (by simp [Op.operands, hu])) (fun u hu => hop u (by simp [Op.operands, hu])) (fun u hu => hop u (by simp [Op.operands, hu]))]; exact h
  case index t x i =>
    rw [ev_agree (x := x) (fun u hu => hop u (by simp [Op.operands, hu])), ev_agree (x := i) (fun u hu => hop u (by simp [Op.operands, hu]))]; exact h
  case field t x i => rw [ev_agree (fun u hu => hop u (by simp [Op.operands, hu]))]; exact h
  case extract x i => rw [ev_agree (fun u hu => hop u (by simp [Op.operands, hu]))]; exact h
  case makeInterface t x => rw [ev_agree (fun u hu => hop u (by simp [Op.operands, hu]))]; exact h
  case call cl =>
    have hargs : evs E g' cl.args.toList = evs E g cl.args.toList := evs_agree fun u hu => hop u (by simp [Op.operands, Call.operands]; exact .inr (by simpa using hu))
    rw [hargs]
    split at h
    all_goals first | exact h | skip
    rename_i x args hcal hev
    rw [ev_agree (x := x) (fun u hu => hop u (by simp [Op.operands, Call.operands, hcal, hu]))]
    exact h
end
end Go.V

/- What reads the heap only reads. -/
namespace Go.V
section
variable {E : Env} {c : Ctx} {g g' : G} {S S1 : St} {o : Oper}

theorem pure_not {X : Option Val} {v : Option Val} {ups : List (Nat × Val)} (h : pureVal X S = some (.val v .rh ups S1)) : False := by
  have := (pureVal_S h).1; simp at this
theorem one_rh {X : Option (Val × Cls)} {v : Option Val} {k : Cls} {ups : List (Nat × Val)} (h : one X S = some (.val v k ups S1)) : S1 = S ∧ ups = [] ∧ ∃ x, v = some x := by
  obtain ⟨h1, h2, x, h3, _⟩ := one_S h
  exact ⟨h2, h1, x, h3⟩
theorem lay_not {cs : List Val} {dst : Option Nat} {v : Option Val} {ups : List (Nat × Val)} (h : lay E c S dst cs = some (.val v .rh ups S1)) : False := by
  unfold lay at h
  split at h
  · split at h <;> simp at h
  · simp at h

theorem opV_rh {v : Option Val} {ups : List (Nat × Val)} (h : opV E c g S o = some (.val v .rh ups S1)) : S1 = S ∧ ups = [] ∧ ∃ x, v = some x := by
  cases ho : o.op <;> simp only [opV, ho] at h
  all_goals try (simp at h; done)
  case move x => exact (pure_not h).elim
  case assign x => exact (pure_not h).elim
  case pick q a b => split at h <;> first | exact (pure_not h).elim | simp at h
  case alloc e =>
    split at h
    · exact (lay_not h).elim
    · simp at h
  case box e x =>
    split at h
    · split at h
      · exact (lay_not h).elim
      · simp at h
    · simp at h
  case build t parts =>
    split at h
    · split at h
      · split at h
        · exact (pure_not h).elim
        · simp at h
      · split at h
        · exact (pure_not h).elim
        · simp at h
      · simp at h
    · simp at h
  case buildSlice t len parts =>
    split at h
    · split at h
      · split at h
        · exact (pure_not h).elim
        · simp at h
      · simp at h
    · simp at h
  case load t a =>
    split at h
    · split at h
      · exact one_rh h
      · simp at h
    · simp at h
  case store t a x =>
    split at h
    · split at h
      · simp only [Option.map_eq_some_iff, Res.val.injEq] at h
        obtain ⟨⟨k', ups', S'⟩, hs, _, hk, _, _⟩ := h
        unfold storeAt at hs
        split at hs
        · simp at hs
        · split at hs
          · simp only [Option.map_eq_some_iff, Prod.mk.injEq] at hs
            obtain ⟨_, _, rfl, _⟩ := hs
            simp at hk
          · simp at hs
        · split at hs
          · simp only [Option.map_eq_some_iff, Prod.mk.injEq] at hs
            obtain ⟨_, _, rfl, _⟩ := hs
            simp at hk
          · simp at hs
      · simp at h
    · simp at h
  case nilCheck x =>
    split at h
    · split at h
      · exact one_rh h
      · simp at h
    · split at h
      · exact (pure_not h).elim
      · exact (pure_not h).elim
      · simp at h
  case binOp op t x y z =>
    split at h
    · exact (pure_not h).elim
    · simp at h
  case unOp op t x =>
    split at h
    · exact (pure_not h).elim
    · simp at h
  case convert s d x =>
    split at h
    · exact one_rh h
    · simp at h
  case makeFunc fn first cap =>
    cases fn <;> simp only at h <;> first | (simp at h; done) | skip
    split at h
    · split at h <;> simp at h
    · simp at h
  case makeMap t r =>
    cases r <;> simp only at h <;> first | (simp at h; done) | skip
    split at h <;> simp at h
  case makeSlice t l q =>
    split at h
    · simp at h
    · simp at h
  case lookup t m q ok =>
    split at h
    · exact one_rh h
    · simp at h
  case mapUpdate t m q v =>
    split at h <;> simp at h
  case insert t m q v =>
    split at h <;> simp at h
  case fieldAddr t x i =>
    split at h
    · split at h
      · exact one_rh h
      · simp at h
    · simp at h
  case indexAddr t x i =>
    split at h
    · split at h
      · split at h
        · split at h
          · exact (pure_not h).elim
          · simp at h
        · split at h
          · exact one_rh h
          · simp at h
        · simp at h
      · split at h
        · split at h
          · exact one_rh h
          · simp at h
        · simp at h
      · simp at h
    · simp at h
  case slice t x lo hi mx => exact one_rh h
  case index t x i =>
    split at h
    · split at h
      · split at h
        · exact (pure_not h).elim
        · simp at h
      · split at h
        · split at h
          · exact (pure_not h).elim
          · simp at h
        · simp at h
      · simp at h
    · simp at h
  case field t x i =>
    split at h
    · split at h
      · exact (pure_not h).elim
      · simp at h
    · simp at h
  case extract x i =>
    split at h
    · exact (pure_not h).elim
    · simp at h
  case makeInterface t x =>
    split at h
    · simp at h
    · exact (pure_not h).elim
    · simp at h
  case call cl =>
    split at h
    · split at h
      · exact one_rh h
      · simp at h
    · split at h
      · exact (pure_not h).elim
      · simp at h
    · have app : ∀ {X : Option (Val × Cls × St)}, (∀ v k S', X = some (v, k, S') → k = .eh) → (X.map fun (v, k, S') => Res.val (some v) k [] S') = some (.val v .rh ups S1) → False := by
        intro X hX h
        simp only [Option.map_eq_some_iff, Res.val.injEq] at h
        obtain ⟨⟨v', k', S'⟩, hh, _, hk, _, _⟩ := h
        have := hX _ _ _ hh
        simp only at this hk
        rw [this] at hk
        simp at hk
      split at h
      · exact (app (fun _ _ _ => append_cls) h).elim
      · exact (app (fun _ _ _ => append_cls) h).elim
      · simp at h
    · split at h
      · simp at h
      · simp at h
    · split at h
      · simp at h
      · simp at h
    · exact (pure_not h).elim
    · exact (pure_not h).elim
    · split at h <;> simp at h
    · simp at h

theorem pure_far {X : Option Val} {r : Res} (h : pureVal X S = some r) (hr : ∀ v k ups S1, r ≠ .val v k ups S1) : False := by
  simp only [pureVal, Option.map_eq_some_iff] at h
  obtain ⟨_, _, rfl⟩ := h
  exact hr _ _ _ _ rfl
theorem one_far {X : Option (Val × Cls)} {r : Res} (h : one X S = some r) (hr : ∀ v k ups S1, r ≠ .val v k ups S1) : False := by
  simp only [one, Option.map_eq_some_iff] at h
  obtain ⟨⟨_, _⟩, _, rfl⟩ := h
  exact hr _ _ _ _ rfl
theorem map_far {α : Type} {X : Option α} {fn : α → Res} {r : Res} (h : X.map fn = some r) (hf : ∀ x, ∃ v k ups S1, fn x = .val v k ups S1) (hr : ∀ v k ups S1, r ≠ .val v k ups S1) : False := by
  simp only [Option.map_eq_some_iff] at h
  obtain ⟨x, _, rfl⟩ := h
  obtain ⟨_, _, _, _, e⟩ := hf x
  exact hr _ _ _ _ e

/-- other results do not look at the heap at all -/
theorem opV_far {r : Res} (h : opV E c g S o = some r) (hr : ∀ v k ups S1, r ≠ .val v k ups S1) (S2 : St) : opV E c g S2 o = some r := by
  have lay_S : ∀ {z : List Val}, lay E c S o.dst z = some r → lay E c S2 o.dst z = some r := by
    intro z h
    unfold lay at h ⊢
    split at h
    · split at h
      · simp only [Option.some.injEq] at h; exact absurd h.symm (hr _ _ _ _)
      · rename_i hn; simp only [if_neg hn]; exact h
    · simp at h
  cases ho : o.op <;> simp only [opV, ho] at h ⊢
  all_goals try (simp at h; done)
  case move x => exact (pure_far h hr).elim
  case assign x => exact (pure_far h hr).elim
  case pick q a b => split at h <;> first | exact (pure_far h hr).elim | simp at h
  case alloc e =>
    split at h
    · exact lay_S h
    · simp at h
  case box e x =>
    split at h
    · split at h
      · rename_i hc
        simp only [if_pos hc]
        exact lay_S h
      · simp at h
    · simp at h
  case build t parts =>
    split at h
    · split at h
      · split at h
        · exact (pure_far h hr).elim
        · simp at h
      · split at h
        · exact (pure_far h hr).elim
        · simp at h
      · simp at h
    · simp at h
  case buildSlice t len parts =>
    split at h
    · split at h
      · split at h
        · exact (pure_far h hr).elim
        · simp at h
      · simp at h
    · simp at h
  case load t a =>
    split at h
    · split at h
      · exact (one_far h hr).elim
      · simp at h
    · simp at h
  case store t a x =>
    split at h
    · split at h
      · exact (map_far h (fun _ => ⟨_, _, _, _, rfl⟩) hr).elim
      · simp at h
    · simp at h
  case nilCheck x =>
    split at h
    · split at h
      · exact (one_far h hr).elim
      · simp at h
    · split at h
      · exact (pure_far h hr).elim
      · exact (pure_far h hr).elim
      · simp at h
  case binOp op t x y z =>
    split at h
    · exact (pure_far h hr).elim
    · simp at h
  case unOp op t x =>
    split at h
    · exact (pure_far h hr).elim
    · simp at h
  case convert s d x =>
    split at h
    · exact (one_far h hr).elim
    · simp at h
  case makeFunc fn first cap =>
    cases fn <;> simp only at h ⊢ <;> first | (simp at h; done) | skip
    split at h
    · split at h
      all_goals first | (simp at h; done) | (simp only [Option.some.injEq] at h; exact absurd h.symm (hr _ _ _ _))
    · simp at h
  case makeMap t q =>
    cases q <;> simp only at h ⊢ <;> first | (simp at h; done) | skip
    split at h
    · simp only [Option.some.injEq] at h; exact absurd h.symm (hr _ _ _ _)
    · simp at h
  case makeSlice t l q =>
    split at h
    · exact (map_far h (fun _ => ⟨_, _, _, _, rfl⟩) hr).elim
    · simp at h
  case lookup t m q ok =>
    split at h
    · exact (one_far h hr).elim
    · simp at h
  case mapUpdate t m q v =>
    split at h
    · exact (map_far h (fun _ => ⟨_, _, _, _, rfl⟩) hr).elim
    · simp at h
  case insert t m q v =>
    split at h
    · exact (map_far h (fun _ => ⟨_, _, _, _, rfl⟩) hr).elim
    · simp at h
  case fieldAddr t x i =>
    split at h
    · split at h
      · exact (one_far h hr).elim
      · simp at h
    · simp at h
  case indexAddr t x i =>
    split at h
    · split at h
      · split at h
        · split at h
          · exact (pure_far h hr).elim
          · simp at h
        · split at h
          · exact (one_far h hr).elim
          · simp at h
        · simp at h
      · split at h
        · split at h
          · exact (one_far h hr).elim
          · simp at h
        · simp at h
      · simp at h
    · simp at h
  case slice t x lo hi mx => exact (one_far h hr).elim
  case index t x i =>
    split at h
    · split at h
      · split at h
        · exact (pure_far h hr).elim
        · simp at h
      · split at h
        · split at h
          · exact (pure_far h hr).elim
          · simp at h
        · simp at h
      · simp at h
    · simp at h
  case field t x i =>
    split at h
    · split at h
      · exact (pure_far h hr).elim
      · simp at h
    · simp at h
  case extract x i =>
    split at h
    · exact (pure_far h hr).elim
    · simp at h
  case makeInterface t x =>
    split at h
    · simp at h
    · exact (pure_far h hr).elim
    · simp at h
  case call cl =>
    split at h
    · split at h
      · exact (one_far h hr).elim
      · simp at h
    · split at h
      · exact (pure_far h hr).elim
      · simp at h
    · split at h
      · exact (map_far h (fun _ => ⟨_, _, _, _, rfl⟩) hr).elim
      · exact (map_far h (fun _ => ⟨_, _, _, _, rfl⟩) hr).elim
      · simp at h
    · split at h
      · exact (map_far h (fun _ => ⟨_, _, _, _, rfl⟩) hr).elim
      · simp at h
    · split at h
      · exact (map_far h (fun _ => ⟨_, _, _, _, rfl⟩) hr).elim
      · simp at h
    · exact (pure_far h hr).elim
    · exact (pure_far h hr).elim
    · exact h
    · simp at h
end
end Go.V

/- Orders: which operation comes before which. -/
namespace Go.V
section
variable {ops : Array Oper}

/-- whatever s has, it has what has to come before -/
def ClosedIn (ops : Array Oper) (s : Nat → Prop) : Prop := ∀ j, s j → ∀ o, ops[j]? = some o → ∀ e ∈ o.after.toList, Region.binds .any e = true → s e.on
def Good (ops : Array Oper) (i j : Nat) : Prop := i < j ∧ ∀ s, ClosedIn ops s → s j → s i

theorem mask_mem {acc : List Nat} {i : Nat} : ∀ {es : List Edge} {s : Nat}, (es.foldl (fun s e => if Region.binds .any e then s ||| 2 ^ e.on ||| acc.getD e.on 0 else s) s).testBit i = true →
    s.testBit i = true ∨ ∃ e ∈ es, Region.binds .any e = true ∧ (i = e.on ∨ (acc.getD e.on 0).testBit i = true)
  | [], s, h => .inl h
  | e :: es, s, h => by
    simp only [List.foldl_cons] at h
    rcases mask_mem h with h | ⟨e', h1, h2⟩
    · split at h
      · rename_i hb
        simp only [Nat.testBit_or, Bool.or_eq_true, Nat.testBit_two_pow, decide_eq_true_eq] at h
        rcases h with (h | h) | h
        · exact .inl h
        · exact .inr ⟨e, by simp, hb, .inl h.symm⟩
        · exact .inr ⟨e, by simp, hb, .inr h⟩
      · exact .inl h
    · exact .inr ⟨e', List.mem_cons_of_mem _ h1, h2⟩

theorem befT_good : ∀ (l : List Oper) (acc : List Nat), ops.toList.drop acc.length = l → edgesOk l acc.length = true → (∀ j i, (acc.getD j 0).testBit i = true → Good ops i j) →
    ∀ j i, ((befT l acc).getD j 0).testBit i = true → Good ops i j
  | [], acc, _, _, h => h
  | o :: l, acc, hd, he, h => by
    simp only [edgesOk, Bool.and_eq_true, List.all_eq_true, Bool.or_eq_true, Bool.not_eq_true', decide_eq_true_eq] at he
    have ho : ops[acc.length]? = some o := by
      rw [← Array.getElem?_toList]
      have := congrArg (·[0]?) hd
      simpa using this
    simp only [befT]
    refine befT_good l _ (by rw [List.length_append, List.length_singleton, ← List.tail_drop, hd]; rfl) (by simpa using he.2) ?_
    intro j i hj
    rw [List.getD_eq_getElem?_getD] at hj
    rcases Nat.lt_trichotomy j acc.length with lt | rfl | gt
    · rw [List.getElem?_append_left lt, ← List.getD_eq_getElem?_getD] at hj
      exact h j i hj
    · rw [List.getElem?_append_right (Nat.le_refl _)] at hj
      simp only [Nat.sub_self, List.getElem?_cons_zero, Option.getD_some] at hj
      rcases mask_mem hj with hj | ⟨e, h1, h2, h3⟩
      · simp at hj
      · have hlt : e.on < acc.length := by
          rcases he.1 e h1 with hb | hb
          · rw [h2] at hb; simp at hb
          · exact hb
        rcases h3 with rfl | h3
        · exact ⟨hlt, fun s hs hj => hs _ hj o ho e h1 h2⟩
        · obtain ⟨g1, g2⟩ := h e.on i h3
          exact ⟨by omega, fun s hs hj => g2 s hs (hs _ hj o ho e h1 h2)⟩
    · rw [List.getElem?_eq_none (by simp; omega)] at hj
      simp at hj

/-- an order -/
def Lin (ops : Array Oper) : List Nat → Array Bool → Prop
  | [], _ => True
  | i :: l, listed => i ∈ Region.ready .any ops listed ∧ Lin ops l (listed.setIfInBounds i true)

theorem lin_go : ∀ (fuel t : Nat) (listed : Array Bool), Lin ops (Region.linearise.go .any ops fuel t listed []) listed
  | 0, _, _ => trivial
  | fuel + 1, t, listed => by
    simp only [Region.linearise.go]
    change Lin ops (match (Region.ready .any ops listed)[t % (Region.ready .any ops listed).length]? with
      | some i => Region.linearise.go .any ops fuel (t / (Region.ready .any ops listed).length) (listed.setIfInBounds i true) [i]
      | none => [].reverse) listed
    cases hi : (Region.ready .any ops listed)[t % (Region.ready .any ops listed).length]? with
    | none => trivial
    | some i =>
      simp only []
      rw [linearise_go_acc, List.reverse_singleton, List.singleton_append]
      exact ⟨List.mem_of_getElem? hi, lin_go fuel _ _⟩

def cnt (listed : Array Bool) : Nat → Nat
  | 0 => 0
  | n + 1 => cnt listed n + (if listed.getD n true then 0 else 1)
theorem cnt_zero {listed : Array Bool} : ∀ {n : Nat}, cnt listed n = 0 → ∀ i, i < n → listed.getD i true = true
  | n + 1, h, i, hi => by
    simp only [cnt] at h
    rcases Nat.lt_or_ge i n with lt | ge
    · exact cnt_zero (by omega) i lt
    · have : i = n := by omega
      subst this
      cases e : listed.getD i true with
      | true => rfl
      | false => rw [e] at h; simp at h
  | 0, _, _, hi => by omega
theorem getD_set (listed : Array Bool) (i j : Nat) : (listed.setIfInBounds i true).getD j true = if i = j then true else listed.getD j true := by
  rw [Array.getD_eq_getD_getElem?, Array.getD_eq_getD_getElem?, Array.getElem?_setIfInBounds]
  by_cases e : i = j
  · subst e
    simp only [if_true]
    by_cases h : i < listed.size
    · simp [h]
    · simp [h]
  · simp [e]
theorem cnt_set {listed : Array Bool} {i : Nat} (h : listed.getD i true = false) : ∀ {n : Nat}, cnt listed n = cnt (listed.setIfInBounds i true) n + (if i < n then 1 else 0)
  | 0 => by simp [cnt]
  | n + 1 => by
    simp only [cnt]
    rw [cnt_set h (n := n), getD_set]
    by_cases e : i = n
    · subst e; simp [h]
    · rw [if_neg e]
      by_cases h2 : i < n
      · have h3 : i < n + 1 := by omega
        simp only [h2, h3, if_true]; omega
      · have h3 : ¬ i < n + 1 := by omega
        simp only [h2, h3, if_false]; omega

theorem edgesOk_get : ∀ {l : List Oper} {p i : Nat} {o : Oper}, edgesOk l p = true → l[i]? = some o → ∀ e ∈ o.after.toList, Region.binds .any e = true → e.on < p + i
  | o :: l, p, 0, _, h, hi, e, he, hb => by
    simp only [List.getElem?_cons_zero, Option.some.injEq] at hi; subst hi
    simp only [edgesOk, Bool.and_eq_true, List.all_eq_true, Bool.or_eq_true, Bool.not_eq_true', decide_eq_true_eq] at h
    rcases h.1 e he with hn | hn
    · rw [hb] at hn; simp at hn
    · simpa using hn
  | o :: l, p, i + 1, _, h, hi, e, he, hb => by
    simp only [edgesOk, Bool.and_eq_true] at h
    have := edgesOk_get (p := p + 1) (i := i) h.2 (by simpa using hi) e he hb
    omega
  | [], _, _, _, _, hi, _, _, _ => by simp at hi

theorem ready_mem {listed : Array Bool} {i : Nat} : i ∈ Region.ready .any ops listed ↔ i < ops.size ∧ listed.getD i true = false ∧ ∃ o, ops[i]? = some o ∧ ∀ e ∈ o.after.toList, Region.binds .any e = true → listed.getD e.on false = true := by
  unfold Region.ready
  rw [List.mem_filter, List.mem_range]
  constructor
  · rintro ⟨h1, h2⟩
    simp only [Bool.and_eq_true, Bool.not_eq_true'] at h2
    obtain ⟨h2, h3⟩ := h2
    refine ⟨h1, h2, ?_⟩
    cases ho : ops[i]? with
    | none => rw [ho] at h3; simp at h3
    | some o =>
      rw [ho] at h3
      simp only [Option.map_some, Option.getD_some] at h3
      rw [Array.all_eq_true'] at h3
      refine ⟨o, rfl, fun e he hb => ?_⟩
      have := h3 e (by simpa using he)
      simp only [Bool.or_eq_true, Bool.not_eq_true'] at this
      rcases this with hn | hn
      · rw [hb] at hn; simp at hn
      · exact hn
  · rintro ⟨h1, h2, o, ho, h3⟩
    refine ⟨h1, ?_⟩
    rw [ho, h2]
    simp only [Bool.not_false, Bool.true_and, Option.map_some, Option.getD_some]
    rw [Array.all_eq_true']
    intro e he
    simp only [Bool.or_eq_true, Bool.not_eq_true']
    cases hb : Region.binds .any e with
    | false => exact .inl rfl
    | true => exact .inr (h3 e (by simpa using he) hb)

/-- the order has all operations -/
theorem lin_all (he : edgesOk ops.toList 0 = true) : ∀ (fuel t : Nat) (listed : Array Bool), listed.size = ops.size → cnt listed ops.size ≤ fuel →
    ∀ i, i < ops.size → listed.getD i true = false → i ∈ Region.linearise.go .any ops fuel t listed []
  | 0, t, listed, hs, hc, i, hi, hl => by
    have := cnt_zero (listed := listed) (n := ops.size) (by omega) i hi
    rw [hl] at this; simp at this
  | fuel + 1, t, listed, hs, hc, i, hi, hl => by
    simp only [Region.linearise.go]
    change i ∈ (match (Region.ready .any ops listed)[t % (Region.ready .any ops listed).length]? with
      | some i => Region.linearise.go .any ops fuel (t / (Region.ready .any ops listed).length) (listed.setIfInBounds i true) [i]
      | none => [].reverse)
    cases hr : (Region.ready .any ops listed)[t % (Region.ready .any ops listed).length]? with
    | none =>
      exfalso
      have hnil : Region.ready .any ops listed = [] := by
        cases h : Region.ready .any ops listed with
        | nil => rfl
        | cons x xs =>
          rw [h] at hr
          have hlt : t % (x :: xs).length < (x :: xs).length := Nat.mod_lt _ (by simp)
          rw [List.getElem?_eq_getElem hlt] at hr
          simp at hr
      -- the first one not listed is ready
      have : ∀ m, m < ops.size → listed.getD m true = true := by
        intro m
        induction m using Nat.strongRecOn with
        | _ m ih =>
          intro hm
          cases e : listed.getD m true with
          | true => rfl
          | false =>
            exfalso
            have : m ∈ Region.ready .any ops listed := by
              rw [ready_mem]
              obtain ⟨o, ho⟩ : ∃ o, ops[m]? = some o := ⟨_, Array.getElem?_eq_getElem hm⟩
              refine ⟨hm, e, o, ho, fun ed hed hb => ?_⟩
              have h1 := edgesOk_get (i := m) he (by rw [Array.getElem?_toList]; exact ho) ed hed hb
              have h2 := ih ed.on (by omega) (by omega)
              rw [Array.getD_eq_getD_getElem?] at h2 ⊢
              have hlt : ed.on < listed.size := by omega
              rw [Array.getElem?_eq_getElem hlt] at h2 ⊢
              exact h2
            rw [hnil] at this
            simp at this
      rw [this i hi] at hl
      simp at hl
    | some x =>
      simp only []
      rw [linearise_go_acc, List.reverse_singleton, List.singleton_append]
      by_cases e : i = x
      · subst e; simp
      · refine List.mem_cons_of_mem _ (lin_all he fuel _ _ (by simp [hs]) ?_ i hi (by rw [getD_set, if_neg (Ne.symm e)]; exact hl))
        have hx := ready_mem.1 (List.mem_of_getElem? hr)
        have := cnt_set hx.2.1 (n := ops.size)
        rw [if_pos hx.1] at this
        omega
end
end Go.V
