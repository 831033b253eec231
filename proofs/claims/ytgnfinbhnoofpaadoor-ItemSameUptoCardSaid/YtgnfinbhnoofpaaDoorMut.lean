/- Writing over a copy: what stays. -/
import Derived.Test.YtgnfinbhnoofpaaDoorRep
set_option linter.unusedVariables false
set_option linter.unusedSimpArgs false
set_option linter.unusedSectionVars false
namespace Go.V
/-- the shape of the copy that is written over: block bc has m items, whose slices W lie in other blocks below n1 -/
structure MInv (H : List Block) (n1 bc m : Nat) (W : Nat → Val) : Prop where
  cells : ∃ hc, H[bc]? = some (.cells hc true) ∧ hc.length = m * 4 ∧ ∀ i, i < m → (∃ a, hc[0 + i * 4 + 1]? = some (.int .u64 a)) ∧ hc[0 + i * 4 + 3]? = some (W i)
  kids : ∀ i, i < m → W i = .sli [] 0 .nil ∨ ∃ b' m', W i = .sl b' 0 m' 4 (.flex (m' * 4)) ∧ b' < n1 ∧ b' ≠ bc ∧ ∃ hc', H[b']? = some (.cells hc' true) ∧ hc'.length = m' * 4
theorem over_one {cs : List Val} {o : Nat} {v : Val} (h : o < cs.length) : over cs o [v] = some (cs.set o v) := by
  unfold over
  rw [if_pos (by simp; omega)]
  rw [List.set_eq_take_append_cons_drop, if_pos h]
  simp
theorem MInv.wr_own {H : List Block} {n1 bc m : Nat} {W : Nat → Val} (h : MInv H n1 bc m W) {hc : List Val} (hb : H[bc]? = some (.cells hc true)) {i : Nat} {a : Int} (hi : i < m) :
    MInv (H.set bc (.cells (hc.set (0 + i * 4 + 1) (.int .u64 a)) true)) n1 bc m W where
  cells := by
    obtain ⟨hc0, h1, h2, h3⟩ := h.cells
    rw [hb] at h1
    simp only [Option.some.injEq, Block.cells.injEq, and_true] at h1
    subst h1
    have hlt := (List.getElem?_eq_some_iff.1 hb).1
    refine ⟨_, List.getElem?_set_self hlt, by simpa using h2, fun j hj => ?_⟩
    obtain ⟨⟨a', h4⟩, h5⟩ := h3 j hj
    refine ⟨?_, by rw [List.getElem?_set_ne (by omega)]; exact h5⟩
    by_cases e : i = j
    · subst e
      exact ⟨a, List.getElem?_set_self (by omega)⟩
    · exact ⟨a', by rw [List.getElem?_set_ne (by omega)]; exact h4⟩
  kids := fun j hj => by
    rcases h.kids j hj with h0 | ⟨b', m', h1, h2, h3, hc', h4, h5⟩
    · exact .inl h0
    · exact .inr ⟨b', m', h1, h2, h3, hc', by rw [List.getElem?_set_ne (by omega)]; exact h4, h5⟩
theorem MInv.wr_kid {H : List Block} {n1 bc m : Nat} {W : Nat → Val} (h : MInv H n1 bc m W) {b : Nat} {hc : List Val} (hb : H[b]? = some (.cells hc true)) (hne : b ≠ bc) {o : Nat} {v : Val} :
    MInv (H.set b (.cells (hc.set o v) true)) n1 bc m W where
  cells := by
    obtain ⟨hc0, h1, h2, h3⟩ := h.cells
    exact ⟨hc0, by rw [List.getElem?_set_ne hne]; exact h1, h2, h3⟩
  kids := fun j hj => by
    rcases h.kids j hj with h0 | ⟨b', m', h1, h2, h3, hc', h4, h5⟩
    · exact .inl h0
    · by_cases e : b = b'
      · subst e
        rw [hb] at h4
        simp only [Option.some.injEq, Block.cells.injEq, and_true] at h4
        subst h4
        exact .inr ⟨b, m', h1, h2, h3, _, List.getElem?_set_self (List.getElem?_eq_some_iff.1 hb).1, by simpa using h5⟩
      · exact .inr ⟨b', m', h1, h2, h3, hc', by rw [List.getElem?_set_ne e]; exact h4, h5⟩
/-- what lies elsewhere stays -/
theorem RepP.set {H : List Block} {x : It} {P : Nat → Prop} {cs : List Val} {b : Nat} {o : Block} (h : RepP H P x cs) (hb : ¬ P b) : RepP (H.set b o) P x cs :=
  h.mono fun c hc => ⟨hc, fun o' ho => by rw [List.getElem?_set_ne (fun e => hb (by rw [e]; exact hc))]; exact ho⟩
/-- a copy has that shape -/
theorem MInv.of {H : List Block} {n1 : Nat} {k n : Int} {s : List UInt8} {q : Q} {l : List It} {cs : List Val} (hl : l ≠ []) (h : RepP H (fun c => c < n1) (.mk k n s q l) cs) :
    ∃ bc W, cs = [.int .i64 k, .int .u64 n, .str s, .sl bc 0 l.length 4 (.flex (l.length * 4))] ∧ bc < n1 ∧ MInv H n1 bc l.length W := by
  simp only [RepP] at h
  obtain ⟨w, rfl, h⟩ := h
  rcases h with ⟨h0, _⟩ | ⟨b, hc, hp, rfl, hb, hlen, hr⟩
  · exact absurd h0 hl
  · have key : ∀ i, i < l.length → ∃ w, ((∃ a, hc[0 + i * 4 + 1]? = some (.int .u64 a)) ∧ hc[0 + i * 4 + 3]? = some w) ∧ (w = .sli [] 0 .nil ∨ ∃ b' m', w = .sl b' 0 m' 4 (.flex (m' * 4)) ∧ b' < n1 ∧ b' ≠ b ∧ ∃ hc', H[b']? = some (.cells hc' true) ∧ hc'.length = m' * 4) := by
      intro i hi
      obtain ⟨c4, h1, h2⟩ := RepPH_get (i := i) hr (List.getElem?_eq_getElem hi)
      generalize l[i] = y at h2
      cases y with
      | mk ky ny sy qy ly =>
        simp only [RepP] at h2
        obtain ⟨w, rfl, h2⟩ := h2
        simp only [Nat.zero_add] at h1
        unfold cut at h1
        split at h1
        · rename_i hle
          simp only [Option.some.injEq] at h1
          have g : ∀ j, j < 4 → hc[0 + i * 4 + j]? = ([Val.int .i64 ky, .int .u64 ny, .str sy, w] : List Val)[j]? := by
            intro j hj
            rw [← h1, List.getElem?_take_of_lt hj, List.getElem?_drop]
            congr 1; omega
          refine ⟨w, ⟨⟨ny, by simpa using g 1 (by omega)⟩, by simpa using g 3 (by omega)⟩, ?_⟩
          rcases h2 with ⟨_, rfl⟩ | ⟨b', hc', hp', rfl, hb', hlen', _⟩
          · exact .inl rfl
          · exact .inr ⟨b', ly.length, by rw [hlen'], hp'.1, hp'.2, hc', hb', hlen'⟩
        · simp at h1
    refine ⟨b, fun i => if h : i < l.length then Classical.choose (key i h) else .unk, by rw [hlen], hp, ⟨⟨hc, hb, hlen, fun i hi => ?_⟩, fun i hi => ?_⟩⟩
    · have := (Classical.choose_spec (key i hi)).1
      simp only [hi, dif_pos]
      exact this
    · have := (Classical.choose_spec (key i hi)).2
      simp only [hi, dif_pos]
      exact this
end Go.V
