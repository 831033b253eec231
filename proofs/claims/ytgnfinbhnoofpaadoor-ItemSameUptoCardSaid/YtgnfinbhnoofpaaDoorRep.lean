/- Items that lie in memory that grew, within known blocks. -/
import Derived.Test.YtgnfinbhnoofpaaDoorItem
set_option linter.unusedVariables false
set_option linter.unusedSimpArgs false
set_option linter.unusedSectionVars false
namespace Go.V
mutual
/-- cells stand for a copied item whose memory lies in blocks that P names -/
def RepP (H : List Block) : (Nat → Prop) → It → List Val → Prop
  | P, .mk k n s _ l, cs => ∃ w, cs = [.int .i64 k, .int .u64 n, .str s, w] ∧ ((l = [] ∧ w = .sli [] 0 .nil) ∨
      ∃ b hc, P b ∧ w = .sl b 0 l.length 4 (.flex hc.length) ∧ H[b]? = some (.cells hc true) ∧ hc.length = l.length * 4 ∧ RepPH H (fun c => P c ∧ c ≠ b) hc l 0)
def RepPH (H : List Block) : (Nat → Prop) → List Val → List It → Nat → Prop
  | _, _, [], _ => True
  | P, hc, y :: l, i => (∃ c4, cut hc (i * 4) 4 = some c4 ∧ RepP H P y c4) ∧ RepPH H P hc l (i + 1)
end
mutual
theorem RepP.mono {H H' : List Block} : ∀ {x : It} {P P' : Nat → Prop} {cs : List Val}, (∀ b, P b → P' b ∧ ∀ o, H[b]? = some o → H'[b]? = some o) → RepP H P x cs → RepP H' P' x cs
  | .mk k n s _ l, P, P', cs, hm, h => by
    simp only [RepP] at h ⊢
    obtain ⟨w, rfl, h⟩ := h
    refine ⟨w, rfl, ?_⟩
    rcases h with h | ⟨b, hc, hp, rfl, hb, hl, hr⟩
    · exact .inl h
    · exact .inr ⟨b, hc, (hm b hp).1, rfl, (hm b hp).2 _ hb, hl, RepPH.mono (fun c hc => ⟨⟨(hm c hc.1).1, hc.2⟩, (hm c hc.1).2⟩) hr⟩
theorem RepPH.mono {H H' : List Block} : ∀ {l : List It} {P P' : Nat → Prop} {hc : List Val} {i : Nat}, (∀ b, P b → P' b ∧ ∀ o, H[b]? = some o → H'[b]? = some o) → RepPH H P hc l i → RepPH H' P' hc l i
  | [], _, _, _, _, _, _ => by simp [RepPH]
  | y :: l, P, P', hc, i, hm, h => by
    simp only [RepPH] at h ⊢
    obtain ⟨⟨c4, h1, h2⟩, h3⟩ := h
    exact ⟨⟨c4, h1, RepP.mono hm h2⟩, RepPH.mono hm h3⟩
end
mutual
theorem RepP.rep {H : List Block} {L : List LoopRec} : ∀ {x : It} {P : Nat → Prop} {cs : List Val}, RepP H P x cs → RepI ⟨H, L⟩ x cs
  | .mk k n s _ l, P, cs, h => by
    simp only [RepP] at h
    simp only [RepI]
    obtain ⟨w, rfl, h⟩ := h
    refine ⟨w, rfl, ?_⟩
    rcases h with ⟨rfl, rfl⟩ | ⟨b, hc, hp, rfl, hb, hl, hr⟩
    · exact .inl ⟨.nil, rfl⟩
    · exact .inr ⟨b, hc.length, hc, rfl, by simp [hcells, hb], RepPH.rep hr⟩
theorem RepPH.rep {H : List Block} {L : List LoopRec} : ∀ {l : List It} {P : Nat → Prop} {hc : List Val} {i : Nat}, RepPH H P hc l i → RepH ⟨H, L⟩ hc l i
  | [], _, _, _, _ => by simp [RepH]
  | y :: l, P, hc, i, h => by
    simp only [RepPH] at h
    simp only [RepH]
    obtain ⟨⟨c4, h1, h2⟩, h3⟩ := h
    exact ⟨⟨c4, by simpa using h1, RepP.rep h2⟩, RepPH.rep h3⟩
end
theorem RepPH_of {H : List Block} {P : Nat → Prop} {hc : List Val} : ∀ {l : List It} {o : Nat}, (∀ i y, l[i]? = some y → ∃ c4, cut hc ((o + i) * 4) 4 = some c4 ∧ RepP H P y c4) → RepPH H P hc l o
  | [], _, _ => by simp [RepPH]
  | x :: l, o, h => by
    simp only [RepPH]
    refine ⟨by simpa using h 0 x rfl, RepPH_of fun i y hy => ?_⟩
    have := h (i + 1) y (by simpa using hy)
    rwa [show o + (i + 1) = o + 1 + i by omega] at this
theorem RepPH_get {H : List Block} {P : Nat → Prop} {hc : List Val} : ∀ {l : List It} {o i : Nat} {y : It}, RepPH H P hc l o → l[i]? = some y → ∃ c4, cut hc ((o + i) * 4) 4 = some c4 ∧ RepP H P y c4
  | [], _, _, _, _, h => by simp at h
  | x :: l, o, 0, y, h, hy => by
    simp only [List.getElem?_cons_zero, Option.some.injEq] at hy; subst hy
    simp only [RepPH] at h
    simpa using h.1
  | x :: l, o, i + 1, y, h, hy => by
    simp only [RepPH] at h
    have := RepPH_get (i := i) h.2 (by simpa using hy)
    rwa [show o + 1 + i = o + (i + 1) by omega] at this
theorem cut_app {a b : List Val} {i n : Nat} {c : List Val} (h : cut a i n = some c) : cut (a ++ b) i n = some c := by
  unfold cut at h ⊢
  split at h
  · rename_i hl
    rw [if_pos (by simp; omega)]
    simp only [Option.some.injEq] at h ⊢
    rw [← h, List.drop_append_of_le_length (by omega), List.take_append_of_le_length (by simp; omega)]
  · simp at h
theorem cut_app_right {a b : List Val} {i : Nat} (h : a.length = i) : cut (a ++ b) i b.length = some b := by
  unfold cut
  rw [if_pos (by simp; omega), List.drop_left' h, List.take_of_length_le (Nat.le_refl _)]
end Go.V
