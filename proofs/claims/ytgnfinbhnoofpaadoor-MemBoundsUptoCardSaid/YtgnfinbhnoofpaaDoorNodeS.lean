/- What is wrong with a node: the plain law. -/
import Derived.Test.YtgnfinbhnoofpaaDoorBare
import Derived.Test.YtgnfinbhnoofpaaDoorSNode
import Derived.Test.YtgnfinbhnoofpaaDoorKeys
import Derived.Test.YtgnfinbhnoofpaaDoorNamed
set_option linter.unusedVariables false
set_option linter.unusedSimpArgs false
set_option linter.unusedSectionVars false
open Go Go.V
set_option maxRecDepth 100000
set_option linter.unusedSimpArgs false
namespace Go.V.W
def v0 : It := .mk 0 0 [] .nil []
/-- a node with the fields of its kind alone -/
def bareN (n : Nd) : Nd :=
  if n.k = 4 then ⟨4, 0, 0, n.v, [], .nil, [], .nil⟩
  else if n.k = 8 then ⟨8, 0, 0, v0, [], .nil, n.f, n.qf⟩
  else if n.k = 7 then ⟨7, 0, 0, v0, n.l, n.ql, [], .nil⟩
  else if n.k = 10 then ⟨10, 0, 0, v0, n.l, n.ql, [], .nil⟩
  else if n.k = 9 then ⟨9, n.lo, 0, v0, n.l, n.ql, [], .nil⟩
  else if n.k = 6 then ⟨6, n.lo, n.hi, v0, n.l, n.ql, [], .nil⟩
  else if n.k = 1 ∨ n.k = 2 ∨ n.k = 3 then ⟨n.k, n.lo, n.hi, v0, [], .nil, [], .nil⟩
  else ⟨n.k, 0, 0, v0, [], .nil, [], .nil⟩
/-- has it as many nodes as it has to? -/
def okb (n : Nd) (ch : Int) : Bool :=
  if n.k = 4 then ((n.l.length : Int) == 0 && (n.v.k != 4 && (n.v.k != 5 && (n.v.k != 6 && (n.v.k != 8 && ch == 0)))))
  else if n.k = 6 ∨ n.k = 9 then ((n.l.length : Int) == 1)
  else if n.k = 7 then true
  else if n.k = 10 then decide ((n.l.length : Int) > 0)
  else ((n.l.length : Int) == 0)
/-- are its numbers right? -/
def bnd (n : Nd) : Bool :=
  if n.k = 1 then decide (n.lo ≤ n.hi)
  else if n.k = 9 then (decide (n.lo ≤ n.hi) && decide (n.lo ≥ 0) || decide (n.lo ≥ 0))
  else (decide (n.lo ≤ n.hi) && decide (n.lo ≥ 0))
/-- what is wrong with a node -/
def wrN (len : Nat) (i : Nat) (n : Nd) : Int :=
  if n.k < 0 ∨ 10 < n.k then 18
  else if (okb n (chkI n.v) && sameNd (bareN n) n) = false then 11
  else if bnd n = false then 15
  else if keysI [] n.f ≠ 0 then keysI [] n.f
  else if (namesN n).any (outB (i : Int) (len : Int)) then 13 else 0
/-- a node within bounds, and as data are -/
structure okNd (n : Nd) : Prop where
  ok : okN n
  nil : n.ql = Q.nil → n.l = []
theorem okI_0 : okI v0 := by
  refine ⟨by simp [v0, It.wf, wfL], by simp [v0, itemsI, itemsL], fun y hy => ?_⟩
  simp only [v0, itemsI, itemsL, List.mem_cons, List.not_mem_nil, or_false] at hy
  subst hy; simp [It.s]
theorem okN_bare {n : Nd} (h : okN n) : okN (bareN n) := by
  unfold bareN
  repeat' split
  all_goals exact ⟨by first | exact h.v | exact okI_0, by first | exact h.l | simp, by first | exact h.f | simp, by first | exact h.keys | simp⟩
theorem c116 (n : Nd) (h : okN n) (hk : 0 ≤ n.k ∧ n.k ≤ 10) (S : St) : Go.V.Call E0 116 [.agg (encN n)] S (.tup [.agg (encN (bareN n)), .bool (okb n (chkI n.v))]) S := by
  have h24 := check24 n.v h.v S
  generalize chkI n.v = ch at *
  obtain ⟨k, lo, hi, v, l, ql, f, qf⟩ := n
  simp only at hk
  cases v with
  | mk vk vn vs vq vl =>
  rw [encI_mk] at h24
  rw [encN_mk]
  have hk' : k = 0 ∨ k = 1 ∨ k = 2 ∨ k = 3 ∨ k = 4 ∨ k = 5 ∨ k = 6 ∨ k = 7 ∨ k = 8 ∨ k = 9 ∨ k = 10 := by omega
  rcases hk' with rfl | rfl | rfl | rfl | rfl | rfl | rfl | rfl | rfl | rfl | rfl
  · exact b116_0 lo hi vk vn vs vl vq l ql f qf S
  · exact b116_1 lo hi vk vn vs vl vq l ql f qf S
  · exact b116_2 lo hi vk vn vs vl vq l ql f qf S
  · exact b116_3 lo hi vk vn vs vl vq l ql f qf S
  · exact b116_4 lo hi vk vn vs vl vq l ql f qf S ch h24
  · exact b116_5 lo hi vk vn vs vl vq l ql f qf S
  · exact b116_6 lo hi vk vn vs vl vq l ql f qf S
  · exact b116_7 lo hi vk vn vs vl vq l ql f qf S
  · exact b116_8 lo hi vk vn vs vl vq l ql f qf S
  · exact b116_9 lo hi vk vn vs vl vq l ql f qf S
  · exact b116_10 lo hi vk vn vs vl vq l ql f qf S
theorem c117 (n : Nd) (hk : 0 ≤ n.k ∧ n.k ≤ 10) (S : St) : Go.V.Call E0 117 [.agg (encN n)] S (.bool (bnd n)) S := by
  obtain ⟨k, lo, hi, v, l, ql, f, qf⟩ := n
  simp only at hk
  cases v with
  | mk vk vn vs vq vl =>
  rw [encN_mk]
  have hk' : k = 0 ∨ k = 1 ∨ k = 2 ∨ k = 3 ∨ k = 4 ∨ k = 5 ∨ k = 6 ∨ k = 7 ∨ k = 8 ∨ k = 9 ∨ k = 10 := by omega
  rcases hk' with rfl | rfl | rfl | rfl | rfl | rfl | rfl | rfl | rfl | rfl | rfl
  · exact b117_0 lo hi vk vn vs vl vq l ql f qf S
  · exact b117_1 lo hi vk vn vs vl vq l ql f qf S
  · exact b117_2 lo hi vk vn vs vl vq l ql f qf S
  · exact b117_3 lo hi vk vn vs vl vq l ql f qf S
  · exact b117_4 lo hi vk vn vs vl vq l ql f qf S
  · exact b117_5 lo hi vk vn vs vl vq l ql f qf S
  · exact b117_6 lo hi vk vn vs vl vq l ql f qf S
  · exact b117_7 lo hi vk vn vs vl vq l ql f qf S
  · exact b117_8 lo hi vk vn vs vl vq l ql f qf S
  · exact b117_9 lo hi vk vn vs vl vq l ql f qf S
  · exact b117_10 lo hi vk vn vs vl vq l ql f qf S
theorem chk0_kind {x : It} (h : chkI x = 0) : 0 ≤ x.k ∧ x.k ≤ 8 := by
  unfold chkI checkI at h
  split at h
  · simp at h
  · have hw : wrI x = 0 := by
      cases x with
      | mk k n s q l =>
        simp only [itemsI, firstW] at h
        split at h
        · rename_i h0; exact h0
        · rename_i h0; exact absurd h h0
    unfold wrI wrongI at hw
    split at hw
    · rename_i hf
      false_or_by_contra
      rename_i hc
      rw [form_out (by omega)] at hf
      simp at hf
    · simp at hw
theorem kind_eq {vk : Int} (h : 0 ≤ vk ∧ vk ≤ 8) : (vk != 4 && (vk != 5 && (vk != 6 && vk != 8))) = (vk == 0 || (vk == 1 || (vk == 2 || (vk == 3 || vk == 7)))) := by
  have : vk = 0 ∨ vk = 1 ∨ vk = 2 ∨ vk = 3 ∨ vk = 4 ∨ vk = 5 ∨ vk = 6 ∨ vk = 7 ∨ vk = 8 := by omega
  rcases this with rfl | rfl | rfl | rfl | rfl | rfl | rfl | rfl | rfl <;> rfl
theorem ok4_eq (v : It) (e : Bool) : (e && (v.k != 4 && (v.k != 5 && (v.k != 6 && (v.k != 8 && chkI v == 0))))) = (e && ((v.k == 0 || (v.k == 1 || (v.k == 2 || (v.k == 3 || v.k == 7)))) && chkI v == 0)) := by
  by_cases h : chkI v = 0
  · have := kind_eq (chk0_kind h)
    rw [← this]
    simp [h, Bool.and_assoc]
  · have hf : (chkI v == 0) = false := by simpa using h
    simp [hf]
theorem c121 (n : Nd) (h : okN n) (hk : 0 ≤ n.k ∧ n.k ≤ 10) (S : St) : Go.V.Call E0 121 [.agg (encN n)] S (.bool (okb n (chkI n.v) && sameNd (bareN n) n)) S := by
  have h25 := check25 n.v h.v S
  have h87 := c87 (bareN n) n (okN_bare h) S
  have e4 := ok4_eq n.v ((n.l.length : Int) == 0)
  generalize sameNd (bareN n) n = sm at *
  obtain ⟨k, lo, hi, v, l, ql, f, qf⟩ := n
  simp only at hk
  have hk' : k = 0 ∨ k = 1 ∨ k = 2 ∨ k = 3 ∨ k = 4 ∨ k = 5 ∨ k = 6 ∨ k = 7 ∨ k = 8 ∨ k = 9 ∨ k = 10 := by omega
  have e10 : decide ((l.length : Int) > 0) = decide ((l.length : Int) ≥ 1) := by rw [decide_eq_decide]; omega
  cases v with
  | mk vk vn vs vq vl =>
  rw [encI_mk] at h25
  rw [encN_mk] at *
  rcases hk' with rfl | rfl | rfl | rfl | rfl | rfl | rfl | rfl | rfl | rfl | rfl
  · exact b121_0 lo hi vk vn vs vl vq l ql f qf S sm h87
  · exact b121_1 lo hi vk vn vs vl vq l ql f qf S sm h87
  · exact b121_2 lo hi vk vn vs vl vq l ql f qf S sm h87
  · exact b121_3 lo hi vk vn vs vl vq l ql f qf S sm h87
  · have := b121_4 lo hi vk vn vs vl vq l ql f qf S _ h25 sm h87
    have e : okb ⟨4, lo, hi, .mk vk vn vs vq vl, l, ql, f, qf⟩ (chkI (.mk vk vn vs vq vl)) = ((l.length : Int) == 0 && ((vk == 0 || (vk == 1 || (vk == 2 || (vk == 3 || vk == 7)))) && chkI (.mk vk vn vs vq vl) == 0)) := e4
    rw [e]; exact this
  · exact b121_5 lo hi vk vn vs vl vq l ql f qf S sm h87
  · exact b121_6 lo hi vk vn vs vl vq l ql f qf S sm h87
  · exact b121_7 lo hi vk vn vs vl vq l ql f qf S sm h87
  · exact b121_8 lo hi vk vn vs vl vq l ql f qf S sm h87
  · exact b121_9 lo hi vk vn vs vl vq l ql f qf S sm h87
  · have := b121_10 lo hi vk vn vs vl vq l ql f qf S sm h87
    have e : okb ⟨10, lo, hi, .mk vk vn vs vq vl, l, ql, f, qf⟩ (chkI (.mk vk vn vs vq vl)) = decide ((l.length : Int) ≥ 1) := e10
    rw [e]; exact this
/-- where a node has just its fields, its numbers are right just if the ones of its kind are -/
theorem bnd_ref {n : Nd} (h : sameNd (bareN n) n = true) : (n.k = 9 → bnd n = decide (n.lo ≥ 0)) ∧ (n.k ≠ 1 → n.k ≠ 2 → n.k ≠ 3 → n.k ≠ 6 → n.k ≠ 9 → bnd n = true) := by
  refine ⟨fun h9 => ?_, fun h1 h2 h3 h6 h9 => ?_⟩
  · unfold bnd
    rw [if_neg (by omega), if_pos h9]
    cases decide (n.lo ≤ n.hi) <;> simp
  · have hb : (bareN n).lo = 0 ∧ (bareN n).hi = 0 := by
      unfold bareN
      repeat' split
      all_goals first | exact ⟨rfl, rfl⟩ | (exfalso; omega)
    have hz : n.lo = 0 ∧ n.hi = 0 := by
      unfold sameNd at h
      simp only [Bool.and_eq_true, beq_iff_eq] at h
      obtain ⟨_, e1, e2, _⟩ := h
      exact ⟨by rw [← e1]; exact hb.1, by rw [← e2]; exact hb.2⟩
    unfold bnd
    rw [if_neg h1, if_neg h9, hz.1, hz.2]
    simp
end Go.V.W
