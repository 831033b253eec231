/- First (ullageref04): what it answers of any text. -/
import Derived.Test.YtgnfinbhnoofpaaDoorSign
set_option linter.unusedVariables false
set_option linter.unusedSimpArgs false
set_option linter.unusedSectionVars false
open Go Go.V
set_option maxRecDepth 100000
set_option maxHeartbeats 4000000
namespace Go.V.W
theorem sign_cls (c : _root_.Fin 256) : c.val < 128 ∨ (128 ≤ c.val ∧ c.val < 194 ∨ 244 < c.val) ∨ (194 ≤ c.val ∧ c.val ≤ 223) ∨ c.val = 224 ∨ (225 ≤ c.val ∧ c.val ≤ 236 ∨ 238 ≤ c.val ∧ c.val ≤ 239) ∨ c.val = 237 ∨ c.val = 240 ∨ (241 ≤ c.val ∧ c.val ≤ 243) ∨ c.val = 244 := by omega
theorem sign3 {s : List UInt8} {at' : Nat} {c : UInt8} {S : St} {N LO HI : Nat} (hc : s[at']? = some c) (h0 : ¬ c.toNat < 128) (hN : signN c.toNat = N) (hLO : signLo c.toNat = LO) (hHI : signHi c.toNat = HI) (hn : N ≠ 0)
    (h : (¬ at' + 1 < s.length → Go.V.Call E0 102 [.str s, .int .i64 (at' : Int)] S (signV (N, 1)) S) ∧
      (∀ d, s[at' + 1]? = some d → d.toNat < LO ∨ d.toNat > HI → Go.V.Call E0 102 [.str s, .int .i64 (at' : Int)] S (signV (N, 1)) S) ∧
      (∀ d, s[at' + 1]? = some d → ¬ (d.toNat < LO ∨ d.toNat > HI) → Go.V.Call E0 102 [.str s, .int .i64 (at' : Int)] S (signV (N, 2 + followU (N - 2) (s.drop (at' + 2)))) S)) :
    Go.V.Call E0 102 [.str s, .int .i64 (at' : Int)] S (signV (signU (s.drop at'))) S := by
  obtain ⟨a, b, d⟩ := h
  have hdr : s.drop at' = c :: s.drop (at' + 1) := by
    obtain ⟨hl, rfl⟩ := List.getElem?_eq_some_iff.1 hc
    exact List.drop_eq_getElem_cons hl
  rw [hdr]
  simp only [signU, if_neg h0, hN, if_neg hn]
  by_cases hlt : at' + 1 < s.length
  · obtain ⟨e, he⟩ : ∃ e, s[at' + 1]? = some e := ⟨s[at' + 1], List.getElem?_eq_getElem hlt⟩
    have hdr2 : s.drop (at' + 1) = e :: s.drop (at' + 2) := by
      obtain ⟨hl, rfl⟩ := List.getElem?_eq_some_iff.1 he
      exact List.drop_eq_getElem_cons hl
    rw [hdr2]
    simp only [hLO, hHI]
    by_cases hr : e.toNat < LO ∨ e.toNat > HI
    · rw [if_pos hr]; exact b e he hr
    · rw [if_neg hr]; exact d e he hr
  · have e : s.drop (at' + 1) = [] := List.drop_eq_nil_of_le (by omega)
    rw [e]
    exact a hlt
theorem c102 (s : List UInt8) (hs : s.length ≤ 2 ^ 60) (at' : Nat) (h : at' < s.length) (S : St) : Go.V.Call E0 102 [.str s, .int .i64 (at' : Int)] S (signV (signU (s.drop at'))) S := by
  obtain ⟨c, hc⟩ : ∃ c, s[at']? = some c := ⟨s[at'], List.getElem?_eq_getElem h⟩
  have hdr : s.drop at' = c :: s.drop (at' + 1) := by
    obtain ⟨hl, rfl⟩ := List.getElem?_eq_some_iff.1 hc
    exact List.drop_eq_getElem_cons hl
  rcases sign_cls ⟨c.toNat, UInt8.toNat_lt c⟩ with k | k | k | k | k | k | k | k | k <;> simp only at k
  · rw [hdr]; simp only [signU, if_pos k]; exact c102_0 s at' c hc k S
  · have e : signN c.toNat = 0 := by unfold signN; rw [if_neg (by omega), if_neg (by omega), if_neg (by omega)]
    rw [hdr]; simp only [signU, if_neg (show ¬ c.toNat < 128 by omega), e, if_true]; exact c102_1 s at' c hc k S
  · exact sign3 (N := 2) hc (by omega) (by unfold signN; rw [if_pos k]) (by unfold signLo; rw [if_neg (by omega), if_neg (by omega)]) (by unfold signHi; rw [if_neg (by omega), if_neg (by omega)]) (by omega) (c102_a s hs at' c hc k S)
  · exact sign3 (N := 3) hc (by omega) (by rw [k]; rfl) (by rw [k]; rfl) (by rw [k]; rfl) (by omega) (c102_b s hs at' c hc k S)
  · exact sign3 (N := 3) hc (by omega) (by unfold signN; rw [if_neg (by omega), if_pos (by omega)]) (by unfold signLo; rw [if_neg (by omega), if_neg (by omega)]) (by unfold signHi; rw [if_neg (by omega), if_neg (by omega)]) (by omega) (c102_c s hs at' c hc k S)
  · exact sign3 (N := 3) hc (by omega) (by rw [k]; rfl) (by rw [k]; rfl) (by rw [k]; rfl) (by omega) (c102_d s hs at' c hc k S)
  · exact sign3 (N := 4) hc (by omega) (by rw [k]; rfl) (by rw [k]; rfl) (by rw [k]; rfl) (by omega) (c102_e s hs at' c hc k S)
  · exact sign3 (N := 4) hc (by omega) (by unfold signN; rw [if_neg (by omega), if_neg (by omega), if_pos (by omega)]) (by unfold signLo; rw [if_neg (by omega), if_neg (by omega)]) (by unfold signHi; rw [if_neg (by omega), if_neg (by omega)]) (by omega) (c102_f s hs at' c hc k S)
  · exact sign3 (N := 4) hc (by omega) (by rw [k]; rfl) (by rw [k]; rfl) (by rw [k]; rfl) (by omega) (c102_g s hs at' c hc k S)
theorem signU_le (l : List UInt8) : (signU l).1 ≤ 4 ∧ (signU l).2 ≤ (signU l).1 + 2 := by
  cases l with
  | nil => simp [signU]
  | cons c l =>
    simp only [signU]
    split
    · simp
    · split
      · simp
      · have hN : signN c.toNat ≤ 4 := by
          unfold signN
          by_cases h1 : 194 ≤ c.toNat ∧ c.toNat ≤ 223
          · rw [if_pos h1]; omega
          · by_cases h2 : 224 ≤ c.toNat ∧ c.toNat ≤ 239
            · rw [if_neg h1, if_pos h2]; omega
            · by_cases h3 : 240 ≤ c.toNat ∧ c.toNat ≤ 244
              · rw [if_neg h1, if_neg h2, if_pos h3]; omega
              · rw [if_neg h1, if_neg h2, if_neg h3]; omega
        cases l with
        | nil => simp only; omega
        | cons d r =>
          simp only
          have := followU_le (signN c.toNat - 2) r
          split <;> simp only <;> omega
noncomputable def P75 : Pos := (goT E0 1 (ctxOf E0 75) 12 (entry E0 75 [.str []] ⟨[], []⟩)).pos
theorem L75 (s : List UInt8) (hs : s.length ≤ 2 ^ 60) (S : St) : ∀ (m at' : Nat), s.length - at' < m → at' ≤ s.length + 8 →
    EvC E0 (ctxOf E0 75) ⟨P75, [(0, .str s), (4, .int .i64 (at' : Int))], S⟩ (Go.V.Fin E0 75 S (.tup [.int .i64 (firstU s.length m at' (s.drop at')).1, .bool (firstU s.length m at' (s.drop at')).2]) S)
  | 0, at', h, _ => by omega
  | m + 1, at', h, h8 => by
    unfold firstU
    by_cases hlt : at' < s.length
    · have hne : s.drop at' ≠ [] := by
        intro h'
        have := List.drop_eq_nil_iff.1 h'
        omega
      have g : (at' : Int) < (s.length : Int) := by omega
      rw [if_neg hne]
      have h102 := c102 s hs at' hlt S
      have hle := signU_le (s.drop at')
      have hdd : ∀ n, (s.drop at').drop n = s.drop (at' + n) := fun n => by rw [List.drop_drop]
      generalize signU (s.drop at') = p at *
      obtain ⟨n, k⟩ := p
      simp only at hle ⊢
      by_cases hn : n = 0
      · rw [if_pos hn]
        subst hn
        clear hdd
        refine evc_g 8 ?_
        refine evc_i 10 (decide ((↑at' : Int) < (↑s.length : Int))) true ?_
        refine evc_g 7 ?_
        refine evc_c (h102) ?_
        refine evc_g 19 ?_
        exact evc_t (Val.tup [Val.int IntKind.i64 (↑at' : Int), Val.bool Bool.false]) (hl := (by first | rfl | simp [Val.low, Val.lows, low_encL, low_encI]))
      · rw [if_neg hn]
        have gn : ¬ ((n : Int) = 0) := by omega
        by_cases hk : k < n
        · rw [if_pos hk]
          have gk : (k : Int) < (n : Int) := by omega
          have hw : IntKind.wrap .i64 ((at' : Int) + (k : Int)) = ((at' + k : Nat) : Int) := wrap_nn (by omega)
          clear hdd
          by_cases ha : at' + k < s.length
          · rw [if_pos ha]
            have ga : ((at' + k : Nat) : Int) < (s.length : Int) := by omega
            refine evc_g 8 ?_
            refine evc_i 10 (decide ((↑at' : Int) < (↑s.length : Int))) true ?_
            refine evc_g 7 ?_
            refine evc_c (h102) ?_
            refine evc_g 12 ?_
            refine evc_i 18 ((↑n : Int) == 0) false ?_
            refine evc_g 9 ?_
            refine evc_i 22 (decide ((↑k : Int) < (↑n : Int))) true ?_
            refine evc_g 11 ?_
            refine evc_i 28 (decide (IntKind.i64.wrap ((↑at' : Int) + (↑k : Int)) < (↑s.length : Int))) true ?_
            refine evc_g 9 ?_
            exact evc_t (Val.tup [Val.int IntKind.i64 (IntKind.i64.wrap ((↑at' : Int) + (↑k : Int))), Val.bool Bool.false]) (hl := (by first | rfl | simp [Val.low, Val.lows, low_encL, low_encI]))
          · rw [if_neg ha]
            have ga : ¬ ((at' + k : Nat) : Int) < (s.length : Int) := by omega
            refine evc_g 8 ?_
            refine evc_i 10 (decide ((↑at' : Int) < (↑s.length : Int))) true ?_
            refine evc_g 7 ?_
            refine evc_c (h102) ?_
            refine evc_g 12 ?_
            refine evc_i 18 ((↑n : Int) == 0) false ?_
            refine evc_g 9 ?_
            refine evc_i 22 (decide ((↑k : Int) < (↑n : Int))) true ?_
            refine evc_g 11 ?_
            refine evc_i 28 (decide (IntKind.i64.wrap ((↑at' : Int) + (↑k : Int)) < (↑s.length : Int))) false ?_
            refine evc_g 7 ?_
            exact evc_t (Val.tup [Val.int IntKind.i64 (-1), Val.bool Bool.false])
        · rw [if_neg hk]
          have gk : ¬ (k : Int) < (n : Int) := by omega
          have hw : IntKind.wrap .i64 ((at' : Int) + (n : Int)) = ((at' + n : Nat) : Int) := wrap_nn (by omega)
          have ih := L75 s hs S m (at' + n) (by omega) (by omega)
          rw [hdd]
          generalize firstU s.length m (at' + n) (s.drop (at' + n)) = r at *
          clear hdd hne
          refine evc_g 8 ?_
          refine evc_i 10 (decide ((↑at' : Int) < (↑s.length : Int))) true ?_
          refine evc_g 7 ?_
          refine evc_c (h102) ?_
          refine evc_g 12 ?_
          refine evc_i 18 ((↑n : Int) == 0) false ?_
          refine evc_g 9 ?_
          refine evc_i 22 (decide ((↑k : Int) < (↑n : Int))) false ?_
          refine evc_g 10 ?_
          refine evc_set 4 (Val.int IntKind.i64 (IntKind.i64.wrap ((↑at' : Int) + (↑n : Int)))) (Val.int IntKind.i64 (↑(at' + n) : Int)) (by kernel_rfl) (congrArg (Val.int IntKind.i64) hw) ?_
          exact evc_a (ih)
    · have e : s.drop at' = [] := List.drop_eq_nil_of_le (by omega)
      have g : ¬ (at' : Int) < (s.length : Int) := by omega
      rw [if_pos e]
      refine evc_g 8 ?_
      refine evc_i 10 (decide ((↑at' : Int) < (↑s.length : Int))) false ?_
      refine evc_g 7 ?_
      exact evc_t (Val.tup [Val.int IntKind.i64 (-1), Val.bool Bool.true])
def firstV (s : List UInt8) : Int × Bool := firstU s.length (s.length + 1) 0 s
theorem c75 (s : List UInt8) (hs : s.length ≤ 2 ^ 60) (S : St) : Go.V.Call E0 75 [.str s] S (.tup [.int .i64 (firstV s).1, .bool (firstV s).2]) S := by
  have L := L75 s hs S (s.length + 1) 0 (by omega) (by omega)
  simp only [List.drop_zero] at L
  unfold firstV
  generalize firstU s.length (s.length + 1) 0 s = r at *
  refine call_cfg (by kernel_rfl) ?_
  refine evc_g 12 ?_
  exact evc_a (L)
theorem first_valid (s : List UInt8) : (firstV s).2 = validU s := (validU_first s s.length (s.length + 1) 0 (by omega)).symm
end Go.V.W
