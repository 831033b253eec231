/- Texts in UTF-8: byte by byte, and sign by sign, is the same. -/
import Derived.Test.YtgnfinbhnoofpaaDoorItem
set_option linter.unusedVariables false
set_option linter.unusedSimpArgs false
set_option linter.unusedSectionVars false
namespace Go.V
structure U8 where
  left : Int
  lo : Nat
  hi : Nat
  bad : Bool
def beginU (c : Nat) : Int × Nat × Nat :=
  if c ≤ 127 then (0, 128, 191)
  else if 194 ≤ c ∧ c ≤ 223 then (1, 128, 191)
  else if c = 224 then (2, 160, 191)
  else if (225 ≤ c ∧ c ≤ 236) ∨ (238 ≤ c ∧ c ≤ 239) then (2, 128, 191)
  else if c = 237 then (2, 128, 159)
  else if c = 240 then (3, 144, 191)
  else if 241 ≤ c ∧ c ≤ 243 then (3, 128, 191)
  else if c = 244 then (3, 128, 143)
  else (-1, 128, 191)
def U8.step (w : U8) (c : Nat) : U8 :=
  if w.bad = true then w
  else if w.left = 0 then ⟨(beginU c).1, (beginU c).2.1, (beginU c).2.2, decide ((beginU c).1 < 0)⟩
  else if c < w.lo ∨ c > w.hi then ⟨w.left, w.lo, w.hi, true⟩
  else ⟨w.left - 1, 128, 191, false⟩
def U8.steps (w : U8) (l : List UInt8) : U8 := l.foldl (fun w c => w.step c.toNat) w
def U8.done (w : U8) : Bool := !w.bad && w.left == 0
def validU (l : List UInt8) : Bool := ((U8.mk 0 0 0 false).steps l).done

def followU : Nat → List UInt8 → Nat
  | 0, _ => 0
  | _ + 1, [] => 0
  | n + 1, c :: l => if 128 ≤ c.toNat ∧ c.toNat ≤ 191 then followU n l + 1 else 0
def signN (c : Nat) : Nat := if 194 ≤ c ∧ c ≤ 223 then 2 else if 224 ≤ c ∧ c ≤ 239 then 3 else if 240 ≤ c ∧ c ≤ 244 then 4 else 0
def signLo (c : Nat) : Nat := if c = 224 then 160 else if c = 240 then 144 else 128
def signHi (c : Nat) : Nat := if c = 237 then 159 else if c = 244 then 143 else 191
/-- how many bytes the first sign has, how many are there and right -/
def signU : List UInt8 → Nat × Nat
  | [] => (0, 0)
  | c :: l =>
    if c.toNat < 128 then (1, 1)
    else if signN c.toNat = 0 then (0, 0)
    else match l with
      | [] => (signN c.toNat, 1)
      | d :: r => if d.toNat < signLo c.toNat ∨ d.toNat > signHi c.toNat then (signN c.toNat, 1) else (signN c.toNat, 2 + followU (signN c.toNat - 2) r)
/-- the place, and is all of it a text? -/
def firstU (len : Nat) : Nat → Nat → List UInt8 → Int × Bool
  | 0, _, _ => (-1, true)
  | m + 1, at', l => if l = [] then (-1, true) else
    if (signU l).1 = 0 then (at', false)
    else if (signU l).2 < (signU l).1 then (if at' + (signU l).2 < len then ((at' + (signU l).2 : Nat), false) else (-1, false))
    else firstU len m (at' + (signU l).1) (l.drop (signU l).1)

theorem steps_bad {w : U8} (h : w.bad = true) : ∀ l : List UInt8, w.steps l = w
  | [] => rfl
  | c :: l => by
    have : w.step c.toNat = w := by simp [U8.step, h]
    simp only [U8.steps, List.foldl_cons, this]
    exact steps_bad h l
theorem steps_cons (w : U8) (c : UInt8) (l : List UInt8) : w.steps (c :: l) = (w.step c.toNat).steps l := rfl
theorem done_bad {w : U8} (h : w.bad = true) (l : List UInt8) : (w.steps l).done = false := by rw [steps_bad h]; simp [U8.done, h]
theorem steps_follow : ∀ (n : Nat) (lo hi : Nat) (l : List UInt8), lo = 128 → hi = 191 → ((U8.mk (n : Int) lo hi false).steps l).done = (decide (followU n l = n) && ((U8.mk 0 128 191 false).steps (l.drop n)).done)
  | 0, _, _, l, rfl, rfl => by simp [followU]
  | n + 1, _, _, [], rfl, rfl => by
    simp [followU, U8.steps, U8.done]; omega
  | n + 1, _, _, c :: l, rfl, rfl => by
    rw [steps_cons]
    have h0 : ¬ (((n + 1 : Nat) : Int) = 0) := by omega
    by_cases hc : 128 ≤ c.toNat ∧ c.toNat ≤ 191
    · have : (U8.mk ((n + 1 : Nat) : Int) 128 191 false).step c.toNat = ⟨(n : Int), 128, 191, false⟩ := by
        simp only [U8.step, Bool.false_eq_true, if_false, if_neg h0]
        rw [if_neg (by omega)]
        congr 1; omega
      rw [this, steps_follow n 128 191 l rfl rfl]
      simp only [followU, if_pos hc, List.drop_succ_cons]
      congr 1
      simp
    · have : ((U8.mk ((n + 1 : Nat) : Int) 128 191 false).step c.toNat).bad = true := by
        simp only [U8.step, Bool.false_eq_true, if_false, if_neg h0]
        rw [if_pos (by omega)]
      rw [done_bad this]
      simp only [followU, if_neg hc]
      simp
theorem steps_lohi (lo hi lo' hi' : Nat) (l : List UInt8) : ((U8.mk 0 lo hi false).steps l).done = ((U8.mk 0 lo' hi' false).steps l).done := by
  cases l with
  | nil => rfl
  | cons c l => rfl
theorem begin_all : ∀ c : _root_.Fin 256, ¬ c.val < 128 → beginU c.val = (if signN c.val = 0 then (-1, 128, 191) else ((signN c.val : Int) - 1, signLo c.val, signHi c.val)) := by decide +kernel
theorem begin_sign (c : Nat) (hc : c < 256) (h : ¬ c < 128) : beginU c = (if signN c = 0 then (-1, 128, 191) else ((signN c : Int) - 1, signLo c, signHi c)) := begin_all ⟨c, hc⟩ h
theorem signN_ge {c : Nat} (h : signN c ≠ 0) : 2 ≤ signN c := by
  unfold signN at *
  by_cases a : 194 ≤ c ∧ c ≤ 223
  · rw [if_pos a]; omega
  · by_cases b : 224 ≤ c ∧ c ≤ 239
    · rw [if_neg a, if_pos b]; omega
    · by_cases d : 240 ≤ c ∧ c ≤ 244
      · rw [if_neg a, if_neg b, if_pos d]; omega
      · rw [if_neg a, if_neg b, if_neg d] at h; omega
theorem followU_le : ∀ (n : Nat) (l : List UInt8), followU n l ≤ n
  | 0, _ => Nat.le_refl _
  | _ + 1, [] => Nat.zero_le _
  | n + 1, c :: l => by
    simp only [followU]
    have := followU_le n l
    split <;> omega
theorem valid_first (len : Nat) : ∀ (m at' lo hi : Nat) (l : List UInt8), l.length < m → ((U8.mk 0 lo hi false).steps l).done = (firstU len m at' l).2
  | 0, _, _, _, l, h => by omega
  | m + 1, _, _, _, [], _ => by simp [firstU, U8.steps, U8.done]
  | m + 1, at', lo, hi, c :: l, h => by
    simp only [List.length_cons] at h
    rw [steps_cons]
    unfold firstU
    rw [if_neg (by simp)]
    by_cases hc : c.toNat < 128
    · have e : (U8.mk 0 lo hi false).step c.toNat = ⟨0, 128, 191, false⟩ := by
        simp only [U8.step, Bool.false_eq_true, if_false, if_true]
        have : beginU c.toNat = (0, 128, 191) := by unfold beginU; rw [if_pos (by omega)]
        rw [this]; simp
      have e2 : signU (c :: l) = (1, 1) := by simp only [signU, if_pos hc]
      rw [e, e2]
      simp only [Nat.lt_irrefl, if_false, Nat.one_ne_zero, List.drop_succ_cons, List.drop_zero]
      exact valid_first len m _ _ _ l (by omega)
    · have hb := begin_sign c.toNat (UInt8.toNat_lt c) hc
      by_cases hn : signN c.toNat = 0
      · have e2 : signU (c :: l) = (0, 0) := by simp only [signU, if_neg hc, if_pos hn]
        rw [e2, if_pos rfl]
        rw [if_pos hn] at hb
        exact done_bad (by simp [U8.step, hb]) l
      · have hge := signN_ge hn
        rw [if_neg hn] at hb
        have e : (U8.mk 0 lo hi false).step c.toNat = ⟨(signN c.toNat : Int) - 1, signLo c.toNat, signHi c.toNat, false⟩ := by
          simp only [U8.step, Bool.false_eq_true, if_false, if_true, hb]
          congr 1
          simp; omega
        rw [e]
        have hl0 : ¬ ((signN c.toNat : Int) - 1 = 0) := by omega
        cases l with
        | nil =>
          have e2 : signU [c] = (signN c.toNat, 1) := by simp only [signU, if_neg hc, if_neg hn]
          rw [e2]
          simp only [if_neg hn]
          rw [if_pos (by omega)]
          have : ((U8.mk ((signN c.toNat : Int) - 1) (signLo c.toNat) (signHi c.toNat) false).steps []).done = false := by simp [U8.steps, U8.done]; omega
          rw [this]; split <;> rfl
        | cons d r =>
          by_cases hd : d.toNat < signLo c.toNat ∨ d.toNat > signHi c.toNat
          · have e2 : signU (c :: d :: r) = (signN c.toNat, 1) := by simp only [signU, if_neg hc, if_neg hn, if_pos hd]
            rw [e2]
            simp only [if_neg hn]
            rw [if_pos (by omega), steps_cons]
            have : ((U8.mk ((signN c.toNat : Int) - 1) (signLo c.toNat) (signHi c.toNat) false).step d.toNat).bad = true := by
              simp only [U8.step, Bool.false_eq_true, if_false, if_neg hl0, if_pos hd]
            rw [done_bad this]; split <;> rfl
          · have e2 : signU (c :: d :: r) = (signN c.toNat, 2 + followU (signN c.toNat - 2) r) := by simp only [signU, if_neg hc, if_neg hn, if_neg hd]
            rw [e2]
            simp only [if_neg hn]
            rw [steps_cons]
            have e3 : (U8.mk ((signN c.toNat : Int) - 1) (signLo c.toNat) (signHi c.toNat) false).step d.toNat = ⟨((signN c.toNat - 2 : Nat) : Int), 128, 191, false⟩ := by
              simp only [U8.step, Bool.false_eq_true, if_false, if_neg hl0, if_neg hd]
              congr 1; omega
            rw [e3, steps_follow _ _ _ _ rfl rfl]
            have hle := followU_le (signN c.toNat - 2) r
            by_cases hf : followU (signN c.toNat - 2) r = signN c.toNat - 2
            · rw [if_neg (by omega)]
              simp only [hf, decide_true, Bool.true_and]
              have : (c :: d :: r).drop (signN c.toNat) = r.drop (signN c.toNat - 2) := by
                obtain ⟨j, hj⟩ : ∃ j, signN c.toNat = j + 2 := ⟨signN c.toNat - 2, by omega⟩
                rw [hj]; simp
              rw [this]
              exact valid_first len m _ _ _ _ (by simp only [List.length_drop, List.length_cons] at *; omega)
            · rw [if_pos (by omega)]
              simp only [hf, decide_false, Bool.false_and]
              split <;> rfl
/-- byte by byte and sign by sign is the same -/
theorem validU_first (l : List UInt8) (len m at' : Nat) (h : l.length < m) : validU l = (firstU len m at' l).2 := valid_first len m at' 0 0 l h
end Go.V
