/- Items as Lean data, and as the interpreter's values. -/
import Derived.Test.YtgnfinbhnoofpaaDoorVH
set_option linter.unusedVariables false
set_option linter.unusedSimpArgs false
set_option linter.unusedSectionVars false
namespace Go.V
inductive It where
  | mk (k n : Int) (s : List UInt8) (q : Q) (l : List It)
  deriving Inhabited
mutual
def encI : It → List Val
  | .mk k n s q l => [.int .i64 k, .int .u64 n, .str s, .sli (encL l) l.length q]
def encL : List It → List Val
  | [] => []
  | x :: l => encI x ++ encL l
end
def It.k : It → Int | .mk k _ _ _ _ => k
def It.n : It → Int | .mk _ n _ _ _ => n
def It.s : It → List UInt8 | .mk _ _ s _ _ => s
def It.q : It → Q | .mk _ _ _ q _ => q
def It.l : It → List It | .mk _ _ _ _ l => l
theorem encI_eq (x : It) : encI x = [.int .i64 x.k, .int .u64 x.n, .str x.s, .sli (encL x.l) x.l.length x.q] := by
  cases x; simp [encI, It.k, It.n, It.s, It.q, It.l]
theorem encI_len (x : It) : (encI x).length = 4 := by rw [encI_eq]; rfl
theorem encL_len : ∀ l : List It, (encL l).length = l.length * 4
  | [] => rfl
  | x :: l => by simp only [encL, List.length_append, encI_len, encL_len l, List.length_cons]; omega
theorem encL_drop : ∀ (l : List It) (i : Nat), (encL l).drop (i * 4) = encL (l.drop i)
  | l, 0 => by simp
  | [], i + 1 => by simp [encL]
  | x :: l, i + 1 => by
    have : (i + 1) * 4 = (encI x).length + i * 4 := by rw [encI_len]; omega
    rw [this]
    simp only [encL, List.drop_succ_cons]
    rw [← List.drop_drop, List.drop_left, encL_drop l i]
theorem cut_enc {l : List It} {i : Nat} {y : It} (h : l[i]? = some y) : cut (encL l) (i * 4) 4 = some (encI y) := by
  obtain ⟨hi, rfl⟩ := List.getElem?_eq_some_iff.1 h
  unfold cut
  rw [if_pos (by rw [encL_len]; omega), encL_drop, List.drop_eq_getElem_cons hi]
  simp only [encL]
  rw [List.take_append_of_le_length (by rw [encI_len]; exact Nat.le_refl _), List.take_of_length_le (by rw [encI_len]; exact Nat.le_refl _)]
theorem get_enc {l : List It} {i : Nat} {y : It} (h : l[i]? = some y) (j : Nat) (hj : j < 4) : (encL l)[i * 4 + j]? = (encI y)[j]? := by
  obtain ⟨hi, rfl⟩ := List.getElem?_eq_some_iff.1 h
  rw [← List.getElem?_drop, encL_drop, List.drop_eq_getElem_cons hi]
  simp only [encL]
  rw [List.getElem?_append_left (by rw [encI_len]; exact hj)]
mutual
theorem low_encI (n : Nat) : ∀ x : It, Val.lows n (encI x) = true
  | .mk k m s q l => by simp [encI, Val.lows, Val.low, low_encL n l]
theorem low_encL (n : Nat) : ∀ l : List It, Val.lows n (encL l) = true
  | [] => rfl
  | x :: l => by
    simp only [encL]
    have h1 := low_encI n x
    have h2 := low_encL n l
    have app : ∀ (a b : List Val), Val.lows n a = true → Val.lows n b = true → Val.lows n (a ++ b) = true := by
      intro a b ha hb
      induction a with
      | nil => exact hb
      | cons v a ih => simp only [Val.lows, Bool.and_eq_true, List.cons_append] at ha ⊢; exact ⟨ha.1, ih ha.2⟩
    exact app _ _ h1 h2
end

mutual
/-- numbers within their kinds, lists no longer than memory -/
def It.wf : It → Prop
  | .mk k n s _ l => (-9223372036854775808 ≤ k ∧ k ≤ 9223372036854775807) ∧ (0 ≤ n ∧ n ≤ 18446744073709551615) ∧ s.length ≤ 9223372036854775807 ∧ l.length ≤ 9223372036854775807 ∧ wfL l
def wfL : List It → Prop
  | [] => True
  | x :: l => x.wf ∧ wfL l
end
theorem wfL_get : ∀ {l : List It} {i : Nat} {y : It}, wfL l → l[i]? = some y → y.wf
  | [], _, _, _, h => by simp at h
  | x :: l, 0, y, hw, h => by simp at h; subst h; simp only [wfL] at hw; exact hw.1
  | x :: l, i + 1, y, hw, h => by simp only [wfL] at hw; exact wfL_get hw.2 (by simpa using h)

/-- is it deeper, or wider, or has it longer texts? -/
def overI : Nat → It → Bool
  | 0, _ => true
  | d + 1, .mk _ _ s _ l => decide (200 < l.length) || decide (300 < s.length) || l.any (overI d)

mutual
/-- it, and all in it, in order -/
def itemsI : It → List It
  | .mk k n s q l => .mk k n s q l :: itemsL l
def itemsL : List It → List It
  | [] => []
  | x :: l => itemsI x ++ itemsL l
end
mutual
/-- how deep each stands -/
def deepsI : It → Int → List Int
  | .mk _ _ _ _ l, d => d :: deepsL l (IntKind.wrap .i64 (d + 1))
def deepsL : List It → Int → List Int
  | [], _ => []
  | x :: l, d => deepsI x d ++ deepsL l d
end
mutual
theorem deepsI_len : ∀ (x : It) (d : Int), (deepsI x d).length = (itemsI x).length
  | .mk _ _ _ _ l, d => by simp only [deepsI, itemsI, List.length_cons, deepsL_len l]
theorem deepsL_len : ∀ (l : List It) (d : Int), (deepsL l d).length = (itemsL l).length
  | [], _ => rfl
  | x :: l, d => by simp only [deepsL, itemsL, List.length_append, deepsI_len x, deepsL_len l]
end
theorem itemsL_app : ∀ a b : List It, itemsL (a ++ b) = itemsL a ++ itemsL b
  | [], b => rfl
  | x :: a, b => by simp only [List.cons_append, itemsL, itemsL_app a b, List.append_assoc]
theorem deepsL_app (d : Int) : ∀ a b : List It, deepsL (a ++ b) d = deepsL a d ++ deepsL b d
  | [], b => rfl
  | x :: a, b => by simp only [List.cons_append, deepsL, deepsL_app d a b, List.append_assoc]
theorem itemsI_pos (x : It) : 0 < (itemsI x).length := by cases x; simp [itemsI]
theorem itemsL_mem {l : List It} {y : It} (h : y ∈ l) : (itemsI y).length ≤ (itemsL l).length := by
  induction l with
  | nil => simp at h
  | cons x l ih =>
    simp only [itemsL, List.length_append]
    rcases List.mem_cons.1 h with rfl | h
    · omega
    · have := ih h; omega
theorem itemsL_take {l : List It} {i : Nat} : (itemsL (l.take i)).length ≤ (itemsL l).length := by
  have := itemsL_app (l.take i) (l.drop i)
  rw [List.take_append_drop] at this
  rw [this]; simp
theorem length_itemsL : ∀ l : List It, l.length ≤ (itemsL l).length
  | [] => Nat.le_refl _
  | x :: l => by have := length_itemsL l; have := itemsI_pos x; simp only [itemsL, List.length_append, List.length_cons]; omega
theorem encL_app : ∀ a b : List It, encL (a ++ b) = encL a ++ encL b
  | [], b => rfl
  | x :: a, b => by simp only [List.cons_append, encL, encL_app a b, List.append_assoc]
/-- what is known of the slices that Items hands out -/
def itq (x : It) : Q := if x.l = [] then .exact else .any
def encZ (l : List Int) : List Val := l.map (.int .i64 ·)
theorem encZ_len (l : List Int) : (encZ l).length = l.length := by simp [encZ]
theorem encZ_app (a b : List Int) : encZ (a ++ b) = encZ a ++ encZ b := by simp [encZ]
theorem low_encZ (n : Nat) : ∀ l : List Int, Val.lows n (encZ l) = true
  | [] => rfl
  | x :: l => by simp only [encZ, List.map_cons, Val.lows, Val.low, Bool.true_and]; exact low_encZ n l

abbrev i4 (k n : Int) (s : List UInt8) (l : List It) (q : Q) : List Val := [.int .i64 k, .int .u64 n, .str s, .sli (encL l) l.length q]
abbrev z1 (d : Int) : List Val := [.int .i64 d]
theorem encI_mk (k n : Int) (s : List UInt8) (l : List It) (q : Q) : encI (.mk k n s q l) = i4 k n s l q := by simp [encI]

mutual
/-- are two items the same? -/
def sameI : It → It → Bool
  | .mk k n s _ l, .mk k' n' s' _ l' => k == k' && (n == n' && (s == s' && (l.length == l'.length && sameL l l')))
def sameL : List It → List It → Bool
  | x :: l, y :: l' => sameI x y && sameL l l'
  | _, _ => true
end
mutual
/-- cells stand for an item: inline, or in memory that grew -/
def RepI (S : St) : It → List Val → Prop
  | .mk k n s _ l, cs => ∃ w, cs = [.int .i64 k, .int .u64 n, .str s, w] ∧ ((∃ q, w = .sli (encL l) l.length q) ∨
      ∃ b e hc, w = .sl b 0 l.length 4 (.flex e) ∧ hcells S b (some e) = some hc ∧ RepH S hc l 0)
def RepH (S : St) (hc : List Val) : List It → Nat → Prop
  | [], _ => True
  | y :: l, i => (∃ c4, cut hc (0 + i * 4) 4 = some c4 ∧ RepI S y c4) ∧ RepH S hc l (i + 1)
end
theorem RepH_get {S : St} {hc : List Val} : ∀ {l : List It} {o i : Nat} {y : It}, RepH S hc l o → l[i]? = some y → ∃ c4, cut hc (0 + (o + i) * 4) 4 = some c4 ∧ RepI S y c4
  | [], _, _, _, _, h => by simp at h
  | x :: l, o, 0, y, h, hy => by
    simp only [List.getElem?_cons_zero, Option.some.injEq] at hy; subst hy
    simp only [RepH] at h
    exact h.1
  | x :: l, o, i + 1, y, h, hy => by
    simp only [RepH] at h
    have := RepH_get (i := i) h.2 (by simpa using hy)
    rwa [show o + 1 + i = o + (i + 1) by omega] at this
theorem RepI_enc (S : St) (x : It) : RepI S x (encI x) := by
  cases x with
  | mk k n s q l => simp only [RepI, encI]; exact ⟨_, rfl, .inl ⟨q, rfl⟩⟩
end Go.V
