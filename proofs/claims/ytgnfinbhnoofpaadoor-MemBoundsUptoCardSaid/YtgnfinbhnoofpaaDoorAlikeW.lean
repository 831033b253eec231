/- The looks of alike, one by one: what is left to find, where the flags stand in memory. -/
import Derived.Test.YtgnfinbhnoofpaaDoorAlikeS
import Derived.Test.YtgnfinbhnoofpaaDoorE0
import Derived.Test.YtgnfinbhnoofpaaDoorVH
set_option linter.unusedVariables false
set_option linter.unusedSimpArgs false
set_option linter.unusedSectionVars false
namespace Go.V
open Go.Proofs
def encB (l : List Bool) : List Val := l.map (.bool ·)
theorem encB_len (l : List Bool) : (encB l).length = l.length := by simp [encB]
theorem encB_get {l : List Bool} {i : Nat} {u : Bool} (h : l[i]? = some u) : (encB l)[0 + i * 1]? = some (.bool u) := by
  simp [encB, h]
theorem encB_over {l : List Bool} {i : Nat} (h : i < l.length) : over (encB l) (0 + i * 1) [.bool true] = some (encB (l.set i true)) := by
  unfold over
  rw [if_pos (by simp [encB_len]; omega)]
  simp only [Nat.zero_add, Nat.mul_one, encB, List.map_set]
  rw [List.set_eq_take_append_cons_drop, if_pos (by simpa using h)]
  simp
theorem low_encB (n : Nat) : ∀ l : List Bool, Val.lows n (encB l) = true
  | [] => rfl
  | x :: l => by simp only [encB, List.map_cons, Val.lows, Val.low, Bool.true_and]; exact low_encB n l
theorem repeat_B : ∀ n : Nat, repeatCells [.bool false] n = encB (List.replicate n false)
  | 0 => rfl
  | n + 1 => by simp only [repeatCells, repeat_B n, List.replicate_succ]; rfl
theorem mk73 (S : St) (n : Nat) (h : n ≤ 2 ^ 40) : makeSliceOp E0 73 S (.int .i64 (n : Int)) (.int .i64 (n : Int)) = some (.sl S.H.length 0 n 1 (.fix n), ⟨S.H ++ [.cells (encB (List.replicate n false)) false], S.L⟩) := by
  have e : makeSliceOp E0 73 S (.int .i64 (n : Int)) (.int .i64 (n : Int)) = if IntKind.i64 = IntKind.i64 ∧ IntKind.i64 = IntKind.i64 ∧ 0 ≤ (n : Int) ∧ (n : Int) ≤ (n : Int) ∧ (n : Int) * ((1 : Nat) : Int) ≤ 2 ^ 46 ∧ (n : Int) ≤ 2 ^ 46 ∧ [Val.bool false].length = 1 ∧ 0 < 1 then
      some (.sl S.H.length 0 (n : Int).toNat 1 (.fix (n : Int).toNat), push S (.cells (repeatCells [.bool false] (n : Int).toNat) false)) else none := by kernel_rfl
  rw [e, if_pos ⟨rfl, rfl, by omega, by omega, by omega, by omega, rfl, by omega⟩]
  simp only [Int.toNat_natCast, repeat_B, push]

/-- what is still to find: R is what all comes to -/
def Rel (p : It × It → Bool) (rest : List It) (bs : List (Bool × It × It)) (k : Nat) (R : Bool) : Prop := R = match pick p (bs.drop k) with
  | none => false
  | some bs' => alikeP rest (bs.take k ++ bs')
theorem rel_hit {p : It × It → Bool} {rest : List It} {bs : List (Bool × It × It)} {k : Nat} {R : Bool} {pr : It × It} (h : bs[k]? = some (false, pr)) (hp : p pr = true) (hr : Rel p rest bs k R) : R = alikeP rest (bs.set k (true, pr)) := by
  obtain ⟨hl, he⟩ := List.getElem?_eq_some_iff.1 h
  unfold Rel at hr
  rw [List.drop_eq_getElem_cons hl, he] at hr
  simp only [pick, hp, Bool.not_false, Bool.and_self, if_true] at hr
  rw [hr, List.set_eq_take_append_cons_drop, if_pos hl]
theorem rel_miss {p : It × It → Bool} {rest : List It} {bs : List (Bool × It × It)} {k : Nat} {R : Bool} {u : Bool} {pr : It × It} (h : bs[k]? = some (u, pr)) (hp : (!u && p pr) = false) (hr : Rel p rest bs k R) : Rel p rest bs (k + 1) R := by
  obtain ⟨hl, he⟩ := List.getElem?_eq_some_iff.1 h
  unfold Rel at hr ⊢
  rw [List.drop_eq_getElem_cons hl, he] at hr
  simp only [pick, hp, Bool.false_eq_true, if_false] at hr
  have ht : bs.take (k + 1) = bs.take k ++ [(u, pr)] := by rw [List.take_add_one, h]; rfl
  rw [ht]
  cases hpk : pick p (bs.drop (k + 1)) with
  | none => rw [hpk] at hr; exact hr
  | some bs' => rw [hpk] at hr; simpa using hr
theorem rel_end {p : It × It → Bool} {rest : List It} {bs : List (Bool × It × It)} {R : Bool} (hr : Rel p rest bs bs.length R) : R = false := by
  unfold Rel at hr
  rw [List.drop_length] at hr
  simpa [pick] using hr
theorem rel_start (x y : It) (l : List It) (bs : List (Bool × It × It)) : Rel (fun p => alikeI x p.1 && alikeI y p.2) l bs 0 (alikeP (x :: y :: l) bs) := by
  unfold Rel
  simp only [alikeP, List.drop_zero, List.take_zero, List.nil_append]
  cases pick (fun p => alikeI x p.1 && alikeI y p.2) bs <;> rfl
theorem pairsL_get : ∀ {l : List It} {k : Nat} {x y : It}, l[2 * k]? = some x → l[2 * k + 1]? = some y → (pairsL l)[k]? = some (x, y)
  | [], _, _, _, h, _ => by simp at h
  | [z], 0, _, _, _, h => by simp at h
  | [z], k + 1, _, _, h, _ => by simp at h
  | a :: b :: l, 0, x, y, h, h' => by
    simp only [Nat.mul_zero, List.getElem?_cons_zero, Option.some.injEq, Nat.zero_add, List.getElem?_cons_succ] at h h'
    subst h h'; rfl
  | a :: b :: l, k + 1, x, y, h, h' => by
    have e1 : 2 * (k + 1) = 2 * k + 1 + 1 := by omega
    rw [e1] at h h'
    simp only [List.getElem?_cons_succ] at h h'
    simp only [pairsL, List.getElem?_cons_succ]
    exact pairsL_get h h'
theorem zip_get {U : List Bool} {P : List (It × It)} {k : Nat} {u : Bool} {pr : It × It} (h : U[k]? = some u) (h' : P[k]? = some pr) : (U.zip P)[k]? = some (u, pr) := by
  rw [List.getElem?_zip_eq_some]; exact ⟨h, h'⟩
theorem zip_set {U : List Bool} {P : List (It × It)} {k : Nat} {u b : Bool} {pr : It × It} (h : U[k]? = some u) (h' : P[k]? = some pr) : (U.zip P).set k (b, pr) = (U.set k b).zip P := by
  apply List.ext_getElem?
  intro j
  by_cases hj : k = j
  · subst hj
    have hl : k < (U.zip P).length := (List.getElem?_eq_some_iff.1 (zip_get h h')).1
    rw [List.getElem?_set_self hl]
    symm
    rw [List.getElem?_zip_eq_some]
    exact ⟨by rw [List.getElem?_set_self (List.getElem?_eq_some_iff.1 h).1], h'⟩
  · rw [List.getElem?_set_ne hj]
    rw [List.zip_eq_zipWith, List.zip_eq_zipWith, List.getElem?_zipWith, List.getElem?_zipWith, List.getElem?_set_ne hj]
theorem drop_two {l : List It} {i : Nat} {x y : It} (h : l[2 * i]? = some x) (h' : l[2 * i + 1]? = some y) : l.drop (2 * i) = x :: y :: l.drop (2 * (i + 1)) := by
  obtain ⟨hl, rfl⟩ := List.getElem?_eq_some_iff.1 h
  obtain ⟨hl', rfl⟩ := List.getElem?_eq_some_iff.1 h'
  rw [List.drop_eq_getElem_cons hl, List.drop_eq_getElem_cons hl', show 2 * i + 1 + 1 = 2 * (i + 1) by omega]
theorem fresh_zip (l : List It) (m : Nat) (h : m = l.length / 2) : freshL l = (List.replicate m false).zip (pairsL l) := by
  have hm : m = (pairsL l).length := by rw [pairsL_len, h]
  unfold freshL
  rw [hm]
  generalize pairsL l = P
  induction P with
  | nil => rfl
  | cons a P ih => simp only [List.map_cons, List.length_cons, List.replicate_succ, List.zip_cons_cons, ih]

/-- flags that stand at every other place -/
def dbl : List Bool → List Bool
  | [] => []
  | u :: U => u :: false :: dbl U
theorem dbl_len : ∀ U : List Bool, (dbl U).length = 2 * U.length
  | [] => rfl
  | u :: U => by simp only [dbl, List.length_cons, dbl_len U]; omega
theorem dbl_get : ∀ {U : List Bool} {i : Nat} {u : Bool}, U[i]? = some u → (dbl U)[2 * i]? = some u
  | [], _, _, h => by simp at h
  | v :: U, 0, u, h => by simpa [dbl] using h
  | v :: U, i + 1, u, h => by
    rw [show 2 * (i + 1) = 2 * i + 1 + 1 by omega]
    simp only [dbl, List.getElem?_cons_succ]
    exact dbl_get (by simpa using h)
theorem dbl_set : ∀ {U : List Bool} {i : Nat}, (dbl U).set (2 * i) true = dbl (U.set i true)
  | [], _ => by simp [dbl]
  | v :: U, 0 => by simp [dbl]
  | v :: U, i + 1 => by
    rw [show 2 * (i + 1) = 2 * i + 1 + 1 by omega]
    simp only [dbl, List.set_cons_succ, dbl_set]
theorem dbl_rep : ∀ m : Nat, dbl (List.replicate m false) = List.replicate (2 * m) false
  | 0 => rfl
  | m + 1 => by rw [show 2 * (m + 1) = 2 * m + 1 + 1 by omega]; simp only [List.replicate_succ, dbl, dbl_rep m]

/-- every other one -/
def evens : List It → List It
  | [] => []
  | [x] => [x]
  | x :: _ :: l => x :: evens l
theorem evens_len : ∀ l : List It, (evens l).length = (l.length + 1) / 2
  | [] => rfl
  | [x] => by simp [evens]
  | x :: y :: l => by simp only [evens, List.length_cons, evens_len l]; omega
theorem evens_get : ∀ {l : List It} {k : Nat} {x : It}, l[2 * k]? = some x → (evens l)[k]? = some x
  | [], _, _, h => by simp at h
  | [z], 0, _, h => by simpa [evens] using h
  | [z], k + 1, _, h => by simp at h
  | a :: b :: l, 0, x, h => by simpa [evens] using h
  | a :: b :: l, k + 1, x, h => by
    rw [show 2 * (k + 1) = 2 * k + 1 + 1 by omega] at h
    simp only [List.getElem?_cons_succ] at h
    simp only [evens, List.getElem?_cons_succ]
    exact evens_get h
def rowA (x : It) (l : List It) : Bool := l.any fun y => alikeI x y
/-- two keys are alike: each against those ahead of it -/
def twA : List It → List It → Bool
  | _, [] => false
  | pre, x :: rest => rowA x pre || twA (pre ++ [x]) rest
/-- two keys are alike: each against those behind it -/
def twR : List It → Bool
  | [] => false
  | x :: rest => rowA x rest || twR rest
theorem twA_eq : ∀ (rest pre : List It), twA pre rest = ((pre.any fun p => rowA p rest) || twR rest)
  | [], pre => by simp [twA, twR, rowA]
  | x :: rest, pre => by
    simp only [twA, twA_eq rest, twR, List.any_append, List.any_cons, List.any_nil, Bool.or_false]
    have e : (pre.any fun p => rowA p (x :: rest)) = (rowA x pre || pre.any fun p => rowA p rest) := by
      induction pre with
      | nil => simp [rowA]
      | cons p pre ih =>
        simp only [List.any_cons, ih]
        simp only [rowA, List.any_cons, alike_symm x p]
        cases alikeI p x <;> cases (rest.any fun y => alikeI p y) <;> cases (pre.any fun y => alikeI x y) <;> simp
    rw [e]
    cases rowA x pre <;> cases (pre.any fun p => rowA p rest) <;> cases rowA x rest <;> cases twR rest <;> rfl
theorem tw_eq (l : List It) : twA [] l = twR l := by rw [twA_eq]; simp
end Go.V
