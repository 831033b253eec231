/- Schemas as Lean data, and as the interpreter's values. -/
import Derived.Test.YtgnfinbhnoofpaaDoorItem
set_option linter.unusedVariables false
set_option linter.unusedSimpArgs false
set_option linter.unusedSectionVars false
namespace Go.V
/-- a list of things of so many cells each -/
theorem flat_len {α : Type} {enc : α → List Val} {w : Nat} (hw : ∀ x, (enc x).length = w) : ∀ l : List α, (l.flatMap enc).length = l.length * w
  | [] => by simp
  | x :: l => by simp only [List.flatMap_cons, List.length_append, hw, flat_len hw l, List.length_cons, Nat.succ_mul]; omega
theorem flat_drop {α : Type} {enc : α → List Val} {w : Nat} (hw : ∀ x, (enc x).length = w) : ∀ (l : List α) (i : Nat), (l.flatMap enc).drop (i * w) = (l.drop i).flatMap enc
  | l, 0 => by simp
  | [], i + 1 => by simp
  | x :: l, i + 1 => by
    have : (i + 1) * w = (enc x).length + i * w := by rw [hw, Nat.succ_mul]; omega
    rw [this]
    simp only [List.flatMap_cons, List.drop_succ_cons]
    rw [← List.drop_drop, List.drop_left, flat_drop hw l i]
theorem flat_cut {α : Type} {enc : α → List Val} {w : Nat} (hw : ∀ x, (enc x).length = w) {l : List α} {i : Nat} {y : α} (h : l[i]? = some y) : cut (l.flatMap enc) (i * w) w = some (enc y) := by
  obtain ⟨hi, rfl⟩ := List.getElem?_eq_some_iff.1 h
  unfold cut
  have h2 : i * w + w ≤ l.length * w := by rw [← Nat.succ_mul]; exact Nat.mul_le_mul_right w hi
  rw [if_pos (by rw [flat_len hw]; exact h2), flat_drop hw, List.drop_eq_getElem_cons hi]
  simp only [List.flatMap_cons]
  rw [List.take_append_of_le_length (by rw [hw]; exact Nat.le_refl _), List.take_of_length_le (by rw [hw]; exact Nat.le_refl _)]
theorem flat_get {α : Type} {enc : α → List Val} {w : Nat} (hw : ∀ x, (enc x).length = w) {l : List α} {i : Nat} {y : α} (h : l[i]? = some y) (j : Nat) (hj : j < w) : (l.flatMap enc)[i * w + j]? = (enc y)[j]? := by
  obtain ⟨hi, rfl⟩ := List.getElem?_eq_some_iff.1 h
  rw [← List.getElem?_drop, flat_drop hw, List.drop_eq_getElem_cons hi]
  simp only [List.flatMap_cons]
  rw [List.getElem?_append_left (by rw [hw]; exact hj)]
theorem flat_low {α : Type} {enc : α → List Val} {n : Nat} (h : ∀ x, Val.lows n (enc x) = true) : ∀ l : List α, Val.lows n (l.flatMap enc) = true
  | [] => rfl
  | x :: l => by
    have app : ∀ (a b : List Val), Val.lows n a = true → Val.lows n b = true → Val.lows n (a ++ b) = true := by
      intro a b ha hb
      induction a with
      | nil => exact hb
      | cons v a ih => simp only [Val.lows, Bool.and_eq_true, List.cons_append] at ha ⊢; exact ⟨ha.1, ih ha.2⟩
    simp only [List.flatMap_cons]
    exact app _ _ (h x) (flat_low h l)

structure Fd where
  key : List UInt8
  node : Int
  opt : Bool
  deriving DecidableEq, Inhabited
def encF (f : Fd) : List Val := [.str f.key, .int .i64 f.node, .bool f.opt]
def encFs (l : List Fd) : List Val := l.flatMap encF
structure Nd where
  k : Int
  lo : Int
  hi : Int
  v : It
  l : List Int
  ql : Q
  f : List Fd
  qf : Q
  deriving Inhabited
abbrev n9 (k lo hi vk vn : Int) (vs : List UInt8) (vl : List It) (vq : Q) (l : List Int) (ql : Q) (f : List Fd) (qf : Q) : List Val :=
  [.int .i64 k, .int .i64 lo, .int .i64 hi, .int .i64 vk, .int .u64 vn, .str vs, .sli (encL vl) vl.length vq, .sli (encZ l) l.length ql, .sli (encFs f) f.length qf]
def encN (n : Nd) : List Val := [.int .i64 n.k, .int .i64 n.lo, .int .i64 n.hi] ++ encI n.v ++ [.sli (encZ n.l) n.l.length n.ql, .sli (encFs n.f) n.f.length n.qf]
theorem encN_mk (k lo hi vk vn : Int) (vs : List UInt8) (vl : List It) (vq : Q) (l : List Int) (ql : Q) (f : List Fd) (qf : Q) : encN ⟨k, lo, hi, .mk vk vn vs vq vl, l, ql, f, qf⟩ = n9 k lo hi vk vn vs vl vq l ql f qf := by simp [encN, encI]
def encNs (l : List Nd) : List Val := l.flatMap encN
theorem encN_len (n : Nd) : (encN n).length = 9 := by simp [encN, encI_len]
theorem encF_len (f : Fd) : (encF f).length = 3 := rfl
theorem encFs_len (l : List Fd) : (encFs l).length = l.length * 3 := flat_len encF_len l
theorem encNs_len (l : List Nd) : (encNs l).length = l.length * 9 := flat_len encN_len l
theorem cut_F {l : List Fd} {i : Nat} {y : Fd} (h : l[i]? = some y) : cut (encFs l) (i * 3) 3 = some (encF y) := flat_cut encF_len h
theorem cut_N {l : List Nd} {i : Nat} {y : Nd} (h : l[i]? = some y) : cut (encNs l) (i * 9) 9 = some (encN y) := flat_cut encN_len h
theorem get_F {l : List Fd} {i : Nat} {y : Fd} (h : l[i]? = some y) (j : Nat) (hj : j < 3) : (encFs l)[i * 3 + j]? = (encF y)[j]? := flat_get encF_len h j hj
theorem get_F0 {l : List Fd} {i : Nat} {y : Fd} (h : l[i]? = some y) : (encFs l)[i * 3 + 0]? = some (.str y.key) := by rw [get_F h 0 (by omega)]; rfl
theorem get_F1 {l : List Fd} {i : Nat} {y : Fd} (h : l[i]? = some y) : (encFs l)[i * 3 + 1]? = some (.int .i64 y.node) := by rw [get_F h 1 (by omega)]; rfl
theorem get_Z {l : List Int} {i : Nat} {z : Int} (h : l[i]? = some z) : (encZ l)[i * 1]? = some (.int .i64 z) := by simp [encZ, h]
theorem low_encF (n : Nat) (f : Fd) : Val.lows n (encF f) = true := rfl
theorem low_encFs (n : Nat) (l : List Fd) : Val.lows n (encFs l) = true := flat_low (low_encF n) l
theorem lows_app (n : Nat) : ∀ (a b : List Val), Val.lows n (a ++ b) = (Val.lows n a && Val.lows n b)
  | [], b => by simp [Val.lows]
  | v :: a, b => by simp only [List.cons_append, Val.lows, lows_app n a b, Bool.and_assoc]
theorem low_encN (n : Nat) (x : Nd) : Val.lows n (encN x) = true := by
  simp only [encN, lows_app, low_encI, Val.lows, Val.low, low_encZ, low_encFs, Bool.and_self]
theorem low_encNs (n : Nat) (l : List Nd) : Val.lows n (encNs l) = true := flat_low (low_encN n) l
end Go.V
