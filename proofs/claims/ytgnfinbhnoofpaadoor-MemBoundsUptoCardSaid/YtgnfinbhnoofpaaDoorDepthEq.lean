/- The greatest of how deep all stand is how deep they stand in one another; what isn't over has short texts. -/
import Derived.Test.YtgnfinbhnoofpaaDoorRCheck
import Derived.Test.YtgnfinbhnoofpaaDoorDepth
set_option linter.unusedVariables false
set_option linter.unusedSimpArgs false
set_option linter.unusedSectionVars false
open Go Go.V
namespace Go.V.W
theorem maxZ_app : ∀ (l m : List Int) (a : Int), maxZ a (l ++ m) = maxZ (maxZ a l) m
  | [], m, a => rfl
  | z :: l, m, a => by simp only [List.cons_append, maxZ]; exact maxZ_app l m _
theorem wrap_d {d : Nat} (h : d + 1 ≤ 2 ^ 40) : IntKind.wrap .i64 ((d : Int) + 1) = ((d + 1 : Nat) : Int) := wrap_nat (m := 1) (by omega)
mutual
theorem maxI : ∀ (x : It) (a d : Nat), d + (itemsI x).length ≤ 2 ^ 40 → 0 < d → maxZ (a : Int) (deepsI x (d : Int)) = ((max a (d + depthI x - 1) : Nat) : Int)
  | .mk k n s q l, a, d, h, hd => by
    simp only [itemsI, List.length_cons] at h
    simp only [deepsI, maxZ, depthI]
    rw [wrap_d (by omega)]
    have e : (if (d : Int) > (a : Int) then (d : Int) else (a : Int)) = ((max a d : Nat) : Int) := by split <;> omega
    rw [e, maxL l (max a d) (d + 1) (by omega) (by omega)]
    congr 1
    have := depthL_le l
    cases l with
    | nil => simp only [depthL, if_true]; omega
    | cons y l =>
      have h1 : 0 < depthL (y :: l) := by
        simp only [depthL]
        cases y with
        | mk => simp only [depthI]; omega
      rw [if_neg (by simp)]; omega
theorem maxL : ∀ (l : List It) (a d : Nat), d + (itemsL l).length ≤ 2 ^ 40 → 0 < d → maxZ (a : Int) (deepsL l (d : Int)) = ((max a (if l = [] then 0 else d + depthL l - 1) : Nat) : Int)
  | [], a, d, _, _ => by simp [deepsL, maxZ]
  | x :: l, a, d, h, hd => by
    simp only [itemsL, List.length_append] at h
    simp only [deepsL, maxZ_app]
    rw [maxI x a d (by omega) hd, maxL l _ d (by omega) hd]
    congr 1
    have h1 : 0 < depthI x := by cases x; simp only [depthI]; omega
    simp only [depthL, List.cons_ne_nil, if_false]
    cases l with
    | nil => simp only [depthL, if_true]; omega
    | cons y l => rw [if_neg (by simp)]; omega
end
theorem depth_eq (x : It) (h : (itemsI x).length ≤ 2 ^ 30) : maxZ 0 (deepsI x 1) = (depthI x : Int) := by
  have := maxI x 0 1 (by omega) (by omega)
  have h1 : 0 < depthI x := by cases x; simp only [depthI]; omega
  rw [show max 0 (1 + depthI x - 1) = depthI x by omega] at this
  exact this
theorem check_eq (wr : It → Int) (x : It) (h : (itemsI x).length ≤ 2 ^ 30) : checkR wr x = if 64 < depthI x then 3 else firstW wr (itemsI x) := by
  unfold checkR
  rw [depth_eq x h]
  by_cases h' : 64 < depthI x
  · rw [if_pos h', if_pos (by omega)]
  · rw [if_neg h', if_neg (by omega)]
mutual
theorem over_short : ∀ (d : Nat) (x : It), overI d x = false → ∀ y ∈ itemsI x, y.s.length ≤ 300 ∧ y.l.length ≤ 200
  | 0, _, h => by simp [overI] at h
  | d + 1, .mk k n s q l, h => by
    simp only [overI, Bool.or_eq_false_iff, decide_eq_false_iff_not] at h
    intro y hy
    simp only [itemsI, List.mem_cons] at hy
    rcases hy with rfl | hy
    · simp only [It.s, It.l]; omega
    · exact over_shortL d l (by simpa using h.2) y hy
theorem over_shortL : ∀ (d : Nat) (l : List It), (∀ x ∈ l, overI d x = false) → ∀ y ∈ itemsL l, y.s.length ≤ 300 ∧ y.l.length ≤ 200
  | _, [], _, y, hy => by simp [itemsL] at hy
  | d, x :: l, h, y, hy => by
    simp only [itemsL, List.mem_append] at hy
    rcases hy with hy | hy
    · exact over_short d x (h x List.mem_cons_self) y hy
    · exact over_shortL d l (fun z hz => h z (List.mem_cons_of_mem _ hz)) y hy
end
end Go.V.W
