/- twice (item): are two keys alike? -/
import Derived.Test.YtgnfinbhnoofpaaDoorVH
import Derived.Test.YtgnfinbhnoofpaaDoorAlike
set_option linter.unusedVariables false
set_option linter.unusedSimpArgs false
set_option linter.unusedSectionVars false
open Go Go.V
set_option maxRecDepth 100000
set_option maxHeartbeats 4000000
namespace Go.V.W
noncomputable def PO113 : Pos := (goT E0 1 (ctxOf E0 113) 11 (entry E0 113 [.sli (z4 ++ z4) 2 .exact] ⟨[], []⟩)).pos
noncomputable def PI113 : Pos := (goT E0 1 (ctxOf E0 113) 29 (entry E0 113 [.sli (z4 ++ z4) 2 .exact] ⟨[], []⟩)).pos
theorem wrap2 {i : Nat} (h : i ≤ 2 ^ 60) : IntKind.wrap .i64 (((2 * i : Nat) : Int) + 2) = ((2 * (i + 1) : Nat) : Int) := wrap_nat (i := 2 * i) (m := 2) (by omega)
section
variable (q : Q) (l : List It) (m : Nat) (hm : l.length ≤ 2 * m ∧ 2 * m ≤ l.length + 1) (hl : m ≤ 2 ^ 29) (S : St)
include hm hl
theorem LI113 (hcall : ∀ x ∈ l, ∀ y S, Go.V.Call E0 146 [.agg (encI x), .agg (encI y)] S (.bool (alikeI x y)) S) (i : Nat) (hi : i < m) (x : It) (hx : l[2 * i]? = some x) (RO : Bool)
    (ihO : EvC E0 (ctxOf E0 113) ⟨PO113, [(0, .sli (encL l) l.length q), (3, .int .i64 ((2 * (i + 1) : Nat) : Int))], S⟩ (Go.V.Fin E0 113 S (.bool RO) S)) : ∀ (r j : Nat), j + r = i →
    EvC E0 (ctxOf E0 113) ⟨PI113, [(0, .sli (encL l) l.length q), (3, .int .i64 ((2 * i : Nat) : Int)), (4, .int .i64 ((2 * j : Nat) : Int))], S⟩ (Go.V.Fin E0 113 S (.bool (rowA x (((evens l).take i).drop j) || RO)) S) := by
  have w1 := wrap2 (i := i) (by omega)
  intro r
  induction r with
  | zero =>
    intro j hj
    have hji : j = i := by omega
    subst hji
    have e : ((evens l).take j).drop j = [] := List.drop_eq_nil_of_le (by rw [List.length_take]; omega)
    have g5 : ¬ ((2 * j : Nat) : Int) < ((2 * j : Nat) : Int) := by omega
    rw [e]
    simp only [rowA, List.any_nil, Bool.false_or]
    clear hcall
    refine evc_g 7 ?_
    refine evc_i 13 (decide ((↑(2 * j) : Int) < (↑(2 * j) : Int))) false ?_
    refine evc_g 9 ?_
    refine evc_set 3 (Val.int IntKind.i64 (IntKind.i64.wrap ((↑(2 * j) : Int) + 2))) (Val.int IntKind.i64 (↑(2 * (j + 1)) : Int)) (by kernel_rfl) (congrArg (Val.int IntKind.i64) w1) ?_
    exact evc_a (ihO)
  | succ r ihr =>
    intro j hj
    have hji : j < i := by omega
    obtain ⟨y, hy⟩ : ∃ y, l[2 * j]? = some y := ⟨l[2 * j], List.getElem?_eq_getElem (by omega)⟩
    have hey := evens_get hy
    have e : ((evens l).take i).drop j = y :: ((evens l).take i).drop (j + 1) := by
      obtain ⟨hl', rfl⟩ := List.getElem?_eq_some_iff.1 hey
      rw [List.drop_eq_getElem_cons (by rw [List.length_take]; omega), List.getElem_take]
    have g5 : ((2 * j : Nat) : Int) < ((2 * i : Nat) : Int) := by omega
    have w2 := wrap2 (i := j) (by omega)
    have hcx := cut_enc hx
    have hcy := cut_enc hy
    have c := hcall x (List.mem_of_getElem? hx) y S
    have ih := ihr (j + 1) (by omega)
    rw [e]
    simp only [rowA, List.any_cons] at ih ⊢
    generalize (((evens l).take i).drop (j + 1)).any (fun y => alikeI x y) = b at *
    generalize alikeI x y = a at *
    clear ihr hcall e hey ihO
    cases x with
    | mk kx nx sx qx lx =>
    cases y with
    | mk ky ny sy qy ly =>
    rw [encI_mk] at hcx hcy
    rw [encI_mk, encI_mk] at c
    cases a with
    | true => 
      simp only [Bool.true_or]
      clear ih
      refine evc_g 7 ?_
      refine evc_i 13 (decide ((↑(2 * j) : Int) < (↑(2 * i) : Int))) true ?_
      refine evc_g 8 ?_
      refine evc_idx (2 * i) (l.length) (encL l) 4 (by kernel_rfl) (by first | with_reducible rfl | assumption | (simp_all; done) | omega | (simp_all; omega)) (by kernel_rfl) ?_
      refine evc_cut (encL l) (2 * i * 4) 4 (Go.V.i4 kx nx sx lx qx) .pure (by kernel_rfl) hcx (by kernel_rfl) ?_
      refine evc_g 2 ?_
      refine evc_idx (2 * j) (l.length) (encL l) 4 (by kernel_rfl) (by first | with_reducible rfl | assumption | (simp_all; done) | omega | (simp_all; omega)) (by kernel_rfl) ?_
      refine evc_cut (encL l) (2 * j * 4) 4 (Go.V.i4 ky ny sy ly qy) .pure (by kernel_rfl) hcy (by kernel_rfl) ?_
      refine evc_c (c) ?_
      refine evc_g 6 ?_
      exact evc_t (Val.bool Bool.true)
    | false =>
      simp only [Bool.false_or]
      refine evc_g 7 ?_
      refine evc_i 13 (decide ((↑(2 * j) : Int) < (↑(2 * i) : Int))) true ?_
      refine evc_g 8 ?_
      refine evc_idx (2 * i) (l.length) (encL l) 4 (by kernel_rfl) (by first | with_reducible rfl | assumption | (simp_all; done) | omega | (simp_all; omega)) (by kernel_rfl) ?_
      refine evc_cut (encL l) (2 * i * 4) 4 (Go.V.i4 kx nx sx lx qx) .pure (by kernel_rfl) hcx (by kernel_rfl) ?_
      refine evc_g 2 ?_
      refine evc_idx (2 * j) (l.length) (encL l) 4 (by kernel_rfl) (by first | with_reducible rfl | assumption | (simp_all; done) | omega | (simp_all; omega)) (by kernel_rfl) ?_
      refine evc_cut (encL l) (2 * j * 4) 4 (Go.V.i4 ky ny sy ly qy) .pure (by kernel_rfl) hcy (by kernel_rfl) ?_
      refine evc_c (c) ?_
      refine evc_g 10 ?_
      refine evc_set 4 (Val.int IntKind.i64 (IntKind.i64.wrap ((↑(2 * j) : Int) + 2))) (Val.int IntKind.i64 (↑(2 * (j + 1)) : Int)) (by kernel_rfl) (congrArg (Val.int IntKind.i64) w2) ?_
      exact evc_a (ih)
theorem LO113 (hcall : ∀ x ∈ l, ∀ y S, Go.V.Call E0 146 [.agg (encI x), .agg (encI y)] S (.bool (alikeI x y)) S) : ∀ (r i : Nat), i + r = m →
    EvC E0 (ctxOf E0 113) ⟨PO113, [(0, .sli (encL l) l.length q), (3, .int .i64 ((2 * i : Nat) : Int))], S⟩ (Go.V.Fin E0 113 S (.bool (twA ((evens l).take i) ((evens l).drop i))) S) := by
  intro r
  induction r with
  | zero =>
    intro i hi
    have e : (evens l).drop i = [] := List.drop_eq_nil_of_le (by rw [evens_len]; omega)
    have g5 : ¬ ((2 * i : Nat) : Int) < (l.length : Int) := by omega
    rw [e]
    simp only [twA]
    clear hcall
    refine evc_g 8 ?_
    refine evc_i 8 (decide ((↑(2 * i) : Int) < (↑l.length : Int))) false ?_
    refine evc_g 6 ?_
    exact evc_t (Val.bool Bool.false)
  | succ r ihr =>
    intro i hi
    obtain ⟨x, hx⟩ : ∃ x, l[2 * i]? = some x := ⟨l[2 * i], List.getElem?_eq_getElem (by omega)⟩
    have hex := evens_get hx
    have e : (evens l).drop i = x :: (evens l).drop (i + 1) := by
      obtain ⟨hl', rfl⟩ := List.getElem?_eq_some_iff.1 hex
      exact List.drop_eq_getElem_cons hl'
    have e2 : (evens l).take (i + 1) = (evens l).take i ++ [x] := by rw [List.take_add_one, hex]; rfl
    have g5 : ((2 * i : Nat) : Int) < (l.length : Int) := by omega
    have L := LI113 q l m hm hl S hcall i (by omega) x hx _ (ihr (i + 1) (by omega)) i 0 (by omega)
    rw [e]
    simp only [twA]
    rw [← e2]
    simp only [List.drop_zero] at L
    generalize (rowA x ((evens l).take i) || twA ((evens l).take (i + 1)) ((evens l).drop (i + 1))) = R at *
    clear ihr hcall e e2 hex
    refine evc_g 8 ?_
    refine evc_i 8 (decide ((↑(2 * i) : Int) < (↑l.length : Int))) true ?_
    refine evc_g 10 ?_
    exact evc_a (L)
theorem c113 (hcall : ∀ x ∈ l, ∀ y S, Go.V.Call E0 146 [.agg (encI x), .agg (encI y)] S (.bool (alikeI x y)) S) : Go.V.Call E0 113 [.sli (encL l) l.length q] S (.bool (twA [] (evens l))) S := by
  have L := LO113 q l m hm hl S hcall m 0 (by omega)
  simp only [List.drop_zero, List.take_zero] at L
  generalize twA [] (evens l) = R at *
  clear hcall
  refine call_cfg (by kernel_rfl) ?_
  refine evc_g 11 ?_
  exact evc_a (L)
end
end Go.V.W
