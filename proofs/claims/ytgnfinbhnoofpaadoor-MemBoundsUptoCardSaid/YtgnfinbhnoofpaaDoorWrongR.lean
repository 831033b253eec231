/- wrong (ullageref08): what it answers of any item, case by case. Printed by a program (wip/tools/genwrongr.py). -/
import Derived.Test.YtgnfinbhnoofpaaDoorVH
import Derived.Test.YtgnfinbhnoofpaaDoorAlikeR
import Derived.Test.YtgnfinbhnoofpaaDoorTwice
import Derived.Test.YtgnfinbhnoofpaaDoorFirst
import Derived.Test.YtgnfinbhnoofpaaDoorWrong
set_option linter.unusedVariables false
set_option linter.unusedSimpArgs false
set_option linter.unusedSectionVars false
open Go Go.V
set_option maxRecDepth 100000
set_option maxHeartbeats 4000000
namespace Go.V.W
def e14 : Bool → Int
  | true => 14
  | false => 0
section
variable (n : Nat) (s : List UInt8) (q : Q) (l : List It)
noncomputable def PO82 : Pos := (goT E0 1 (ctxOf E0 82) 164 (entry E0 82 [.agg [.int .i64 5, .int .u64 0, .str [], .sli (z4 ++ z4) 2 .exact]] ⟨[], []⟩)).pos
noncomputable def PI82 : Pos := (goT E0 1 (ctxOf E0 82) 185 (entry E0 82 [.agg [.int .i64 5, .int .u64 0, .str [], .sli (z4 ++ z4) 2 .exact]] ⟨[], []⟩)).pos
section
variable (m : Nat) (hm : l.length = 2 * m) (hl : m ≤ 2 ^ 29) (S : St)
include hm hl
theorem LI82 (hcall : ∀ x ∈ l, ∀ y S, Go.V.Call E0 115 [.agg (encI x), .agg (encI y)] S (.bool (alikeI x y)) S) (i : Nat) (hi : i < m) (x : It) (hx : l[2 * i]? = some x) (RO : Bool)
    (ihO : EvC E0 (ctxOf E0 82) ⟨PO82, [(1, .lv (i4 5 n s l q)), (8, .int .i64 ((2 * (i + 1) : Nat) : Int))], S⟩ (Go.V.Fin E0 82 S (.int .i64 (e14 RO)) S)) : ∀ (r j : Nat), j + r = m → 0 < j →
    EvC E0 (ctxOf E0 82) ⟨PI82, [(1, .lv (i4 5 n s l q)), (8, .int .i64 ((2 * i : Nat) : Int)), (9, .int .i64 ((2 * j : Nat) : Int))], S⟩ (Go.V.Fin E0 82 S (.int .i64 (e14 (rowA x ((evens l).drop j) || RO))) S) := by
  have w1 := wrap2 (i := i) (by omega)
  intro r
  induction r with
  | zero =>
    intro j hj _
    have e : (evens l).drop j = [] := List.drop_eq_nil_of_le (by rw [evens_len]; omega)
    have g5 : ¬ ((2 * j : Nat) : Int) < (l.length : Int) := by omega
    rw [e]
    simp only [rowA, List.any_nil, Bool.false_or]
    clear hcall
    refine evc_g 9 ?_
    refine evc_i 137 (decide ((↑(2 * j) : Int) < (↑l.length : Int))) false ?_
    refine evc_g 9 ?_
    refine evc_set 8 (Val.int IntKind.i64 (IntKind.i64.wrap ((↑(2 * i) : Int) + 2))) (Val.int IntKind.i64 (↑(2 * (i + 1)) : Int)) (by kernel_rfl) (congrArg (Val.int IntKind.i64) w1) ?_
    exact evc_a (ihO)
  | succ r ihr =>
    intro j hj h0
    obtain ⟨y, hy⟩ : ∃ y, l[2 * j]? = some y := ⟨l[2 * j], List.getElem?_eq_getElem (by omega)⟩
    have hey := evens_get hy
    have e : (evens l).drop j = y :: (evens l).drop (j + 1) := by
      obtain ⟨hl', rfl⟩ := List.getElem?_eq_some_iff.1 hey
      exact List.drop_eq_getElem_cons hl'
    have g5 : ((2 * j : Nat) : Int) < (l.length : Int) := by omega
    have w2 := wrap2 (i := j) (by omega)
    have hcx := cut_enc hx
    have hcy := cut_enc hy
    have c := hcall x (List.mem_of_getElem? hx) y S
    have ih := ihr (j + 1) (by omega) (by omega)
    rw [e]
    simp only [rowA, List.any_cons] at ih ⊢
    generalize ((evens l).drop (j + 1)).any (fun y => alikeI x y) = b at *
    generalize alikeI x y = a at *
    clear ihr hcall e hey ihO
    cases x with
    | mk kx nx sx qx lx =>
    cases y with
    | mk ky ny sy qy ly =>
    rw [encI_mk] at hcx hcy
    rw [encI_mk, encI_mk] at c
    cases a with
    | true =>
      simp only [Bool.true_or, e14]
      clear ih
      refine evc_g 9 ?_
      refine evc_i 137 (decide ((↑(2 * j) : Int) < (↑l.length : Int))) true ?_
      refine evc_g 9 ?_
      refine evc_idx (2 * i) (l.length) (encL l) 4 (by kernel_rfl) (by first | with_reducible rfl | assumption | (simp_all; done) | omega | (simp_all; omega)) (by kernel_rfl) ?_
      refine evc_cut (encL l) (2 * i * 4) 4 (Go.V.i4 kx nx sx lx qx) .pure (by kernel_rfl) hcx (by kernel_rfl) ?_
      refine evc_g 3 ?_
      refine evc_idx (2 * j) (l.length) (encL l) 4 (by kernel_rfl) (by first | with_reducible rfl | assumption | (simp_all; done) | omega | (simp_all; omega)) (by kernel_rfl) ?_
      refine evc_cut (encL l) (2 * j * 4) 4 (Go.V.i4 ky ny sy ly qy) .pure (by kernel_rfl) hcy (by kernel_rfl) ?_
      refine evc_c (c) ?_
      refine evc_g 6 ?_
      exact evc_t (Val.int IntKind.i64 14)
    | false =>
      simp only [Bool.false_or]
      refine evc_g 9 ?_
      refine evc_i 137 (decide ((↑(2 * j) : Int) < (↑l.length : Int))) true ?_
      refine evc_g 9 ?_
      refine evc_idx (2 * i) (l.length) (encL l) 4 (by kernel_rfl) (by first | with_reducible rfl | assumption | (simp_all; done) | omega | (simp_all; omega)) (by kernel_rfl) ?_
      refine evc_cut (encL l) (2 * i * 4) 4 (Go.V.i4 kx nx sx lx qx) .pure (by kernel_rfl) hcx (by kernel_rfl) ?_
      refine evc_g 3 ?_
      refine evc_idx (2 * j) (l.length) (encL l) 4 (by kernel_rfl) (by first | with_reducible rfl | assumption | (simp_all; done) | omega | (simp_all; omega)) (by kernel_rfl) ?_
      refine evc_cut (encL l) (2 * j * 4) 4 (Go.V.i4 ky ny sy ly qy) .pure (by kernel_rfl) hcy (by kernel_rfl) ?_
      refine evc_c (c) ?_
      refine evc_g 10 ?_
      refine evc_set 9 (Val.int IntKind.i64 (IntKind.i64.wrap ((↑(2 * j) : Int) + 2))) (Val.int IntKind.i64 (↑(2 * (j + 1)) : Int)) (by kernel_rfl) (congrArg (Val.int IntKind.i64) w2) ?_
      exact evc_a (ih)
theorem LO82 (hcall : ∀ x ∈ l, ∀ y S, Go.V.Call E0 115 [.agg (encI x), .agg (encI y)] S (.bool (alikeI x y)) S) : ∀ (r i : Nat), i + r = m →
    EvC E0 (ctxOf E0 82) ⟨PO82, [(1, .lv (i4 5 n s l q)), (8, .int .i64 ((2 * i : Nat) : Int))], S⟩ (Go.V.Fin E0 82 S (.int .i64 (e14 (twR ((evens l).drop i)))) S) := by
  intro r
  induction r with
  | zero =>
    intro i hi
    have e : (evens l).drop i = [] := List.drop_eq_nil_of_le (by rw [evens_len]; omega)
    have g5 : ¬ ((2 * i : Nat) : Int) < (l.length : Int) := by omega
    rw [e]
    simp only [twR, e14]
    clear hcall
    refine evc_g 9 ?_
    refine evc_i 128 (decide ((↑(2 * i) : Int) < (↑l.length : Int))) false ?_
    refine evc_g 6 ?_
    exact evc_t (Val.int IntKind.i64 0)
  | succ r ihr =>
    intro i hi
    obtain ⟨x, hx⟩ : ∃ x, l[2 * i]? = some x := ⟨l[2 * i], List.getElem?_eq_getElem (by omega)⟩
    have hex := evens_get hx
    have e : (evens l).drop i = x :: (evens l).drop (i + 1) := by
      obtain ⟨hl', rfl⟩ := List.getElem?_eq_some_iff.1 hex
      exact List.drop_eq_getElem_cons hl'
    have g5 : ((2 * i : Nat) : Int) < (l.length : Int) := by omega
    have w2 := wrap2 (i := i) (by omega)
    have L := LI82 n s q l m hm hl S hcall i (by omega) x hx _ (ihr (i + 1) (by omega)) (m - (i + 1)) (i + 1) (by omega) (by omega)
    rw [e]
    simp only [twR]
    generalize (rowA x ((evens l).drop (i + 1)) || twR ((evens l).drop (i + 1))) = R at *
    clear ihr hcall e hex
    refine evc_g 9 ?_
    refine evc_i 128 (decide ((↑(2 * i) : Int) < (↑l.length : Int))) true ?_
    refine evc_g 12 ?_
    refine evc_set 9 (Val.int IntKind.i64 (IntKind.i64.wrap ((↑(2 * i) : Int) + 2))) (Val.int IntKind.i64 (↑(2 * (i + 1)) : Int)) (by kernel_rfl) (congrArg (Val.int IntKind.i64) w2) ?_
    exact evc_a (L)
end
theorem w82_lo (k : Int) (h : k < 0) (S : St) : Go.V.Call E0 82 [.agg (i4 k n s l q)] S (.int .i64 11) S := by
  refine call_cfg (by kernel_rfl) ?_
  refine evc_g 17 ?_
  refine evc_i 14 (decide (k < 0)) true ?_
  refine evc_g 9 ?_
  exact evc_t (Val.int IntKind.i64 11)
theorem w82_hi (k : Int) (h : 8 < k) (S : St) : Go.V.Call E0 82 [.agg (i4 k n s l q)] S (.int .i64 11) S := by
  refine call_cfg (by kernel_rfl) ?_
  refine evc_g 17 ?_
  refine evc_i 14 (decide (k < 0)) false ?_
  refine evc_g 4 ?_
  refine evc_i 17 (decide (k > 8)) true ?_
  refine evc_g 5 ?_
  exact evc_t (Val.int IntKind.i64 11)
theorem w82_0_s (h : s ≠ []) (S : St) : Go.V.Call E0 82 [.agg (i4 0 n s l q)] S (.int .i64 11) S := by
  refine call_cfg (by kernel_rfl) ?_
  refine evc_g 54 ?_
  refine evc_i 37 (!s == []) true ?_
  refine evc_g 16 ?_
  exact evc_t (Val.int IntKind.i64 11)
theorem w82_0_l (h : s = []) (h2 : (l.length : Int) ≠ 0) (S : St) : Go.V.Call E0 82 [.agg (i4 0 n s l q)] S (.int .i64 11) S := by
  refine call_cfg (by kernel_rfl) ?_
  refine evc_g 54 ?_
  refine evc_i 37 (!s == []) false ?_
  refine evc_g 50 ?_
  refine evc_i 80 ((↑l.length : Int) != 0) true ?_
  refine evc_g 5 ?_
  exact evc_t (Val.int IntKind.i64 11)
theorem w82_0_o (h : s = []) (h2 : (l.length : Int) = 0) (S : St) : Go.V.Call E0 82 [.agg (i4 0 n s l q)] S (.int .i64 0) S := by
  refine call_cfg (by kernel_rfl) ?_
  refine evc_g 54 ?_
  refine evc_i 37 (!s == []) false ?_
  refine evc_g 50 ?_
  refine evc_i 80 ((↑l.length : Int) != 0) false ?_
  refine evc_g 59 ?_
  exact evc_t (Val.int IntKind.i64 0)
theorem w82_1_s (h : s ≠ []) (S : St) : Go.V.Call E0 82 [.agg (i4 1 n s l q)] S (.int .i64 11) S := by
  refine call_cfg (by kernel_rfl) ?_
  refine evc_g 54 ?_
  refine evc_i 37 (!s == []) true ?_
  refine evc_g 16 ?_
  exact evc_t (Val.int IntKind.i64 11)
theorem w82_1_l (h : s = []) (h2 : (l.length : Int) ≠ 0) (S : St) : Go.V.Call E0 82 [.agg (i4 1 n s l q)] S (.int .i64 11) S := by
  refine call_cfg (by kernel_rfl) ?_
  refine evc_g 54 ?_
  refine evc_i 37 (!s == []) false ?_
  refine evc_g 50 ?_
  refine evc_i 80 ((↑l.length : Int) != 0) true ?_
  refine evc_g 5 ?_
  exact evc_t (Val.int IntKind.i64 11)
theorem w82_1_o (h : s = []) (h2 : (l.length : Int) = 0) (S : St) : Go.V.Call E0 82 [.agg (i4 1 n s l q)] S (.int .i64 0) S := by
  refine call_cfg (by kernel_rfl) ?_
  refine evc_g 54 ?_
  refine evc_i 37 (!s == []) false ?_
  refine evc_g 50 ?_
  refine evc_i 80 ((↑l.length : Int) != 0) false ?_
  refine evc_g 59 ?_
  exact evc_t (Val.int IntKind.i64 0)
theorem w82_2_n (h : (n : Int) ≠ 0) (S : St) : Go.V.Call E0 82 [.agg (i4 2 n s l q)] S (.int .i64 11) S := by
  refine call_cfg (by kernel_rfl) ?_
  refine evc_g 65 ?_
  refine evc_i 47 ((↑n : Int) != 0) true ?_
  refine evc_g 5 ?_
  exact evc_t (Val.int IntKind.i64 11)
theorem w82_2_l (h : (n : Int) = 0) (h2 : (l.length : Int) ≠ 0) (S : St) : Go.V.Call E0 82 [.agg (i4 2 n s l q)] S (.int .i64 11) S := by
  refine call_cfg (by kernel_rfl) ?_
  refine evc_g 65 ?_
  refine evc_i 47 ((↑n : Int) != 0) false ?_
  refine evc_g 39 ?_
  refine evc_i 80 ((↑l.length : Int) != 0) true ?_
  refine evc_g 5 ?_
  exact evc_t (Val.int IntKind.i64 11)
theorem w82_3_n (h : (n : Int) ≠ 0) (S : St) : Go.V.Call E0 82 [.agg (i4 3 n s l q)] S (.int .i64 11) S := by
  refine call_cfg (by kernel_rfl) ?_
  refine evc_g 65 ?_
  refine evc_i 47 ((↑n : Int) != 0) true ?_
  refine evc_g 5 ?_
  exact evc_t (Val.int IntKind.i64 11)
theorem w82_3_l (h : (n : Int) = 0) (h2 : (l.length : Int) ≠ 0) (S : St) : Go.V.Call E0 82 [.agg (i4 3 n s l q)] S (.int .i64 11) S := by
  refine call_cfg (by kernel_rfl) ?_
  refine evc_g 65 ?_
  refine evc_i 47 ((↑n : Int) != 0) false ?_
  refine evc_g 39 ?_
  refine evc_i 80 ((↑l.length : Int) != 0) true ?_
  refine evc_g 5 ?_
  exact evc_t (Val.int IntKind.i64 11)
theorem w82_2_o (h : (n : Int) = 0) (h2 : (l.length : Int) = 0) (S : St) : Go.V.Call E0 82 [.agg (i4 2 n s l q)] S (.int .i64 0) S := by
  refine call_cfg (by kernel_rfl) ?_
  refine evc_g 65 ?_
  refine evc_i 47 ((↑n : Int) != 0) false ?_
  refine evc_g 39 ?_
  refine evc_i 80 ((↑l.length : Int) != 0) false ?_
  refine evc_g 59 ?_
  exact evc_t (Val.int IntKind.i64 0)
theorem w82_3_o (h : (n : Int) = 0) (h2 : (l.length : Int) = 0) (a : Int) (val : Bool) (h75 : ∀ S, Go.V.Call E0 75 [.str s] S (.tup [.int .i64 a, .bool val]) S) (S : St) : Go.V.Call E0 82 [.agg (i4 3 n s l q)] S (.int .i64 (if val then 0 else 6)) S := by
  refine call_cfg (by kernel_rfl) ?_
  refine evc_g 65 ?_
  refine evc_i 47 ((↑n : Int) != 0) false ?_
  refine evc_g 39 ?_
  refine evc_i 80 ((↑l.length : Int) != 0) false ?_
  refine evc_g 50 ?_
  refine evc_c (h75 (S)) ?_
  refine evc_g 11 ?_
  refine evc_s 121 (!val) (fun h12 => ?_) (fun h12 => ?_)
  · refine evc_g 5 ?_
    exact evc_t (Val.int IntKind.i64 6)
  · refine evc_g 14 ?_
    exact evc_t (Val.int IntKind.i64 0)
theorem w82_4_s (h : s ≠ []) (S : St) : Go.V.Call E0 82 [.agg (i4 4 n s l q)] S (.int .i64 11) S := by
  refine call_cfg (by kernel_rfl) ?_
  refine evc_g 54 ?_
  refine evc_i 37 (!s == []) true ?_
  refine evc_g 16 ?_
  exact evc_t (Val.int IntKind.i64 11)
theorem w82_4_n (h : s = []) (h2 : (n : Int) ≠ 0) (S : St) : Go.V.Call E0 82 [.agg (i4 4 n s l q)] S (.int .i64 11) S := by
  refine call_cfg (by kernel_rfl) ?_
  refine evc_g 54 ?_
  refine evc_i 37 (!s == []) false ?_
  refine evc_g 11 ?_
  refine evc_i 47 ((↑n : Int) != 0) true ?_
  refine evc_g 5 ?_
  exact evc_t (Val.int IntKind.i64 11)
theorem w82_5_s (h : s ≠ []) (S : St) : Go.V.Call E0 82 [.agg (i4 5 n s l q)] S (.int .i64 11) S := by
  refine call_cfg (by kernel_rfl) ?_
  refine evc_g 54 ?_
  refine evc_i 37 (!s == []) true ?_
  refine evc_g 16 ?_
  exact evc_t (Val.int IntKind.i64 11)
theorem w82_5_n (h : s = []) (h2 : (n : Int) ≠ 0) (S : St) : Go.V.Call E0 82 [.agg (i4 5 n s l q)] S (.int .i64 11) S := by
  refine call_cfg (by kernel_rfl) ?_
  refine evc_g 54 ?_
  refine evc_i 37 (!s == []) false ?_
  refine evc_g 11 ?_
  refine evc_i 47 ((↑n : Int) != 0) true ?_
  refine evc_g 5 ?_
  exact evc_t (Val.int IntKind.i64 11)
theorem w82_4_o (h : s = []) (h2 : (n : Int) = 0) (S : St) : Go.V.Call E0 82 [.agg (i4 4 n s l q)] S (.int .i64 0) S := by
  refine call_cfg (by kernel_rfl) ?_
  refine evc_g 54 ?_
  refine evc_i 37 (!s == []) false ?_
  refine evc_g 11 ?_
  refine evc_i 47 ((↑n : Int) != 0) false ?_
  refine evc_g 98 ?_
  exact evc_t (Val.int IntKind.i64 0)
theorem w82_5_l (h : s = []) (h2 : (n : Int) = 0) (h3 : ((l.length : Int).tmod 2) ≠ 0) (S : St) : Go.V.Call E0 82 [.agg (i4 5 n s l q)] S (.int .i64 11) S := by
  refine call_cfg (by kernel_rfl) ?_
  refine evc_g 54 ?_
  refine evc_i 37 (!s == []) false ?_
  refine evc_g 11 ?_
  refine evc_i 47 ((↑n : Int) != 0) false ?_
  refine evc_g 25 ?_
  refine evc_i 67 ((↑l.length : Int).tmod 2 != 0) true ?_
  refine evc_g 19 ?_
  exact evc_t (Val.int IntKind.i64 11)
theorem w82_5_o (h : s = []) (h2 : (n : Int) = 0) (h3 : ((l.length : Int).tmod 2) = 0) (m : Nat) (hm : l.length = 2 * m) (hl : m ≤ 2 ^ 29) (S : St) (hcall : ∀ x ∈ l, ∀ y S, Go.V.Call E0 115 [.agg (encI x), .agg (encI y)] S (.bool (alikeI x y)) S) :
    Go.V.Call E0 82 [.agg (i4 5 n s l q)] S (.int .i64 (e14 (twR (evens l)))) S := by
  have L := LO82 n s q l m hm hl S hcall m 0 (by omega)
  simp only [List.drop_zero] at L
  generalize twR (evens l) = R at *
  clear hcall
  refine call_cfg (by kernel_rfl) ?_
  refine evc_g 54 ?_
  refine evc_i 37 (!s == []) false ?_
  refine evc_g 11 ?_
  refine evc_i 47 ((↑n : Int) != 0) false ?_
  refine evc_g 25 ?_
  refine evc_i 67 ((↑l.length : Int).tmod 2 != 0) false ?_
  refine evc_g 74 ?_
  exact evc_a (L)
theorem w82_6_s (h : s ≠ []) (S : St) : Go.V.Call E0 82 [.agg (i4 6 n s l q)] S (.int .i64 11) S := by
  refine call_cfg (by kernel_rfl) ?_
  refine evc_g 54 ?_
  refine evc_i 37 (!s == []) true ?_
  refine evc_g 16 ?_
  exact evc_t (Val.int IntKind.i64 11)
theorem w82_6_l (h : s = []) (h2 : (l.length : Int) ≠ 1) (S : St) : Go.V.Call E0 82 [.agg (i4 6 n s l q)] S (.int .i64 11) S := by
  refine call_cfg (by kernel_rfl) ?_
  refine evc_g 54 ?_
  refine evc_i 37 (!s == []) false ?_
  refine evc_g 25 ?_
  refine evc_i 56 ((↑l.length : Int) != 1) true ?_
  refine evc_g 30 ?_
  exact evc_t (Val.int IntKind.i64 11)
theorem w82_6_o (h : s = []) (h2 : (l.length : Int) = 1) (S : St) : Go.V.Call E0 82 [.agg (i4 6 n s l q)] S (.int .i64 0) S := by
  refine call_cfg (by kernel_rfl) ?_
  refine evc_g 54 ?_
  refine evc_i 37 (!s == []) false ?_
  refine evc_g 25 ?_
  refine evc_i 56 ((↑l.length : Int) != 1) false ?_
  refine evc_g 84 ?_
  exact evc_t (Val.int IntKind.i64 0)
theorem w82_7_s (h : s ≠ []) (S : St) : Go.V.Call E0 82 [.agg (i4 7 n s l q)] S (.int .i64 11) S := by
  refine call_cfg (by kernel_rfl) ?_
  refine evc_g 54 ?_
  refine evc_i 37 (!s == []) true ?_
  refine evc_g 16 ?_
  exact evc_t (Val.int IntKind.i64 11)
theorem w82_7_l (h : s = []) (h2 : (l.length : Int) ≠ 0) (S : St) : Go.V.Call E0 82 [.agg (i4 7 n s l q)] S (.int .i64 11) S := by
  refine call_cfg (by kernel_rfl) ?_
  refine evc_g 54 ?_
  refine evc_i 37 (!s == []) false ?_
  refine evc_g 50 ?_
  refine evc_i 80 ((↑l.length : Int) != 0) true ?_
  refine evc_g 5 ?_
  exact evc_t (Val.int IntKind.i64 11)
theorem w82_8_s (h : s ≠ []) (S : St) : Go.V.Call E0 82 [.agg (i4 8 n s l q)] S (.int .i64 11) S := by
  refine call_cfg (by kernel_rfl) ?_
  refine evc_g 54 ?_
  refine evc_i 37 (!s == []) true ?_
  refine evc_g 16 ?_
  exact evc_t (Val.int IntKind.i64 11)
theorem w82_8_l (h : s = []) (h2 : (l.length : Int) ≠ 0) (S : St) : Go.V.Call E0 82 [.agg (i4 8 n s l q)] S (.int .i64 11) S := by
  refine call_cfg (by kernel_rfl) ?_
  refine evc_g 54 ?_
  refine evc_i 37 (!s == []) false ?_
  refine evc_g 50 ?_
  refine evc_i 80 ((↑l.length : Int) != 0) true ?_
  refine evc_g 5 ?_
  exact evc_t (Val.int IntKind.i64 11)
theorem w82_7_a (h : s = []) (h2 : (l.length : Int) = 0) (h3 : (n : Int) > 255) (S : St) : Go.V.Call E0 82 [.agg (i4 7 n s l q)] S (.int .i64 15) S := by
  refine call_cfg (by kernel_rfl) ?_
  refine evc_g 54 ?_
  refine evc_i 37 (!s == []) false ?_
  refine evc_g 50 ?_
  refine evc_i 80 ((↑l.length : Int) != 0) false ?_
  refine evc_g 12 ?_
  refine evc_i 87 (decide ((↑n : Int) > 255)) true ?_
  refine evc_g 30 ?_
  exact evc_t (Val.int IntKind.i64 15)
theorem w82_7_b (h : s = []) (h2 : (l.length : Int) = 0) (h3 : (n : Int) > 23) (h4 : (n : Int) < 32) (S : St) : Go.V.Call E0 82 [.agg (i4 7 n s l q)] S (.int .i64 15) S := by
  refine call_cfg (by kernel_rfl) ?_
  refine evc_g 54 ?_
  refine evc_i 37 (!s == []) false ?_
  refine evc_g 50 ?_
  refine evc_i 80 ((↑l.length : Int) != 0) false ?_
  refine evc_g 12 ?_
  refine evc_i 87 (decide ((↑n : Int) > 255)) false ?_
  refine evc_g 4 ?_
  refine evc_i 91 (decide ((↑n : Int) > 23)) true ?_
  refine evc_g 7 ?_
  refine evc_i 98 (decide ((↑n : Int) < 32)) true ?_
  refine evc_g 19 ?_
  exact evc_t (Val.int IntKind.i64 15)
theorem w82_7_c (h : s = []) (h2 : (l.length : Int) = 0) (h3 : ¬ (n : Int) > 23) (S : St) : Go.V.Call E0 82 [.agg (i4 7 n s l q)] S (.int .i64 0) S := by
  refine call_cfg (by kernel_rfl) ?_
  refine evc_g 54 ?_
  refine evc_i 37 (!s == []) false ?_
  refine evc_g 50 ?_
  refine evc_i 80 ((↑l.length : Int) != 0) false ?_
  refine evc_g 12 ?_
  refine evc_i 87 (decide ((↑n : Int) > 255)) false ?_
  refine evc_g 4 ?_
  refine evc_i 91 (decide ((↑n : Int) > 23)) false ?_
  refine evc_g 43 ?_
  exact evc_t (Val.int IntKind.i64 0)
theorem w82_7_d (h : s = []) (h2 : (l.length : Int) = 0) (h3 : ¬ (n : Int) < 32) (h4 : ¬ (n : Int) > 255) (S : St) : Go.V.Call E0 82 [.agg (i4 7 n s l q)] S (.int .i64 0) S := by
  refine call_cfg (by kernel_rfl) ?_
  refine evc_g 54 ?_
  refine evc_i 37 (!s == []) false ?_
  refine evc_g 50 ?_
  refine evc_i 80 ((↑l.length : Int) != 0) false ?_
  refine evc_g 12 ?_
  refine evc_i 87 (decide ((↑n : Int) > 255)) false ?_
  refine evc_g 4 ?_
  refine evc_i 91 (decide ((↑n : Int) > 23)) true ?_
  refine evc_g 7 ?_
  refine evc_i 98 (decide ((↑n : Int) < 32)) false ?_
  refine evc_g 36 ?_
  exact evc_t (Val.int IntKind.i64 0)
theorem w82_8_a (h : s = []) (h2 : (l.length : Int) = 0) (h114 : ∀ S, Go.V.Call E0 114 [.int .u64 (n : Int)] S (.bool false) S) (S : St) : Go.V.Call E0 82 [.agg (i4 8 n s l q)] S (.int .i64 0) S := by
  refine call_cfg (by kernel_rfl) ?_
  refine evc_g 54 ?_
  refine evc_i 37 (!s == []) false ?_
  refine evc_g 50 ?_
  refine evc_i 80 ((↑l.length : Int) != 0) false ?_
  refine evc_g 28 ?_
  refine evc_c (h114 (S)) ?_
  refine evc_g 30 ?_
  exact evc_t (Val.int IntKind.i64 0)
theorem w82_8_b (h : s = []) (h2 : (l.length : Int) = 0) (h3 : (n : Int) ≠ 9221120237041090560) (h114 : ∀ S, Go.V.Call E0 114 [.int .u64 (n : Int)] S (.bool true) S) (S : St) : Go.V.Call E0 82 [.agg (i4 8 n s l q)] S (.int .i64 15) S := by
  refine call_cfg (by kernel_rfl) ?_
  refine evc_g 54 ?_
  refine evc_i 37 (!s == []) false ?_
  refine evc_g 50 ?_
  refine evc_i 80 ((↑l.length : Int) != 0) false ?_
  refine evc_g 28 ?_
  refine evc_c (h114 (S)) ?_
  refine evc_g 8 ?_
  refine evc_i 111 ((↑n : Int) != 9221120237041090560) true ?_
  refine evc_g 5 ?_
  exact evc_t (Val.int IntKind.i64 15)
theorem w82_8_c (h : s = []) (h2 : (l.length : Int) = 0) (h3 : (n : Int) = 9221120237041090560) (h114 : ∀ S, Go.V.Call E0 114 [.int .u64 (n : Int)] S (.bool true) S) (S : St) : Go.V.Call E0 82 [.agg (i4 8 n s l q)] S (.int .i64 0) S := by
  refine call_cfg (by kernel_rfl) ?_
  refine evc_g 54 ?_
  refine evc_i 37 (!s == []) false ?_
  refine evc_g 50 ?_
  refine evc_i 80 ((↑l.length : Int) != 0) false ?_
  refine evc_g 28 ?_
  refine evc_c (h114 (S)) ?_
  refine evc_g 8 ?_
  refine evc_i 111 ((↑n : Int) != 9221120237041090560) false ?_
  refine evc_g 22 ?_
  exact evc_t (Val.int IntKind.i64 0)
end
end Go.V.W
