/- Nodes, schemas that are the same: slices.Equal, EqualFunc, same (schema), SameNode, Same (ullageref16). -/
import Derived.Test.YtgnfinbhnoofpaaDoorVH
import Derived.Test.YtgnfinbhnoofpaaDoorE0
import Derived.Test.YtgnfinbhnoofpaaDoorSch
import Derived.Test.YtgnfinbhnoofpaaDoorSame
set_option linter.unusedVariables false
set_option linter.unusedSimpArgs false
set_option linter.unusedSectionVars false
open Go Go.V
set_option maxRecDepth 100000
set_option maxHeartbeats 4000000
namespace Go.V.W
def eqZ : List Int → List Int → Bool
  | [], [] => true
  | x :: l, y :: l' => x == y && eqZ l l'
  | _, _ => false
def fdEq (a b : Fd) : Bool := a.key == b.key && (a.node == b.node && a.opt == b.opt)
def eqF : List Fd → List Fd → Bool
  | [], [] => true
  | x :: l, y :: l' => fdEq x y && eqF l l'
  | _, _ => false
theorem eqZ_len : ∀ {l l' : List Int}, l.length ≠ l'.length → eqZ l l' = false
  | [], [], h => absurd rfl h
  | [], _ :: _, _ => rfl
  | _ :: _, [], _ => rfl
  | x :: l, y :: l', h => by simp only [eqZ, eqZ_len (l := l) (l' := l') (fun e => h (by simp [e])), Bool.and_false]
theorem eqF_len : ∀ {l l' : List Fd}, l.length ≠ l'.length → eqF l l' = false
  | [], [], h => absurd rfl h
  | [], _ :: _, _ => rfl
  | _ :: _, [], _ => rfl
  | x :: l, y :: l', h => by simp only [eqF, eqF_len (l := l) (l' := l') (fun e => h (by simp [e])), Bool.and_false]
theorem bin_F (a b : Fd) : binOp E0 .neq 101 (.agg (encF a)) (.agg (encF b)) = some (.bool (!(fdEq a b))) := by
  obtain ⟨k, n, o⟩ := a
  obtain ⟨k', n', o'⟩ := b
  have e : binOp E0 .neq 101 (.agg (encF ⟨k, n, o⟩)) (.agg (encF ⟨k', n', o'⟩)) = (match some (k == k') with
      | some true => (match some (n == n') with
        | some true => (match some (o == o') with
          | some true => some true
          | r => r)
        | r => r)
      | r => r).map (fun b => Val.bool (!b)) := by kernel_rfl
  rw [e]
  simp only [fdEq]
  cases k == k' <;> cases n == n' <;> cases o == o' <;> rfl
noncomputable def P122 : Pos := (goT E0 1 (ctxOf E0 122) 24 (entry E0 122 [.sli [] 0 .nil, .sli [] 0 .nil] ⟨[], []⟩)).pos
noncomputable def P123 : Pos := (goT E0 1 (ctxOf E0 123) 24 (entry E0 123 [.sli [] 0 .nil, .sli [] 0 .nil] ⟨[], []⟩)).pos
section
variable (q q' : Q) (S : St)
theorem L122 (l l' : List Int) (hl : l.length ≤ 2 ^ 40) (hll : l'.length = l.length) : ∀ (m i : Nat), i + m = l.length →
    EvC E0 (ctxOf E0 122) ⟨P122, [(0, .sli (encZ l) l.length q), (1, .sli (encZ l') l'.length q'), (12, .int .i64 (l.length : Int)), (13, .int .i64 (i : Int))], S⟩ (Go.V.Fin E0 122 S (.bool (eqZ (l.drop i) (l'.drop i))) S) := by
  intro m
  induction m with
  | zero =>
    intro i hi
    have e : l.drop i = [] := List.drop_eq_nil_of_le (by omega)
    have e' : l'.drop i = [] := List.drop_eq_nil_of_le (by omega)
    have g : ¬ (i : Int) < (l.length : Int) := by omega
    rw [e, e']
    simp only [eqZ]
    refine evc_g 5 ?_
    refine evc_i 14 (decide ((↑i : Int) < (↑l.length : Int))) false ?_
    refine evc_g 6 ?_
    exact evc_t (Val.bool Bool.true)
  | succ m ihm =>
    intro i hi
    have hlt : i < l.length := by omega
    have g : (i : Int) < (l.length : Int) := by omega
    obtain ⟨x, hx⟩ : ∃ x, l[i]? = some x := ⟨l[i], List.getElem?_eq_getElem hlt⟩
    obtain ⟨y, hy⟩ : ∃ y, l'[i]? = some y := ⟨l'[i], List.getElem?_eq_getElem (by omega)⟩
    have hcx := get_Z hx
    have hcy := get_Z hy
    have hdx : l.drop i = x :: l.drop (i + 1) := by
      obtain ⟨_, rfl⟩ := List.getElem?_eq_some_iff.1 hx
      exact List.drop_eq_getElem_cons hlt
    have hdy : l'.drop i = y :: l'.drop (i + 1) := by
      obtain ⟨hl', rfl⟩ := List.getElem?_eq_some_iff.1 hy
      exact List.drop_eq_getElem_cons hl'
    have ih := ihm (i + 1) (by omega)
    rw [hdx, hdy]
    simp only [eqZ]
    generalize eqZ (l.drop (i + 1)) (l'.drop (i + 1)) = r at *
    clear ihm hdx hdy
    refine evc_g 5 ?_
    refine evc_i 14 (decide ((↑i : Int) < (↑l.length : Int))) true ?_
    refine evc_g 13 ?_
    refine evc_idx (i) (l.length) (encZ l) 1 (by kernel_rfl) (by first | with_reducible rfl | assumption | (simp_all; done) | omega | (simp_all; omega)) (by kernel_rfl) ?_
    refine evc_get (encZ l) (i * 1) (Val.int IntKind.i64 x) .pure (by kernel_rfl) hcx (by kernel_rfl) ?_
    refine evc_g 2 ?_
    refine evc_idx (i) (l'.length) (encZ l') 1 (by kernel_rfl) (by first | with_reducible rfl | assumption | (simp_all; done) | omega | (simp_all; omega)) (by kernel_rfl) ?_
    refine evc_get (encZ l') (i * 1) (Val.int IntKind.i64 y) .pure (by kernel_rfl) hcy (by kernel_rfl) ?_
    refine evc_g 2 ?_
    refine evc_s 24 (x != y) (fun h12 => ?_) (fun h12 => ?_)
    · refine evc_g 5 ?_
      exact evc_t (Val.bool Bool.false)
    · -- HEAD 34 frame [(0, Val.sli (encZ l) l.length q), (1, Val.sli (encZ l') l'.length q'), (12, Val.int IntKind.i64 (↑l.length : Int)), (13, Val.int IntKind.i64 (IntKind.i64.wrap ((↑i : Int) + 1)))]
      refine evc_g 8 ?_
      refine evc_set 13 (Val.int IntKind.i64 (IntKind.i64.wrap ((↑i : Int) + 1))) (Val.int IntKind.i64 (↑(i + 1) : Int)) (by kernel_rfl) (congrArg (Val.int IntKind.i64) (wrap_nat (i := i) (m := 1) (by omega))) ?_
      exact evc_a (ih)
theorem c122 (l l' : List Int) (hl : l.length ≤ 2 ^ 40) : Go.V.Call E0 122 [.sli (encZ l) l.length q, .sli (encZ l') l'.length q'] S (.bool (eqZ l l')) S := by
  by_cases h : l'.length = l.length
  · have L := L122 q q' S l l' hl h l.length 0 (by omega)
    simp only [List.drop_zero] at L
    generalize eqZ l l' = r at *
    refine call_cfg (by kernel_rfl) ?_
    refine evc_g 13 ?_
    refine evc_i 10 ((↑l.length : Int) != (↑l'.length : Int)) false ?_
    refine evc_g 11 ?_
    exact evc_a (L)
  · rw [eqZ_len (fun e => h e.symm)]
    refine call_cfg (by kernel_rfl) ?_
    refine evc_g 13 ?_
    refine evc_i 10 ((↑l.length : Int) != (↑l'.length : Int)) true ?_
    refine evc_g 5 ?_
    exact evc_t (Val.bool Bool.false)
theorem L123 (l l' : List Fd) (hl : l.length ≤ 2 ^ 40) (hll : l'.length = l.length) : ∀ (m i : Nat), i + m = l.length →
    EvC E0 (ctxOf E0 123) ⟨P123, [(0, .sli (encFs l) l.length q), (1, .sli (encFs l') l'.length q'), (12, .int .i64 (l.length : Int)), (13, .int .i64 (i : Int))], S⟩ (Go.V.Fin E0 123 S (.bool (eqF (l.drop i) (l'.drop i))) S) := by
  intro m
  induction m with
  | zero =>
    intro i hi
    have e : l.drop i = [] := List.drop_eq_nil_of_le (by omega)
    have e' : l'.drop i = [] := List.drop_eq_nil_of_le (by omega)
    have g : ¬ (i : Int) < (l.length : Int) := by omega
    rw [e, e']
    simp only [eqF]
    refine evc_g 5 ?_
    refine evc_i 14 (decide ((↑i : Int) < (↑l.length : Int))) false ?_
    refine evc_g 6 ?_
    exact evc_t (Val.bool Bool.true)
  | succ m ihm =>
    intro i hi
    have hlt : i < l.length := by omega
    have g : (i : Int) < (l.length : Int) := by omega
    obtain ⟨x, hx⟩ : ∃ x, l[i]? = some x := ⟨l[i], List.getElem?_eq_getElem hlt⟩
    obtain ⟨y, hy⟩ : ∃ y, l'[i]? = some y := ⟨l'[i], List.getElem?_eq_getElem (by omega)⟩
    have hcx := cut_F hx
    have hcy := cut_F hy
    have hdx : l.drop i = x :: l.drop (i + 1) := by
      obtain ⟨_, rfl⟩ := List.getElem?_eq_some_iff.1 hx
      exact List.drop_eq_getElem_cons hlt
    have hdy : l'.drop i = y :: l'.drop (i + 1) := by
      obtain ⟨hl', rfl⟩ := List.getElem?_eq_some_iff.1 hy
      exact List.drop_eq_getElem_cons hl'
    have hb := bin_F x y
    have ih := ihm (i + 1) (by omega)
    rw [hdx, hdy]
    simp only [eqF]
    generalize eqF (l.drop (i + 1)) (l'.drop (i + 1)) = r at *
    generalize fdEq x y = a at *
    clear ihm hdx hdy
    simp only [encF] at *
    cases a with
    | true =>
      simp only [Bool.not_true, Bool.true_and] at *
      refine evc_g 5 ?_
      refine evc_i 14 (decide ((↑i : Int) < (↑l.length : Int))) true ?_
      refine evc_g 13 ?_
      refine evc_idx (i) (l.length) (encFs l) 3 (by kernel_rfl) (by first | with_reducible rfl | assumption | (simp_all; done) | omega | (simp_all; omega)) (by kernel_rfl) ?_
      refine evc_cut (encFs l) (i * 3) 3 ([Val.str x.key, Val.int IntKind.i64 x.node, Val.bool x.opt]) .pure (by kernel_rfl) hcx (by kernel_rfl) ?_
      refine evc_g 2 ?_
      refine evc_idx (i) (l'.length) (encFs l') 3 (by kernel_rfl) (by first | with_reducible rfl | assumption | (simp_all; done) | omega | (simp_all; omega)) (by kernel_rfl) ?_
      refine evc_cut (encFs l') (i * 3) 3 ([Val.str y.key, Val.int IntKind.i64 y.node, Val.bool y.opt]) .pure (by kernel_rfl) hcy (by kernel_rfl) ?_
      refine evc_bin Go.BinOp.neq 101 (Val.agg [Val.str x.key, Val.int IntKind.i64 x.node, Val.bool x.opt]) (Val.agg [Val.str y.key, Val.int IntKind.i64 y.node, Val.bool y.opt]) (Val.bool Bool.false) (by kernel_rfl) hb (by kernel_rfl) ?_
      refine evc_g 9 ?_
      refine evc_set 13 (Val.int IntKind.i64 (IntKind.i64.wrap ((↑i : Int) + 1))) (Val.int IntKind.i64 (↑(i + 1) : Int)) (by kernel_rfl) (congrArg (Val.int IntKind.i64) (wrap_nat (i := i) (m := 1) (by omega))) ?_
      exact evc_a (ih)
    | false =>
      simp only [Bool.not_false, Bool.false_and] at *
      clear ih
      refine evc_g 5 ?_
      refine evc_i 14 (decide ((↑i : Int) < (↑l.length : Int))) true ?_
      refine evc_g 13 ?_
      refine evc_idx (i) (l.length) (encFs l) 3 (by kernel_rfl) (by first | with_reducible rfl | assumption | (simp_all; done) | omega | (simp_all; omega)) (by kernel_rfl) ?_
      refine evc_cut (encFs l) (i * 3) 3 ([Val.str x.key, Val.int IntKind.i64 x.node, Val.bool x.opt]) .pure (by kernel_rfl) hcx (by kernel_rfl) ?_
      refine evc_g 2 ?_
      refine evc_idx (i) (l'.length) (encFs l') 3 (by kernel_rfl) (by first | with_reducible rfl | assumption | (simp_all; done) | omega | (simp_all; omega)) (by kernel_rfl) ?_
      refine evc_cut (encFs l') (i * 3) 3 ([Val.str y.key, Val.int IntKind.i64 y.node, Val.bool y.opt]) .pure (by kernel_rfl) hcy (by kernel_rfl) ?_
      refine evc_bin Go.BinOp.neq 101 (Val.agg [Val.str x.key, Val.int IntKind.i64 x.node, Val.bool x.opt]) (Val.agg [Val.str y.key, Val.int IntKind.i64 y.node, Val.bool y.opt]) (Val.bool Bool.true) (by kernel_rfl) hb (by kernel_rfl) ?_
      refine evc_g 6 ?_
      exact evc_t (Val.bool Bool.false)
theorem c123 (l l' : List Fd) (hl : l.length ≤ 2 ^ 40) : Go.V.Call E0 123 [.sli (encFs l) l.length q, .sli (encFs l') l'.length q'] S (.bool (eqF l l')) S := by
  by_cases h : l'.length = l.length
  · have L := L123 q q' S l l' hl h l.length 0 (by omega)
    simp only [List.drop_zero] at L
    generalize eqF l l' = r at *
    refine call_cfg (by kernel_rfl) ?_
    refine evc_g 13 ?_
    refine evc_i 10 ((↑l.length : Int) != (↑l'.length : Int)) false ?_
    refine evc_g 11 ?_
    exact evc_a (L)
  · rw [eqF_len (fun e => h e.symm)]
    refine call_cfg (by kernel_rfl) ?_
    refine evc_g 13 ?_
    refine evc_i 10 ((↑l.length : Int) != (↑l'.length : Int)) true ?_
    refine evc_g 5 ?_
    exact evc_t (Val.bool Bool.false)
end
end Go.V.W
