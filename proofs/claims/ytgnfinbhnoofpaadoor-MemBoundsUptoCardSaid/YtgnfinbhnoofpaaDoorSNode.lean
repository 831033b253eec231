/- Nodes, schemas that are the same: same (schema), SameNode, both Same. -/
import Derived.Test.YtgnfinbhnoofpaaDoorVH
import Derived.Test.YtgnfinbhnoofpaaDoorSEq
import Derived.Test.YtgnfinbhnoofpaaDoorItemCheck
set_option linter.unusedVariables false
set_option linter.unusedSimpArgs false
set_option linter.unusedSectionVars false
open Go Go.V
set_option maxRecDepth 100000
set_option maxHeartbeats 4000000
namespace Go.V.W
/-- are two nodes the same? -/
def sameNd (a b : Nd) : Bool := a.k == b.k && (a.lo == b.lo && (a.hi == b.hi && (sameI a.v b.v && (eqZ a.l b.l && eqF a.f b.f))))
/-- a node within bounds -/
structure okN (n : Nd) : Prop where
  v : okI n.v
  l : n.l.length ≤ 2 ^ 40
  f : n.f.length ≤ 2 ^ 40
  keys : ∀ x ∈ n.f, x.key.length ≤ 2 ^ 60
theorem c86 (a b : Nd) (ha : okN a) (S : St) : Go.V.Call E0 86 [.agg (encN a), .agg (encN b)] S (.bool (sameNd a b)) S := by
  have h27 := c27 (2 ^ 30) a.v b.v (encI a.v) S ha.v.2.1 ha.v.1 (RepI_enc _ a.v)
  have h122 := c122 a.ql b.ql S a.l b.l ha.l
  have h123 := c123 a.qf b.qf S a.f b.f ha.f
  obtain ⟨k, lo, hi, v, l, ql, f, qf⟩ := a
  obtain ⟨k', lo', hi', v', l', ql', f', qf'⟩ := b
  simp only [sameNd] at *
  clear ha
  generalize sameI v v' = sv at *
  generalize eqZ l l' = zl at *
  generalize eqF f f' = fl at *
  cases v with
  | mk vk vn vs vq vl =>
  cases v' with
  | mk vk' vn' vs' vq' vl' =>
  rw [encI_mk, encI_mk] at h27
  rw [encN_mk, encN_mk]
  refine call_cfg (by kernel_rfl) ?_
  refine evc_g 14 ?_
  refine evc_s 10 (k == k') (fun h12 => ?_) (fun h12 => ?_)
  · refine evc_g 7 ?_
    refine evc_s 17 (lo == lo') (fun h11 => ?_) (fun h11 => ?_)
    · refine evc_g 7 ?_
      refine evc_s 24 (hi == hi') (fun h10 => ?_) (fun h10 => ?_)
      · refine evc_g 4 ?_
        refine evc_c (h27) ?_
        refine evc_g 2 ?_
        refine evc_s 31 (sv) (fun h9 => ?_) (fun h9 => ?_)
        · refine evc_g 4 ?_
          refine evc_c (h122) ?_
          refine evc_g 2 ?_
          refine evc_s 38 (zl) (fun h8 => ?_) (fun h8 => ?_)
          · refine evc_g 4 ?_
            refine evc_c (h123) ?_
            refine evc_g 3 ?_
            exact evc_t (Val.bool fl)
          · refine evc_g 8 ?_
            exact evc_t (Val.bool Bool.false)
        · refine evc_g 15 ?_
          exact evc_t (Val.bool Bool.false)
      · refine evc_g 22 ?_
        exact evc_t (Val.bool Bool.false)
    · refine evc_g 29 ?_
      exact evc_t (Val.bool Bool.false)
  · refine evc_g 36 ?_
    exact evc_t (Val.bool Bool.false)
abbrev zn : List Val := [.int .i64 0, .int .i64 0, .int .i64 0, .int .i64 0, .int .u64 0, .str [], .sli [] 0 .nil, .sli [.int .i64 1, .int .i64 2] 2 .exact, .sli [.str [], .int .i64 1, .bool true] 1 .exact]
noncomputable def PZ87 : Pos := (goT E0 1000 (ctxOf E0 87) 64 (entry E0 87 [.agg zn, .agg zn] ⟨[], []⟩)).pos
noncomputable def PF87 : Pos := (goT E0 1000 (ctxOf E0 87) 154 (entry E0 87 [.agg zn, .agg zn] ⟨[], []⟩)).pos
section
variable (k lo hi vk vn : Int) (vs : List UInt8) (vl : List It) (vq : Q) (l : List Int) (ql : Q) (f : List Fd) (qf : Q) (k' lo' hi' vk' vn' : Int) (vs' : List UInt8) (vl' : List It) (vq' : Q) (l' : List Int) (ql' : Q) (f' : List Fd) (qf' : Q) (S : St)
theorem LF87 (hl : f.length ≤ 2 ^ 40) (hll : f'.length = f.length) : ∀ (m i : Nat), i + m = f.length →
    EvC E0 (ctxOf E0 87) ⟨PF87, [(2, .lv (n9 k lo hi vk vn vs vl vq l ql f qf)), (3, .lv (n9 k' lo' hi' vk' vn' vs' vl' vq' l' ql' f' qf')), (6, .int .i64 (i : Int))], S⟩ (Go.V.Fin E0 87 S (.bool (eqF (f.drop i) (f'.drop i))) S) := by
  intro m
  induction m with
  | zero =>
    intro i hi
    have e : f.drop i = [] := List.drop_eq_nil_of_le (by omega)
    have e' : f'.drop i = [] := List.drop_eq_nil_of_le (by omega)
    have g : ¬ (i : Int) < (f.length : Int) := by omega
    rw [e, e']
    simp only [eqF]
    refine evc_g 9 ?_
    refine evc_i 74 (decide ((↑i : Int) < (↑f.length : Int))) false ?_
    refine evc_g 6 ?_
    exact evc_t (Val.bool Bool.true)
  | succ m ihm =>
    intro i hi
    have hlt : i < f.length := by omega
    have g : (i : Int) < (f.length : Int) := by omega
    obtain ⟨x, hx⟩ : ∃ x, f[i]? = some x := ⟨f[i], List.getElem?_eq_getElem hlt⟩
    obtain ⟨y, hy⟩ : ∃ y, f'[i]? = some y := ⟨f'[i], List.getElem?_eq_getElem (by omega)⟩
    have hcx := cut_F hx
    have hcy := cut_F hy
    have hdx : f.drop i = x :: f.drop (i + 1) := by
      obtain ⟨_, rfl⟩ := List.getElem?_eq_some_iff.1 hx
      exact List.drop_eq_getElem_cons hlt
    have hdy : f'.drop i = y :: f'.drop (i + 1) := by
      obtain ⟨hl', rfl⟩ := List.getElem?_eq_some_iff.1 hy
      exact List.drop_eq_getElem_cons hl'
    have hb := bin_F x y
    have ih := ihm (i + 1) (by omega)
    rw [hdx, hdy]
    simp only [eqF]
    generalize eqF (f.drop (i + 1)) (f'.drop (i + 1)) = r at *
    generalize fdEq x y = a at *
    clear ihm hdx hdy
    simp only [encF] at *
    cases a with
    | true =>
      simp only [Bool.not_true, Bool.true_and] at *
      refine evc_g 9 ?_
      refine evc_i 74 (decide ((↑i : Int) < (↑f.length : Int))) true ?_
      refine evc_g 9 ?_
      refine evc_idx (i) (f.length) (encFs f) 3 (by kernel_rfl) (by first | with_reducible rfl | assumption | (simp_all; done) | omega | (simp_all; omega)) (by kernel_rfl) ?_
      refine evc_cut (encFs f) (i * 3) 3 ([Val.str x.key, Val.int IntKind.i64 x.node, Val.bool x.opt]) .pure (by kernel_rfl) hcx (by kernel_rfl) ?_
      refine evc_g 3 ?_
      refine evc_idx (i) (f'.length) (encFs f') 3 (by kernel_rfl) (by first | with_reducible rfl | assumption | (simp_all; done) | omega | (simp_all; omega)) (by kernel_rfl) ?_
      refine evc_cut (encFs f') (i * 3) 3 ([Val.str y.key, Val.int IntKind.i64 y.node, Val.bool y.opt]) .pure (by kernel_rfl) hcy (by kernel_rfl) ?_
      refine evc_bin Go.BinOp.neq 101 (Val.agg [Val.str x.key, Val.int IntKind.i64 x.node, Val.bool x.opt]) (Val.agg [Val.str y.key, Val.int IntKind.i64 y.node, Val.bool y.opt]) (Val.bool Bool.false) (by kernel_rfl) hb (by kernel_rfl) ?_
      refine evc_g 10 ?_
      refine evc_set 6 (Val.int IntKind.i64 (IntKind.i64.wrap ((↑i : Int) + 1))) (Val.int IntKind.i64 (↑(i + 1) : Int)) (by kernel_rfl) (congrArg (Val.int IntKind.i64) (wrap_nat (i := i) (m := 1) (by omega))) ?_
      exact evc_a (ih)
    | false =>
      simp only [Bool.not_false, Bool.false_and] at *
      clear ih
      refine evc_g 9 ?_
      refine evc_i 74 (decide ((↑i : Int) < (↑f.length : Int))) true ?_
      refine evc_g 9 ?_
      refine evc_idx (i) (f.length) (encFs f) 3 (by kernel_rfl) (by first | with_reducible rfl | assumption | (simp_all; done) | omega | (simp_all; omega)) (by kernel_rfl) ?_
      refine evc_cut (encFs f) (i * 3) 3 ([Val.str x.key, Val.int IntKind.i64 x.node, Val.bool x.opt]) .pure (by kernel_rfl) hcx (by kernel_rfl) ?_
      refine evc_g 3 ?_
      refine evc_idx (i) (f'.length) (encFs f') 3 (by kernel_rfl) (by first | with_reducible rfl | assumption | (simp_all; done) | omega | (simp_all; omega)) (by kernel_rfl) ?_
      refine evc_cut (encFs f') (i * 3) 3 ([Val.str y.key, Val.int IntKind.i64 y.node, Val.bool y.opt]) .pure (by kernel_rfl) hcy (by kernel_rfl) ?_
      refine evc_bin Go.BinOp.neq 101 (Val.agg [Val.str x.key, Val.int IntKind.i64 x.node, Val.bool x.opt]) (Val.agg [Val.str y.key, Val.int IntKind.i64 y.node, Val.bool y.opt]) (Val.bool Bool.true) (by kernel_rfl) hb (by kernel_rfl) ?_
      refine evc_g 6 ?_
      exact evc_t (Val.bool Bool.false)
theorem LZ87 (hl : l.length ≤ 2 ^ 40) (hll : l'.length = l.length) (fl : Bool)
    (hF : EvC E0 (ctxOf E0 87) ⟨PF87, [(2, .lv (n9 k lo hi vk vn vs vl vq l ql f qf)), (3, .lv (n9 k' lo' hi' vk' vn' vs' vl' vq' l' ql' f' qf')), (6, .int .i64 0)], S⟩ (Go.V.Fin E0 87 S (.bool fl) S)) : ∀ (m i : Nat), i + m = l.length →
    EvC E0 (ctxOf E0 87) ⟨PZ87, [(2, .lv (n9 k lo hi vk vn vs vl vq l ql f qf)), (3, .lv (n9 k' lo' hi' vk' vn' vs' vl' vq' l' ql' f' qf')), (5, .int .i64 (i : Int))], S⟩ (Go.V.Fin E0 87 S (.bool (eqZ (l.drop i) (l'.drop i) && fl)) S) := by
  intro m
  induction m with
  | zero =>
    intro i hi
    have e : l.drop i = [] := List.drop_eq_nil_of_le (by omega)
    have e' : l'.drop i = [] := List.drop_eq_nil_of_le (by omega)
    have g : ¬ (i : Int) < (l.length : Int) := by omega
    rw [e, e']
    simp only [eqZ, Bool.true_and]
    refine evc_g 9 ?_
    refine evc_i 56 (decide ((↑i : Int) < (↑l.length : Int))) false ?_
    refine evc_g 9 ?_
    exact evc_a (hF)
  | succ m ihm =>
    intro i hi
    have hlt : i < l.length := by omega
    have g : (i : Int) < (l.length : Int) := by omega
    obtain ⟨x, hx⟩ : ∃ x, l[i]? = some x := ⟨l[i], List.getElem?_eq_getElem hlt⟩
    obtain ⟨y, hy⟩ : ∃ y, l'[i]? = some y := ⟨l'[i], List.getElem?_eq_getElem (by omega)⟩
    have hcx := get_Z hx
    have hcy := get_Z hy
    have hdx : l.drop i = x :: l.drop (i + 1) := by
      obtain ⟨_, rfl⟩ := List.getElem?_eq_some_iff.1 hx
      exact List.drop_eq_getElem_cons hlt
    have hdy : l'.drop i = y :: l'.drop (i + 1) := by
      obtain ⟨hl', rfl⟩ := List.getElem?_eq_some_iff.1 hy
      exact List.drop_eq_getElem_cons hl'
    have ih := ihm (i + 1) (by omega)
    rw [hdx, hdy]
    simp only [eqZ]
    generalize eqZ (l.drop (i + 1)) (l'.drop (i + 1)) = r at *
    clear ihm hdx hdy hF
    by_cases hxy : x = y
    · subst hxy
      simp only [beq_self_eq_true, Bool.true_and]
      refine evc_g 9 ?_
      refine evc_i 56 (decide ((↑i : Int) < (↑l.length : Int))) true ?_
      refine evc_g 9 ?_
      refine evc_idx (i) (l.length) (encZ l) 1 (by kernel_rfl) (by first | with_reducible rfl | assumption | (simp_all; done) | omega | (simp_all; omega)) (by kernel_rfl) ?_
      refine evc_get (encZ l) (i * 1) (Val.int IntKind.i64 x) .pure (by kernel_rfl) hcx (by kernel_rfl) ?_
      refine evc_g 3 ?_
      refine evc_idx (i) (l'.length) (encZ l') 1 (by kernel_rfl) (by first | with_reducible rfl | assumption | (simp_all; done) | omega | (simp_all; omega)) (by kernel_rfl) ?_
      refine evc_get (encZ l') (i * 1) (Val.int IntKind.i64 x) .pure (by kernel_rfl) hcy (by kernel_rfl) ?_
      refine evc_g 2 ?_
      refine evc_i 69 (x != x) false ?_
      refine evc_g 9 ?_
      refine evc_set 5 (Val.int IntKind.i64 (IntKind.i64.wrap ((↑i : Int) + 1))) (Val.int IntKind.i64 (↑(i + 1) : Int)) (by kernel_rfl) (congrArg (Val.int IntKind.i64) (wrap_nat (i := i) (m := 1) (by omega))) ?_
      exact evc_a (ih)
    · have e : (x == y) = false := by simpa using hxy
      simp only [e, Bool.false_and]
      clear ih
      refine evc_g 9 ?_
      refine evc_i 56 (decide ((↑i : Int) < (↑l.length : Int))) true ?_
      refine evc_g 9 ?_
      refine evc_idx (i) (l.length) (encZ l) 1 (by kernel_rfl) (by first | with_reducible rfl | assumption | (simp_all; done) | omega | (simp_all; omega)) (by kernel_rfl) ?_
      refine evc_get (encZ l) (i * 1) (Val.int IntKind.i64 x) .pure (by kernel_rfl) hcx (by kernel_rfl) ?_
      refine evc_g 3 ?_
      refine evc_idx (i) (l'.length) (encZ l') 1 (by kernel_rfl) (by first | with_reducible rfl | assumption | (simp_all; done) | omega | (simp_all; omega)) (by kernel_rfl) ?_
      refine evc_get (encZ l') (i * 1) (Val.int IntKind.i64 y) .pure (by kernel_rfl) hcy (by kernel_rfl) ?_
      refine evc_g 2 ?_
      refine evc_i 69 (x != y) true ?_
      refine evc_g 5 ?_
      exact evc_t (Val.bool Bool.false)
theorem c87' (sv : Bool) (h26 : Go.V.Call E0 26 [.agg (i4 vk vn vs vl vq), .agg (i4 vk' vn' vs' vl' vq')] S (.bool sv) S) (hl : l.length ≤ 2 ^ 40) (hf : f.length ≤ 2 ^ 40) :
    Go.V.Call E0 87 [.agg (n9 k lo hi vk vn vs vl vq l ql f qf), .agg (n9 k' lo' hi' vk' vn' vs' vl' vq' l' ql' f' qf')] S (.bool (k == k' && (lo == lo' && (hi == hi' && (sv && (eqZ l l' && eqF f f')))))) S := by
  by_cases h1 : k = k'
  · subst h1
    by_cases h2 : lo = lo'
    · subst h2
      by_cases h3 : hi = hi'
      · subst h3
        simp only [beq_self_eq_true, Bool.true_and]
        cases sv with
        | false =>
          simp only [Bool.false_and]
          refine call_cfg (by kernel_rfl) ?_
          refine evc_g 15 ?_
          refine evc_i 12 (k != k) false ?_
          refine evc_g 7 ?_
          refine evc_i 19 (lo != lo) false ?_
          refine evc_g 7 ?_
          refine evc_i 26 (hi != hi) false ?_
          refine evc_g 4 ?_
          refine evc_c (h26) ?_
          refine evc_g 26 ?_
          exact evc_t (Val.bool Bool.false)
        | true =>
          simp only [Bool.true_and]
          by_cases h4 : l'.length = l.length
          · by_cases h5 : f'.length = f.length
            · have LF := LF87 k lo hi vk vn vs vl vq l ql f qf k lo hi vk' vn' vs' vl' vq' l' ql' f' qf' S hf h5 f.length 0 (by omega)
              have L := LZ87 k lo hi vk vn vs vl vq l ql f qf k lo hi vk' vn' vs' vl' vq' l' ql' f' qf' S hl h4 _ LF l.length 0 (by omega)
              simp only [List.drop_zero] at L
              clear LF
              generalize (eqZ l l' && eqF f f') = r at *
              have e4 : (l.length : Int) = (l'.length : Int) := by omega
              have e5 : (f.length : Int) = (f'.length : Int) := by omega
              refine call_cfg (by kernel_rfl) ?_
              refine evc_g 15 ?_
              refine evc_i 12 (k != k) false ?_
              refine evc_g 7 ?_
              refine evc_i 19 (lo != lo) false ?_
              refine evc_g 7 ?_
              refine evc_i 26 (hi != hi) false ?_
              refine evc_g 4 ?_
              refine evc_c (h26) ?_
              refine evc_g 12 ?_
              refine evc_i 43 ((↑l.length : Int) != (↑l'.length : Int)) false ?_
              refine evc_g 9 ?_
              refine evc_i 51 ((↑f.length : Int) != (↑f'.length : Int)) false ?_
              refine evc_g 9 ?_
              exact evc_a (L)
            · have e4 : (l.length : Int) = (l'.length : Int) := by omega
              have e5 : ¬ (f.length : Int) = (f'.length : Int) := by omega
              rw [eqF_len (fun e => h5 e.symm), Bool.and_false]
              refine call_cfg (by kernel_rfl) ?_
              refine evc_g 15 ?_
              refine evc_i 12 (k != k) false ?_
              refine evc_g 7 ?_
              refine evc_i 19 (lo != lo) false ?_
              refine evc_g 7 ?_
              refine evc_i 26 (hi != hi) false ?_
              refine evc_g 4 ?_
              refine evc_c (h26) ?_
              refine evc_g 12 ?_
              refine evc_i 43 ((↑l.length : Int) != (↑l'.length : Int)) false ?_
              refine evc_g 9 ?_
              refine evc_i 51 ((↑f.length : Int) != (↑f'.length : Int)) true ?_
              refine evc_g 5 ?_
              exact evc_t (Val.bool Bool.false)
          · have e4 : ¬ (l.length : Int) = (l'.length : Int) := by omega
            rw [eqZ_len (fun e => h4 e.symm), Bool.false_and]
            refine call_cfg (by kernel_rfl) ?_
            refine evc_g 15 ?_
            refine evc_i 12 (k != k) false ?_
            refine evc_g 7 ?_
            refine evc_i 19 (lo != lo) false ?_
            refine evc_g 7 ?_
            refine evc_i 26 (hi != hi) false ?_
            refine evc_g 4 ?_
            refine evc_c (h26) ?_
            refine evc_g 12 ?_
            refine evc_i 43 ((↑l.length : Int) != (↑l'.length : Int)) true ?_
            refine evc_g 14 ?_
            exact evc_t (Val.bool Bool.false)
      · have e : (hi == hi') = false := by simpa using h3
        simp only [e, Bool.false_and, Bool.and_false]
        refine call_cfg (by kernel_rfl) ?_
        refine evc_g 15 ?_
        refine evc_i 12 (k != k) false ?_
        refine evc_g 7 ?_
        refine evc_i 19 (lo != lo) false ?_
        refine evc_g 7 ?_
        refine evc_i 26 (hi != hi') true ?_
        refine evc_g 31 ?_
        exact evc_t (Val.bool Bool.false)
    · have e : (lo == lo') = false := by simpa using h2
      simp only [e, Bool.false_and, Bool.and_false]
      refine call_cfg (by kernel_rfl) ?_
      refine evc_g 15 ?_
      refine evc_i 12 (k != k) false ?_
      refine evc_g 7 ?_
      refine evc_i 19 (lo != lo') true ?_
      refine evc_g 38 ?_
      exact evc_t (Val.bool Bool.false)
  · have e : (k == k') = false := by simpa using h1
    simp only [e, Bool.false_and]
    refine call_cfg (by kernel_rfl) ?_
    refine evc_g 15 ?_
    refine evc_i 12 (k != k') true ?_
    refine evc_g 45 ?_
    exact evc_t (Val.bool Bool.false)
end
theorem c87 (a b : Nd) (ha : okN a) (S : St) : Go.V.Call E0 87 [.agg (encN a), .agg (encN b)] S (.bool (sameNd a b)) S := by
  have h26 := c26 (2 ^ 30) a.v b.v (encI a.v) S ha.v.2.1 ha.v.1 (RepI_enc _ a.v)
  obtain ⟨k, lo, hi, v, l, ql, f, qf⟩ := a
  obtain ⟨k', lo', hi', v', l', ql', f', qf'⟩ := b
  cases v with
  | mk vk vn vs vq vl =>
  cases v' with
  | mk vk' vn' vs' vq' vl' =>
  rw [encI_mk, encI_mk] at h26
  rw [encN_mk, encN_mk]
  exact c87' k lo hi vk vn vs vl vq l ql f qf k' lo' hi' vk' vn' vs' vl' vq' l' ql' f' qf' S _ h26 ha.l ha.f
end Go.V.W
