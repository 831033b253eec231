/- wrong (ullageref16): the whole, kind by kind. Printed by a program (wip/tools/genswr2.py). -/
import Derived.Test.YtgnfinbhnoofpaaDoorVH
import Derived.Test.YtgnfinbhnoofpaaDoorSWrongR
set_option linter.unusedVariables false
set_option linter.unusedSimpArgs false
set_option linter.unusedSectionVars false
open Go Go.V
set_option maxRecDepth 100000
set_option maxHeartbeats 4000000
namespace Go.V.W
section
variable (ns : List Nd) (q : Q) (i : Nat) (S : St) (k lo hi vk vn : Int) (vs : List UInt8) (vl : List It) (vq : Q) (l : List Int) (ql : Q) (f : List Fd) (qf : Q)
  (hc : cut (encNs ns) (i * 9) 9 = some (n9 k lo hi vk vn vs vl vq l ql f qf)) (hlt : i < ns.length)
include hc hlt
theorem r84_lo (h : k < 0) : Go.V.Call E0 84 [.agg [.sli (encNs ns) ns.length q], .int .i64 (i : Int)] S (.int .i64 18) S := by
  refine call_cfg (by kernel_rfl) ?_
  refine evc_g 10 ?_
  refine evc_idx (i) (ns.length) (encNs ns) 9 (by kernel_rfl) (by first | with_reducible rfl | assumption | (simp_all; done) | omega | (simp_all; omega)) (by kernel_rfl) ?_
  refine evc_cut (encNs ns) (i * 9) 9 (Go.V.n9 k lo hi vk vn vs vl vq l ql f qf) .pure (by kernel_rfl) hc (by kernel_rfl) ?_
  refine evc_g 10 ?_
  refine evc_i 20 (decide (k < 0)) true ?_
  refine evc_g 10 ?_
  exact evc_t (Val.int IntKind.i64 18)
theorem r84_hi (h : 10 < k) : Go.V.Call E0 84 [.agg [.sli (encNs ns) ns.length q], .int .i64 (i : Int)] S (.int .i64 18) S := by
  refine call_cfg (by kernel_rfl) ?_
  refine evc_g 10 ?_
  refine evc_idx (i) (ns.length) (encNs ns) 9 (by kernel_rfl) (by first | with_reducible rfl | assumption | (simp_all; done) | omega | (simp_all; omega)) (by kernel_rfl) ?_
  refine evc_cut (encNs ns) (i * 9) 9 (Go.V.n9 k lo hi vk vn vs vl vq l ql f qf) .pure (by kernel_rfl) hc (by kernel_rfl) ?_
  refine evc_g 10 ?_
  refine evc_i 20 (decide (k < 0)) false ?_
  refine evc_g 5 ?_
  refine evc_i 24 (decide (k > 10)) true ?_
  refine evc_g 5 ?_
  exact evc_t (Val.int IntKind.i64 18)
theorem r84_form (h : ¬ k < 0) (h' : ¬ 10 < k) (h121 : Go.V.Call E0 121 [.agg (n9 k lo hi vk vn vs vl vq l ql f qf)] S (.bool false) S) : Go.V.Call E0 84 [.agg [.sli (encNs ns) ns.length q], .int .i64 (i : Int)] S (.int .i64 11) S := by
  refine call_cfg (by kernel_rfl) ?_
  refine evc_g 10 ?_
  refine evc_idx (i) (ns.length) (encNs ns) 9 (by kernel_rfl) (by first | with_reducible rfl | assumption | (simp_all; done) | omega | (simp_all; omega)) (by kernel_rfl) ?_
  refine evc_cut (encNs ns) (i * 9) 9 (Go.V.n9 k lo hi vk vn vs vl vq l ql f qf) .pure (by kernel_rfl) hc (by kernel_rfl) ?_
  refine evc_g 10 ?_
  refine evc_i 20 (decide (k < 0)) false ?_
  refine evc_g 5 ?_
  refine evc_i 24 (decide (k > 10)) false ?_
  refine evc_g 6 ?_
  refine evc_c (h121) ?_
  refine evc_g 7 ?_
  exact evc_t (Val.int IntKind.i64 11)
section
variable (RO : Int) (h121 : Go.V.Call E0 121 [.agg (n9 k lo hi vk vn vs vl vq l ql f qf)] S (.bool true) S)
  (L : EvC E0 (ctxOf E0 84) ⟨PK84, [(1, .int .i64 (i : Int)), (2, .lv [.sli (encNs ns) ns.length q]), (5, .lv (n9 k lo hi vk vn vs vl vq l ql f qf)), (6, .int .i64 0)], S⟩ (Go.V.Fin E0 84 S (.int .i64 RO) S))
include h121 L
theorem r84_o (h : ¬ k < 0) (h' : ¬ 10 < k) (h1 : k ≠ 1) (h2 : k ≠ 2) (h3 : k ≠ 3) (h6 : k ≠ 6) (h9 : k ≠ 9) : Go.V.Call E0 84 [.agg [.sli (encNs ns) ns.length q], .int .i64 (i : Int)] S (.int .i64 RO) S := by
  refine call_cfg (by kernel_rfl) ?_
  refine evc_g 10 ?_
  refine evc_idx (i) (ns.length) (encNs ns) 9 (by kernel_rfl) (by first | with_reducible rfl | assumption | (simp_all; done) | omega | (simp_all; omega)) (by kernel_rfl) ?_
  refine evc_cut (encNs ns) (i * 9) 9 (Go.V.n9 k lo hi vk vn vs vl vq l ql f qf) .pure (by kernel_rfl) hc (by kernel_rfl) ?_
  refine evc_g 10 ?_
  refine evc_i 20 (decide (k < 0)) false ?_
  refine evc_g 5 ?_
  refine evc_i 24 (decide (k > 10)) false ?_
  refine evc_g 6 ?_
  refine evc_c (h121) ?_
  refine evc_g 16 ?_
  refine evc_i 30 (k == 1) false ?_
  refine evc_g 7 ?_
  refine evc_i 37 (k == 2) false ?_
  refine evc_g 6 ?_
  refine evc_i 37 (k == 3) false ?_
  refine evc_g 5 ?_
  refine evc_i 37 (k == 6) false ?_
  refine evc_g 6 ?_
  refine evc_i 51 (k == 9) false ?_
  refine evc_g 10 ?_
  exact evc_a (L)
theorem r84_1a (hk : k = 1) (h : lo > hi) : Go.V.Call E0 84 [.agg [.sli (encNs ns) ns.length q], .int .i64 (i : Int)] S (.int .i64 15) S := by
  subst hk
  clear L
  refine call_cfg (by kernel_rfl) ?_
  refine evc_g 10 ?_
  refine evc_idx (i) (ns.length) (encNs ns) 9 (by kernel_rfl) (by first | with_reducible rfl | assumption | (simp_all; done) | omega | (simp_all; omega)) (by kernel_rfl) ?_
  refine evc_cut (encNs ns) (i * 9) 9 (Go.V.n9 1 lo hi vk vn vs vl vq l ql f qf) .pure (by kernel_rfl) hc (by kernel_rfl) ?_
  refine evc_g 21 ?_
  refine evc_c (h121) ?_
  refine evc_g 25 ?_
  refine evc_i 36 (decide (lo > hi)) true ?_
  refine evc_g 5 ?_
  exact evc_t (Val.int IntKind.i64 15)
theorem r84_1o (hk : k = 1) (h : ¬ lo > hi) : Go.V.Call E0 84 [.agg [.sli (encNs ns) ns.length q], .int .i64 (i : Int)] S (.int .i64 RO) S := by
  subst hk
  refine call_cfg (by kernel_rfl) ?_
  refine evc_g 10 ?_
  refine evc_idx (i) (ns.length) (encNs ns) 9 (by kernel_rfl) (by first | with_reducible rfl | assumption | (simp_all; done) | omega | (simp_all; omega)) (by kernel_rfl) ?_
  refine evc_cut (encNs ns) (i * 9) 9 (Go.V.n9 1 lo hi vk vn vs vl vq l ql f qf) .pure (by kernel_rfl) hc (by kernel_rfl) ?_
  refine evc_g 21 ?_
  refine evc_c (h121) ?_
  refine evc_g 25 ?_
  refine evc_i 36 (decide (lo > hi)) false ?_
  refine evc_g 10 ?_
  exact evc_a (L)
theorem r84_2a (hk : k = 2) (h : lo > hi) : Go.V.Call E0 84 [.agg [.sli (encNs ns) ns.length q], .int .i64 (i : Int)] S (.int .i64 15) S := by
  subst hk
  clear L
  refine call_cfg (by kernel_rfl) ?_
  refine evc_g 10 ?_
  refine evc_idx (i) (ns.length) (encNs ns) 9 (by kernel_rfl) (by first | with_reducible rfl | assumption | (simp_all; done) | omega | (simp_all; omega)) (by kernel_rfl) ?_
  refine evc_cut (encNs ns) (i * 9) 9 (Go.V.n9 2 lo hi vk vn vs vl vq l ql f qf) .pure (by kernel_rfl) hc (by kernel_rfl) ?_
  refine evc_g 21 ?_
  refine evc_c (h121) ?_
  refine evc_g 34 ?_
  refine evc_i 46 (decide (lo > hi)) true ?_
  refine evc_g 10 ?_
  exact evc_t (Val.int IntKind.i64 15)
theorem r84_2b (hk : k = 2) (h : ¬ lo > hi) (h2 : lo < 0) : Go.V.Call E0 84 [.agg [.sli (encNs ns) ns.length q], .int .i64 (i : Int)] S (.int .i64 15) S := by
  subst hk
  clear L
  refine call_cfg (by kernel_rfl) ?_
  refine evc_g 10 ?_
  refine evc_idx (i) (ns.length) (encNs ns) 9 (by kernel_rfl) (by first | with_reducible rfl | assumption | (simp_all; done) | omega | (simp_all; omega)) (by kernel_rfl) ?_
  refine evc_cut (encNs ns) (i * 9) 9 (Go.V.n9 2 lo hi vk vn vs vl vq l ql f qf) .pure (by kernel_rfl) hc (by kernel_rfl) ?_
  refine evc_g 21 ?_
  refine evc_c (h121) ?_
  refine evc_g 34 ?_
  refine evc_i 46 (decide (lo > hi)) false ?_
  refine evc_g 5 ?_
  refine evc_i 50 (decide (lo < 0)) true ?_
  refine evc_g 5 ?_
  exact evc_t (Val.int IntKind.i64 15)
theorem r84_2o (hk : k = 2) (h : ¬ lo > hi) (h2 : ¬ lo < 0) : Go.V.Call E0 84 [.agg [.sli (encNs ns) ns.length q], .int .i64 (i : Int)] S (.int .i64 RO) S := by
  subst hk
  refine call_cfg (by kernel_rfl) ?_
  refine evc_g 10 ?_
  refine evc_idx (i) (ns.length) (encNs ns) 9 (by kernel_rfl) (by first | with_reducible rfl | assumption | (simp_all; done) | omega | (simp_all; omega)) (by kernel_rfl) ?_
  refine evc_cut (encNs ns) (i * 9) 9 (Go.V.n9 2 lo hi vk vn vs vl vq l ql f qf) .pure (by kernel_rfl) hc (by kernel_rfl) ?_
  refine evc_g 21 ?_
  refine evc_c (h121) ?_
  refine evc_g 34 ?_
  refine evc_i 46 (decide (lo > hi)) false ?_
  refine evc_g 5 ?_
  refine evc_i 50 (decide (lo < 0)) false ?_
  refine evc_g 10 ?_
  exact evc_a (L)
theorem r84_3a (hk : k = 3) (h : lo > hi) : Go.V.Call E0 84 [.agg [.sli (encNs ns) ns.length q], .int .i64 (i : Int)] S (.int .i64 15) S := by
  subst hk
  clear L
  refine call_cfg (by kernel_rfl) ?_
  refine evc_g 10 ?_
  refine evc_idx (i) (ns.length) (encNs ns) 9 (by kernel_rfl) (by first | with_reducible rfl | assumption | (simp_all; done) | omega | (simp_all; omega)) (by kernel_rfl) ?_
  refine evc_cut (encNs ns) (i * 9) 9 (Go.V.n9 3 lo hi vk vn vs vl vq l ql f qf) .pure (by kernel_rfl) hc (by kernel_rfl) ?_
  refine evc_g 21 ?_
  refine evc_c (h121) ?_
  refine evc_g 40 ?_
  refine evc_i 46 (decide (lo > hi)) true ?_
  refine evc_g 10 ?_
  exact evc_t (Val.int IntKind.i64 15)
theorem r84_3b (hk : k = 3) (h : ¬ lo > hi) (h2 : lo < 0) : Go.V.Call E0 84 [.agg [.sli (encNs ns) ns.length q], .int .i64 (i : Int)] S (.int .i64 15) S := by
  subst hk
  clear L
  refine call_cfg (by kernel_rfl) ?_
  refine evc_g 10 ?_
  refine evc_idx (i) (ns.length) (encNs ns) 9 (by kernel_rfl) (by first | with_reducible rfl | assumption | (simp_all; done) | omega | (simp_all; omega)) (by kernel_rfl) ?_
  refine evc_cut (encNs ns) (i * 9) 9 (Go.V.n9 3 lo hi vk vn vs vl vq l ql f qf) .pure (by kernel_rfl) hc (by kernel_rfl) ?_
  refine evc_g 21 ?_
  refine evc_c (h121) ?_
  refine evc_g 40 ?_
  refine evc_i 46 (decide (lo > hi)) false ?_
  refine evc_g 5 ?_
  refine evc_i 50 (decide (lo < 0)) true ?_
  refine evc_g 5 ?_
  exact evc_t (Val.int IntKind.i64 15)
theorem r84_3o (hk : k = 3) (h : ¬ lo > hi) (h2 : ¬ lo < 0) : Go.V.Call E0 84 [.agg [.sli (encNs ns) ns.length q], .int .i64 (i : Int)] S (.int .i64 RO) S := by
  subst hk
  refine call_cfg (by kernel_rfl) ?_
  refine evc_g 10 ?_
  refine evc_idx (i) (ns.length) (encNs ns) 9 (by kernel_rfl) (by first | with_reducible rfl | assumption | (simp_all; done) | omega | (simp_all; omega)) (by kernel_rfl) ?_
  refine evc_cut (encNs ns) (i * 9) 9 (Go.V.n9 3 lo hi vk vn vs vl vq l ql f qf) .pure (by kernel_rfl) hc (by kernel_rfl) ?_
  refine evc_g 21 ?_
  refine evc_c (h121) ?_
  refine evc_g 40 ?_
  refine evc_i 46 (decide (lo > hi)) false ?_
  refine evc_g 5 ?_
  refine evc_i 50 (decide (lo < 0)) false ?_
  refine evc_g 10 ?_
  exact evc_a (L)
theorem r84_6a (hk : k = 6) (h : lo > hi) : Go.V.Call E0 84 [.agg [.sli (encNs ns) ns.length q], .int .i64 (i : Int)] S (.int .i64 15) S := by
  subst hk
  clear L
  refine call_cfg (by kernel_rfl) ?_
  refine evc_g 10 ?_
  refine evc_idx (i) (ns.length) (encNs ns) 9 (by kernel_rfl) (by first | with_reducible rfl | assumption | (simp_all; done) | omega | (simp_all; omega)) (by kernel_rfl) ?_
  refine evc_cut (encNs ns) (i * 9) 9 (Go.V.n9 6 lo hi vk vn vs vl vq l ql f qf) .pure (by kernel_rfl) hc (by kernel_rfl) ?_
  refine evc_g 21 ?_
  refine evc_c (h121) ?_
  refine evc_g 43 ?_
  refine evc_i 46 (decide (lo > hi)) true ?_
  refine evc_g 10 ?_
  exact evc_t (Val.int IntKind.i64 15)
theorem r84_6b (hk : k = 6) (h : ¬ lo > hi) (h2 : lo < 0) : Go.V.Call E0 84 [.agg [.sli (encNs ns) ns.length q], .int .i64 (i : Int)] S (.int .i64 15) S := by
  subst hk
  clear L
  refine call_cfg (by kernel_rfl) ?_
  refine evc_g 10 ?_
  refine evc_idx (i) (ns.length) (encNs ns) 9 (by kernel_rfl) (by first | with_reducible rfl | assumption | (simp_all; done) | omega | (simp_all; omega)) (by kernel_rfl) ?_
  refine evc_cut (encNs ns) (i * 9) 9 (Go.V.n9 6 lo hi vk vn vs vl vq l ql f qf) .pure (by kernel_rfl) hc (by kernel_rfl) ?_
  refine evc_g 21 ?_
  refine evc_c (h121) ?_
  refine evc_g 43 ?_
  refine evc_i 46 (decide (lo > hi)) false ?_
  refine evc_g 5 ?_
  refine evc_i 50 (decide (lo < 0)) true ?_
  refine evc_g 5 ?_
  exact evc_t (Val.int IntKind.i64 15)
theorem r84_6o (hk : k = 6) (h : ¬ lo > hi) (h2 : ¬ lo < 0) : Go.V.Call E0 84 [.agg [.sli (encNs ns) ns.length q], .int .i64 (i : Int)] S (.int .i64 RO) S := by
  subst hk
  refine call_cfg (by kernel_rfl) ?_
  refine evc_g 10 ?_
  refine evc_idx (i) (ns.length) (encNs ns) 9 (by kernel_rfl) (by first | with_reducible rfl | assumption | (simp_all; done) | omega | (simp_all; omega)) (by kernel_rfl) ?_
  refine evc_cut (encNs ns) (i * 9) 9 (Go.V.n9 6 lo hi vk vn vs vl vq l ql f qf) .pure (by kernel_rfl) hc (by kernel_rfl) ?_
  refine evc_g 21 ?_
  refine evc_c (h121) ?_
  refine evc_g 43 ?_
  refine evc_i 46 (decide (lo > hi)) false ?_
  refine evc_g 5 ?_
  refine evc_i 50 (decide (lo < 0)) false ?_
  refine evc_g 10 ?_
  exact evc_a (L)
theorem r84_9a (hk : k = 9) (h : lo < 0) : Go.V.Call E0 84 [.agg [.sli (encNs ns) ns.length q], .int .i64 (i : Int)] S (.int .i64 15) S := by
  subst hk
  clear L
  refine call_cfg (by kernel_rfl) ?_
  refine evc_g 10 ?_
  refine evc_idx (i) (ns.length) (encNs ns) 9 (by kernel_rfl) (by first | with_reducible rfl | assumption | (simp_all; done) | omega | (simp_all; omega)) (by kernel_rfl) ?_
  refine evc_cut (encNs ns) (i * 9) 9 (Go.V.n9 9 lo hi vk vn vs vl vq l ql f qf) .pure (by kernel_rfl) hc (by kernel_rfl) ?_
  refine evc_g 21 ?_
  refine evc_c (h121) ?_
  refine evc_g 47 ?_
  refine evc_i 55 (decide (lo < 0)) true ?_
  refine evc_g 5 ?_
  exact evc_t (Val.int IntKind.i64 15)
theorem r84_9o (hk : k = 9) (h : ¬ lo < 0) : Go.V.Call E0 84 [.agg [.sli (encNs ns) ns.length q], .int .i64 (i : Int)] S (.int .i64 RO) S := by
  subst hk
  refine call_cfg (by kernel_rfl) ?_
  refine evc_g 10 ?_
  refine evc_idx (i) (ns.length) (encNs ns) 9 (by kernel_rfl) (by first | with_reducible rfl | assumption | (simp_all; done) | omega | (simp_all; omega)) (by kernel_rfl) ?_
  refine evc_cut (encNs ns) (i * 9) 9 (Go.V.n9 9 lo hi vk vn vs vl vq l ql f qf) .pure (by kernel_rfl) hc (by kernel_rfl) ?_
  refine evc_g 21 ?_
  refine evc_c (h121) ?_
  refine evc_g 47 ?_
  refine evc_i 55 (decide (lo < 0)) false ?_
  refine evc_g 10 ?_
  exact evc_a (L)
end
end
theorem c84 (ns : List Nd) (q : Q) (i : Nat) (n : Nd) (hi : ns[i]? = some n) (hns : ns.length ≤ 2 ^ 40) (h : okNd n) (S : St) :
    Go.V.Call E0 84 [.agg [.sli (encNs ns) ns.length q], .int .i64 (i : Int)] S (.int .i64 (wrN ns.length i n)) S := by
  have hlt := (List.getElem?_eq_some_iff.1 hi).1
  have hc := cut_N hi
  have h121 := fun hk => c121 n h.ok hk S
  have h38 := c38 n h.ok.l h.ok.f h.nil S
  have hlen : (namesN n).length ≤ 2 ^ 42 := by have := h.ok.l; have := h.ok.f; simp only [namesN, List.length_append, List.length_map]; omega
  have LN := LN84 ns q i S (namesN n) (nq (namesN n)) hlen (namesN n).length 0 (by omega)
  have hb := fun hs => bnd_ref (n := n) hs
  have b1 : n.k = 1 → bnd n = decide (n.lo ≤ n.hi) := fun h1 => by unfold bnd; rw [if_pos h1]
  have b2 : n.k = 2 ∨ n.k = 3 ∨ n.k = 6 → bnd n = (decide (n.lo ≤ n.hi) && decide (n.lo ≥ 0)) := fun h1 => by unfold bnd; rw [if_neg (by omega), if_neg (by omega)]
  unfold wrN
  generalize okb n (chkI n.v) = ok at *
  generalize sameNd (bareN n) n = sm at *
  generalize bnd n = bd at *
  obtain ⟨k, lo, hi', v, l, ql, f, qf⟩ := n
  cases v with
  | mk vk vn vs vq vl =>
  simp only [encN_mk, List.drop_zero] at *
  have LK := LK84 ns q i S k lo hi' vk vn vs vl vq l ql f qf h.ok.f h.ok.keys _ _ _ h38 LN f.length 0 (by omega)
  simp only [List.take_zero, List.map_nil, List.drop_zero] at LK
  rw [keysR_eq] at LK
  generalize keysI [] f = ky at *
  by_cases hk : k < 0 ∨ 10 < k
  · rw [if_pos hk]
    rcases hk with hk | hk
    · exact r84_lo ns q i S k lo hi' vk vn vs vl vq l ql f qf hc hlt hk
    · exact r84_hi ns q i S k lo hi' vk vn vs vl vq l ql f qf hc hlt hk
  · rw [if_neg hk]
    have k121 := h121 (by omega)
    cases hos : (ok && sm) with
    | false =>
      rw [hos] at k121
      rw [if_pos rfl]
      exact r84_form ns q i S k lo hi' vk vn vs vl vq l ql f qf hc hlt (by omega) (by omega) k121
    | true =>
      rw [hos] at k121
      simp only [Bool.and_eq_true] at hos
      obtain ⟨hb9, hbo⟩ := hb hos.2
      rw [if_neg (by simp)]
      have e0 : (if ky ≠ 0 then ky else e13 ((namesN ⟨k, lo, hi', .mk vk vn vs vq vl, l, ql, f, qf⟩).any (outB (i : Int) (ns.length : Int)))) = (if ky ≠ 0 then ky else if (namesN ⟨k, lo, hi', .mk vk vn vs vq vl, l, ql, f, qf⟩).any (outB (i : Int) (ns.length : Int)) = true then 13 else 0) := by
        cases (namesN ⟨k, lo, hi', .mk vk vn vs vq vl, l, ql, f, qf⟩).any (outB (i : Int) (ns.length : Int)) <;> rfl
      rw [e0] at LK
      generalize (if ky ≠ 0 then ky else if (namesN ⟨k, lo, hi', .mk vk vn vs vq vl, l, ql, f, qf⟩).any (outB (i : Int) (ns.length : Int)) = true then 13 else 0) = RO at *
      by_cases h1 : k = 1
      · rw [b1 h1]
        by_cases hl : lo > hi'
        · have e : decide (lo ≤ hi') = false := by simp; omega
          rw [e, if_pos rfl]
          exact r84_1a ns q i S k lo hi' vk vn vs vl vq l ql f qf hc hlt RO k121 LK h1 hl
        · have e : decide (lo ≤ hi') = true := by simp; omega
          rw [e, if_neg (by simp)]
          exact r84_1o ns q i S k lo hi' vk vn vs vl vq l ql f qf hc hlt RO k121 LK h1 hl
      by_cases h9 : k = 9
      · rw [hb9 h9]
        by_cases hl : lo < 0
        · have e : decide (lo ≥ 0) = false := by simp; omega
          rw [e, if_pos rfl]
          exact r84_9a ns q i S k lo hi' vk vn vs vl vq l ql f qf hc hlt RO k121 LK h9 hl
        · have e : decide (lo ≥ 0) = true := by simp; omega
          rw [e, if_neg (by simp)]
          exact r84_9o ns q i S k lo hi' vk vn vs vl vq l ql f qf hc hlt RO k121 LK h9 hl
      by_cases h236 : k = 2 ∨ k = 3 ∨ k = 6
      · rw [b2 h236]
        by_cases hl : lo > hi'
        · have e : decide (lo ≤ hi') = false := by simp; omega
          rw [e, Bool.false_and, if_pos rfl]
          rcases h236 with hk | hk | hk
          · exact r84_2a ns q i S k lo hi' vk vn vs vl vq l ql f qf hc hlt RO k121 LK hk hl
          · exact r84_3a ns q i S k lo hi' vk vn vs vl vq l ql f qf hc hlt RO k121 LK hk hl
          · exact r84_6a ns q i S k lo hi' vk vn vs vl vq l ql f qf hc hlt RO k121 LK hk hl
        · have e : decide (lo ≤ hi') = true := by simp; omega
          by_cases hl2 : lo < 0
          · have e2 : decide (lo ≥ 0) = false := by simp; omega
            rw [e, e2, Bool.and_false, if_pos rfl]
            rcases h236 with hk | hk | hk
            · exact r84_2b ns q i S k lo hi' vk vn vs vl vq l ql f qf hc hlt RO k121 LK hk hl hl2
            · exact r84_3b ns q i S k lo hi' vk vn vs vl vq l ql f qf hc hlt RO k121 LK hk hl hl2
            · exact r84_6b ns q i S k lo hi' vk vn vs vl vq l ql f qf hc hlt RO k121 LK hk hl hl2
          · have e2 : decide (lo ≥ 0) = true := by simp; omega
            rw [e, e2, Bool.and_self, if_neg (by simp)]
            rcases h236 with hk | hk | hk
            · exact r84_2o ns q i S k lo hi' vk vn vs vl vq l ql f qf hc hlt RO k121 LK hk hl hl2
            · exact r84_3o ns q i S k lo hi' vk vn vs vl vq l ql f qf hc hlt RO k121 LK hk hl hl2
            · exact r84_6o ns q i S k lo hi' vk vn vs vl vq l ql f qf hc hlt RO k121 LK hk hl hl2
      · have e := hbo h1 (by omega) (by omega) (by omega) h9
        rw [e, if_neg (by simp)]
        exact r84_o ns q i S k lo hi' vk vn vs vl vq l ql f qf hc hlt RO k121 LK (by omega) (by omega) h1 (by omega) (by omega) (by omega) h9
end Go.V.W
