/- wrong (schema, ullageref16): what is wrong with a node. -/
import Derived.Test.YtgnfinbhnoofpaaDoorVH
import Derived.Test.YtgnfinbhnoofpaaDoorNodeS
import Derived.Test.YtgnfinbhnoofpaaDoorFirst
set_option linter.unusedVariables false
set_option linter.unusedSimpArgs false
set_option linter.unusedSectionVars false
open Go Go.V
set_option maxRecDepth 100000
set_option maxHeartbeats 4000000
namespace Go.V.W
theorem c83 (ns : List Nd) (q : Q) (i : Nat) (n : Nd) (hi : ns[i]? = some n) (hns : ns.length ≤ 2 ^ 40) (h : okNd n) (S : St) :
    Go.V.Call E0 83 [.agg [.sli (encNs ns) ns.length q], .int .i64 (i : Int)] S (.int .i64 (wrN ns.length i n)) S := by
  have hlt := (List.getElem?_eq_some_iff.1 hi).1
  have hc := cut_N hi
  have h116 := fun hk => c116 n h.ok hk S
  have h117 := fun hk => c117 n hk S
  have h86 := c86 (bareN n) n (okN_bare h.ok) S
  have h118 := c118 n.f n.qf S h.ok.f h.ok.keys
  have h37 := c37 n h.ok.l h.ok.f h.nil S
  have hlen : (namesN n).length ≤ 2 ^ 42 := by have := h.ok.l; have := h.ok.f; simp only [namesN, List.length_append, List.length_map]; omega
  have h119 := c119 (namesN n) S.H.length (i : Int) (encNs ns) ns.length q ⟨S.H ++ [.cells (encZ (namesN n)) true], S.L⟩ (by simp [hcells, encZ_len]) hlen
  have h1190 := c119_0 (i : Int) (encNs ns) ns.length q
  unfold wrN
  generalize okb n (chkI n.v) = ok at *
  generalize sameNd (bareN n) n = sm at *
  generalize bnd n = bd at *
  generalize bareN n = b at *
  obtain ⟨k, lo, hi', v, l, ql, f, qf⟩ := n
  obtain ⟨bk, blo, bhi, bv, bl, bql, bf, bqf⟩ := b
  cases v with
  | mk vk vn vs vq vl =>
  cases bv with
  | mk bvk bvn bvs bvq bvl =>
  simp only [encN_mk] at *
  clear h
  generalize keysI [] f = ky at *
  by_cases hk : k < 0 ∨ 10 < k
  · rw [if_pos hk]
    clear h116 h117 h86 h118 h37 h119 h1190
    rcases hk with hk | hk
    refine call_cfg (by kernel_rfl) ?_
    refine evc_g 11 ?_
    refine evc_idx (i) (ns.length) (encNs ns) 9 (by kernel_rfl) (by first | with_reducible rfl | assumption | (simp_all; done) | omega | (simp_all; omega)) (by kernel_rfl) ?_
    refine evc_cut (encNs ns) (i * 9) 9 (Go.V.n9 k lo hi' vk vn vs vl vq l ql f qf) .pure (by kernel_rfl) hc (by kernel_rfl) ?_
    refine evc_g 10 ?_
    refine evc_i 17 (decide (k < 0)) true ?_
    refine evc_g 10 ?_
    exact evc_t (Val.int IntKind.i64 18)
    refine call_cfg (by kernel_rfl) ?_
    refine evc_g 11 ?_
    refine evc_idx (i) (ns.length) (encNs ns) 9 (by kernel_rfl) (by first | with_reducible rfl | assumption | (simp_all; done) | omega | (simp_all; omega)) (by kernel_rfl) ?_
    refine evc_cut (encNs ns) (i * 9) 9 (Go.V.n9 k lo hi' vk vn vs vl vq l ql f qf) .pure (by kernel_rfl) hc (by kernel_rfl) ?_
    refine evc_g 10 ?_
    refine evc_i 17 (decide (k < 0)) false ?_
    refine evc_g 5 ?_
    refine evc_i 21 (decide (k > 10)) true ?_
    refine evc_g 5 ?_
    exact evc_t (Val.int IntKind.i64 18)
  · rw [if_neg hk]
    have k116 := h116 (by omega)
    have k117 := h117 (by omega)
    have g1 : ¬ k < 0 := by omega
    have g2 : ¬ 10 < k := by omega
    clear h116 h117
    cases ok with
    | false =>
      simp only [Bool.false_and, if_true]
      clear h86 h118 h37 h119 h1190 k117
      refine call_cfg (by kernel_rfl) ?_
      refine evc_g 11 ?_
      refine evc_idx (i) (ns.length) (encNs ns) 9 (by kernel_rfl) (by first | with_reducible rfl | assumption | (simp_all; done) | omega | (simp_all; omega)) (by kernel_rfl) ?_
      refine evc_cut (encNs ns) (i * 9) 9 (Go.V.n9 k lo hi' vk vn vs vl vq l ql f qf) .pure (by kernel_rfl) hc (by kernel_rfl) ?_
      refine evc_g 10 ?_
      refine evc_i 17 (decide (k < 0)) false ?_
      refine evc_g 5 ?_
      refine evc_i 21 (decide (k > 10)) false ?_
      refine evc_g 5 ?_
      refine evc_c (k116) ?_
      refine evc_g 24 ?_
      exact evc_t (Val.int IntKind.i64 11)
    | true =>
      cases sm with
      | false =>
        simp only [Bool.and_false, if_true]
        clear h118 h37 h119 h1190 k117
        refine call_cfg (by kernel_rfl) ?_
        refine evc_g 11 ?_
        refine evc_idx (i) (ns.length) (encNs ns) 9 (by kernel_rfl) (by first | with_reducible rfl | assumption | (simp_all; done) | omega | (simp_all; omega)) (by kernel_rfl) ?_
        refine evc_cut (encNs ns) (i * 9) 9 (Go.V.n9 k lo hi' vk vn vs vl vq l ql f qf) .pure (by kernel_rfl) hc (by kernel_rfl) ?_
        refine evc_g 10 ?_
        refine evc_i 17 (decide (k < 0)) false ?_
        refine evc_g 5 ?_
        refine evc_i 21 (decide (k > 10)) false ?_
        refine evc_g 5 ?_
        refine evc_c (k116) ?_
        refine evc_g 15 ?_
        refine evc_c (h86) ?_
        refine evc_g 8 ?_
        exact evc_t (Val.int IntKind.i64 11)
      | true =>
        simp only [Bool.and_self, Bool.true_eq_false, if_false]
        cases bd with
        | false =>
          simp only [if_true]
          clear h118 h37 h119 h1190
          refine call_cfg (by kernel_rfl) ?_
          refine evc_g 11 ?_
          refine evc_idx (i) (ns.length) (encNs ns) 9 (by kernel_rfl) (by first | with_reducible rfl | assumption | (simp_all; done) | omega | (simp_all; omega)) (by kernel_rfl) ?_
          refine evc_cut (encNs ns) (i * 9) 9 (Go.V.n9 k lo hi' vk vn vs vl vq l ql f qf) .pure (by kernel_rfl) hc (by kernel_rfl) ?_
          refine evc_g 10 ?_
          refine evc_i 17 (decide (k < 0)) false ?_
          refine evc_g 5 ?_
          refine evc_i 21 (decide (k > 10)) false ?_
          refine evc_g 5 ?_
          refine evc_c (k116) ?_
          refine evc_g 15 ?_
          refine evc_c (h86) ?_
          refine evc_g 9 ?_
          refine evc_c (k117) ?_
          refine evc_g 7 ?_
          exact evc_t (Val.int IntKind.i64 15)
        | true =>
          simp only [Bool.true_eq_false, if_false]
          by_cases hky : ky = 0
          · rw [if_neg (by simp [hky])]
            subst hky
            rcases h37 with ⟨hnm, q', hq', k37⟩ | ⟨hnm, k37⟩
            · rw [hnm]
              simp only [List.any_nil, Bool.false_eq_true, if_false]
              have k119 := h1190 q' S
              clear h119 h1190
              refine call_cfg (by kernel_rfl) ?_
              refine evc_g 11 ?_
              refine evc_idx (i) (ns.length) (encNs ns) 9 (by kernel_rfl) (by first | with_reducible rfl | assumption | (simp_all; done) | omega | (simp_all; omega)) (by kernel_rfl) ?_
              refine evc_cut (encNs ns) (i * 9) 9 (Go.V.n9 k lo hi' vk vn vs vl vq l ql f qf) .pure (by kernel_rfl) hc (by kernel_rfl) ?_
              refine evc_g 10 ?_
              refine evc_i 17 (decide (k < 0)) false ?_
              refine evc_g 5 ?_
              refine evc_i 21 (decide (k > 10)) false ?_
              refine evc_g 5 ?_
              refine evc_c (k116) ?_
              refine evc_g 15 ?_
              refine evc_c (h86) ?_
              refine evc_g 9 ?_
              refine evc_c (k117) ?_
              refine evc_g 9 ?_
              refine evc_c (h118) ?_
              refine evc_g 13 ?_
              refine evc_c (k37) ?_
              refine evc_g 1 ?_
              refine evc_c (k119) ?_
              refine evc_g 7 ?_
              exact evc_t (Val.int IntKind.i64 0)
            · clear h1190
              generalize namesN _ = nm at *
              cases ha : nm.any (outB (i : Int) (ns.length : Int)) with
              | true =>
                rw [ha] at h119
                simp only [if_true]
                refine call_cfg (by kernel_rfl) ?_
                refine evc_g 11 ?_
                refine evc_idx (i) (ns.length) (encNs ns) 9 (by kernel_rfl) (by first | with_reducible rfl | assumption | (simp_all; done) | omega | (simp_all; omega)) (by kernel_rfl) ?_
                refine evc_cut (encNs ns) (i * 9) 9 (Go.V.n9 k lo hi' vk vn vs vl vq l ql f qf) .pure (by kernel_rfl) hc (by kernel_rfl) ?_
                refine evc_g 10 ?_
                refine evc_i 17 (decide (k < 0)) false ?_
                refine evc_g 5 ?_
                refine evc_i 21 (decide (k > 10)) false ?_
                refine evc_g 5 ?_
                refine evc_c (k116) ?_
                refine evc_g 15 ?_
                refine evc_c (h86) ?_
                refine evc_g 9 ?_
                refine evc_c (k117) ?_
                refine evc_g 9 ?_
                refine evc_c (h118) ?_
                refine evc_g 13 ?_
                refine evc_c (k37) ?_
                refine evc_g 1 ?_
                refine evc_c (h119) ?_
                refine evc_g 6 ?_
                exact evc_endX (Val.int IntKind.i64 13) ([Go.V.Block.cells (encZ nm) Bool.true]) (by kernel_rfl) (by kernel_rfl) (by kernel_rfl) (by first | with_reducible rfl | assumption | (simp_all; done) | omega | (simp_all; omega)) (by first | rfl | (simp [Val.low, Val.lows, low_encL, low_encI]; done) | (simp [Val.low, Val.lows, low_encL, low_encI, low_encZ, low_encFs, low_encNs, low_encN]; done))
              | false =>
                rw [ha] at h119
                simp only [Bool.false_eq_true, if_false]
                refine call_cfg (by kernel_rfl) ?_
                refine evc_g 11 ?_
                refine evc_idx (i) (ns.length) (encNs ns) 9 (by kernel_rfl) (by first | with_reducible rfl | assumption | (simp_all; done) | omega | (simp_all; omega)) (by kernel_rfl) ?_
                refine evc_cut (encNs ns) (i * 9) 9 (Go.V.n9 k lo hi' vk vn vs vl vq l ql f qf) .pure (by kernel_rfl) hc (by kernel_rfl) ?_
                refine evc_g 10 ?_
                refine evc_i 17 (decide (k < 0)) false ?_
                refine evc_g 5 ?_
                refine evc_i 21 (decide (k > 10)) false ?_
                refine evc_g 5 ?_
                refine evc_c (k116) ?_
                refine evc_g 15 ?_
                refine evc_c (h86) ?_
                refine evc_g 9 ?_
                refine evc_c (k117) ?_
                refine evc_g 9 ?_
                refine evc_c (h118) ?_
                refine evc_g 13 ?_
                refine evc_c (k37) ?_
                refine evc_g 1 ?_
                refine evc_c (h119) ?_
                refine evc_g 7 ?_
                exact evc_endX (Val.int IntKind.i64 0) ([Go.V.Block.cells (encZ nm) Bool.true]) (by kernel_rfl) (by kernel_rfl) (by kernel_rfl) (by first | with_reducible rfl | assumption | (simp_all; done) | omega | (simp_all; omega)) (by first | rfl | (simp [Val.low, Val.lows, low_encL, low_encI]; done) | (simp [Val.low, Val.lows, low_encL, low_encI, low_encZ, low_encFs, low_encNs, low_encN]; done))
          · rw [if_pos hky]
            clear h37 h119 h1190
            refine call_cfg (by kernel_rfl) ?_
            refine evc_g 11 ?_
            refine evc_idx (i) (ns.length) (encNs ns) 9 (by kernel_rfl) (by first | with_reducible rfl | assumption | (simp_all; done) | omega | (simp_all; omega)) (by kernel_rfl) ?_
            refine evc_cut (encNs ns) (i * 9) 9 (Go.V.n9 k lo hi' vk vn vs vl vq l ql f qf) .pure (by kernel_rfl) hc (by kernel_rfl) ?_
            refine evc_g 10 ?_
            refine evc_i 17 (decide (k < 0)) false ?_
            refine evc_g 5 ?_
            refine evc_i 21 (decide (k > 10)) false ?_
            refine evc_g 5 ?_
            refine evc_c (k116) ?_
            refine evc_g 15 ?_
            refine evc_c (h86) ?_
            refine evc_g 9 ?_
            refine evc_c (k117) ?_
            refine evc_g 9 ?_
            refine evc_c (h118) ?_
            refine evc_g 7 ?_
            refine evc_i 42 (ky != 0) true ?_
            refine evc_g 6 ?_
            exact evc_t (Val.int IntKind.i64 ky)
end Go.V.W
