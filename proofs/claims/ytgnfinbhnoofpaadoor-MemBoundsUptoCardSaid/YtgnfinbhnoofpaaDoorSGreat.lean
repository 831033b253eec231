/- Great, Check, Same, Width of schemas, given what is wrong with a node. -/
import Derived.Test.YtgnfinbhnoofpaaDoorVH
import Derived.Test.YtgnfinbhnoofpaaDoorSNode
import Derived.Test.YtgnfinbhnoofpaaDoorGreat
set_option linter.unusedVariables false
set_option linter.unusedSimpArgs false
set_option linter.unusedSectionVars false
open Go Go.V
set_option maxRecDepth 100000
set_option maxHeartbeats 4000000
namespace Go.V.W
def greatN (n : Nd) : Bool := decide (20 < n.l.length) || (decide (20 < n.f.length) || (greatI n.v || n.f.any fun x => decide (300 < x.key.length)))
def greatS (ns : List Nd) : Bool := (ns.take 41).any greatN || decide (40 < ns.length)
abbrev zg : List Val := [.int .i64 0, .int .i64 0, .int .i64 0, .int .i64 0, .int .u64 0, .str [], .sli [] 0 .nil, .sli [] 0 .nil, .sli [.str [], .int .i64 1, .bool true] 1 .exact]
noncomputable def PO30 : Pos := (goT E0 1000 (ctxOf E0 30) 12 (entry E0 30 [.agg [.sli zg 1 .exact]] ⟨[], []⟩)).pos
noncomputable def PI30 : Pos := (goT E0 1000 (ctxOf E0 30) 66 (entry E0 30 [.agg [.sli zg 1 .exact]] ⟨[], []⟩)).pos
section
variable (ns : List Nd) (q : Q) (S : St) (hns : ns.length ≤ 2 ^ 40)
include hns
theorem LI30 (i : Nat) (hi : i ≤ 40) (k lo hi' vk vn : Int) (vs : List UInt8) (vl : List It) (vq : Q) (l : List Int) (ql : Q) (f : List Fd) (qf : Q) (hf : f.length ≤ 2 ^ 40) (RO : Bool)
    (ihO : EvC E0 (ctxOf E0 30) ⟨PO30, [(1, .lv [.sli (encNs ns) ns.length q]), (3, .int .i64 ((i + 1 : Nat) : Int))], S⟩ (Go.V.Fin E0 30 S (.bool RO) S)) : ∀ (m j : Nat), j + m = f.length →
    EvC E0 (ctxOf E0 30) ⟨PI30, [(1, .lv [.sli (encNs ns) ns.length q]), (3, .int .i64 (i : Int)), (4, .lv (n9 k lo hi' vk vn vs vl vq l ql f qf)), (5, .int .i64 (j : Int))], S⟩ (Go.V.Fin E0 30 S (.bool (((f.drop j).any fun x => decide (300 < x.key.length)) || RO)) S) := by
  intro m
  induction m with
  | zero =>
    intro j hj
    have e : f.drop j = [] := List.drop_eq_nil_of_le (by omega)
    have g : ¬ (j : Int) < (f.length : Int) := by omega
    rw [e]
    simp only [List.any_nil, Bool.false_or]
    refine evc_g 9 ?_
    refine evc_i 41 (decide ((↑j : Int) < (↑f.length : Int))) false ?_
    refine evc_g 9 ?_
    refine evc_set 3 (Val.int IntKind.i64 (IntKind.i64.wrap ((↑i : Int) + 1))) (Val.int IntKind.i64 (↑(i + 1) : Int)) (by kernel_rfl) (congrArg (Val.int IntKind.i64) (wrap_nat (i := i) (m := 1) (by omega))) ?_
    exact evc_a (ihO)
  | succ m ihm =>
    intro j hj
    have hlt : j < f.length := by omega
    have g : (j : Int) < (f.length : Int) := by omega
    obtain ⟨x, hx⟩ : ∃ x, f[j]? = some x := ⟨f[j], List.getElem?_eq_getElem hlt⟩
    have gk := get_F0 hx
    have hdx : f.drop j = x :: f.drop (j + 1) := by
      obtain ⟨_, rfl⟩ := List.getElem?_eq_some_iff.1 hx
      exact List.drop_eq_getElem_cons hlt
    have ih := ihm (j + 1) (by omega)
    rw [hdx]
    simp only [List.any_cons]
    generalize (f.drop (j + 1)).any (fun x => decide (300 < x.key.length)) = r at *
    clear ihm hdx ihO
    obtain ⟨key, node, opt⟩ := x
    simp only at *
    by_cases h3 : 300 < key.length
    · have g3 : (key.length : Int) > 300 := by omega
      simp only [h3, decide_true, Bool.true_or]
      clear ih
      refine evc_g 9 ?_
      refine evc_i 41 (decide ((↑j : Int) < (↑f.length : Int))) true ?_
      refine evc_g 9 ?_
      refine evc_idx (j) (f.length) (encFs f) 3 (by kernel_rfl) (by first | with_reducible rfl | assumption | (simp_all; done) | omega | (simp_all; omega)) (by kernel_rfl) ?_
      refine evc_g 1 ?_
      refine evc_get (encFs f) (j * 3 + 0) (Val.str key) .pure (by kernel_rfl) gk (by kernel_rfl) ?_
      refine evc_g 3 ?_
      refine evc_i 51 (decide ((↑key.length : Int) > 300)) true ?_
      refine evc_g 5 ?_
      exact evc_t (Val.bool Bool.true)
    · have g3 : ¬ (key.length : Int) > 300 := by omega
      simp only [h3, decide_false, Bool.false_or]
      refine evc_g 9 ?_
      refine evc_i 41 (decide ((↑j : Int) < (↑f.length : Int))) true ?_
      refine evc_g 9 ?_
      refine evc_idx (j) (f.length) (encFs f) 3 (by kernel_rfl) (by first | with_reducible rfl | assumption | (simp_all; done) | omega | (simp_all; omega)) (by kernel_rfl) ?_
      refine evc_g 1 ?_
      refine evc_get (encFs f) (j * 3 + 0) (Val.str key) .pure (by kernel_rfl) gk (by kernel_rfl) ?_
      refine evc_g 3 ?_
      refine evc_i 51 (decide ((↑key.length : Int) > 300)) false ?_
      refine evc_g 9 ?_
      refine evc_set 5 (Val.int IntKind.i64 (IntKind.i64.wrap ((↑j : Int) + 1))) (Val.int IntKind.i64 (↑(j + 1) : Int)) (by kernel_rfl) (congrArg (Val.int IntKind.i64) (wrap_nat (i := j) (m := 1) (by omega))) ?_
      exact evc_a (ih)
theorem LO30 (hn : ∀ n ∈ ns, n.f.length ≤ 2 ^ 40 ∧ n.l.length ≤ 2 ^ 40 ∧ (itemsI n.v).length ≤ 2 ^ 30) : ∀ (m i : Nat), i + m = (ns.take 41).length →
    EvC E0 (ctxOf E0 30) ⟨PO30, [(1, .lv [.sli (encNs ns) ns.length q]), (3, .int .i64 (i : Int))], S⟩ (Go.V.Fin E0 30 S (.bool (((ns.take 41).drop i).any greatN || decide (40 < ns.length))) S) := by
  intro m
  induction m with
  | zero =>
    intro i hi
    have e : (ns.take 41).drop i = [] := List.drop_eq_nil_of_le (by omega)
    rw [e]
    simp only [List.any_nil, Bool.false_or]
    rw [List.length_take] at hi
    clear hn
    by_cases h : 40 < ns.length
    · have g1 : (ns.length : Int) > 40 := by omega
      have g2 : (i : Int) < (ns.length : Int) ∨ ¬ (i : Int) < (ns.length : Int) := by omega
      have g3 : ¬ (i : Int) ≤ 40 := by omega
      simp only [h, decide_true]
      rcases g2 with g2 | g2
      refine evc_g 9 ?_
      refine evc_i 11 (decide ((↑i : Int) < (↑ns.length : Int))) true ?_
      refine evc_g 4 ?_
      refine evc_i 14 (decide ((↑i : Int) ≤ 40)) false ?_
      refine evc_g 10 ?_
      exact evc_t (Val.bool (decide ((↑ns.length : Int) > 40))) (hl := (by first | rfl | (simp [Val.low, Val.lows, low_encL, low_encI]; done) | (simp [Val.low, Val.lows, low_encL, low_encI, low_encZ, low_encFs, low_encNs, low_encN]; done)))
      refine evc_g 9 ?_
      refine evc_i 11 (decide ((↑i : Int) < (↑ns.length : Int))) false ?_
      refine evc_g 14 ?_
      exact evc_t (Val.bool (decide ((↑ns.length : Int) > 40))) (hl := (by first | rfl | (simp [Val.low, Val.lows, low_encL, low_encI]; done) | (simp [Val.low, Val.lows, low_encL, low_encI, low_encZ, low_encFs, low_encNs, low_encN]; done)))
    · have g1 : ¬ (ns.length : Int) > 40 := by omega
      have g2 : ¬ (i : Int) < (ns.length : Int) := by omega
      simp only [h, decide_false]
      refine evc_g 9 ?_
      refine evc_i 11 (decide ((↑i : Int) < (↑ns.length : Int))) false ?_
      refine evc_g 14 ?_
      exact evc_t (Val.bool (decide ((↑ns.length : Int) > 40))) (hl := (by first | rfl | (simp [Val.low, Val.lows, low_encL, low_encI]; done) | (simp [Val.low, Val.lows, low_encL, low_encI, low_encZ, low_encFs, low_encNs, low_encN]; done)))
  | succ m ihm =>
    intro i hi
    have hi' := hi
    rw [List.length_take] at hi'
    have hlt : i < ns.length := by omega
    have g : (i : Int) < (ns.length : Int) := by omega
    have g40 : (i : Int) ≤ 40 := by omega
    obtain ⟨n, hni⟩ : ∃ n, ns[i]? = some n := ⟨ns[i], List.getElem?_eq_getElem hlt⟩
    have hc := cut_N hni
    have htk : (ns.take 41)[i]? = some n := by rw [List.getElem?_take, if_pos (by omega)]; exact hni
    have hdx : (ns.take 41).drop i = n :: (ns.take 41).drop (i + 1) := by
      obtain ⟨hl', he⟩ := List.getElem?_eq_some_iff.1 htk
      rw [← he]; exact List.drop_eq_getElem_cons hl'
    have ih := ihm (i + 1) (by omega)
    have hnn := hn n (List.mem_of_getElem? hni)
    have h18 := c18 n.v S hnn.2.2
    rw [hdx]
    simp only [List.any_cons, greatN]
    rw [Bool.or_assoc]
    generalize (((ns.take 41).drop (i + 1)).any greatN || decide (40 < ns.length)) = R at *
    clear ihm hdx htk hn hi'
    obtain ⟨k, lo, hi2, v, l, ql, f, qf⟩ := n
    simp only at *
    generalize greatI v = gv at *
    cases v with
    | mk vk vn vs vq vl =>
    rw [encN_mk] at hc
    rw [encI_mk] at h18
    have L := LI30 ns q S hns i (by omega) k lo hi2 vk vn vs vl vq l ql f qf hnn.1 R ih f.length 0 (by omega)
    simp only [List.drop_zero] at L
    clear ih hnn
    by_cases h1 : 20 < l.length
    · have g1 : (l.length : Int) > 20 := by omega
      simp only [h1, decide_true, Bool.true_or]
      clear L
      refine evc_g 9 ?_
      refine evc_i 11 (decide ((↑i : Int) < (↑ns.length : Int))) true ?_
      refine evc_g 4 ?_
      refine evc_i 14 (decide ((↑i : Int) ≤ 40)) true ?_
      refine evc_g 9 ?_
      refine evc_idx (i) (ns.length) (encNs ns) 9 (by kernel_rfl) (by first | with_reducible rfl | assumption | (simp_all; done) | omega | (simp_all; omega)) (by kernel_rfl) ?_
      refine evc_cut (encNs ns) (i * 9) 9 (Go.V.n9 k lo hi2 vk vn vs vl vq l ql f qf) .pure (by kernel_rfl) hc (by kernel_rfl) ?_
      refine evc_g 11 ?_
      refine evc_i 26 (decide ((↑l.length : Int) > 20)) true ?_
      refine evc_g 16 ?_
      exact evc_t (Val.bool Bool.true)
    · have g1 : ¬ (l.length : Int) > 20 := by omega
      by_cases h2 : 20 < f.length
      · have g2 : (f.length : Int) > 20 := by omega
        simp only [h1, h2, decide_true, decide_false, Bool.true_or, Bool.false_or]
        clear L
        refine evc_g 9 ?_
        refine evc_i 11 (decide ((↑i : Int) < (↑ns.length : Int))) true ?_
        refine evc_g 4 ?_
        refine evc_i 14 (decide ((↑i : Int) ≤ 40)) true ?_
        refine evc_g 9 ?_
        refine evc_idx (i) (ns.length) (encNs ns) 9 (by kernel_rfl) (by first | with_reducible rfl | assumption | (simp_all; done) | omega | (simp_all; omega)) (by kernel_rfl) ?_
        refine evc_cut (encNs ns) (i * 9) 9 (Go.V.n9 k lo hi2 vk vn vs vl vq l ql f qf) .pure (by kernel_rfl) hc (by kernel_rfl) ?_
        refine evc_g 11 ?_
        refine evc_i 26 (decide ((↑l.length : Int) > 20)) false ?_
        refine evc_g 6 ?_
        refine evc_i 32 (decide ((↑f.length : Int) > 20)) true ?_
        refine evc_g 10 ?_
        exact evc_t (Val.bool Bool.true)
      · have g2 : ¬ (f.length : Int) > 20 := by omega
        simp only [h1, h2, decide_false, Bool.false_or]
        cases gv with
        | true =>
          simp only [Bool.true_or]
          clear L
          refine evc_g 9 ?_
          refine evc_i 11 (decide ((↑i : Int) < (↑ns.length : Int))) true ?_
          refine evc_g 4 ?_
          refine evc_i 14 (decide ((↑i : Int) ≤ 40)) true ?_
          refine evc_g 9 ?_
          refine evc_idx (i) (ns.length) (encNs ns) 9 (by kernel_rfl) (by first | with_reducible rfl | assumption | (simp_all; done) | omega | (simp_all; omega)) (by kernel_rfl) ?_
          refine evc_cut (encNs ns) (i * 9) 9 (Go.V.n9 k lo hi2 vk vn vs vl vq l ql f qf) .pure (by kernel_rfl) hc (by kernel_rfl) ?_
          refine evc_g 11 ?_
          refine evc_i 26 (decide ((↑l.length : Int) > 20)) false ?_
          refine evc_g 6 ?_
          refine evc_i 32 (decide ((↑f.length : Int) > 20)) false ?_
          refine evc_g 2 ?_
          refine evc_c (h18) ?_
          refine evc_g 7 ?_
          exact evc_t (Val.bool Bool.true)
        | false =>
          simp only [Bool.false_or]
          generalize (f.any (fun x => decide (300 < x.key.length)) || R) = RR at *
          refine evc_g 9 ?_
          refine evc_i 11 (decide ((↑i : Int) < (↑ns.length : Int))) true ?_
          refine evc_g 4 ?_
          refine evc_i 14 (decide ((↑i : Int) ≤ 40)) true ?_
          refine evc_g 9 ?_
          refine evc_idx (i) (ns.length) (encNs ns) 9 (by kernel_rfl) (by first | with_reducible rfl | assumption | (simp_all; done) | omega | (simp_all; omega)) (by kernel_rfl) ?_
          refine evc_cut (encNs ns) (i * 9) 9 (Go.V.n9 k lo hi2 vk vn vs vl vq l ql f qf) .pure (by kernel_rfl) hc (by kernel_rfl) ?_
          refine evc_g 11 ?_
          refine evc_i 26 (decide ((↑l.length : Int) > 20)) false ?_
          refine evc_g 6 ?_
          refine evc_i 32 (decide ((↑f.length : Int) > 20)) false ?_
          refine evc_g 2 ?_
          refine evc_c (h18) ?_
          refine evc_g 10 ?_
          exact evc_a (L)
theorem c30 (hn : ∀ n ∈ ns, n.f.length ≤ 2 ^ 40 ∧ n.l.length ≤ 2 ^ 40 ∧ (itemsI n.v).length ≤ 2 ^ 30) : Go.V.Call E0 30 [.agg [.sli (encNs ns) ns.length q]] S (.bool (greatS ns)) S := by
  have L := LO30 ns q S hns hn (ns.take 41).length 0 (by omega)
  simp only [List.drop_zero] at L
  unfold greatS
  generalize ((ns.take 41).any greatN || decide (40 < ns.length)) = R at *
  clear hn
  refine call_cfg (by kernel_rfl) ?_
  refine evc_g 12 ?_
  exact evc_a (L)
end
end Go.V.W
