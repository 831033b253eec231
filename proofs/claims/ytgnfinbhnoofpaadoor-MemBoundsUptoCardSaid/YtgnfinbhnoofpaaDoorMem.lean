/- Longest, limits (limit, mem, ullageref11, ullageref23). -/
import Derived.Test.YtgnfinbhnoofpaaDoorVH
import Derived.Test.YtgnfinbhnoofpaaDoorE0
import Derived.Test.YtgnfinbhnoofpaaDoorSch
import Derived.Test.YtgnfinbhnoofpaaDoorWrap
set_option linter.unusedVariables false
set_option linter.unusedSimpArgs false
set_option linter.unusedSectionVars false
open Go Go.V
set_option maxRecDepth 100000
set_option maxHeartbeats 4000000
namespace Go.V.W
/-- the longest key, behind what was -/
def longF (a : Nat) : List Fd → Nat
  | [] => a
  | x :: l => longF (max a x.key.length) l
def longS (a : Nat) : List Nd → Nat
  | [] => a
  | n :: l => longS (longF a n.f) l
abbrev zl : List Val := [.int .i64 0, .int .i64 0, .int .i64 0, .int .i64 0, .int .u64 0, .str [], .sli [] 0 .nil, .sli [] 0 .nil, .sli [.str [65], .int .i64 1, .bool true] 1 .exact]
noncomputable def PO46 : Pos := (goT E0 1 (ctxOf E0 46) 19 (entry E0 46 [.agg [.sli zl 1 .exact]] ⟨[], []⟩)).pos
noncomputable def PI46 : Pos := (goT E0 1 (ctxOf E0 46) 44 (entry E0 46 [.agg [.sli zl 1 .exact]] ⟨[], []⟩)).pos
noncomputable def PO47 : Pos := (goT E0 1 (ctxOf E0 47) 16 (entry E0 47 [.agg [.sli zl 1 .exact]] ⟨[], []⟩)).pos
noncomputable def PI47 : Pos := (goT E0 1 (ctxOf E0 47) 35 (entry E0 47 [.agg [.sli zl 1 .exact]] ⟨[], []⟩)).pos
section
variable (ns : List Nd) (q : Q) (S : St) (hns : ns.length ≤ 2 ^ 40)
include hns
theorem LI46 (i : Nat) (hi : i < ns.length) (f : List Fd) (qf : Q) (hf : f.length ≤ 2 ^ 40) (R : Nat → Nat)
    (ihO : ∀ a : Nat, EvC E0 (ctxOf E0 46) ⟨PO46, [(3, .int .i64 (a : Int)), (9, .sli (encNs ns) ns.length q), (10, .int .i64 (ns.length : Int)), (11, .int .i64 ((i + 1 : Nat) : Int))], S⟩ (Go.V.Fin E0 46 S (.int .i64 (R a : Int)) S)) : ∀ (m j a : Nat), j + m = f.length →
    EvC E0 (ctxOf E0 46) ⟨PI46, [(3, .int .i64 (a : Int)), (9, .sli (encNs ns) ns.length q), (10, .int .i64 (ns.length : Int)), (11, .int .i64 (i : Int)), (16, .sli (encFs f) f.length qf), (17, .int .i64 (f.length : Int)), (18, .int .i64 (j : Int))], S⟩ (Go.V.Fin E0 46 S (.int .i64 (R (longF a (f.drop j)) : Int)) S) := by
  intro m
  induction m with
  | zero =>
    intro j a hj
    have e : f.drop j = [] := List.drop_eq_nil_of_le (by omega)
    have g : ¬ (j : Int) < (f.length : Int) := by omega
    have ih := ihO a
    rw [e]
    simp only [longF]
    clear ihO
    refine evc_g 5 ?_
    refine evc_i 19 (decide ((↑j : Int) < (↑f.length : Int))) false ?_
    refine evc_g 8 ?_
    refine evc_set 11 (Val.int IntKind.i64 (IntKind.i64.wrap ((↑i : Int) + 1))) (Val.int IntKind.i64 (↑(i + 1) : Int)) (by kernel_rfl) (congrArg (Val.int IntKind.i64) (wrap_nat (i := i) (m := 1) (by omega))) ?_
    exact evc_a (ih)
  | succ m ihm =>
    intro j a hj
    have hlt : j < f.length := by omega
    have g : (j : Int) < (f.length : Int) := by omega
    obtain ⟨x, hx⟩ : ∃ x, f[j]? = some x := ⟨f[j], List.getElem?_eq_getElem hlt⟩
    have hcx := cut_F hx
    have hdx : f.drop j = x :: f.drop (j + 1) := by
      obtain ⟨_, rfl⟩ := List.getElem?_eq_some_iff.1 hx
      exact List.drop_eq_getElem_cons hlt
    have ih := ihm (j + 1) (max a x.key.length) (by omega)
    have hm : (if (x.key.length : Int) > (a : Int) then (x.key.length : Int) else (a : Int)) = ((max a x.key.length : Nat) : Int) := by split <;> omega
    rw [hdx]
    simp only [longF]
    generalize R (longF (max a x.key.length) (f.drop (j + 1))) = r at *
    generalize max a x.key.length = a' at *
    clear ihm hdx ihO
    obtain ⟨key, node, opt⟩ := x
    simp only [encF] at *
    refine evc_g 5 ?_
    refine evc_i 19 (decide ((↑j : Int) < (↑f.length : Int))) true ?_
    refine evc_g 6 ?_
    refine evc_idx (j) (f.length) (encFs f) 3 (by kernel_rfl) (by first | with_reducible rfl | assumption | (simp_all; done) | omega | (simp_all; omega)) (by kernel_rfl) ?_
    refine evc_cut (encFs f) (j * 3) 3 ([Val.str key, Val.int IntKind.i64 node, Val.bool opt]) .pure (by kernel_rfl) hcx (by kernel_rfl) ?_
    refine evc_g 17 ?_
    refine evc_set 3 (Val.int IntKind.i64 (if (↑key.length : Int) > (↑a : Int) then (↑key.length : Int) else (↑a : Int))) (Val.int IntKind.i64 (↑a' : Int)) (by kernel_rfl) (congrArg (Val.int IntKind.i64) hm) ?_
    refine evc_set 18 (Val.int IntKind.i64 (IntKind.i64.wrap ((↑j : Int) + 1))) (Val.int IntKind.i64 (↑(j + 1) : Int)) (by kernel_rfl) (congrArg (Val.int IntKind.i64) (wrap_nat (i := j) (m := 1) (by omega))) ?_
    exact evc_a (ih)
theorem LO46 (hf : ∀ n ∈ ns, n.f.length ≤ 2 ^ 40) : ∀ (m i a : Nat), i + m = ns.length →
    EvC E0 (ctxOf E0 46) ⟨PO46, [(3, .int .i64 (a : Int)), (9, .sli (encNs ns) ns.length q), (10, .int .i64 (ns.length : Int)), (11, .int .i64 (i : Int))], S⟩ (Go.V.Fin E0 46 S (.int .i64 (longS a (ns.drop i) : Int)) S) := by
  intro m
  induction m with
  | zero =>
    intro i a hi
    have e : ns.drop i = [] := List.drop_eq_nil_of_le (by omega)
    have g : ¬ (i : Int) < (ns.length : Int) := by omega
    rw [e]
    simp only [longS]
    clear hf
    refine evc_g 5 ?_
    refine evc_i 12 (decide ((↑i : Int) < (↑ns.length : Int))) false ?_
    refine evc_g 7 ?_
    exact evc_t (Val.int IntKind.i64 (↑a : Int)) (hl := (by first | rfl | (simp [Val.low, Val.lows, low_encL, low_encI]; done) | (simp [Val.low, Val.lows, low_encL, low_encI, low_encZ, low_encFs, low_encNs, low_encN]; done)))
  | succ m ihm =>
    intro i a hi
    have hlt : i < ns.length := by omega
    have g : (i : Int) < (ns.length : Int) := by omega
    obtain ⟨n, hn⟩ : ∃ n, ns[i]? = some n := ⟨ns[i], List.getElem?_eq_getElem hlt⟩
    have hc := cut_N hn
    have hdx : ns.drop i = n :: ns.drop (i + 1) := by
      obtain ⟨_, rfl⟩ := List.getElem?_eq_some_iff.1 hn
      exact List.drop_eq_getElem_cons hlt
    have L := LI46 ns q S hns i hlt n.f n.qf (hf n (List.mem_of_getElem? hn)) (fun a => longS a (ns.drop (i + 1))) (fun a => ihm (i + 1) a (by omega)) n.f.length 0 a (by omega)
    simp only [List.drop_zero] at L
    rw [hdx]
    simp only [longS]
    generalize longS (longF a n.f) (ns.drop (i + 1)) = r at *
    clear ihm hdx hf
    obtain ⟨k, lo, hi2, v, l, ql, f, qf⟩ := n
    simp only at *
    cases v with
    | mk vk vn vs vq vl =>
    rw [encN_mk] at hc
    refine evc_g 5 ?_
    refine evc_i 12 (decide ((↑i : Int) < (↑ns.length : Int))) true ?_
    refine evc_g 6 ?_
    refine evc_idx (i) (ns.length) (encNs ns) 9 (by kernel_rfl) (by first | with_reducible rfl | assumption | (simp_all; done) | omega | (simp_all; omega)) (by kernel_rfl) ?_
    refine evc_cut (encNs ns) (i * 9) 9 (Go.V.n9 k lo hi2 vk vn vs vl vq l ql f qf) .pure (by kernel_rfl) hc (by kernel_rfl) ?_
    refine evc_g 12 ?_
    exact evc_a (L)
theorem c46 (hf : ∀ n ∈ ns, n.f.length ≤ 2 ^ 40) : Go.V.Call E0 46 [.agg [.sli (encNs ns) ns.length q]] S (.int .i64 (longS 0 ns : Int)) S := by
  have L := LO46 ns q S hns hf ns.length 0 0 (by omega)
  simp only [List.drop_zero] at L
  generalize longS 0 ns = r at *
  clear hf
  refine call_cfg (by kernel_rfl) ?_
  refine evc_g 19 ?_
  exact evc_a (L)
theorem LI47 (i : Nat) (hi : i < ns.length) (f : List Fd) (qf : Q) (hg : (encNs ns)[i * 9 + 8]? = some (.sli (encFs f) f.length qf)) (hf : f.length ≤ 2 ^ 40) (R : Nat → Nat)
    (ihO : ∀ a : Nat, EvC E0 (ctxOf E0 47) ⟨PO47, [(1, .lv [.sli (encNs ns) ns.length q]), (3, .int .i64 (a : Int)), (4, .int .i64 ((i + 1 : Nat) : Int))], S⟩ (Go.V.Fin E0 47 S (.int .i64 (R a : Int)) S)) : ∀ (m j a : Nat), j + m = f.length →
    EvC E0 (ctxOf E0 47) ⟨PI47, [(1, .lv [.sli (encNs ns) ns.length q]), (3, .int .i64 (a : Int)), (4, .int .i64 (i : Int)), (5, .int .i64 (j : Int))], S⟩ (Go.V.Fin E0 47 S (.int .i64 (R (longF a (f.drop j)) : Int)) S) := by
  intro m
  induction m with
  | zero =>
    intro j a hj
    have e : f.drop j = [] := List.drop_eq_nil_of_le (by omega)
    have g : ¬ (j : Int) < (f.length : Int) := by omega
    have ih := ihO a
    rw [e]
    simp only [longF]
    clear ihO
    refine evc_g 7 ?_
    refine evc_idx (i) (ns.length) (encNs ns) 9 (by kernel_rfl) (by first | with_reducible rfl | assumption | (simp_all; done) | omega | (simp_all; omega)) (by kernel_rfl) ?_
    refine evc_g 1 ?_
    refine evc_get (encNs ns) (i * 9 + 8) (Val.sli (encFs f) f.length qf) .pure (by kernel_rfl) hg (by kernel_rfl) ?_
    refine evc_g 3 ?_
    refine evc_i 21 (decide ((↑j : Int) < (↑f.length : Int))) false ?_
    refine evc_g 9 ?_
    refine evc_set 4 (Val.int IntKind.i64 (IntKind.i64.wrap ((↑i : Int) + 1))) (Val.int IntKind.i64 (↑(i + 1) : Int)) (by kernel_rfl) (congrArg (Val.int IntKind.i64) (wrap_nat (i := i) (m := 1) (by omega))) ?_
    exact evc_a (ih)
  | succ m ihm =>
    intro j a hj
    have hlt : j < f.length := by omega
    have g : (j : Int) < (f.length : Int) := by omega
    obtain ⟨x, hx⟩ : ∃ x, f[j]? = some x := ⟨f[j], List.getElem?_eq_getElem hlt⟩
    have gk := get_F0 hx
    have hdx : f.drop j = x :: f.drop (j + 1) := by
      obtain ⟨_, rfl⟩ := List.getElem?_eq_some_iff.1 hx
      exact List.drop_eq_getElem_cons hlt
    have ih := ihm (j + 1) (max a x.key.length) (by omega)
    rw [hdx]
    simp only [longF]
    generalize R (longF (max a x.key.length) (f.drop (j + 1))) = r at *
    clear ihm hdx ihO
    obtain ⟨key, node, opt⟩ := x
    simp only at *
    by_cases h : a < key.length
    · have g2 : (key.length : Int) > (a : Int) := by omega
      rw [show max a key.length = key.length by omega] at ih
      refine evc_g 7 ?_
      refine evc_idx (i) (ns.length) (encNs ns) 9 (by kernel_rfl) (by first | with_reducible rfl | assumption | (simp_all; done) | omega | (simp_all; omega)) (by kernel_rfl) ?_
      refine evc_g 1 ?_
      refine evc_get (encNs ns) (i * 9 + 8) (Val.sli (encFs f) f.length qf) .pure (by kernel_rfl) hg (by kernel_rfl) ?_
      refine evc_g 3 ?_
      refine evc_i 21 (decide ((↑j : Int) < (↑f.length : Int))) true ?_
      refine evc_g 9 ?_
      refine evc_idx (i) (ns.length) (encNs ns) 9 (by kernel_rfl) (by first | with_reducible rfl | assumption | (simp_all; done) | omega | (simp_all; omega)) (by kernel_rfl) ?_
      refine evc_g 1 ?_
      refine evc_get (encNs ns) (i * 9 + 8) (Val.sli (encFs f) f.length qf) .pure (by kernel_rfl) hg (by kernel_rfl) ?_
      refine evc_g 1 ?_
      refine evc_idx (j) (f.length) (encFs f) 3 (by kernel_rfl) (by first | with_reducible rfl | assumption | (simp_all; done) | omega | (simp_all; omega)) (by kernel_rfl) ?_
      refine evc_g 1 ?_
      refine evc_get (encFs f) (j * 3 + 0) (Val.str key) .pure (by kernel_rfl) gk (by kernel_rfl) ?_
      refine evc_g 4 ?_
      refine evc_i 36 (decide ((↑key.length : Int) > (↑a : Int))) true ?_
      refine evc_g 5 ?_
      refine evc_idx (i) (ns.length) (encNs ns) 9 (by kernel_rfl) (by first | with_reducible rfl | assumption | (simp_all; done) | omega | (simp_all; omega)) (by kernel_rfl) ?_
      refine evc_g 1 ?_
      refine evc_get (encNs ns) (i * 9 + 8) (Val.sli (encFs f) f.length qf) .pure (by kernel_rfl) hg (by kernel_rfl) ?_
      refine evc_g 1 ?_
      refine evc_idx (j) (f.length) (encFs f) 3 (by kernel_rfl) (by first | with_reducible rfl | assumption | (simp_all; done) | omega | (simp_all; omega)) (by kernel_rfl) ?_
      refine evc_g 1 ?_
      refine evc_get (encFs f) (j * 3 + 0) (Val.str key) .pure (by kernel_rfl) gk (by kernel_rfl) ?_
      refine evc_g 10 ?_
      refine evc_set 5 (Val.int IntKind.i64 (IntKind.i64.wrap ((↑j : Int) + 1))) (Val.int IntKind.i64 (↑(j + 1) : Int)) (by kernel_rfl) (congrArg (Val.int IntKind.i64) (wrap_nat (i := j) (m := 1) (by omega))) ?_
      exact evc_a (ih)
    · have g2 : ¬ (key.length : Int) > (a : Int) := by omega
      rw [show max a key.length = a by omega] at ih
      refine evc_g 7 ?_
      refine evc_idx (i) (ns.length) (encNs ns) 9 (by kernel_rfl) (by first | with_reducible rfl | assumption | (simp_all; done) | omega | (simp_all; omega)) (by kernel_rfl) ?_
      refine evc_g 1 ?_
      refine evc_get (encNs ns) (i * 9 + 8) (Val.sli (encFs f) f.length qf) .pure (by kernel_rfl) hg (by kernel_rfl) ?_
      refine evc_g 3 ?_
      refine evc_i 21 (decide ((↑j : Int) < (↑f.length : Int))) true ?_
      refine evc_g 9 ?_
      refine evc_idx (i) (ns.length) (encNs ns) 9 (by kernel_rfl) (by first | with_reducible rfl | assumption | (simp_all; done) | omega | (simp_all; omega)) (by kernel_rfl) ?_
      refine evc_g 1 ?_
      refine evc_get (encNs ns) (i * 9 + 8) (Val.sli (encFs f) f.length qf) .pure (by kernel_rfl) hg (by kernel_rfl) ?_
      refine evc_g 1 ?_
      refine evc_idx (j) (f.length) (encFs f) 3 (by kernel_rfl) (by first | with_reducible rfl | assumption | (simp_all; done) | omega | (simp_all; omega)) (by kernel_rfl) ?_
      refine evc_g 1 ?_
      refine evc_get (encFs f) (j * 3 + 0) (Val.str key) .pure (by kernel_rfl) gk (by kernel_rfl) ?_
      refine evc_g 4 ?_
      refine evc_i 36 (decide ((↑key.length : Int) > (↑a : Int))) false ?_
      refine evc_g 9 ?_
      refine evc_set 5 (Val.int IntKind.i64 (IntKind.i64.wrap ((↑j : Int) + 1))) (Val.int IntKind.i64 (↑(j + 1) : Int)) (by kernel_rfl) (congrArg (Val.int IntKind.i64) (wrap_nat (i := j) (m := 1) (by omega))) ?_
      exact evc_a (ih)
theorem LO47 (hf : ∀ n ∈ ns, n.f.length ≤ 2 ^ 40) : ∀ (m i a : Nat), i + m = ns.length →
    EvC E0 (ctxOf E0 47) ⟨PO47, [(1, .lv [.sli (encNs ns) ns.length q]), (3, .int .i64 (a : Int)), (4, .int .i64 (i : Int))], S⟩ (Go.V.Fin E0 47 S (.int .i64 (longS a (ns.drop i) : Int)) S) := by
  intro m
  induction m with
  | zero =>
    intro i a hi
    have e : ns.drop i = [] := List.drop_eq_nil_of_le (by omega)
    have g : ¬ (i : Int) < (ns.length : Int) := by omega
    rw [e]
    simp only [longS]
    clear hf
    refine evc_g 9 ?_
    refine evc_i 10 (decide ((↑i : Int) < (↑ns.length : Int))) false ?_
    refine evc_g 7 ?_
    exact evc_t (Val.int IntKind.i64 (↑a : Int)) (hl := (by first | rfl | (simp [Val.low, Val.lows, low_encL, low_encI]; done) | (simp [Val.low, Val.lows, low_encL, low_encI, low_encZ, low_encFs, low_encNs, low_encN]; done)))
  | succ m ihm =>
    intro i a hi
    have hlt : i < ns.length := by omega
    have g : (i : Int) < (ns.length : Int) := by omega
    obtain ⟨n, hn⟩ : ∃ n, ns[i]? = some n := ⟨ns[i], List.getElem?_eq_getElem hlt⟩
    have hg : (encNs ns)[i * 9 + 8]? = some (.sli (encFs n.f) n.f.length n.qf) := by
      have := flat_get encN_len hn 8 (by omega)
      rw [show encNs ns = ns.flatMap encN from rfl, this]
      obtain ⟨k, lo, hi2, v, l, ql, f, qf⟩ := n
      cases v with
      | mk => rfl
    have hdx : ns.drop i = n :: ns.drop (i + 1) := by
      obtain ⟨_, rfl⟩ := List.getElem?_eq_some_iff.1 hn
      exact List.drop_eq_getElem_cons hlt
    have L := LI47 ns q S hns i hlt n.f n.qf hg (hf n (List.mem_of_getElem? hn)) (fun a => longS a (ns.drop (i + 1))) (fun a => ihm (i + 1) a (by omega)) n.f.length 0 a (by omega)
    simp only [List.drop_zero] at L
    rw [hdx]
    simp only [longS]
    generalize longS (longF a n.f) (ns.drop (i + 1)) = r at *
    clear ihm hdx hf
    refine evc_g 9 ?_
    refine evc_i 10 (decide ((↑i : Int) < (↑ns.length : Int))) true ?_
    refine evc_g 10 ?_
    exact evc_a (L)
theorem c47 (hf : ∀ n ∈ ns, n.f.length ≤ 2 ^ 40) : Go.V.Call E0 47 [.agg [.sli (encNs ns) ns.length q]] S (.int .i64 (longS 0 ns : Int)) S := by
  have L := LO47 ns q S hns hf ns.length 0 0 (by omega)
  simp only [List.drop_zero] at L
  generalize longS 0 ns = r at *
  clear hf
  refine call_cfg (by kernel_rfl) ?_
  refine evc_g 16 ?_
  exact evc_a (L)
end
/-- are limits right? -/
def rightL (d k z : Int) : Bool := decide (1 ≤ d ∧ d ≤ 64 ∧ 1 ≤ k ∧ k ≤ 1024 ∧ 1 ≤ z ∧ z ≤ 2305843009213693951)
def lchk (d k z : Int) : Int := if rightL d k z then 0 else 15
theorem c100 (n m : Int) (S : St) : Go.V.Call E0 100 [.int .i64 n, .int .i64 m] S (.bool (decide (n ≥ 1) && decide (n ≤ m))) S := by
  refine call_cfg (by kernel_rfl) ?_
  refine evc_g 9 ?_
  refine evc_s 7 (decide (n ≥ 1)) (fun h12 => ?_) (fun h12 => ?_)
  · refine evc_g 6 ?_
    exact evc_t (Val.bool (decide (n ≤ m)))
  · refine evc_g 6 ?_
    exact evc_t (Val.bool Bool.false)
theorem c68 (d k z : Int) (S : St) : Go.V.Call E0 68 [.agg [.int .i64 d, .int .i64 k, .int .i64 z]] S (.int .i64 (lchk d k z)) S := by
  have h1 := c100 d 64 S
  have h2 := c100 k 1024 S
  have h3 := c100 z 2305843009213693951 S
  by_cases a1 : 1 ≤ d ∧ d ≤ 64
  · have e1 : (decide (d ≥ 1) && decide (d ≤ 64)) = true := by simp; omega
    rw [e1] at h1
    by_cases a2 : 1 ≤ k ∧ k ≤ 1024
    · have e2 : (decide (k ≥ 1) && decide (k ≤ 1024)) = true := by simp; omega
      rw [e2] at h2
      by_cases a3 : 1 ≤ z ∧ z ≤ 2305843009213693951
      · have e3 : (decide (z ≥ 1) && decide (z ≤ 2305843009213693951)) = true := by simp; omega
        rw [e3] at h3
        have e : lchk d k z = 0 := by unfold lchk rightL; rw [if_pos (by simp; omega)]
        rw [e]
        refine call_cfg (by kernel_rfl) ?_
        refine evc_g 10 ?_
        refine evc_c (h1) ?_
        refine evc_g 4 ?_
        refine evc_c (h2) ?_
        refine evc_g 5 ?_
        refine evc_c (h3) ?_
        refine evc_g 9 ?_
        exact evc_t (Val.int IntKind.i64 0)
      · have e3 : (decide (z ≥ 1) && decide (z ≤ 2305843009213693951)) = false := by simp; omega
        rw [e3] at h3
        have e : lchk d k z = 15 := by unfold lchk rightL; rw [if_neg (by simp; omega)]
        rw [e]
        refine call_cfg (by kernel_rfl) ?_
        refine evc_g 10 ?_
        refine evc_c (h1) ?_
        refine evc_g 4 ?_
        refine evc_c (h2) ?_
        refine evc_g 5 ?_
        refine evc_c (h3) ?_
        refine evc_g 8 ?_
        exact evc_t (Val.int IntKind.i64 15)
    · have e2 : (decide (k ≥ 1) && decide (k ≤ 1024)) = false := by simp; omega
      rw [e2] at h2
      have e : lchk d k z = 15 := by unfold lchk rightL; rw [if_neg (by simp; omega)]
      rw [e]
      refine call_cfg (by kernel_rfl) ?_
      refine evc_g 10 ?_
      refine evc_c (h1) ?_
      refine evc_g 4 ?_
      refine evc_c (h2) ?_
      refine evc_g 14 ?_
      exact evc_t (Val.int IntKind.i64 15)
  · have e1 : (decide (d ≥ 1) && decide (d ≤ 64)) = false := by simp; omega
    rw [e1] at h1
    have e : lchk d k z = 15 := by unfold lchk rightL; rw [if_neg (by simp; omega)]
    rw [e]
    refine call_cfg (by kernel_rfl) ?_
    refine evc_g 10 ?_
    refine evc_c (h1) ?_
    refine evc_g 19 ?_
    exact evc_t (Val.int IntKind.i64 15)
theorem c69 (d k z : Int) (S : St) : Go.V.Call E0 69 [.agg [.int .i64 d, .int .i64 k, .int .i64 z]] S (.bool (rightL d k z)) S := by
  have e : rightL d k z = (decide (d ≥ 1) && (decide (d ≤ 64) && (decide (k ≥ 1) && (decide (k ≤ 1024) && (decide (z ≥ 1) && decide (z ≤ 2305843009213693951)))))) := by
    unfold rightL; rw [Bool.eq_iff_iff]; simp
  rw [e]
  refine call_cfg (by kernel_rfl) ?_
  refine evc_g 11 ?_
  refine evc_s 6 (decide (d ≥ 1)) (fun h12 => ?_) (fun h12 => ?_)
  · refine evc_g 5 ?_
    refine evc_s 11 (decide (d ≤ 64)) (fun h11 => ?_) (fun h11 => ?_)
    · refine evc_g 5 ?_
      refine evc_s 16 (decide (k ≥ 1)) (fun h10 => ?_) (fun h10 => ?_)
      · refine evc_g 5 ?_
        refine evc_s 21 (decide (k ≤ 1024)) (fun h9 => ?_) (fun h9 => ?_)
        · refine evc_g 5 ?_
          refine evc_s 26 (decide (z ≥ 1)) (fun h8 => ?_) (fun h8 => ?_)
          · refine evc_g 6 ?_
            exact evc_t (Val.bool (decide (z ≤ 2305843009213693951)))
          · refine evc_g 6 ?_
            exact evc_t (Val.bool Bool.false)
        · refine evc_g 11 ?_
          exact evc_t (Val.bool Bool.false)
      · refine evc_g 16 ?_
        exact evc_t (Val.bool Bool.false)
    · refine evc_g 21 ?_
      exact evc_t (Val.bool Bool.false)
  · refine evc_g 26 ?_
    exact evc_t (Val.bool Bool.false)
end Go.V.W
