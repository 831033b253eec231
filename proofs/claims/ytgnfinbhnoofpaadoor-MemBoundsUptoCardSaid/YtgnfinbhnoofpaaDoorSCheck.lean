/- Check, Same, Width of schemas. -/
import Derived.Test.YtgnfinbhnoofpaaDoorVH
import Derived.Test.YtgnfinbhnoofpaaDoorSWrong
import Derived.Test.YtgnfinbhnoofpaaDoorSWrongR2
set_option linter.unusedVariables false
set_option linter.unusedSimpArgs false
set_option linter.unusedSectionVars false
open Go Go.V
set_option maxRecDepth 100000
set_option maxHeartbeats 4000000
namespace Go.V.W
/-- the first node with which something is wrong -/
def firstS (len : Nat) : Nat → List Nd → Int × Int
  | _, [] => (0, 0)
  | i, n :: l => if wrN len i n = 0 then firstS len (i + 1) l else ((i : Int), wrN len i n)
def checkS (ns : List Nd) : Int × Int := if ns.length < 1 ∨ 256 < ns.length then (0, 16) else firstS ns.length 0 ns
def eqNs : List Nd → List Nd → Bool
  | [], [] => true
  | x :: l, y :: l' => sameNd x y && eqNs l l'
  | _, _ => false
theorem eqNs_len : ∀ {l l' : List Nd}, l.length ≠ l'.length → eqNs l l' = false
  | [], [], h => absurd rfl h
  | [], _ :: _, _ => rfl
  | _ :: _, [], _ => rfl
  | x :: l, y :: l', h => by simp only [eqNs, eqNs_len (l := l) (l' := l') (fun e => h (by simp [e])), Bool.and_false]
abbrev zn9 : List Val := [.int .i64 0, .int .i64 0, .int .i64 0, .int .i64 0, .int .u64 0, .str [], .sli [] 0 .nil, .sli [] 0 .nil, .sli [] 0 .nil]
noncomputable def P31 : Pos := (goT E0 1000 (ctxOf E0 31) 32 (entry E0 31 [.agg [.sli zn9 1 .exact]] ⟨[], []⟩)).pos
noncomputable def P32 : Pos := (goT E0 1000 (ctxOf E0 32) 29 (entry E0 32 [.agg [.sli zn9 1 .exact]] ⟨[], []⟩)).pos
noncomputable def P85 : Pos := (goT E0 1000 (ctxOf E0 85) 24 (entry E0 85 [.sli [] 0 .nil, .sli [] 0 .nil, .fn 86 []] ⟨[], []⟩)).pos
noncomputable def P34 : Pos := (goT E0 1000 (ctxOf E0 34) 26 (entry E0 34 [.agg [.sli [] 0 .nil], .agg [.sli [] 0 .nil]] ⟨[], []⟩)).pos
section
variable (ns : List Nd) (q : Q) (S : St) (hns : ns.length ≤ 256) (hok : ∀ n ∈ ns, okNd n)
include hns hok
theorem L31 : ∀ (m i : Nat), i + m = ns.length →
    EvC E0 (ctxOf E0 31) ⟨P31, [(1, .lv [.sli (encNs ns) ns.length q]), (18, .int .i64 (ns.length : Int)), (19, .int .i64 (i : Int))], S⟩ (Go.V.Fin E0 31 S (.tup [.int .i64 (firstS ns.length i (ns.drop i)).1, .int .i64 (firstS ns.length i (ns.drop i)).2]) S) := by
  intro m
  induction m with
  | zero =>
    intro i hi
    have e : ns.drop i = [] := List.drop_eq_nil_of_le (by omega)
    have g : ¬ (i : Int) < (ns.length : Int) := by omega
    rw [e]
    simp only [firstS]
    clear hok
    refine evc_g 5 ?_
    refine evc_i 20 (decide ((↑i : Int) < (↑ns.length : Int))) false ?_
    refine evc_g 7 ?_
    exact evc_t (Val.tup [Val.int IntKind.i64 0, Val.int IntKind.i64 0])
  | succ m ihm =>
    intro i hi
    have hlt : i < ns.length := by omega
    have g : (i : Int) < (ns.length : Int) := by omega
    obtain ⟨n, hn⟩ : ∃ n, ns[i]? = some n := ⟨ns[i], List.getElem?_eq_getElem hlt⟩
    have hdx : ns.drop i = n :: ns.drop (i + 1) := by
      obtain ⟨_, rfl⟩ := List.getElem?_eq_some_iff.1 hn
      exact List.drop_eq_getElem_cons hlt
    have ih := ihm (i + 1) (by omega)
    have h83 := c83 ns q i n hn (by omega) (hok n (List.mem_of_getElem? hn)) S
    rw [hdx]
    simp only [firstS]
    generalize firstS ns.length (i + 1) (ns.drop (i + 1)) = r at *
    generalize wrN ns.length i n = w at *
    clear ihm hdx hok
    by_cases hw : w = 0
    · subst hw
      simp only [if_true]
      refine evc_g 5 ?_
      refine evc_i 20 (decide ((↑i : Int) < (↑ns.length : Int))) true ?_
      refine evc_g 13 ?_
      refine evc_c (h83) ?_
      refine evc_g 15 ?_
      refine evc_set 19 (Val.int IntKind.i64 (IntKind.i64.wrap ((↑i : Int) + 1))) (Val.int IntKind.i64 (↑(i + 1) : Int)) (by kernel_rfl) (congrArg (Val.int IntKind.i64) (wrap_nat (i := i) (m := 1) (by omega))) ?_
      exact evc_a (ih)
    · rw [if_neg hw]
      clear ih
      refine evc_g 5 ?_
      refine evc_i 20 (decide ((↑i : Int) < (↑ns.length : Int))) true ?_
      refine evc_g 13 ?_
      refine evc_c (h83) ?_
      refine evc_g 7 ?_
      refine evc_i 26 (w != 0) true ?_
      refine evc_g 8 ?_
      exact evc_t (Val.tup [Val.int IntKind.i64 (↑i : Int), Val.int IntKind.i64 w]) (hl := (by first | rfl | (simp [Val.low, Val.lows, low_encL, low_encI]; done) | (simp [Val.low, Val.lows, low_encL, low_encI, low_encZ, low_encFs, low_encNs, low_encN]; done)))
theorem L32 : ∀ (m i : Nat), i + m = ns.length →
    EvC E0 (ctxOf E0 32) ⟨P32, [(1, .lv [.sli (encNs ns) ns.length q]), (4, .int .i64 (i : Int))], S⟩ (Go.V.Fin E0 32 S (.tup [.int .i64 (firstS ns.length i (ns.drop i)).1, .int .i64 (firstS ns.length i (ns.drop i)).2]) S) := by
  intro m
  induction m with
  | zero =>
    intro i hi
    have e : ns.drop i = [] := List.drop_eq_nil_of_le (by omega)
    have g : ¬ (i : Int) < (ns.length : Int) := by omega
    rw [e]
    simp only [firstS]
    clear hok
    refine evc_g 9 ?_
    refine evc_i 20 (decide ((↑i : Int) < (↑ns.length : Int))) false ?_
    refine evc_g 7 ?_
    exact evc_t (Val.tup [Val.int IntKind.i64 0, Val.int IntKind.i64 0])
  | succ m ihm =>
    intro i hi
    have hlt : i < ns.length := by omega
    have g : (i : Int) < (ns.length : Int) := by omega
    obtain ⟨n, hn⟩ : ∃ n, ns[i]? = some n := ⟨ns[i], List.getElem?_eq_getElem hlt⟩
    have hdx : ns.drop i = n :: ns.drop (i + 1) := by
      obtain ⟨_, rfl⟩ := List.getElem?_eq_some_iff.1 hn
      exact List.drop_eq_getElem_cons hlt
    have ih := ihm (i + 1) (by omega)
    have h84 := c84 ns q i n hn (by omega) (hok n (List.mem_of_getElem? hn)) S
    rw [hdx]
    simp only [firstS]
    generalize firstS ns.length (i + 1) (ns.drop (i + 1)) = r at *
    generalize wrN ns.length i n = w at *
    clear ihm hdx hok
    by_cases hw : w = 0
    · subst hw
      simp only [if_true]
      refine evc_g 9 ?_
      refine evc_i 20 (decide ((↑i : Int) < (↑ns.length : Int))) true ?_
      refine evc_g 8 ?_
      refine evc_c (h84) ?_
      refine evc_g 16 ?_
      refine evc_set 4 (Val.int IntKind.i64 (IntKind.i64.wrap ((↑i : Int) + 1))) (Val.int IntKind.i64 (↑(i + 1) : Int)) (by kernel_rfl) (congrArg (Val.int IntKind.i64) (wrap_nat (i := i) (m := 1) (by omega))) ?_
      exact evc_a (ih)
    · rw [if_neg hw]
      clear ih
      refine evc_g 9 ?_
      refine evc_i 20 (decide ((↑i : Int) < (↑ns.length : Int))) true ?_
      refine evc_g 8 ?_
      refine evc_c (h84) ?_
      refine evc_g 7 ?_
      refine evc_i 27 (w != 0) true ?_
      refine evc_g 8 ?_
      exact evc_t (Val.tup [Val.int IntKind.i64 (↑i : Int), Val.int IntKind.i64 w]) (hl := (by first | rfl | (simp [Val.low, Val.lows, low_encL, low_encI]; done) | (simp [Val.low, Val.lows, low_encL, low_encI, low_encZ, low_encFs, low_encNs, low_encN]; done)))
end
abbrev pairV (p : Int × Int) : Val := .tup [.int .i64 p.1, .int .i64 p.2]
theorem c31 (ns : List Nd) (q : Q) (S : St) (hl : ns.length ≤ 2 ^ 40) (hok : ∀ n ∈ ns, okNd n) : Go.V.Call E0 31 [.agg [.sli (encNs ns) ns.length q]] S (pairV (checkS ns)) S := by
  unfold checkS
  by_cases h : ns.length < 1 ∨ 256 < ns.length
  · rw [if_pos h]
    clear hok
    rcases h with h | h
    · have g : (ns.length : Int) < 1 := by omega
      refine call_cfg (by kernel_rfl) ?_
      refine evc_g 14 ?_
      refine evc_i 10 (decide ((↑ns.length : Int) < 1)) true ?_
      refine evc_g 12 ?_
      exact evc_t (Val.tup [Val.int IntKind.i64 0, Val.int IntKind.i64 16])
    · have g : (ns.length : Int) > 256 := by omega
      have g2 : ¬ (ns.length : Int) < 1 := by omega
      refine call_cfg (by kernel_rfl) ?_
      refine evc_g 14 ?_
      refine evc_i 10 (decide ((↑ns.length : Int) < 1)) false ?_
      refine evc_g 6 ?_
      refine evc_i 15 (decide ((↑ns.length : Int) > 256)) true ?_
      refine evc_g 6 ?_
      exact evc_t (Val.tup [Val.int IntKind.i64 0, Val.int IntKind.i64 16])
  · rw [if_neg h]
    have L := L31 ns q S (by omega) hok ns.length 0 (by omega)
    simp only [List.drop_zero] at L
    generalize firstS ns.length 0 ns = r at *
    have g : ¬ (ns.length : Int) > 256 := by omega
    have g2 : ¬ (ns.length : Int) < 1 := by omega
    clear hok
    refine call_cfg (by kernel_rfl) ?_
    refine evc_g 14 ?_
    refine evc_i 10 (decide ((↑ns.length : Int) < 1)) false ?_
    refine evc_g 6 ?_
    refine evc_i 15 (decide ((↑ns.length : Int) > 256)) false ?_
    refine evc_g 12 ?_
    exact evc_a (L)
theorem c32 (ns : List Nd) (q : Q) (S : St) (hl : ns.length ≤ 2 ^ 40) (hok : ∀ n ∈ ns, okNd n) : Go.V.Call E0 32 [.agg [.sli (encNs ns) ns.length q]] S (pairV (checkS ns)) S := by
  unfold checkS
  by_cases h : ns.length < 1 ∨ 256 < ns.length
  · rw [if_pos h]
    clear hok
    rcases h with h | h
    · have g : (ns.length : Int) < 1 := by omega
      refine call_cfg (by kernel_rfl) ?_
      refine evc_g 14 ?_
      refine evc_i 10 (decide ((↑ns.length : Int) < 1)) true ?_
      refine evc_g 12 ?_
      exact evc_t (Val.tup [Val.int IntKind.i64 0, Val.int IntKind.i64 16])
    · have g : (ns.length : Int) > 256 := by omega
      have g2 : ¬ (ns.length : Int) < 1 := by omega
      refine call_cfg (by kernel_rfl) ?_
      refine evc_g 14 ?_
      refine evc_i 10 (decide ((↑ns.length : Int) < 1)) false ?_
      refine evc_g 6 ?_
      refine evc_i 15 (decide ((↑ns.length : Int) > 256)) true ?_
      refine evc_g 6 ?_
      exact evc_t (Val.tup [Val.int IntKind.i64 0, Val.int IntKind.i64 16])
  · rw [if_neg h]
    have L := L32 ns q S (by omega) hok ns.length 0 (by omega)
    simp only [List.drop_zero] at L
    generalize firstS ns.length 0 ns = r at *
    have g : ¬ (ns.length : Int) > 256 := by omega
    have g2 : ¬ (ns.length : Int) < 1 := by omega
    clear hok
    refine call_cfg (by kernel_rfl) ?_
    refine evc_g 14 ?_
    refine evc_i 10 (decide ((↑ns.length : Int) < 1)) false ?_
    refine evc_g 6 ?_
    refine evc_i 15 (decide ((↑ns.length : Int) > 256)) false ?_
    refine evc_g 9 ?_
    exact evc_a (L)
section
variable (ns ns' : List Nd) (q q' : Q) (S : St) (hns : ns.length ≤ 2 ^ 40) (hok : ∀ n ∈ ns, okNd n)
include hns hok
theorem L85 (hll : ns'.length = ns.length) : ∀ (m i : Nat), i + m = ns.length →
    EvC E0 (ctxOf E0 85) ⟨P85, [(1, .sli (encNs ns') ns'.length q'), (2, .fn 86 []), (15, .sli (encNs ns) ns.length q), (16, .int .i64 (ns.length : Int)), (17, .int .i64 (i : Int))], S⟩ (Go.V.Fin E0 85 S (.bool (eqNs (ns.drop i) (ns'.drop i))) S) := by
  intro m
  induction m with
  | zero =>
    intro i hi
    have e : ns.drop i = [] := List.drop_eq_nil_of_le (by omega)
    have e' : ns'.drop i = [] := List.drop_eq_nil_of_le (by omega)
    have g : ¬ (i : Int) < (ns.length : Int) := by omega
    rw [e, e']
    simp only [eqNs]
    clear hok
    refine evc_g 5 ?_
    refine evc_i 18 (decide ((↑i : Int) < (↑ns.length : Int))) false ?_
    refine evc_g 6 ?_
    exact evc_t (Val.bool Bool.true)
  | succ m ihm =>
    intro i hi
    have hlt : i < ns.length := by omega
    have g : (i : Int) < (ns.length : Int) := by omega
    obtain ⟨x, hx⟩ : ∃ x, ns[i]? = some x := ⟨ns[i], List.getElem?_eq_getElem hlt⟩
    obtain ⟨y, hy⟩ : ∃ y, ns'[i]? = some y := ⟨ns'[i], List.getElem?_eq_getElem (by omega)⟩
    have hcx := cut_N hx
    have hcy := cut_N hy
    have hdx : ns.drop i = x :: ns.drop (i + 1) := by
      obtain ⟨_, rfl⟩ := List.getElem?_eq_some_iff.1 hx
      exact List.drop_eq_getElem_cons hlt
    have hdy : ns'.drop i = y :: ns'.drop (i + 1) := by
      obtain ⟨hl', rfl⟩ := List.getElem?_eq_some_iff.1 hy
      exact List.drop_eq_getElem_cons hl'
    have ih := ihm (i + 1) (by omega)
    have h86 := c86 x y (hok x (List.mem_of_getElem? hx)).ok S
    rw [hdx, hdy]
    simp only [eqNs]
    generalize eqNs (ns.drop (i + 1)) (ns'.drop (i + 1)) = r at *
    generalize sameNd x y = a at *
    clear ihm hdx hdy hok
    obtain ⟨k, lo, hi2, v, l, ql, f, qf⟩ := x
    obtain ⟨k', lo', hi2', v', l', ql', f', qf'⟩ := y
    cases v with
    | mk vk vn vs vq vl =>
    cases v' with
    | mk vk' vn' vs' vq' vl' =>
    simp only [encN_mk] at *
    cases a with
    | true =>
      simp only [Bool.true_and]
      refine evc_g 5 ?_
      refine evc_i 18 (decide ((↑i : Int) < (↑ns.length : Int))) true ?_
      refine evc_g 7 ?_
      refine evc_idx (i) (ns.length) (encNs ns) 9 (by kernel_rfl) (by first | with_reducible rfl | assumption | (simp_all; done) | omega | (simp_all; omega)) (by kernel_rfl) ?_
      refine evc_cut (encNs ns) (i * 9) 9 (Go.V.n9 k lo hi2 vk vn vs vl vq l ql f qf) .pure (by kernel_rfl) hcx (by kernel_rfl) ?_
      refine evc_g 8 ?_
      refine evc_idx (i) (ns'.length) (encNs ns') 9 (by kernel_rfl) (by first | with_reducible rfl | assumption | (simp_all; done) | omega | (simp_all; omega)) (by kernel_rfl) ?_
      refine evc_cut (encNs ns') (i * 9) 9 (Go.V.n9 k' lo' hi2' vk' vn' vs' vl' vq' l' ql' f' qf') .pure (by kernel_rfl) hcy (by kernel_rfl) ?_
      refine evc_g 8 ?_
      refine evc_c (h86) ?_
      refine evc_g 10 ?_
      refine evc_set 17 (Val.int IntKind.i64 (IntKind.i64.wrap ((↑i : Int) + 1))) (Val.int IntKind.i64 (↑(i + 1) : Int)) (by kernel_rfl) (congrArg (Val.int IntKind.i64) (wrap_nat (i := i) (m := 1) (by omega))) ?_
      exact evc_a (ih)
    | false =>
      simp only [Bool.false_and]
      clear ih
      refine evc_g 5 ?_
      refine evc_i 18 (decide ((↑i : Int) < (↑ns.length : Int))) true ?_
      refine evc_g 7 ?_
      refine evc_idx (i) (ns.length) (encNs ns) 9 (by kernel_rfl) (by first | with_reducible rfl | assumption | (simp_all; done) | omega | (simp_all; omega)) (by kernel_rfl) ?_
      refine evc_cut (encNs ns) (i * 9) 9 (Go.V.n9 k lo hi2 vk vn vs vl vq l ql f qf) .pure (by kernel_rfl) hcx (by kernel_rfl) ?_
      refine evc_g 8 ?_
      refine evc_idx (i) (ns'.length) (encNs ns') 9 (by kernel_rfl) (by first | with_reducible rfl | assumption | (simp_all; done) | omega | (simp_all; omega)) (by kernel_rfl) ?_
      refine evc_cut (encNs ns') (i * 9) 9 (Go.V.n9 k' lo' hi2' vk' vn' vs' vl' vq' l' ql' f' qf') .pure (by kernel_rfl) hcy (by kernel_rfl) ?_
      refine evc_g 8 ?_
      refine evc_c (h86) ?_
      refine evc_g 7 ?_
      exact evc_t (Val.bool Bool.false)
theorem L34 (hll : ns'.length = ns.length) : ∀ (m i : Nat), i + m = ns.length →
    EvC E0 (ctxOf E0 34) ⟨P34, [(2, .lv [.sli (encNs ns) ns.length q]), (3, .lv [.sli (encNs ns') ns'.length q']), (5, .int .i64 (i : Int))], S⟩ (Go.V.Fin E0 34 S (.bool (eqNs (ns.drop i) (ns'.drop i))) S) := by
  intro m
  induction m with
  | zero =>
    intro i hi
    have e : ns.drop i = [] := List.drop_eq_nil_of_le (by omega)
    have e' : ns'.drop i = [] := List.drop_eq_nil_of_le (by omega)
    have g : ¬ (i : Int) < (ns.length : Int) := by omega
    rw [e, e']
    simp only [eqNs]
    clear hok
    refine evc_g 9 ?_
    refine evc_i 17 (decide ((↑i : Int) < (↑ns.length : Int))) false ?_
    refine evc_g 6 ?_
    exact evc_t (Val.bool Bool.true)
  | succ m ihm =>
    intro i hi
    have hlt : i < ns.length := by omega
    have g : (i : Int) < (ns.length : Int) := by omega
    obtain ⟨x, hx⟩ : ∃ x, ns[i]? = some x := ⟨ns[i], List.getElem?_eq_getElem hlt⟩
    obtain ⟨y, hy⟩ : ∃ y, ns'[i]? = some y := ⟨ns'[i], List.getElem?_eq_getElem (by omega)⟩
    have hcx := cut_N hx
    have hcy := cut_N hy
    have hdx : ns.drop i = x :: ns.drop (i + 1) := by
      obtain ⟨_, rfl⟩ := List.getElem?_eq_some_iff.1 hx
      exact List.drop_eq_getElem_cons hlt
    have hdy : ns'.drop i = y :: ns'.drop (i + 1) := by
      obtain ⟨hl', rfl⟩ := List.getElem?_eq_some_iff.1 hy
      exact List.drop_eq_getElem_cons hl'
    have ih := ihm (i + 1) (by omega)
    have h87 := c87 x y (hok x (List.mem_of_getElem? hx)).ok S
    rw [hdx, hdy]
    simp only [eqNs]
    generalize eqNs (ns.drop (i + 1)) (ns'.drop (i + 1)) = r at *
    generalize sameNd x y = a at *
    clear ihm hdx hdy hok
    obtain ⟨k, lo, hi2, v, l, ql, f, qf⟩ := x
    obtain ⟨k', lo', hi2', v', l', ql', f', qf'⟩ := y
    cases v with
    | mk vk vn vs vq vl =>
    cases v' with
    | mk vk' vn' vs' vq' vl' =>
    simp only [encN_mk] at *
    cases a with
    | true =>
      simp only [Bool.true_and]
      refine evc_g 9 ?_
      refine evc_i 17 (decide ((↑i : Int) < (↑ns.length : Int))) true ?_
      refine evc_g 9 ?_
      refine evc_idx (i) (ns.length) (encNs ns) 9 (by kernel_rfl) (by first | with_reducible rfl | assumption | (simp_all; done) | omega | (simp_all; omega)) (by kernel_rfl) ?_
      refine evc_cut (encNs ns) (i * 9) 9 (Go.V.n9 k lo hi2 vk vn vs vl vq l ql f qf) .pure (by kernel_rfl) hcx (by kernel_rfl) ?_
      refine evc_g 3 ?_
      refine evc_idx (i) (ns'.length) (encNs ns') 9 (by kernel_rfl) (by first | with_reducible rfl | assumption | (simp_all; done) | omega | (simp_all; omega)) (by kernel_rfl) ?_
      refine evc_cut (encNs ns') (i * 9) 9 (Go.V.n9 k' lo' hi2' vk' vn' vs' vl' vq' l' ql' f' qf') .pure (by kernel_rfl) hcy (by kernel_rfl) ?_
      refine evc_c (h87) ?_
      refine evc_g 11 ?_
      refine evc_set 5 (Val.int IntKind.i64 (IntKind.i64.wrap ((↑i : Int) + 1))) (Val.int IntKind.i64 (↑(i + 1) : Int)) (by kernel_rfl) (congrArg (Val.int IntKind.i64) (wrap_nat (i := i) (m := 1) (by omega))) ?_
      exact evc_a (ih)
    | false =>
      simp only [Bool.false_and]
      clear ih
      refine evc_g 9 ?_
      refine evc_i 17 (decide ((↑i : Int) < (↑ns.length : Int))) true ?_
      refine evc_g 9 ?_
      refine evc_idx (i) (ns.length) (encNs ns) 9 (by kernel_rfl) (by first | with_reducible rfl | assumption | (simp_all; done) | omega | (simp_all; omega)) (by kernel_rfl) ?_
      refine evc_cut (encNs ns) (i * 9) 9 (Go.V.n9 k lo hi2 vk vn vs vl vq l ql f qf) .pure (by kernel_rfl) hcx (by kernel_rfl) ?_
      refine evc_g 3 ?_
      refine evc_idx (i) (ns'.length) (encNs ns') 9 (by kernel_rfl) (by first | with_reducible rfl | assumption | (simp_all; done) | omega | (simp_all; omega)) (by kernel_rfl) ?_
      refine evc_cut (encNs ns') (i * 9) 9 (Go.V.n9 k' lo' hi2' vk' vn' vs' vl' vq' l' ql' f' qf') .pure (by kernel_rfl) hcy (by kernel_rfl) ?_
      refine evc_c (h87) ?_
      refine evc_g 7 ?_
      exact evc_t (Val.bool Bool.false)
theorem c33 : Go.V.Call E0 33 [.agg [.sli (encNs ns) ns.length q], .agg [.sli (encNs ns') ns'.length q']] S (.bool (eqNs ns ns')) S := by
  have h85 : Go.V.Call E0 85 [.sli (encNs ns) ns.length q, .sli (encNs ns') ns'.length q', .fn 86 []] S (.bool (eqNs ns ns')) S := by
    by_cases h : ns'.length = ns.length
    · have L := L85 ns ns' q q' S hns hok h ns.length 0 (by omega)
      simp only [List.drop_zero] at L
      generalize eqNs ns ns' = r at *
      clear hok
      refine call_cfg (by kernel_rfl) ?_
      refine evc_g 13 ?_
      refine evc_i 14 ((↑ns.length : Int) != (↑ns'.length : Int)) false ?_
      refine evc_g 11 ?_
      exact evc_a (L)
    · rw [eqNs_len (fun e => h e.symm)]
      clear hok
      refine call_cfg (by kernel_rfl) ?_
      refine evc_g 13 ?_
      refine evc_i 14 ((↑ns.length : Int) != (↑ns'.length : Int)) true ?_
      refine evc_g 5 ?_
      exact evc_t (Val.bool Bool.false)
  generalize eqNs ns ns' = r at *
  clear hok
  refine call_cfg (by kernel_rfl) ?_
  refine evc_g 12 ?_
  refine evc_c (h85) ?_
  refine evc_g 2 ?_
  exact evc_t (Val.bool r)
theorem c34 : Go.V.Call E0 34 [.agg [.sli (encNs ns) ns.length q], .agg [.sli (encNs ns') ns'.length q']] S (.bool (eqNs ns ns')) S := by
  by_cases h : ns'.length = ns.length
  · have L := L34 ns ns' q q' S hns hok h ns.length 0 (by omega)
    simp only [List.drop_zero] at L
    generalize eqNs ns ns' = r at *
    clear hok
    refine call_cfg (by kernel_rfl) ?_
    refine evc_g 17 ?_
    refine evc_i 12 ((↑ns.length : Int) != (↑ns'.length : Int)) false ?_
    refine evc_g 9 ?_
    exact evc_a (L)
  · rw [eqNs_len (fun e => h e.symm)]
    clear hok
    refine call_cfg (by kernel_rfl) ?_
    refine evc_g 17 ?_
    refine evc_i 12 ((↑ns.length : Int) != (↑ns'.length : Int)) true ?_
    refine evc_g 5 ?_
    exact evc_t (Val.bool Bool.false)
end
theorem c35 (ns : List Nd) (q : Q) (S : St) : Go.V.Call E0 35 [.agg [.sli (encNs ns) ns.length q]] S (.int .i64 (IntKind.wrap .i64 ((IntKind.wrap .i64 ((ns.length : Int) + 63)).tdiv 64))) S := by
  refine call_cfg (by kernel_rfl) ?_
  refine evc_g 14 ?_
  exact evc_t (Val.int IntKind.i64 (IntKind.i64.wrap ((IntKind.i64.wrap ((↑ns.length : Int) + 63)).tdiv 64))) (hl := (by first | rfl | (simp [Val.low, Val.lows, low_encL, low_encI]; done) | (simp [Val.low, Val.lows, low_encL, low_encI, low_encZ, low_encFs, low_encNs, low_encN]; done)))
theorem eqNs_refl : ∀ ns : List Nd, (∀ n ∈ ns, sameNd n n = true) → eqNs ns ns = true
  | [], _ => rfl
  | x :: l, h => by simp only [eqNs, h x List.mem_cons_self, eqNs_refl l (fun n hn => h n (List.mem_cons_of_mem _ hn)), Bool.and_self]
theorem eqZ_refl : ∀ l : List Int, eqZ l l = true
  | [] => rfl
  | x :: l => by simp [eqZ, eqZ_refl l]
theorem eqF_refl : ∀ l : List Fd, eqF l l = true
  | [] => rfl
  | x :: l => by simp [eqF, fdEq, eqF_refl l]
mutual
theorem same_refl' : ∀ x : It, sameI x x = true
  | .mk k n s _ l => by simp [sameI, sameLrefl l]
theorem sameLrefl : ∀ l : List It, sameL l l = true
  | [] => by simp [sameL]
  | x :: l => by simp [sameL, same_refl' x, sameLrefl l]
end
theorem sameNd_refl (n : Nd) : sameNd n n = true := by simp [sameNd, same_refl', eqZ_refl, eqF_refl]
end Go.V.W
