/- wrong (ullageref16): what is wrong with a node. -/
import Derived.Test.YtgnfinbhnoofpaaDoorVH
import Derived.Test.YtgnfinbhnoofpaaDoorNodeS
import Derived.Test.YtgnfinbhnoofpaaDoorFirst
set_option linter.unusedVariables false
set_option linter.unusedSimpArgs false
set_option linter.unusedSectionVars false
open Go Go.V
set_option maxRecDepth 100000
set_option maxHeartbeats 4000000
namespace Go.V.W
def e13 : Bool → Int
  | true => 13
  | false => 0
def keysR (RN : Int) : List (List UInt8) → List Fd → Int
  | _, [] => RN
  | pre, f :: l => if validU f.key then (if 1021 < f.key.length then 4 else if pre.contains f.key then 14 else keysR RN (pre ++ [f.key]) l) else 6
theorem keysR_eq (RN : Int) : ∀ (l : List Fd) (pre : List (List UInt8)), keysR RN pre l = if keysI pre l ≠ 0 then keysI pre l else RN
  | [], pre => by simp [keysR, keysI]
  | f :: l, pre => by
    simp only [keysR, keysI, keysR_eq RN l]
    by_cases hv : validU f.key = true
    · by_cases h : 1021 < f.key.length
      · simp [hv, h]
      · by_cases hc : pre.contains f.key = true
        · have hm : f.key ∈ pre := by simpa using hc
          simp [hv, h, hm]
        · have hc' : pre.contains f.key = false := by simpa using hc
          simp only [hv, h, hc', if_true, if_false, Bool.false_eq_true]
    · have hv' : validU f.key = false := by simpa using hv
      simp [hv']
abbrev zd : List Val := [.int .i64 8, .int .i64 0, .int .i64 0, .int .i64 0, .int .u64 0, .str [], .sli [] 0 .nil, .sli [] 0 .nil, .sli [.str [65], .int .i64 1, .bool true, .str [66], .int .i64 1, .bool true] 2 .exact,
  .int .i64 0, .int .i64 0, .int .i64 0, .int .i64 0, .int .u64 0, .str [], .sli [] 0 .nil, .sli [] 0 .nil, .sli [] 0 .nil]
noncomputable def PK84 : Pos := (goT E0 1000 (ctxOf E0 84) 84 (entry E0 84 [.agg [.sli zd 2 .exact], .int .i64 0] ⟨[], []⟩)).pos
noncomputable def PJ84 : Pos := (goT E0 1000 (ctxOf E0 84) 140 (entry E0 84 [.agg [.sli zd 2 .exact], .int .i64 0] ⟨[], []⟩)).pos
noncomputable def PN84 : Pos := (goT E0 1000 (ctxOf E0 84) 288 (entry E0 84 [.agg [.sli zd 2 .exact], .int .i64 0] ⟨[], []⟩)).pos
section
variable (ns : List Nd) (q : Q) (i : Nat) (S : St)
theorem LN84 (nm : List Int) (qn : Q) (hn : nm.length ≤ 2 ^ 42) : ∀ (m j : Nat), j + m = nm.length →
    EvC E0 (ctxOf E0 84) ⟨PN84, [(1, .int .i64 (i : Int)), (2, .lv [.sli (encNs ns) ns.length q]), (10, .sli (encZ nm) nm.length qn), (11, .int .i64 (j : Int))], S⟩ (Go.V.Fin E0 84 S (.int .i64 (e13 ((nm.drop j).any (outB (i : Int) (ns.length : Int))))) S) := by
  intro m
  induction m with
  | zero =>
    intro j hj
    have e : nm.drop j = [] := List.drop_eq_nil_of_le (by omega)
    have g : ¬ (j : Int) < (nm.length : Int) := by omega
    rw [e]
    simp only [List.any_nil, e13]
    refine evc_g 8 ?_
    refine evc_i 106 (decide ((↑j : Int) < (↑nm.length : Int))) false ?_
    refine evc_g 6 ?_
    exact evc_t (Val.int IntKind.i64 0)
  | succ m ihm =>
    intro j hj
    have hlt : j < nm.length := by omega
    have g : (j : Int) < (nm.length : Int) := by omega
    obtain ⟨z, hz⟩ : ∃ z, nm[j]? = some z := ⟨nm[j], List.getElem?_eq_getElem hlt⟩
    have hcz := get_Z hz
    have hdz : nm.drop j = z :: nm.drop (j + 1) := by
      obtain ⟨_, rfl⟩ := List.getElem?_eq_some_iff.1 hz
      exact List.drop_eq_getElem_cons hlt
    have ih := ihm (j + 1) (by omega)
    rw [hdz]
    simp only [List.any_cons]
    generalize (nm.drop (j + 1)).any (outB (i : Int) (ns.length : Int)) = r at *
    clear ihm hdz
    unfold outB
    by_cases h1 : z ≤ (i : Int)
    · simp only [h1, decide_true, Bool.true_or, e13]
      clear ih
      refine evc_g 8 ?_
      refine evc_i 106 (decide ((↑j : Int) < (↑nm.length : Int))) true ?_
      refine evc_g 8 ?_
      refine evc_idx (j) (nm.length) (encZ nm) 1 (by kernel_rfl) (by first | with_reducible rfl | assumption | (simp_all; done) | omega | (simp_all; omega)) (by kernel_rfl) ?_
      refine evc_get (encZ nm) (j * 1) (Val.int IntKind.i64 z) .pure (by kernel_rfl) hcz (by kernel_rfl) ?_
      refine evc_g 3 ?_
      refine evc_i 115 (decide (z ≤ (↑i : Int))) true ?_
      refine evc_g 15 ?_
      exact evc_t (Val.int IntKind.i64 13)
    · by_cases h2 : z ≥ (ns.length : Int)
      · simp only [h2, decide_true, Bool.or_true, Bool.true_or, e13]
        clear ih
        refine evc_g 8 ?_
        refine evc_i 106 (decide ((↑j : Int) < (↑nm.length : Int))) true ?_
        refine evc_g 8 ?_
        refine evc_idx (j) (nm.length) (encZ nm) 1 (by kernel_rfl) (by first | with_reducible rfl | assumption | (simp_all; done) | omega | (simp_all; omega)) (by kernel_rfl) ?_
        refine evc_get (encZ nm) (j * 1) (Val.int IntKind.i64 z) .pure (by kernel_rfl) hcz (by kernel_rfl) ?_
        refine evc_g 3 ?_
        refine evc_i 115 (decide (z ≤ (↑i : Int))) false ?_
        refine evc_g 2 ?_
        refine evc_idx (j) (nm.length) (encZ nm) 1 (by kernel_rfl) (by first | with_reducible rfl | assumption | (simp_all; done) | omega | (simp_all; omega)) (by kernel_rfl) ?_
        refine evc_get (encZ nm) (j * 1) (Val.int IntKind.i64 z) .pure (by kernel_rfl) hcz (by kernel_rfl) ?_
        refine evc_g 6 ?_
        refine evc_i 124 (decide (z ≥ (↑ns.length : Int))) true ?_
        refine evc_g 5 ?_
        exact evc_t (Val.int IntKind.i64 13)
      · simp only [h1, h2, decide_false, Bool.or_self, Bool.false_or]
        refine evc_g 8 ?_
        refine evc_i 106 (decide ((↑j : Int) < (↑nm.length : Int))) true ?_
        refine evc_g 8 ?_
        refine evc_idx (j) (nm.length) (encZ nm) 1 (by kernel_rfl) (by first | with_reducible rfl | assumption | (simp_all; done) | omega | (simp_all; omega)) (by kernel_rfl) ?_
        refine evc_get (encZ nm) (j * 1) (Val.int IntKind.i64 z) .pure (by kernel_rfl) hcz (by kernel_rfl) ?_
        refine evc_g 3 ?_
        refine evc_i 115 (decide (z ≤ (↑i : Int))) false ?_
        refine evc_g 2 ?_
        refine evc_idx (j) (nm.length) (encZ nm) 1 (by kernel_rfl) (by first | with_reducible rfl | assumption | (simp_all; done) | omega | (simp_all; omega)) (by kernel_rfl) ?_
        refine evc_get (encZ nm) (j * 1) (Val.int IntKind.i64 z) .pure (by kernel_rfl) hcz (by kernel_rfl) ?_
        refine evc_g 6 ?_
        refine evc_i 124 (decide (z ≥ (↑ns.length : Int))) false ?_
        refine evc_g 9 ?_
        refine evc_set 11 (Val.int IntKind.i64 (IntKind.i64.wrap ((↑j : Int) + 1))) (Val.int IntKind.i64 (↑(j + 1) : Int)) (by kernel_rfl) (congrArg (Val.int IntKind.i64) (wrap_nat (i := j) (m := 1) (by omega))) ?_
        exact evc_a (ih)
section
variable (k lo hi vk vn : Int) (vs : List UInt8) (vl : List It) (vq : Q) (l : List Int) (ql : Q) (f : List Fd) (qf : Q) (hf : f.length ≤ 2 ^ 40) (hkey : ∀ x ∈ f, x.key.length ≤ 2 ^ 60)
include hf
theorem LJ84 (kk : Nat) (x : Fd) (hx : f[kk]? = some x) (RO : Int) (ihO : EvC E0 (ctxOf E0 84) ⟨PK84, [(1, .int .i64 (i : Int)), (2, .lv [.sli (encNs ns) ns.length q]), (5, .lv (n9 k lo hi vk vn vs vl vq l ql f qf)), (6, .int .i64 ((kk + 1 : Nat) : Int))], S⟩ (Go.V.Fin E0 84 S (.int .i64 RO) S)) :
    ∀ (m j : Nat), j + m = kk →
    EvC E0 (ctxOf E0 84) ⟨PJ84, [(1, .int .i64 (i : Int)), (2, .lv [.sli (encNs ns) ns.length q]), (5, .lv (n9 k lo hi vk vn vs vl vq l ql f qf)), (6, .int .i64 (kk : Int)), (9, .int .i64 (j : Int))], S⟩ (Go.V.Fin E0 84 S (.int .i64 (if (((f.take kk).map (·.key)).drop j).contains x.key then 14 else RO)) S) := by
  have hkl := (List.getElem?_eq_some_iff.1 hx).1
  have gk := get_F0 hx
  have w : IntKind.wrap .i64 ((kk : Int) + 1) = ((kk + 1 : Nat) : Int) := wrap_nat (m := 1) (by omega)
  have glk : (kk : Int) < (f.length : Int) := by omega
  intro m
  induction m with
  | zero =>
    intro j hj
    have e : ((f.take kk).map (·.key)).drop j = [] := List.drop_eq_nil_of_le (by simp; omega)
    have g : ¬ (j : Int) < (kk : Int) := by omega
    rw [e]
    simp only [List.contains_nil, Bool.false_eq_true, if_false]
    refine evc_g 7 ?_
    refine evc_i 85 (decide ((↑j : Int) < (↑kk : Int))) false ?_
    refine evc_g 9 ?_
    refine evc_set 6 (Val.int IntKind.i64 (IntKind.i64.wrap ((↑kk : Int) + 1))) (Val.int IntKind.i64 (↑(kk + 1) : Int)) (by kernel_rfl) (congrArg (Val.int IntKind.i64) w) ?_
    exact evc_a (ihO)
  | succ m ihm =>
    intro j hj
    have hlt : j < kk := by omega
    have g : (j : Int) < (kk : Int) := by omega
    have gl : (j : Int) < (f.length : Int) := by omega
    obtain ⟨y, hy⟩ : ∃ y, f[j]? = some y := ⟨f[j], List.getElem?_eq_getElem (by omega)⟩
    have gj := get_F0 hy
    have hpre : ((f.take kk).map (·.key))[j]? = some y.key := by rw [List.getElem?_map, List.getElem?_take]; simp [hlt, hy]
    have hdz : ((f.take kk).map (·.key)).drop j = y.key :: ((f.take kk).map (·.key)).drop (j + 1) := by
      obtain ⟨hl', he⟩ := List.getElem?_eq_some_iff.1 hpre
      rw [← he]; exact List.drop_eq_getElem_cons hl'
    have ih := ihm (j + 1) (by omega)
    rw [hdz, List.contains_cons]
    generalize (((f.take kk).map (·.key)).drop (j + 1)).contains x.key = r at *
    clear ihm hdz hpre ihO
    by_cases he : y.key = x.key
    · have e2 : (x.key == y.key) = true := by simp [he]
      simp only [e2, Bool.true_or, if_true]
      clear ih
      refine evc_g 7 ?_
      refine evc_i 85 (decide ((↑j : Int) < (↑kk : Int))) true ?_
      refine evc_g 9 ?_
      refine evc_idx (j) (f.length) (encFs f) 3 (by kernel_rfl) (by first | with_reducible rfl | assumption | (simp_all; done) | omega | (simp_all; omega)) (by kernel_rfl) ?_
      refine evc_g 1 ?_
      refine evc_get (encFs f) (j * 3 + 0) (Val.str y.key) .pure (by kernel_rfl) gj (by kernel_rfl) ?_
      refine evc_g 3 ?_
      refine evc_idx (kk) (f.length) (encFs f) 3 (by kernel_rfl) (by first | with_reducible rfl | assumption | (simp_all; done) | omega | (simp_all; omega)) (by kernel_rfl) ?_
      refine evc_g 1 ?_
      refine evc_get (encFs f) (kk * 3 + 0) (Val.str x.key) .pure (by kernel_rfl) gk (by kernel_rfl) ?_
      refine evc_g 2 ?_
      refine evc_i 100 (y.1 == x.1) true ?_
      refine evc_g 5 ?_
      exact evc_t (Val.int IntKind.i64 14)
    · have e2 : (x.key == y.key) = false := by simp [Ne.symm he]
      simp only [e2, Bool.false_or]
      refine evc_g 7 ?_
      refine evc_i 85 (decide ((↑j : Int) < (↑kk : Int))) true ?_
      refine evc_g 9 ?_
      refine evc_idx (j) (f.length) (encFs f) 3 (by kernel_rfl) (by first | with_reducible rfl | assumption | (simp_all; done) | omega | (simp_all; omega)) (by kernel_rfl) ?_
      refine evc_g 1 ?_
      refine evc_get (encFs f) (j * 3 + 0) (Val.str y.key) .pure (by kernel_rfl) gj (by kernel_rfl) ?_
      refine evc_g 3 ?_
      refine evc_idx (kk) (f.length) (encFs f) 3 (by kernel_rfl) (by first | with_reducible rfl | assumption | (simp_all; done) | omega | (simp_all; omega)) (by kernel_rfl) ?_
      refine evc_g 1 ?_
      refine evc_get (encFs f) (kk * 3 + 0) (Val.str x.key) .pure (by kernel_rfl) gk (by kernel_rfl) ?_
      refine evc_g 2 ?_
      refine evc_i 100 (y.1 == x.1) false ?_
      refine evc_g 9 ?_
      refine evc_set 9 (Val.int IntKind.i64 (IntKind.i64.wrap ((↑j : Int) + 1))) (Val.int IntKind.i64 (↑(j + 1) : Int)) (by kernel_rfl) (congrArg (Val.int IntKind.i64) (wrap_nat (i := j) (m := 1) (by omega))) ?_
      exact evc_a (ih)
include hkey
theorem LK84 (RN : Int) (nm : List Int) (qn : Q) (h38 : Go.V.Call E0 38 [.agg (n9 k lo hi vk vn vs vl vq l ql f qf)] S (.sli (encZ nm) nm.length qn) S)
    (hN : EvC E0 (ctxOf E0 84) ⟨PN84, [(1, .int .i64 (i : Int)), (2, .lv [.sli (encNs ns) ns.length q]), (10, .sli (encZ nm) nm.length qn), (11, .int .i64 0)], S⟩ (Go.V.Fin E0 84 S (.int .i64 RN) S)) :
    ∀ (m kk : Nat), kk + m = f.length →
    EvC E0 (ctxOf E0 84) ⟨PK84, [(1, .int .i64 (i : Int)), (2, .lv [.sli (encNs ns) ns.length q]), (5, .lv (n9 k lo hi vk vn vs vl vq l ql f qf)), (6, .int .i64 (kk : Int))], S⟩ (Go.V.Fin E0 84 S (.int .i64 (keysR RN ((f.take kk).map (·.key)) (f.drop kk))) S) := by
  intro m
  induction m with
  | zero =>
    intro kk hk
    have e : f.drop kk = [] := List.drop_eq_nil_of_le (by omega)
    have g : ¬ (kk : Int) < (f.length : Int) := by omega
    rw [e]
    simp only [keysR]
    clear hkey
    refine evc_g 9 ?_
    refine evc_i 60 (decide ((↑kk : Int) < (↑f.length : Int))) false ?_
    refine evc_g 5 ?_
    refine evc_c (h38) ?_
    refine evc_g 9 ?_
    exact evc_a (hN)
  | succ m ihm =>
    intro kk hk
    have hlt : kk < f.length := by omega
    have g : (kk : Int) < (f.length : Int) := by omega
    obtain ⟨x, hx⟩ : ∃ x, f[kk]? = some x := ⟨f[kk], List.getElem?_eq_getElem hlt⟩
    have gk := get_F0 hx
    have hdx : f.drop kk = x :: f.drop (kk + 1) := by
      obtain ⟨_, rfl⟩ := List.getElem?_eq_some_iff.1 hx
      exact List.drop_eq_getElem_cons hlt
    have htk : (f.take (kk + 1)).map (·.key) = (f.take kk).map (·.key) ++ [x.key] := by rw [List.take_add_one, hx]; simp
    have ih := ihm (kk + 1) (by omega)
    rw [htk] at ih
    have LJ := LJ84 ns q i S k lo hi vk vn vs vl vq l ql f qf hf kk x hx _ ih kk 0 (by omega)
    simp only [List.drop_zero] at LJ
    rw [hdx]
    simp only [keysR]
    have h75 := c75 x.key (hkey x (List.mem_of_getElem? hx)) S
    rw [first_valid] at h75
    generalize (if ((f.take kk).map (·.key)).contains x.key = true then 14 else keysR RN ((f.take kk).map (·.key) ++ [x.key]) (f.drop (kk + 1))) = R at *
    generalize (firstV x.key).1 = fv at *
    obtain ⟨key, node, opt⟩ := x
    simp only at *
    clear ihm hdx htk hkey ih hN h38
    cases hv : validU key with
    | false =>
      rw [hv] at h75
      simp only [Bool.false_eq_true, if_false]
      clear LJ
      refine evc_g 9 ?_
      refine evc_i 60 (decide ((↑kk : Int) < (↑f.length : Int))) true ?_
      refine evc_g 10 ?_
      refine evc_idx (kk) (f.length) (encFs f) 3 (by kernel_rfl) (by first | with_reducible rfl | assumption | (simp_all; done) | omega | (simp_all; omega)) (by kernel_rfl) ?_
      refine evc_g 1 ?_
      refine evc_get (encFs f) (kk * 3 + 0) (Val.str key) .pure (by kernel_rfl) gk (by kernel_rfl) ?_
      refine evc_c (h75) ?_
      refine evc_g 16 ?_
      exact evc_t (Val.int IntKind.i64 6)
    | true =>
      rw [hv] at h75
      simp only [if_true]
      by_cases h4 : 1021 < key.length
      · rw [if_pos h4]
        have g4 : (key.length : Int) > 1021 := by omega
        clear LJ
        refine evc_g 9 ?_
        refine evc_i 60 (decide ((↑kk : Int) < (↑f.length : Int))) true ?_
        refine evc_g 10 ?_
        refine evc_idx (kk) (f.length) (encFs f) 3 (by kernel_rfl) (by first | with_reducible rfl | assumption | (simp_all; done) | omega | (simp_all; omega)) (by kernel_rfl) ?_
        refine evc_g 1 ?_
        refine evc_get (encFs f) (kk * 3 + 0) (Val.str key) .pure (by kernel_rfl) gk (by kernel_rfl) ?_
        refine evc_c (h75) ?_
        refine evc_g 19 ?_
        refine evc_idx (kk) (f.length) (encFs f) 3 (by kernel_rfl) (by first | with_reducible rfl | assumption | (simp_all; done) | omega | (simp_all; omega)) (by kernel_rfl) ?_
        refine evc_g 1 ?_
        refine evc_get (encFs f) (kk * 3 + 0) (Val.str key) .pure (by kernel_rfl) gk (by kernel_rfl) ?_
        refine evc_g 3 ?_
        refine evc_i 82 (decide ((↑key.length : Int) > 1021)) true ?_
        refine evc_g 5 ?_
        exact evc_t (Val.int IntKind.i64 4)
      · rw [if_neg h4]
        have g4 : ¬ (key.length : Int) > 1021 := by omega
        refine evc_g 9 ?_
        refine evc_i 60 (decide ((↑kk : Int) < (↑f.length : Int))) true ?_
        refine evc_g 10 ?_
        refine evc_idx (kk) (f.length) (encFs f) 3 (by kernel_rfl) (by first | with_reducible rfl | assumption | (simp_all; done) | omega | (simp_all; omega)) (by kernel_rfl) ?_
        refine evc_g 1 ?_
        refine evc_get (encFs f) (kk * 3 + 0) (Val.str key) .pure (by kernel_rfl) gk (by kernel_rfl) ?_
        refine evc_c (h75) ?_
        refine evc_g 19 ?_
        refine evc_idx (kk) (f.length) (encFs f) 3 (by kernel_rfl) (by first | with_reducible rfl | assumption | (simp_all; done) | omega | (simp_all; omega)) (by kernel_rfl) ?_
        refine evc_g 1 ?_
        refine evc_get (encFs f) (kk * 3 + 0) (Val.str key) .pure (by kernel_rfl) gk (by kernel_rfl) ?_
        refine evc_g 3 ?_
        refine evc_i 82 (decide ((↑key.length : Int) > 1021)) false ?_
        refine evc_g 8 ?_
        exact evc_a (LJ)
end
end
end Go.V.W
