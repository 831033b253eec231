/- Deepest (mem, ullageref23), MemBounds (ullagelaw23). -/
import Derived.Test.YtgnfinbhnoofpaaDoorVH
import Derived.Test.YtgnfinbhnoofpaaDoorMem2
import Derived.Test.YtgnfinbhnoofpaaDoorSLaw
set_option linter.unusedVariables false
set_option linter.unusedSimpArgs false
set_option linter.unusedSectionVars false
open Go Go.V
set_option maxRecDepth 100000
set_option maxHeartbeats 4000000
namespace Go.V.W
theorem boundE_1 (key : Int) (ns : List Nd) (d : Int) (hd : 1 ≤ d) (hd' : d ≤ 64) : boundE d key 1 ns = boundE 1 key 1 ns := by
  have : rightL d key 1 = rightL 1 key 1 := by unfold rightL; rw [decide_eq_decide]; omega
  unfold boundE; rw [this]
/-- how many times a number goes into a budget -/
def timesB (budget : Int) (X : Nat) : Nat := budget.toNat / X
theorem times_le {budget : Int} {X k : Nat} (hX : 0 < X) (hk : 0 < k) : ((k * X : Nat) : Int) ≤ budget ↔ k ≤ timesB budget X := by
  unfold timesB
  rw [Nat.le_div_iff_mul_le hX]
  have : 0 < k * X := Nat.mul_pos hk hX
  omega
/-- the greatest depth -/
def deepV (key budget : Int) (ns : List Nd) (m : Nat) : Nat := if boundE 1 key 1 ns = 0 then min m (timesB budget (2 * key.toNat + longS 0 ns + 1)) else 0
noncomputable def P45 : Pos := (goT E0 1000 (ctxOf E0 45) 17 (entry E0 45 [.int .i64 1, .int .i64 1, .agg [.sli zn9 1 .exact]] ⟨[], []⟩)).pos
section
variable (ns : List Nd) (q : Q) (S : St) (hns : ns.length ≤ 2 ^ 40) (hok : ∀ n ∈ ns, okNd n) (hL : longS 0 ns ≤ 2 ^ 40) (budget key : Int)
theorem key_pos (he : boundE 1 key 1 ns = 0) : 1 ≤ key ∧ key ≤ 1024 := by
  unfold boundE at he
  cases hr : rightL 1 key 1 with
  | true => simp only [rightL, decide_eq_true_eq] at hr; omega
  | false => rw [hr] at he; simp at he
theorem bound_k (k : Nat) (hk : 1 ≤ k) (hk' : k ≤ 64) : boundS (k : Int) key 1 ns = if boundE 1 key 1 ns = 0 then (((k * (2 * key.toNat + longS 0 ns + 1) : Nat) : Int), 0) else (0, boundE 1 key 1 ns) := by
  unfold boundS
  rw [boundE_1 key ns k (by omega) (by omega)]
  by_cases he : boundE 1 key 1 ns = 0
  · rw [if_pos he, if_pos he]
    have := key_pos ns key he
    obtain ⟨m, rfl⟩ : ∃ m : Nat, key = m := ⟨key.toNat, by omega⟩
    simp only [Int.toNat_natCast]
    push_cast
    rfl
  · rw [if_neg he, if_neg he]
include hns hok hL
theorem L45 : ∀ (m k : Nat), k + m = 65 → 1 ≤ k →
    EvC E0 (ctxOf E0 45) ⟨P45, [(0, .int .i64 budget), (1, .int .i64 key), (5, .lv [.sli (encNs ns) ns.length q]), (8, .int .i64 (deepV key budget ns (k - 1) : Int)), (9, .int .i64 (k : Int))], S⟩
      (Go.V.Fin E0 45 S (.tup [.int .i64 (deepV key budget ns 64 : Int), .bool (decide ((deepV key budget ns 64 : Int) > 0))]) S) := by
  intro m
  induction m with
  | zero =>
    intro k hk _
    have : k = 65 := by omega
    subst this
    show EvC E0 (ctxOf E0 45) ⟨P45, [(0, .int .i64 budget), (1, .int .i64 key), (5, .lv [.sli (encNs ns) ns.length q]), (8, .int .i64 (deepV key budget ns 64 : Int)), (9, .int .i64 65)], S⟩ _
    generalize deepV key budget ns 64 = D
    clear hok
    refine evc_g 16 ?_
    exact evc_t (Val.tup [Val.int IntKind.i64 (↑D : Int), Val.bool (decide ((↑D : Int) > 0))]) (hl := (by first | rfl | (simp [Val.low, Val.lows, low_encL, low_encI]; done) | (simp [Val.low, Val.lows, low_encL, low_encI, low_encZ, low_encFs, low_encNs, low_encN]; done)))
  | succ m ihm =>
    intro k hk h1
    have g : (k : Int) ≤ 64 := by omega
    have h43 := c43 ns q S hns hok hL (k : Int) key 1
    rw [bound_k ns key k (by omega) (by omega)] at h43
    have ih := ihm (k + 1) (by omega) (by omega)
    rw [Nat.add_sub_cancel] at ih
    by_cases he : boundE 1 key 1 ns = 0
    · rw [if_pos he] at h43
      have hX : 0 < 2 * key.toNat + longS 0 ns + 1 := by omega
      have hle := times_le (budget := budget) (k := k) hX (by omega)
      by_cases hb : ((k * (2 * key.toNat + longS 0 ns + 1) : Nat) : Int) ≤ budget
      · have e : deepV key budget ns k = k := by unfold deepV; rw [if_pos he]; have := hle.1 hb; omega
        rw [e] at ih
        generalize deepV key budget ns (k - 1) = D at *
        generalize deepV key budget ns 64 = R at *
        generalize ((k * (2 * key.toNat + longS 0 ns + 1) : Nat) : Int) = v at *
        clear ihm hok hL hle e he
        refine evc_g 6 ?_
        refine evc_i 13 (decide ((↑k : Int) ≤ 64)) true ?_
        refine evc_g 10 ?_
        refine evc_c (h43) ?_
        refine evc_g 16 ?_
        refine evc_i 30 (decide (v ≤ budget)) true ?_
        refine evc_g 12 ?_
        refine evc_set 9 (Val.int IntKind.i64 (IntKind.i64.wrap ((↑k : Int) + 1))) (Val.int IntKind.i64 (↑(k + 1) : Int)) (by kernel_rfl) (congrArg (Val.int IntKind.i64) (wrap_nat (i := k) (m := 1) (by omega))) ?_
        exact evc_a (ih)
      · have e : deepV key budget ns k = deepV key budget ns (k - 1) := by
          unfold deepV; rw [if_pos he, if_pos he]
          have : ¬ k ≤ timesB budget (2 * key.toNat + longS 0 ns + 1) := fun h => hb (hle.2 h)
          omega
        rw [e] at ih
        generalize deepV key budget ns (k - 1) = D at *
        generalize deepV key budget ns 64 = R at *
        generalize ((k * (2 * key.toNat + longS 0 ns + 1) : Nat) : Int) = v at *
        clear ihm hok hL hle e he
        refine evc_g 6 ?_
        refine evc_i 13 (decide ((↑k : Int) ≤ 64)) true ?_
        refine evc_g 10 ?_
        refine evc_c (h43) ?_
        refine evc_g 16 ?_
        refine evc_i 30 (decide (v ≤ budget)) false ?_
        refine evc_g 9 ?_
        refine evc_set 9 (Val.int IntKind.i64 (IntKind.i64.wrap ((↑k : Int) + 1))) (Val.int IntKind.i64 (↑(k + 1) : Int)) (by kernel_rfl) (congrArg (Val.int IntKind.i64) (wrap_nat (i := k) (m := 1) (by omega))) ?_
        exact evc_a (ih)
    · rw [if_neg he] at h43
      have e : deepV key budget ns k = deepV key budget ns (k - 1) := by unfold deepV; rw [if_neg he, if_neg he]
      rw [e] at ih
      generalize deepV key budget ns (k - 1) = D at *
      generalize deepV key budget ns 64 = R at *
      generalize boundE 1 key 1 ns = ee at *
      clear ihm hok hL e
      refine evc_g 6 ?_
      refine evc_i 13 (decide ((↑k : Int) ≤ 64)) true ?_
      refine evc_g 10 ?_
      refine evc_c (h43) ?_
      refine evc_g 11 ?_
      refine evc_i 26 (ee == 0) false ?_
      refine evc_g 14 ?_
      refine evc_set 9 (Val.int IntKind.i64 (IntKind.i64.wrap ((↑k : Int) + 1))) (Val.int IntKind.i64 (↑(k + 1) : Int)) (by kernel_rfl) (congrArg (Val.int IntKind.i64) (wrap_nat (i := k) (m := 1) (by omega))) ?_
      exact evc_a (ih)
theorem c45 : Go.V.Call E0 45 [.int .i64 budget, .int .i64 key, .agg [.sli (encNs ns) ns.length q]] S (.tup [.int .i64 (deepV key budget ns 64 : Int), .bool (decide ((deepV key budget ns 64 : Int) > 0))]) S := by
  have L := L45 ns q S hns hok hL budget key 64 1 (by omega) (by omega)
  have e : deepV key budget ns (1 - 1) = 0 := by unfold deepV; split <;> simp
  rw [e] at L
  generalize deepV key budget ns 64 = R at *
  clear hok hL e
  refine call_cfg (by kernel_rfl) ?_
  refine evc_g 17 ?_
  exact evc_a (L)
theorem c44 (hb : -9223372036854775808 ≤ budget ∧ budget ≤ 9223372036854775807) : Go.V.Call E0 44 [.int .i64 budget, .int .i64 key, .agg [.sli (encNs ns) ns.length q]] S (.tup [.int .i64 (deepV key budget ns 64 : Int), .bool (decide ((deepV key budget ns 64 : Int) > 0))]) S := by
  have h42 := c42 ns q S hns hok hL 1 key 1
  have hk := bound_k ns key 1 (by omega) (by omega)
  rw [show ((1 : Nat) : Int) = 1 from rfl] at hk
  rw [hk] at h42
  by_cases he : boundE 1 key 1 ns = 0
  · rw [if_pos he, Nat.one_mul] at h42
    have hX : 0 < 2 * key.toNat + longS 0 ns + 1 := by omega
    have hkp := key_pos ns key he
    have hle := times_le (budget := budget) (k := 1) hX (by omega)
    rw [Nat.one_mul] at hle
    have ed : deepV key budget ns 64 = min 64 (timesB budget (2 * key.toNat + longS 0 ns + 1)) := by unfold deepV; rw [if_pos he]
    generalize 2 * key.toNat + longS 0 ns + 1 = X at *
    by_cases hlt : budget < (X : Int)
    · have e0 : deepV key budget ns 64 = 0 := by rw [ed]; have : ¬ 1 ≤ timesB budget X := fun h => by have := hle.2 h; omega
                                                 omega
      rw [e0]
      clear hok hL he ed e0 hle hk
      refine call_cfg (by kernel_rfl) ?_
      refine evc_g 11 ?_
      refine evc_c (h42) ?_
      refine evc_g 17 ?_
      refine evc_i 23 (decide (budget < (↑X : Int))) true ?_
      refine evc_g 6 ?_
      exact evc_t (Val.tup [Val.int IntKind.i64 0, Val.bool Bool.false])
    · have hq : budget.tdiv (X : Int) = ((timesB budget X : Nat) : Int) := by
        obtain ⟨B, rfl⟩ : ∃ B : Nat, budget = B := ⟨budget.toNat, by omega⟩
        unfold timesB
        rw [Int.toNat_natCast]
        exact (Int.ofNat_tdiv B X).symm
      have hdl : timesB budget X ≤ budget.toNat := Nat.div_le_self _ _
      have w : IntKind.wrap .i64 (budget.tdiv (X : Int)) = ((timesB budget X : Nat) : Int) := by rw [hq]; exact wrap_ok (by omega) (by omega)
      have hmin : (if 64 < IntKind.wrap .i64 (budget.tdiv (X : Int)) then (64 : Int) else IntKind.wrap .i64 (budget.tdiv (X : Int))) = (deepV key budget ns 64 : Int) := by rw [w, ed]; split <;> omega
      have hpos : (deepV key budget ns 64 : Int) > 0 := by rw [ed]; have := hle.1 (by omega); omega
      have e1 : decide ((deepV key budget ns 64 : Int) > 0) = true := by simpa using hpos
      rw [e1, ← hmin]
      have hx0 : ¬ (X : Int) = 0 := by omega
      have hdiv : binOp E0 .quo 3 (.int .i64 budget) (.int .i64 (X : Int)) = some (.int .i64 (IntKind.wrap .i64 (budget.tdiv (X : Int)))) := by
        have e : binOp E0 .quo 3 (.int .i64 budget) (.int .i64 (X : Int)) = if (X : Int) = 0 then none else some (.int .i64 (IntKind.wrap .i64 (budget.tdiv (X : Int)))) := by kernel_rfl
        rw [e, if_neg hx0]
      clear hok hL he ed hle hk hq hdl w hmin hpos e1
      refine call_cfg (by kernel_rfl) ?_
      refine evc_g 11 ?_
      refine evc_c (h42) ?_
      refine evc_g 17 ?_
      refine evc_i 23 (decide (budget < (↑X : Int))) false ?_
      refine evc_g 6 ?_
      refine evc_bin Go.BinOp.quo 3 (Val.int IntKind.i64 budget) (Val.int IntKind.i64 (↑X : Int)) (Val.int IntKind.i64 (IntKind.i64.wrap (budget.tdiv (↑X : Int)))) (by kernel_rfl) hdiv (by kernel_rfl) ?_
      refine evc_g 4 ?_
      exact evc_t (Val.tup [Val.int IntKind.i64 (if 64 < IntKind.i64.wrap (budget.tdiv (↑X : Int)) then 64 else IntKind.i64.wrap (budget.tdiv (↑X : Int))), Val.bool Bool.true]) (hl := (by first | rfl | (simp [Val.low, Val.lows, low_encL, low_encI]; done) | (simp [Val.low, Val.lows, low_encL, low_encI, low_encZ, low_encFs, low_encNs, low_encN]; done)))
  · rw [if_neg he] at h42
    have e0 : deepV key budget ns 64 = 0 := by unfold deepV; rw [if_neg he]
    rw [e0]
    generalize boundE 1 key 1 ns = ee at *
    clear hok hL hk e0
    refine call_cfg (by kernel_rfl) ?_
    refine evc_g 11 ?_
    refine evc_c (h42) ?_
    refine evc_g 12 ?_
    refine evc_i 19 (ee != 0) true ?_
    refine evc_g 11 ?_
    exact evc_t (Val.tup [Val.int IntKind.i64 0, Val.bool Bool.false])
end
theorem s41 : Go.V.Call E0 41 [] e0 (.bool true) e0 := call_run 100000 (by kernel_rfl)
theorem long_le : ∀ (l : List Fd) (a : Nat), a ≤ 300 → (l.any fun x => decide (300 < x.key.length)) = false → longF a l ≤ 300
  | [], a, h, _ => h
  | x :: l, a, h, hx => by
    simp only [List.any_cons, Bool.or_eq_false_iff, decide_eq_false_iff_not] at hx
    exact long_le l _ (by omega) hx.2
theorem longS_le : ∀ (ns : List Nd) (a : Nat), a ≤ 300 → (∀ n ∈ ns, greatN n = false) → longS a ns ≤ 300
  | [], a, h, _ => h
  | n :: l, a, h, hx => by
    have hn := hx n List.mem_cons_self
    simp only [greatN, Bool.or_eq_false_iff] at hn
    exact longS_le l _ (long_le n.f a h hn.2.2.2) fun m hm => hx m (List.mem_cons_of_mem _ hm)
theorem c7' (ns : List Nd) (q : Q) (d k z budget key : Int) (g : Bool) (p : Int × Int) (v : Int) (D : Int) (o : Bool) (h41 : Go.V.Call E0 41 [] e0 (.bool true) e0) (h30 : Go.V.Call E0 30 [.agg [.sli (encNs ns) ns.length q]] e0 (.bool g) e0)
    (h : g = false → Go.V.Call E0 42 [.agg [.int .i64 d, .int .i64 k, .int .i64 z], .agg [.sli (encNs ns) ns.length q]] e0 (pairV p) e0 ∧ Go.V.Call E0 43 [.agg [.int .i64 d, .int .i64 k, .int .i64 z], .agg [.sli (encNs ns) ns.length q]] e0 (pairV p) e0 ∧
      Go.V.Call E0 44 [.int .i64 budget, .int .i64 key, .agg [.sli (encNs ns) ns.length q]] e0 (.tup [.int .i64 D, .bool o]) e0 ∧ Go.V.Call E0 45 [.int .i64 budget, .int .i64 key, .agg [.sli (encNs ns) ns.length q]] e0 (.tup [.int .i64 D, .bool o]) e0 ∧
      Go.V.Call E0 46 [.agg [.sli (encNs ns) ns.length q]] e0 (.int .i64 v) e0 ∧ Go.V.Call E0 47 [.agg [.sli (encNs ns) ns.length q]] e0 (.int .i64 v) e0) :
    Go.V.Call E0 7 [.agg [.int .i64 d, .int .i64 k, .int .i64 z], .agg [.sli (encNs ns) ns.length q], .int .i64 budget, .int .i64 key] e0 (.bool true) e0 := by
  cases g with
  | true =>
    clear h
    refine call_cfg (by kernel_rfl) ?_
    refine evc_g 9 ?_
    refine evc_c (h41) ?_
    refine evc_g 8 ?_
    refine evc_c (h30) ?_
    refine evc_g 6 ?_
    exact evc_e (Val.bool Bool.true) ({ H := [], L := [] })
  | false =>
    obtain ⟨h42, h43, h44, h45, h46, h47⟩ := h rfl
    clear h
    refine call_cfg (by kernel_rfl) ?_
    refine evc_g 9 ?_
    refine evc_c (h41) ?_
    refine evc_g 8 ?_
    refine evc_c (h30) ?_
    refine evc_g 7 ?_
    refine evc_c (h42) ?_
    refine evc_g 10 ?_
    refine evc_c (h43) ?_
    refine evc_g 11 ?_
    refine evc_c (h44) ?_
    refine evc_g 11 ?_
    refine evc_c (h45) ?_
    refine evc_g 12 ?_
    refine evc_i 50 (p.1 == p.1) true ?_
    refine evc_g 5 ?_
    refine evc_i 55 (p.2 == p.2) true ?_
    refine evc_g 1 ?_
    refine evc_c (h46) ?_
    refine evc_g 1 ?_
    refine evc_c (h47) ?_
    refine evc_g 3 ?_
    refine evc_i 62 (v == v) true ?_
    refine evc_g 5 ?_
    refine evc_i 67 (D == D) true ?_
    refine evc_g 6 ?_
    exact evc_e (Val.bool (o == o)) ({ H := [], L := [] })
/-- THE LAW -/
theorem c7 (ns : List Nd) (q : Q) {b : Nat} (hb : b ≤ 1048576) (hn : ∀ n ∈ ns, NdOk b n) (hl : ns.length ≤ b) (d k z budget key : Int) (hbu : -9223372036854775808 ≤ budget ∧ budget ≤ 9223372036854775807) :
    Go.V.Call E0 7 [.agg [.int .i64 d, .int .i64 k, .int .i64 z], .agg [.sli (encNs ns) ns.length q], .int .i64 budget, .int .i64 key] e0 (.bool true) e0 := by
  refine c7' ns q d k z budget key _ (boundS d k z ns) (longS 0 ns : Int) (deepV key budget ns 64 : Int) (decide ((deepV key budget ns 64 : Int) > 0)) s41 (c30 ns q e0 (by omega) (great_pre hb hn)) fun hg => ?_
  obtain ⟨h40, hok⟩ := ok_schema hb hn hg
  have hL := longS_le ns 0 (by omega) fun n hm => (hok n hm).2
  have hf : ∀ n ∈ ns, n.f.length ≤ 2 ^ 40 := fun n hm => (hok n hm).1.ok.f
  exact ⟨c42 ns q e0 (by omega) (fun n hm => (hok n hm).1) (by omega) d k z, c43 ns q e0 (by omega) (fun n hm => (hok n hm).1) (by omega) d k z, c44 ns q e0 (by omega) (fun n hm => (hok n hm).1) (by omega) budget key hbu,
    c45 ns q e0 (by omega) (fun n hm => (hok n hm).1) (by omega) budget key, c46 ns q e0 (by omega) hf, c47 ns q e0 (by omega) hf⟩
end Go.V.W
