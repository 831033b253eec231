/- Bound, Deepest (mem, ullageref23). -/
import Derived.Test.YtgnfinbhnoofpaaDoorVH
import Derived.Test.YtgnfinbhnoofpaaDoorMem
import Derived.Test.YtgnfinbhnoofpaaDoorSCheck
set_option linter.unusedVariables false
set_option linter.unusedSimpArgs false
set_option linter.unusedSectionVars false
open Go Go.V
set_option maxRecDepth 100000
set_option maxHeartbeats 4000000
namespace Go.V.W
/-- the bound, and what is wrong -/
def boundE (d k z : Int) (ns : List Nd) : Int := if rightL d k z then (checkS ns).2 else 15
def boundS (d k z : Int) (ns : List Nd) : Int × Int := if boundE d k z ns = 0 then (d * (2 * k + (longS 0 ns : Int) + 1), 0) else (0, boundE d k z ns)
theorem wrap_ok {n : Int} (h : -9223372036854775808 ≤ n) (h' : n ≤ 9223372036854775807) : IntKind.wrap .i64 n = n := wrap_i64 h h'
section
variable (ns : List Nd) (q : Q) (S : St) (hns : ns.length ≤ 2 ^ 40) (hok : ∀ n ∈ ns, okNd n) (hL : longS 0 ns ≤ 2 ^ 40)
include hns hok hL
theorem c42 (d k z : Int) : Go.V.Call E0 42 [.agg [.int .i64 d, .int .i64 k, .int .i64 z], .agg [.sli (encNs ns) ns.length q]] S (pairV (boundS d k z ns)) S := by
  have h46 := c46 ns q S hns (fun n hn => (hok n hn).ok.f)
  have h31 := c31 ns q S hns hok
  have h68 := c68 d k z S
  unfold boundS boundE
  unfold lchk at h68
  generalize longS 0 ns = L at *
  generalize checkS ns = p at *
  obtain ⟨at', e⟩ := p
  simp only at *
  clear hok
  cases hr : rightL d k z with
  | false =>
    rw [hr] at h68
    simp only [Bool.false_eq_true, if_false] at *
    rw [if_neg (by decide)]
    clear h46 h31
    refine call_cfg (by kernel_rfl) ?_
    refine evc_g 11 ?_
    refine evc_c (h68) ?_
    refine evc_g 14 ?_
    exact evc_t (Val.tup [Val.int IntKind.i64 0, Val.int IntKind.i64 15])
  | true =>
    rw [hr] at h68
    simp only [if_true] at *
    by_cases he : e = 0
    · subst he
      rw [if_pos rfl]
      simp only [rightL, decide_eq_true_eq] at hr
      have hX : 0 ≤ 2 * k + (L : Int) + 1 := by omega
      have h1 : 0 ≤ d * (2 * k + (L : Int) + 1) := Int.mul_nonneg (by omega) hX
      have h2 : d * (2 * k + (L : Int) + 1) ≤ 64 * (2 * k + (L : Int) + 1) := Int.mul_le_mul_of_nonneg_right (by omega) hX
      have w1 : IntKind.wrap .i64 (2 * k) = 2 * k := wrap_ok (by omega) (by omega)
      have w2 : IntKind.wrap .i64 (2 * k + (L : Int)) = 2 * k + (L : Int) := wrap_ok (by omega) (by omega)
      have w3 : IntKind.wrap .i64 (2 * k + (L : Int) + 1) = 2 * k + (L : Int) + 1 := wrap_ok (by omega) (by omega)
      have w4 : d * (2 * k + (L : Int) + 1) = IntKind.wrap .i64 (d * IntKind.wrap .i64 (IntKind.wrap .i64 (IntKind.wrap .i64 (2 * k) + (L : Int)) + 1)) := by
        rw [w1, w2, w3]; exact (wrap_ok (by omega) (by omega)).symm
      rw [w4]
      clear w1 w2 w3 w4 h1 h2 hX
      refine call_cfg (by kernel_rfl) ?_
      refine evc_g 11 ?_
      refine evc_c (h68) ?_
      refine evc_g 13 ?_
      refine evc_c (h31) ?_
      refine evc_g 21 ?_
      refine evc_c (h46) ?_
      refine evc_g 6 ?_
      exact evc_t (Val.tup [Val.int IntKind.i64 (IntKind.i64.wrap (d * IntKind.i64.wrap (IntKind.i64.wrap (IntKind.i64.wrap (2 * k) + (↑L : Int)) + 1))), Val.int IntKind.i64 0]) (hl := (by first | rfl | (simp [Val.low, Val.lows, low_encL, low_encI]; done) | (simp [Val.low, Val.lows, low_encL, low_encI, low_encZ, low_encFs, low_encNs, low_encN]; done)))
    · rw [if_neg he]
      clear h46
      refine call_cfg (by kernel_rfl) ?_
      refine evc_g 11 ?_
      refine evc_c (h68) ?_
      refine evc_g 13 ?_
      refine evc_c (h31) ?_
      refine evc_g 11 ?_
      refine evc_i 20 (e != 0) true ?_
      refine evc_g 7 ?_
      exact evc_t (Val.tup [Val.int IntKind.i64 0, Val.int IntKind.i64 e])
theorem c89 (d k z : Int) : Go.V.Call E0 89 [.agg [.int .i64 d, .int .i64 k, .int .i64 z], .agg [.sli (encNs ns) ns.length q]] S (.int .i64 (boundE d k z ns)) S := by
  have h32 := c32 ns q S hns hok
  have h69 := c69 d k z S
  unfold boundE
  generalize checkS ns = p at *
  obtain ⟨at', e⟩ := p
  simp only at *
  clear hok
  cases hr : rightL d k z with
  | false =>
    rw [hr] at h69
    simp only [Bool.false_eq_true, if_false] at *
    clear h32
    refine call_cfg (by kernel_rfl) ?_
    refine evc_g 10 ?_
    refine evc_c (h69) ?_
    refine evc_g 7 ?_
    exact evc_t (Val.int IntKind.i64 15)
  | true =>
    rw [hr] at h69
    simp only [if_true] at *
    refine call_cfg (by kernel_rfl) ?_
    refine evc_g 10 ?_
    refine evc_c (h69) ?_
    refine evc_g 7 ?_
    refine evc_c (h32) ?_
    refine evc_g 11 ?_
    exact evc_t (Val.int IntKind.i64 e)
noncomputable def P43 : Pos := (goT E0 1000 (ctxOf E0 43) 33 (entry E0 43 [.agg [.int .i64 1, .int .i64 1, .int .i64 1], .agg [.sli zn9 1 .exact]] ⟨[], []⟩)).pos
theorem L43 (d k : Nat) (z : Int) (hd : d ≤ 64) (hk : k ≤ 1024) : ∀ (m i : Nat), i + m = d →
    EvC E0 (ctxOf E0 43) ⟨P43, [(2, .lv [.int .i64 (d : Int), .int .i64 (k : Int), .int .i64 z]), (3, .lv [.sli (encNs ns) ns.length q]), (7, .int .i64 ((i * (2 * k + longS 0 ns + 1) : Nat) : Int)), (8, .int .i64 (i : Int))], S⟩
      (Go.V.Fin E0 43 S (pairV (((d * (2 * k + longS 0 ns + 1) : Nat) : Int), 0)) S) := by
  intro m
  induction m with
  | zero =>
    intro i hi
    have : i = d := by omega
    subst this
    have g : ¬ (i : Int) < (i : Int) := by omega
    generalize ((i * (2 * k + longS 0 ns + 1) : Nat) : Int) = v
    clear hok
    refine evc_g 8 ?_
    refine evc_i 18 (decide ((↑i : Int) < (↑i : Int))) false ?_
    refine evc_g 8 ?_
    exact evc_t (Val.tup [Val.int IntKind.i64 v, Val.int IntKind.i64 0])
  | succ m ihm =>
    intro i hi
    have g : (i : Int) < (d : Int) := by omega
    have h47 := c47 ns q S hns (fun n hn => (hok n hn).ok.f)
    have ih := ihm (i + 1) (by omega)
    generalize longS 0 ns = L at *
    have hm : (i + 1) * (2 * k + L + 1) = i * (2 * k + L + 1) + (2 * k + L + 1) := by rw [Nat.succ_mul]
    have hb : i * (2 * k + L + 1) ≤ 64 * (2 * k + L + 1) := Nat.mul_le_mul_right _ (by omega)
    generalize hv : i * (2 * k + L + 1) = v at *
    have w : IntKind.wrap .i64 (IntKind.wrap .i64 (IntKind.wrap .i64 (IntKind.wrap .i64 ((v : Int) + (k : Int)) + (k : Int)) + (L : Int)) + 1) = (((i + 1) * (2 * k + L + 1) : Nat) : Int) := by
      rw [hm, wrap_ok (n := (v : Int) + (k : Int)) (by omega) (by omega), wrap_ok (n := (v : Int) + (k : Int) + (k : Int)) (by omega) (by omega), wrap_ok (n := (v : Int) + (k : Int) + (k : Int) + (L : Int)) (by omega) (by omega), wrap_ok (by omega) (by omega)]
      omega
    generalize (((i + 1) * (2 * k + L + 1) : Nat) : Int) = v' at *
    generalize ((d * (2 * k + L + 1) : Nat) : Int) = R at *
    clear ihm hm hb hv hok hL
    refine evc_g 8 ?_
    refine evc_i 18 (decide ((↑i : Int) < (↑d : Int))) true ?_
    refine evc_g 13 ?_
    refine evc_c (h47) ?_
    refine evc_g 11 ?_
    refine evc_set 7 (Val.int IntKind.i64 (IntKind.i64.wrap (IntKind.i64.wrap (IntKind.i64.wrap (IntKind.i64.wrap ((↑v : Int) + (↑k : Int)) + (↑k : Int)) + (↑L : Int)) + 1))) (Val.int IntKind.i64 v') (by kernel_rfl) (congrArg (Val.int IntKind.i64) w) ?_
    refine evc_set 8 (Val.int IntKind.i64 (IntKind.i64.wrap ((↑i : Int) + 1))) (Val.int IntKind.i64 (↑(i + 1) : Int)) (by kernel_rfl) (congrArg (Val.int IntKind.i64) (wrap_nat (i := i) (m := 1) (by omega))) ?_
    exact evc_a (ih)
theorem c43 (d k z : Int) : Go.V.Call E0 43 [.agg [.int .i64 d, .int .i64 k, .int .i64 z], .agg [.sli (encNs ns) ns.length q]] S (pairV (boundS d k z ns)) S := by
  have h89 := c89 ns q S hns hok hL d k z
  unfold boundS
  by_cases he : boundE d k z ns = 0
  · rw [if_pos he]
    rw [he] at h89
    have hr : rightL d k z = true := by
      cases hr : rightL d k z with
      | true => rfl
      | false => unfold boundE at he; rw [hr] at he; simp at he
    simp only [rightL, decide_eq_true_eq] at hr
    obtain ⟨d, rfl⟩ : ∃ m : Nat, d = m := ⟨d.toNat, by omega⟩
    obtain ⟨k, rfl⟩ : ∃ m : Nat, k = m := ⟨k.toNat, by omega⟩
    have L := L43 ns q S hns hok hL d k z (by omega) (by omega) d 0 (by omega)
    have e : (d : Int) * (2 * (k : Int) + (longS 0 ns : Int) + 1) = ((d * (2 * k + longS 0 ns + 1) : Nat) : Int) := by push_cast; rfl
    rw [e]
    simp only [Nat.zero_mul] at L
    generalize ((d * (2 * k + longS 0 ns + 1) : Nat) : Int) = R at *
    clear hok hL e he
    refine call_cfg (by kernel_rfl) ?_
    refine evc_g 11 ?_
    refine evc_c (h89) ?_
    refine evc_g 21 ?_
    exact evc_a (L)
  · rw [if_neg he]
    generalize boundE d k z ns = e at *
    clear hok hL
    refine call_cfg (by kernel_rfl) ?_
    refine evc_g 11 ?_
    refine evc_c (h89) ?_
    refine evc_g 8 ?_
    refine evc_i 13 (e != 0) true ?_
    refine evc_g 7 ?_
    exact evc_t (Val.tup [Val.int IntKind.i64 0, Val.int IntKind.i64 e])
end
end Go.V.W
