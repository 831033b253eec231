/- DenoteBounds: which nodes match. Printed by a program (wip/tools/gendb2.py). -/
import Derived.Test.YtgnfinbhnoofpaaDoorVH
import Derived.Test.YtgnfinbhnoofpaaDoorDB1
set_option linter.unusedVariables false
set_option linter.unusedSimpArgs false
set_option linter.unusedSectionVars false
open Go Go.V
set_option maxRecDepth 100000
set_option maxHeartbeats 4000000
namespace Go.V.W
/-- the number that a node of kind k asks for, if there is one -/
def numK (k kx n : Int) (s : List UInt8) : Option Int :=
  if k = 1 then (if n > 9223372036854775807 then none else if kx = 0 then some (IntKind.wrap .i64 n) else if kx = 1 then some (IntKind.wrap .i64 (-1 - (IntKind.wrap .i64 n))) else none)
  else if k = 2 then (if kx = 2 then some (s.length : Int) else none)
  else (if kx = 3 then some (s.length : Int) else none)
def inB (o : Option Int) (lo hi : Int) : Bool := match o with
  | some v => decide (lo ≤ v) && decide (v ≤ hi)
  | none => false
theorem d50 (k n : Int) (s : List UInt8) (q : Q) (l : List It) : Go.V.Call E0 50 [.agg (i4 k n s l q)] s0 (if n > 9223372036854775807 then .tup [.int .i64 0, .bool false] else if k = 0 then .tup [.int .i64 (IntKind.wrap .i64 n), .bool true] else if k = 1 then .tup [.int .i64 (IntKind.wrap .i64 (-1 - (IntKind.wrap .i64 n))), .bool true] else .tup [.int .i64 0, .bool false]) s0 := by
  refine call_cfg (by kernel_rfl) ?_
  refine evc_go 1000 15 (by kernel_rfl) ?_
  refine evc_split 4 (Decidable.decide (n > 9223372036854775807)) (by kernel_rfl) (fun h12 => ?_) (fun h12 => ?_)
  · refine evc_go 1000 6 (by kernel_rfl) ?_
    exact evc_end (Go.V.Val.tup [Go.V.Val.int Go.IntKind.i64 0, Go.V.Val.bool Bool.false]) ({ H := [], L := [] }) (by kernel_rfl) (by first | with_reducible rfl | assumption | (simp_all; done) | omega | (simp_all; omega) | ((try simp only [decide_eq_true_eq, decide_eq_false_iff_not, beq_iff_eq, beq_eq_false_iff_ne, ne_eq, Bool.and_eq_true, Bool.or_eq_true] at *); (repeat' split) <;> first | rfl | (exfalso; omega))) (by first | with_reducible rfl | assumption | (simp_all; done) | omega | (simp_all; omega) | ((try simp only [decide_eq_true_eq, decide_eq_false_iff_not, beq_iff_eq, beq_eq_false_iff_ne, ne_eq, Bool.and_eq_true, Bool.or_eq_true] at *); (repeat' split) <;> first | rfl | (exfalso; omega)))
  · refine evc_go 1000 8 (by kernel_rfl) ?_
    refine evc_split 8 (k == 0) (by kernel_rfl) (fun h11 => ?_) (fun h11 => ?_)
    · refine evc_go 1000 9 (by kernel_rfl) ?_
      exact evc_end (Go.V.Val.tup [Go.V.Val.int Go.IntKind.i64 (Go.IntKind.i64.wrap n), Go.V.Val.bool Bool.true]) ({ H := [], L := [] }) (by kernel_rfl) (by first | with_reducible rfl | assumption | (simp_all; done) | omega | (simp_all; omega) | ((try simp only [decide_eq_true_eq, decide_eq_false_iff_not, beq_iff_eq, beq_eq_false_iff_ne, ne_eq, Bool.and_eq_true, Bool.or_eq_true] at *); (repeat' split) <;> first | rfl | (exfalso; omega))) (by first | with_reducible rfl | assumption | (simp_all; done) | omega | (simp_all; omega) | ((try simp only [decide_eq_true_eq, decide_eq_false_iff_not, beq_iff_eq, beq_eq_false_iff_ne, ne_eq, Bool.and_eq_true, Bool.or_eq_true] at *); (repeat' split) <;> first | rfl | (exfalso; omega)))
    · refine evc_go 1000 8 (by kernel_rfl) ?_
      refine evc_split 15 (k == 1) (by kernel_rfl) (fun h10 => ?_) (fun h10 => ?_)
      · refine evc_go 1000 10 (by kernel_rfl) ?_
        exact evc_end (Go.V.Val.tup [Go.V.Val.int Go.IntKind.i64 (Go.IntKind.i64.wrap (-1 - Go.IntKind.i64.wrap n)), Go.V.Val.bool Bool.true]) ({ H := [], L := [] }) (by kernel_rfl) (by first | with_reducible rfl | assumption | (simp_all; done) | omega | (simp_all; omega) | ((try simp only [decide_eq_true_eq, decide_eq_false_iff_not, beq_iff_eq, beq_eq_false_iff_ne, ne_eq, Bool.and_eq_true, Bool.or_eq_true] at *); (repeat' split) <;> first | rfl | (exfalso; omega))) (by first | with_reducible rfl | assumption | (simp_all; done) | omega | (simp_all; omega) | ((try simp only [decide_eq_true_eq, decide_eq_false_iff_not, beq_iff_eq, beq_eq_false_iff_ne, ne_eq, Bool.and_eq_true, Bool.or_eq_true] at *); (repeat' split) <;> first | rfl | (exfalso; omega)))
      · refine evc_go 1000 8 (by kernel_rfl) ?_
        exact evc_end (Go.V.Val.tup [Go.V.Val.int Go.IntKind.i64 0, Go.V.Val.bool Bool.false]) ({ H := [], L := [] }) (by kernel_rfl) (by first | with_reducible rfl | assumption | (simp_all; done) | omega | (simp_all; omega) | ((try simp only [decide_eq_true_eq, decide_eq_false_iff_not, beq_iff_eq, beq_eq_false_iff_ne, ne_eq, Bool.and_eq_true, Bool.or_eq_true] at *); (repeat' split) <;> first | rfl | (exfalso; omega))) (by first | with_reducible rfl | assumption | (simp_all; done) | omega | (simp_all; omega) | ((try simp only [decide_eq_true_eq, decide_eq_false_iff_not, beq_iff_eq, beq_eq_false_iff_ne, ne_eq, Bool.and_eq_true, Bool.or_eq_true] at *); (repeat' split) <;> first | rfl | (exfalso; omega)))
theorem d50_s (k n : Int) (s : List UInt8) (q : Q) (l : List It) (v : Int) (h : numK 1 k n s = some v) : Go.V.Call E0 50 [.agg (i4 k n s l q)] s0 (.tup [.int .i64 v, .bool true]) s0 := by
  have := d50 k n s q l
  unfold numK at h
  simp only [if_true] at h
  split at h
  · simp at h
  · rename_i g
    rw [if_neg g] at this
    split at h
    · rename_i g2; rw [if_pos g2] at this; cases h; exact this
    · rename_i g2
      rw [if_neg g2] at this
      split at h
      · rename_i g3; rw [if_pos g3] at this; cases h; exact this
      · simp at h
theorem d50_n (k n : Int) (s : List UInt8) (q : Q) (l : List It) (h : numK 1 k n s = none) : Go.V.Call E0 50 [.agg (i4 k n s l q)] s0 (.tup [.int .i64 0, .bool false]) s0 := by
  have := d50 k n s q l
  unfold numK at h
  simp only [if_true] at h
  split at h
  · rename_i g; rw [if_pos g] at this; exact this
  · rename_i g
    rw [if_neg g] at this
    split at h
    · simp at h
    · rename_i g2
      rw [if_neg g2] at this
      split at h
      · simp at h
      · rename_i g3; rw [if_neg g3] at this; exact this
theorem d125_1 (lo hi v : Int) : Go.V.Call E0 125 [.agg (nd 1 lo hi), .int .i64 v] s0 (.bool (decide (lo ≤ v) && decide (v ≤ hi))) s0 := by
  refine call_cfg (by kernel_rfl) ?_
  refine evc_go 1000 12 (by kernel_rfl) ?_
  refine evc_split 9 (Decidable.decide (lo ≤ v)) (by kernel_rfl) (fun h12 => ?_) (fun h12 => ?_)
  · refine evc_go 1000 7 (by kernel_rfl) ?_
    exact evc_end (Go.V.Val.bool (Decidable.decide (v ≤ hi))) ({ H := [], L := [] }) (by kernel_rfl) (by first | with_reducible rfl | assumption | (simp_all; done) | omega | (simp_all; omega) | ((try simp only [decide_eq_true_eq, decide_eq_false_iff_not, beq_iff_eq, beq_eq_false_iff_ne, ne_eq, Bool.and_eq_true, Bool.or_eq_true] at *); (repeat' split) <;> first | rfl | (exfalso; omega))) (by first | with_reducible rfl | assumption | (simp_all; done) | omega | (simp_all; omega) | ((try simp only [decide_eq_true_eq, decide_eq_false_iff_not, beq_iff_eq, beq_eq_false_iff_ne, ne_eq, Bool.and_eq_true, Bool.or_eq_true] at *); (repeat' split) <;> first | rfl | (exfalso; omega)))
  · refine evc_go 1000 7 (by kernel_rfl) ?_
    exact evc_end (Go.V.Val.bool Bool.false) ({ H := [], L := [] }) (by kernel_rfl) (by first | with_reducible rfl | assumption | (simp_all; done) | omega | (simp_all; omega) | ((try simp only [decide_eq_true_eq, decide_eq_false_iff_not, beq_iff_eq, beq_eq_false_iff_ne, ne_eq, Bool.and_eq_true, Bool.or_eq_true] at *); (repeat' split) <;> first | rfl | (exfalso; omega))) (by first | with_reducible rfl | assumption | (simp_all; done) | omega | (simp_all; omega) | ((try simp only [decide_eq_true_eq, decide_eq_false_iff_not, beq_iff_eq, beq_eq_false_iff_ne, ne_eq, Bool.and_eq_true, Bool.or_eq_true] at *); (repeat' split) <;> first | rfl | (exfalso; omega)))
theorem d91_1_1 (a b c d : Int) (kx n : Int) (s : List UInt8) (q : Q) (l : List It) : Go.V.Call E0 91 [sc 1 a b c d, .int .i64 1, .agg (i4 kx n s l q)] s0 (.bool (inB (numK 1 kx n s) a b)) s0 := by
  have h125 := d125_1 a b
  cases h : numK 1 kx n s with
  | none =>
    have h50 := d50_n kx n s q l h
    simp only [inB]
    clear h
    refine call_cfg (by kernel_rfl) ?_
    refine evc_go 1000 43 (by kernel_rfl) ?_
    refine evc_call (by kernel_rfl) (by kernel_rfl) (h50) (by kernel_rfl) ?_
    refine evc_go 1000 16 (by kernel_rfl) ?_
    exact evc_end (Go.V.Val.bool Bool.false) ({ H := [], L := [] }) (by kernel_rfl) (by first | with_reducible rfl | assumption | (simp_all; done) | omega | (simp_all; omega) | ((try simp only [decide_eq_true_eq, decide_eq_false_iff_not, beq_iff_eq, beq_eq_false_iff_ne, ne_eq, Bool.and_eq_true, Bool.or_eq_true] at *); (repeat' split) <;> first | rfl | (exfalso; omega))) (by first | with_reducible rfl | assumption | (simp_all; done) | omega | (simp_all; omega) | ((try simp only [decide_eq_true_eq, decide_eq_false_iff_not, beq_iff_eq, beq_eq_false_iff_ne, ne_eq, Bool.and_eq_true, Bool.or_eq_true] at *); (repeat' split) <;> first | rfl | (exfalso; omega)))
  | some v =>
    have h50 := d50_s kx n s q l v h
    simp only [inB]
    clear h
    refine call_cfg (by kernel_rfl) ?_
    refine evc_go 1000 43 (by kernel_rfl) ?_
    refine evc_call (by kernel_rfl) (by kernel_rfl) (h50) (by kernel_rfl) ?_
    refine evc_go 1000 12 (by kernel_rfl) ?_
    refine evc_call (by kernel_rfl) (by kernel_rfl) (h125 (v)) (by kernel_rfl) ?_
    refine evc_go 1000 3 (by kernel_rfl) ?_
    exact evc_end (Go.V.Val.bool (Decidable.decide (a ≤ v) && Decidable.decide (v ≤ b))) ({ H := [], L := [] }) (by kernel_rfl) (by first | with_reducible rfl | assumption | (simp_all; done) | omega | (simp_all; omega) | ((try simp only [decide_eq_true_eq, decide_eq_false_iff_not, beq_iff_eq, beq_eq_false_iff_ne, ne_eq, Bool.and_eq_true, Bool.or_eq_true] at *); (repeat' split) <;> first | rfl | (exfalso; omega))) (by first | with_reducible rfl | assumption | (simp_all; done) | omega | (simp_all; omega) | ((try simp only [decide_eq_true_eq, decide_eq_false_iff_not, beq_iff_eq, beq_eq_false_iff_ne, ne_eq, Bool.and_eq_true, Bool.or_eq_true] at *); (repeat' split) <;> first | rfl | (exfalso; omega)))
theorem d91_1_2 (a b c d : Int) (kx n : Int) (s : List UInt8) (q : Q) (l : List It) : Go.V.Call E0 91 [sc 1 a b c d, .int .i64 2, .agg (i4 kx n s l q)] s0 (.bool (inB (numK 1 kx n s) c d)) s0 := by
  have h125 := d125_1 c d
  cases h : numK 1 kx n s with
  | none =>
    have h50 := d50_n kx n s q l h
    simp only [inB]
    clear h
    refine call_cfg (by kernel_rfl) ?_
    refine evc_go 1000 43 (by kernel_rfl) ?_
    refine evc_call (by kernel_rfl) (by kernel_rfl) (h50) (by kernel_rfl) ?_
    refine evc_go 1000 16 (by kernel_rfl) ?_
    exact evc_end (Go.V.Val.bool Bool.false) ({ H := [], L := [] }) (by kernel_rfl) (by first | with_reducible rfl | assumption | (simp_all; done) | omega | (simp_all; omega) | ((try simp only [decide_eq_true_eq, decide_eq_false_iff_not, beq_iff_eq, beq_eq_false_iff_ne, ne_eq, Bool.and_eq_true, Bool.or_eq_true] at *); (repeat' split) <;> first | rfl | (exfalso; omega))) (by first | with_reducible rfl | assumption | (simp_all; done) | omega | (simp_all; omega) | ((try simp only [decide_eq_true_eq, decide_eq_false_iff_not, beq_iff_eq, beq_eq_false_iff_ne, ne_eq, Bool.and_eq_true, Bool.or_eq_true] at *); (repeat' split) <;> first | rfl | (exfalso; omega)))
  | some v =>
    have h50 := d50_s kx n s q l v h
    simp only [inB]
    clear h
    refine call_cfg (by kernel_rfl) ?_
    refine evc_go 1000 43 (by kernel_rfl) ?_
    refine evc_call (by kernel_rfl) (by kernel_rfl) (h50) (by kernel_rfl) ?_
    refine evc_go 1000 12 (by kernel_rfl) ?_
    refine evc_call (by kernel_rfl) (by kernel_rfl) (h125 (v)) (by kernel_rfl) ?_
    refine evc_go 1000 3 (by kernel_rfl) ?_
    exact evc_end (Go.V.Val.bool (Decidable.decide (c ≤ v) && Decidable.decide (v ≤ d))) ({ H := [], L := [] }) (by kernel_rfl) (by first | with_reducible rfl | assumption | (simp_all; done) | omega | (simp_all; omega) | ((try simp only [decide_eq_true_eq, decide_eq_false_iff_not, beq_iff_eq, beq_eq_false_iff_ne, ne_eq, Bool.and_eq_true, Bool.or_eq_true] at *); (repeat' split) <;> first | rfl | (exfalso; omega))) (by first | with_reducible rfl | assumption | (simp_all; done) | omega | (simp_all; omega) | ((try simp only [decide_eq_true_eq, decide_eq_false_iff_not, beq_iff_eq, beq_eq_false_iff_ne, ne_eq, Bool.and_eq_true, Bool.or_eq_true] at *); (repeat' split) <;> first | rfl | (exfalso; omega)))
theorem d91_1_0 (a b c d : Int) (kx n : Int) (s : List UInt8) (q : Q) (l : List It) : Go.V.Call E0 91 [sc 1 a b c d, .int .i64 0, .agg (i4 kx n s l q)] s0 (.bool (inB (numK 1 kx n s) a b || inB (numK 1 kx n s) c d)) s0 := by
  have h1 := d91_1_1 a b c d kx n s q l
  have h2 := d91_1_2 a b c d kx n s q l
  generalize inB (numK 1 kx n s) a b = x at *
  generalize inB (numK 1 kx n s) c d = y at *
  have k1 : Go.V.Call E0 129 [.int .i64 1, .pin [.sli (scl 1 a b c d) 3 .exact] 0, .pin (i4 kx n s l q) 0] s0 (.bool x) s0 := by
    refine call_cfg (by kernel_rfl) ?_
    refine evc_go 1000 9 (by kernel_rfl) ?_
    refine evc_call (by kernel_rfl) (by kernel_rfl) (h1) (by kernel_rfl) ?_
    refine evc_go 1000 2 (by kernel_rfl) ?_
    exact evc_end (Go.V.Val.bool x) ({ H := [], L := [] }) (by kernel_rfl) (by first | with_reducible rfl | assumption | (simp_all; done) | omega | (simp_all; omega) | ((try simp only [decide_eq_true_eq, decide_eq_false_iff_not, beq_iff_eq, beq_eq_false_iff_ne, ne_eq, Bool.and_eq_true, Bool.or_eq_true] at *); (repeat' split) <;> first | rfl | (exfalso; omega))) (by first | with_reducible rfl | assumption | (simp_all; done) | omega | (simp_all; omega) | ((try simp only [decide_eq_true_eq, decide_eq_false_iff_not, beq_iff_eq, beq_eq_false_iff_ne, ne_eq, Bool.and_eq_true, Bool.or_eq_true] at *); (repeat' split) <;> first | rfl | (exfalso; omega)))
  have k2 : Go.V.Call E0 129 [.int .i64 2, .pin [.sli (scl 1 a b c d) 3 .exact] 0, .pin (i4 kx n s l q) 0] s0 (.bool y) s0 := by
    refine call_cfg (by kernel_rfl) ?_
    refine evc_go 1000 9 (by kernel_rfl) ?_
    refine evc_call (by kernel_rfl) (by kernel_rfl) (h2) (by kernel_rfl) ?_
    refine evc_go 1000 2 (by kernel_rfl) ?_
    exact evc_end (Go.V.Val.bool y) ({ H := [], L := [] }) (by kernel_rfl) (by first | with_reducible rfl | assumption | (simp_all; done) | omega | (simp_all; omega) | ((try simp only [decide_eq_true_eq, decide_eq_false_iff_not, beq_iff_eq, beq_eq_false_iff_ne, ne_eq, Bool.and_eq_true, Bool.or_eq_true] at *); (repeat' split) <;> first | rfl | (exfalso; omega))) (by first | with_reducible rfl | assumption | (simp_all; done) | omega | (simp_all; omega) | ((try simp only [decide_eq_true_eq, decide_eq_false_iff_not, beq_iff_eq, beq_eq_false_iff_ne, ne_eq, Bool.and_eq_true, Bool.or_eq_true] at *); (repeat' split) <;> first | rfl | (exfalso; omega)))
  have k3 : Go.V.Call E0 147 [.sli [.int .i64 1, .int .i64 2] 2 .exact, .fn 129 [.pin [.sli (scl 1 a b c d) 3 .exact] 0, .pin (i4 kx n s l q) 0]] s0 (.int .i64 (if x then 0 else if y then 1 else -1)) s0 := by
    refine call_cfg (by kernel_rfl) ?_
    refine evc_go 1000 34 (by kernel_rfl) ?_
    refine evc_call (by kernel_rfl) (by kernel_rfl) (k1) (by kernel_rfl) ?_
    refine evc_go 1000 1 (by kernel_rfl) ?_
    refine evc_split 16 (x) (by kernel_rfl) (fun h12 => ?_) (fun h12 => ?_)
    · refine evc_go 1000 6 (by kernel_rfl) ?_
      exact evc_end (Go.V.Val.int Go.IntKind.i64 0) ({ H := [], L := [] }) (by kernel_rfl) (by first | with_reducible rfl | assumption | (simp_all; done) | omega | (simp_all; omega) | ((try simp only [decide_eq_true_eq, decide_eq_false_iff_not, beq_iff_eq, beq_eq_false_iff_ne, ne_eq, Bool.and_eq_true, Bool.or_eq_true] at *); (repeat' split) <;> first | rfl | (exfalso; omega))) (by first | with_reducible rfl | assumption | (simp_all; done) | omega | (simp_all; omega) | ((try simp only [decide_eq_true_eq, decide_eq_false_iff_not, beq_iff_eq, beq_eq_false_iff_ne, ne_eq, Bool.and_eq_true, Bool.or_eq_true] at *); (repeat' split) <;> first | rfl | (exfalso; omega)))
    · -- HEAD 44 frame [(0, Go.V.Val.sli [Go.V.Val.int Go.IntKind.i64 1, Go.V.Val.int Go.IntKind.i64 2] 2 Go.V.Q.exact), (1, Go.V.Val.fn 129 [Go.V.Val.pin [Go.V.Val.sli [Go.V.Val.int Go.IntKind.i64 10, Go.V.Val.int Go.IntKind.i64 0, Go.V.Val.int Go.IntKind.i64 0, Go.V.Val.int Go.IntKind.i64 0, Go.V.Val.int Go.IntKind.u64 0, Go.V.Val.str [], Go.V.Val.sli [] 0 Go.V.Q.nil, Go.V.Val.sli [Go.V.Val.int Go.IntKind.i64 1, Go.V.Val.int Go.IntKind.i64 2] 2 Go.V.Q.exact, Go.V.Val.sli [] 0 Go.V.Q.nil, Go.V.Val.int Go.IntKind.i64 1, Go.V.Val.int Go.IntKind.i64 a, Go.V.Val.int Go.IntKind.i64 b, Go.V.Val.int Go.IntKind.i64 0, Go.V.Val.int Go.IntKind.u64 0, Go.V.Val.str [], Go.V.Val.sli [] 0 Go.V.Q.nil, Go.V.Val.sli [] 0 Go.V.Q.nil, Go.V.Val.sli [] 0 Go.V.Q.nil, Go.V.Val.int Go.IntKind.i64 1, Go.V.Val.int Go.IntKind.i64 c, Go.V.Val.int Go.IntKind.i64 d, Go.V.Val.int Go.IntKind.i64 0, Go.V.Val.int Go.IntKind.u64 0, Go.V.Val.str [], Go.V.Val.sli [] 0 Go.V.Q.nil, Go.V.Val.sli [] 0 Go.V.Q.nil, Go.V.Val.sli [] 0 Go.V.Q.nil] 3 Go.V.Q.exact] 0, Go.V.Val.pin [Go.V.Val.int Go.IntKind.i64 kx, Go.V.Val.int Go.IntKind.u64 n, Go.V.Val.str s, Go.V.Val.sli (Go.V.encL l) l.length q] 0]), (7, Go.V.Val.int Go.IntKind.i64 2), (8, Go.V.Val.int Go.IntKind.i64 1)]
      refine evc_go 1000 29 (by kernel_rfl) ?_
      refine evc_call (by kernel_rfl) (by kernel_rfl) (k2) (by kernel_rfl) ?_
      refine evc_go 1000 1 (by kernel_rfl) ?_
      refine evc_split 16 (y) (by kernel_rfl) (fun h11 => ?_) (fun h11 => ?_)
      · refine evc_go 1000 6 (by kernel_rfl) ?_
        exact evc_end (Go.V.Val.int Go.IntKind.i64 1) ({ H := [], L := [] }) (by kernel_rfl) (by first | with_reducible rfl | assumption | (simp_all; done) | omega | (simp_all; omega) | ((try simp only [decide_eq_true_eq, decide_eq_false_iff_not, beq_iff_eq, beq_eq_false_iff_ne, ne_eq, Bool.and_eq_true, Bool.or_eq_true] at *); (repeat' split) <;> first | rfl | (exfalso; omega))) (by first | with_reducible rfl | assumption | (simp_all; done) | omega | (simp_all; omega) | ((try simp only [decide_eq_true_eq, decide_eq_false_iff_not, beq_iff_eq, beq_eq_false_iff_ne, ne_eq, Bool.and_eq_true, Bool.or_eq_true] at *); (repeat' split) <;> first | rfl | (exfalso; omega)))
      · -- HEAD 75 frame [(0, Go.V.Val.sli [Go.V.Val.int Go.IntKind.i64 1, Go.V.Val.int Go.IntKind.i64 2] 2 Go.V.Q.exact), (1, Go.V.Val.fn 129 [Go.V.Val.pin [Go.V.Val.sli [Go.V.Val.int Go.IntKind.i64 10, Go.V.Val.int Go.IntKind.i64 0, Go.V.Val.int Go.IntKind.i64 0, Go.V.Val.int Go.IntKind.i64 0, Go.V.Val.int Go.IntKind.u64 0, Go.V.Val.str [], Go.V.Val.sli [] 0 Go.V.Q.nil, Go.V.Val.sli [Go.V.Val.int Go.IntKind.i64 1, Go.V.Val.int Go.IntKind.i64 2] 2 Go.V.Q.exact, Go.V.Val.sli [] 0 Go.V.Q.nil, Go.V.Val.int Go.IntKind.i64 1, Go.V.Val.int Go.IntKind.i64 a, Go.V.Val.int Go.IntKind.i64 b, Go.V.Val.int Go.IntKind.i64 0, Go.V.Val.int Go.IntKind.u64 0, Go.V.Val.str [], Go.V.Val.sli [] 0 Go.V.Q.nil, Go.V.Val.sli [] 0 Go.V.Q.nil, Go.V.Val.sli [] 0 Go.V.Q.nil, Go.V.Val.int Go.IntKind.i64 1, Go.V.Val.int Go.IntKind.i64 c, Go.V.Val.int Go.IntKind.i64 d, Go.V.Val.int Go.IntKind.i64 0, Go.V.Val.int Go.IntKind.u64 0, Go.V.Val.str [], Go.V.Val.sli [] 0 Go.V.Q.nil, Go.V.Val.sli [] 0 Go.V.Q.nil, Go.V.Val.sli [] 0 Go.V.Q.nil] 3 Go.V.Q.exact] 0, Go.V.Val.pin [Go.V.Val.int Go.IntKind.i64 kx, Go.V.Val.int Go.IntKind.u64 n, Go.V.Val.str s, Go.V.Val.sli (Go.V.encL l) l.length q] 0]), (7, Go.V.Val.int Go.IntKind.i64 2), (8, Go.V.Val.int Go.IntKind.i64 2)]
        refine evc_go 1000 19 (by kernel_rfl) ?_
        exact evc_end (Go.V.Val.int Go.IntKind.i64 (-1)) ({ H := [], L := [] }) (by kernel_rfl) (by first | with_reducible rfl | assumption | (simp_all; done) | omega | (simp_all; omega) | ((try simp only [decide_eq_true_eq, decide_eq_false_iff_not, beq_iff_eq, beq_eq_false_iff_ne, ne_eq, Bool.and_eq_true, Bool.or_eq_true] at *); (repeat' split) <;> first | rfl | (exfalso; omega))) (by first | with_reducible rfl | assumption | (simp_all; done) | omega | (simp_all; omega) | ((try simp only [decide_eq_true_eq, decide_eq_false_iff_not, beq_iff_eq, beq_eq_false_iff_ne, ne_eq, Bool.and_eq_true, Bool.or_eq_true] at *); (repeat' split) <;> first | rfl | (exfalso; omega)))
  have k4 : Go.V.Call E0 119 [.sli [.int .i64 1, .int .i64 2] 2 .exact, .fn 129 [.pin [.sli (scl 1 a b c d) 3 .exact] 0, .pin (i4 kx n s l q) 0]] s0 (.bool (x || y)) s0 := by
    cases x
    · cases y
      refine call_cfg (by kernel_rfl) ?_
      refine evc_go 1000 8 (by kernel_rfl) ?_
      refine evc_call (by kernel_rfl) (by kernel_rfl) (k3) (by kernel_rfl) ?_
      refine evc_go 1000 3 (by kernel_rfl) ?_
      exact evc_end (Go.V.Val.bool Bool.false) ({ H := [], L := [] }) (by kernel_rfl) (by first | with_reducible rfl | assumption | (simp_all; done) | omega | (simp_all; omega) | ((try simp only [decide_eq_true_eq, decide_eq_false_iff_not, beq_iff_eq, beq_eq_false_iff_ne, ne_eq, Bool.and_eq_true, Bool.or_eq_true] at *); (repeat' split) <;> first | rfl | (exfalso; omega))) (by first | with_reducible rfl | assumption | (simp_all; done) | omega | (simp_all; omega) | ((try simp only [decide_eq_true_eq, decide_eq_false_iff_not, beq_iff_eq, beq_eq_false_iff_ne, ne_eq, Bool.and_eq_true, Bool.or_eq_true] at *); (repeat' split) <;> first | rfl | (exfalso; omega)))
      refine call_cfg (by kernel_rfl) ?_
      refine evc_go 1000 8 (by kernel_rfl) ?_
      refine evc_call (by kernel_rfl) (by kernel_rfl) (k3) (by kernel_rfl) ?_
      refine evc_go 1000 3 (by kernel_rfl) ?_
      exact evc_end (Go.V.Val.bool Bool.true) ({ H := [], L := [] }) (by kernel_rfl) (by first | with_reducible rfl | assumption | (simp_all; done) | omega | (simp_all; omega) | ((try simp only [decide_eq_true_eq, decide_eq_false_iff_not, beq_iff_eq, beq_eq_false_iff_ne, ne_eq, Bool.and_eq_true, Bool.or_eq_true] at *); (repeat' split) <;> first | rfl | (exfalso; omega))) (by first | with_reducible rfl | assumption | (simp_all; done) | omega | (simp_all; omega) | ((try simp only [decide_eq_true_eq, decide_eq_false_iff_not, beq_iff_eq, beq_eq_false_iff_ne, ne_eq, Bool.and_eq_true, Bool.or_eq_true] at *); (repeat' split) <;> first | rfl | (exfalso; omega)))
    refine call_cfg (by kernel_rfl) ?_
    refine evc_go 1000 8 (by kernel_rfl) ?_
    refine evc_call (by kernel_rfl) (by kernel_rfl) (k3) (by kernel_rfl) ?_
    refine evc_go 1000 3 (by kernel_rfl) ?_
    exact evc_end (Go.V.Val.bool Bool.true) ({ H := [], L := [] }) (by kernel_rfl) (by first | with_reducible rfl | assumption | (simp_all; done) | omega | (simp_all; omega) | ((try simp only [decide_eq_true_eq, decide_eq_false_iff_not, beq_iff_eq, beq_eq_false_iff_ne, ne_eq, Bool.and_eq_true, Bool.or_eq_true] at *); (repeat' split) <;> first | rfl | (exfalso; omega))) (by first | with_reducible rfl | assumption | (simp_all; done) | omega | (simp_all; omega) | ((try simp only [decide_eq_true_eq, decide_eq_false_iff_not, beq_iff_eq, beq_eq_false_iff_ne, ne_eq, Bool.and_eq_true, Bool.or_eq_true] at *); (repeat' split) <;> first | rfl | (exfalso; omega)))
  refine call_cfg (by kernel_rfl) ?_
  refine evc_go 1000 95 (by kernel_rfl) ?_
  refine evc_call (by kernel_rfl) (by kernel_rfl) (k4) (by kernel_rfl) ?_
  refine evc_go 1000 2 (by kernel_rfl) ?_
  exact evc_end (Go.V.Val.bool (x || y)) ({ H := [], L := [] }) (by kernel_rfl) (by first | with_reducible rfl | assumption | (simp_all; done) | omega | (simp_all; omega) | ((try simp only [decide_eq_true_eq, decide_eq_false_iff_not, beq_iff_eq, beq_eq_false_iff_ne, ne_eq, Bool.and_eq_true, Bool.or_eq_true] at *); (repeat' split) <;> first | rfl | (exfalso; omega))) (by first | with_reducible rfl | assumption | (simp_all; done) | omega | (simp_all; omega) | ((try simp only [decide_eq_true_eq, decide_eq_false_iff_not, beq_iff_eq, beq_eq_false_iff_ne, ne_eq, Bool.and_eq_true, Bool.or_eq_true] at *); (repeat' split) <;> first | rfl | (exfalso; omega)))
theorem d125_2 (lo hi v : Int) : Go.V.Call E0 125 [.agg (nd 2 lo hi), .int .i64 v] s0 (.bool (decide (lo ≤ v) && decide (v ≤ hi))) s0 := by
  refine call_cfg (by kernel_rfl) ?_
  refine evc_go 1000 12 (by kernel_rfl) ?_
  refine evc_split 9 (Decidable.decide (lo ≤ v)) (by kernel_rfl) (fun h12 => ?_) (fun h12 => ?_)
  · refine evc_go 1000 7 (by kernel_rfl) ?_
    exact evc_end (Go.V.Val.bool (Decidable.decide (v ≤ hi))) ({ H := [], L := [] }) (by kernel_rfl) (by first | with_reducible rfl | assumption | (simp_all; done) | omega | (simp_all; omega) | ((try simp only [decide_eq_true_eq, decide_eq_false_iff_not, beq_iff_eq, beq_eq_false_iff_ne, ne_eq, Bool.and_eq_true, Bool.or_eq_true] at *); (repeat' split) <;> first | rfl | (exfalso; omega))) (by first | with_reducible rfl | assumption | (simp_all; done) | omega | (simp_all; omega) | ((try simp only [decide_eq_true_eq, decide_eq_false_iff_not, beq_iff_eq, beq_eq_false_iff_ne, ne_eq, Bool.and_eq_true, Bool.or_eq_true] at *); (repeat' split) <;> first | rfl | (exfalso; omega)))
  · refine evc_go 1000 7 (by kernel_rfl) ?_
    exact evc_end (Go.V.Val.bool Bool.false) ({ H := [], L := [] }) (by kernel_rfl) (by first | with_reducible rfl | assumption | (simp_all; done) | omega | (simp_all; omega) | ((try simp only [decide_eq_true_eq, decide_eq_false_iff_not, beq_iff_eq, beq_eq_false_iff_ne, ne_eq, Bool.and_eq_true, Bool.or_eq_true] at *); (repeat' split) <;> first | rfl | (exfalso; omega))) (by first | with_reducible rfl | assumption | (simp_all; done) | omega | (simp_all; omega) | ((try simp only [decide_eq_true_eq, decide_eq_false_iff_not, beq_iff_eq, beq_eq_false_iff_ne, ne_eq, Bool.and_eq_true, Bool.or_eq_true] at *); (repeat' split) <;> first | rfl | (exfalso; omega)))
theorem d91_2_1 (a b c d : Int) (kx n : Int) (s : List UInt8) (q : Q) (l : List It) : Go.V.Call E0 91 [sc 2 a b c d, .int .i64 1, .agg (i4 kx n s l q)] s0 (.bool (inB (numK 2 kx n s) a b)) s0 := by
  have h125 := d125_2 a b
  unfold numK
  by_cases hk : kx = 2
  · subst hk
    simp only [if_true, inB, show ¬ ((2 : Int) = 1) by decide, if_false]
    refine call_cfg (by kernel_rfl) ?_
    refine evc_go 1000 56 (by kernel_rfl) ?_
    refine evc_call (by kernel_rfl) (by kernel_rfl) (h125 ((↑s.length : Int))) (by kernel_rfl) ?_
    refine evc_go 1000 3 (by kernel_rfl) ?_
    exact evc_end (Go.V.Val.bool (Decidable.decide (a ≤ (↑s.length : Int)) && Decidable.decide ((↑s.length : Int) ≤ b))) ({ H := [], L := [] }) (by kernel_rfl) (by first | with_reducible rfl | assumption | (simp_all; done) | omega | (simp_all; omega) | ((try simp only [decide_eq_true_eq, decide_eq_false_iff_not, beq_iff_eq, beq_eq_false_iff_ne, ne_eq, Bool.and_eq_true, Bool.or_eq_true] at *); (repeat' split) <;> first | rfl | (exfalso; omega))) (by first | with_reducible rfl | assumption | (simp_all; done) | omega | (simp_all; omega) | ((try simp only [decide_eq_true_eq, decide_eq_false_iff_not, beq_iff_eq, beq_eq_false_iff_ne, ne_eq, Bool.and_eq_true, Bool.or_eq_true] at *); (repeat' split) <;> first | rfl | (exfalso; omega)))
  · simp only [if_neg hk, inB, show ¬ ((2 : Int) = 1) by decide, if_false, if_true]
    refine call_cfg (by kernel_rfl) ?_
    refine evc_go 1000 52 (by kernel_rfl) ?_
    refine evc_is 39 (kx == 2) false (by kernel_rfl) (by first | with_reducible rfl | assumption | (simp_all; done) | omega | (simp_all; omega) | ((try simp only [decide_eq_true_eq, decide_eq_false_iff_not, beq_iff_eq, beq_eq_false_iff_ne, ne_eq, Bool.and_eq_true, Bool.or_eq_true] at *); (repeat' split) <;> first | rfl | (exfalso; omega))) ?_
    refine evc_go 1000 8 (by kernel_rfl) ?_
    exact evc_end (Go.V.Val.bool Bool.false) ({ H := [], L := [] }) (by kernel_rfl) (by first | with_reducible rfl | assumption | (simp_all; done) | omega | (simp_all; omega) | ((try simp only [decide_eq_true_eq, decide_eq_false_iff_not, beq_iff_eq, beq_eq_false_iff_ne, ne_eq, Bool.and_eq_true, Bool.or_eq_true] at *); (repeat' split) <;> first | rfl | (exfalso; omega))) (by first | with_reducible rfl | assumption | (simp_all; done) | omega | (simp_all; omega) | ((try simp only [decide_eq_true_eq, decide_eq_false_iff_not, beq_iff_eq, beq_eq_false_iff_ne, ne_eq, Bool.and_eq_true, Bool.or_eq_true] at *); (repeat' split) <;> first | rfl | (exfalso; omega)))
theorem d91_2_2 (a b c d : Int) (kx n : Int) (s : List UInt8) (q : Q) (l : List It) : Go.V.Call E0 91 [sc 2 a b c d, .int .i64 2, .agg (i4 kx n s l q)] s0 (.bool (inB (numK 2 kx n s) c d)) s0 := by
  have h125 := d125_2 c d
  unfold numK
  by_cases hk : kx = 2
  · subst hk
    simp only [if_true, inB, show ¬ ((2 : Int) = 1) by decide, if_false]
    refine call_cfg (by kernel_rfl) ?_
    refine evc_go 1000 56 (by kernel_rfl) ?_
    refine evc_call (by kernel_rfl) (by kernel_rfl) (h125 ((↑s.length : Int))) (by kernel_rfl) ?_
    refine evc_go 1000 3 (by kernel_rfl) ?_
    exact evc_end (Go.V.Val.bool (Decidable.decide (c ≤ (↑s.length : Int)) && Decidable.decide ((↑s.length : Int) ≤ d))) ({ H := [], L := [] }) (by kernel_rfl) (by first | with_reducible rfl | assumption | (simp_all; done) | omega | (simp_all; omega) | ((try simp only [decide_eq_true_eq, decide_eq_false_iff_not, beq_iff_eq, beq_eq_false_iff_ne, ne_eq, Bool.and_eq_true, Bool.or_eq_true] at *); (repeat' split) <;> first | rfl | (exfalso; omega))) (by first | with_reducible rfl | assumption | (simp_all; done) | omega | (simp_all; omega) | ((try simp only [decide_eq_true_eq, decide_eq_false_iff_not, beq_iff_eq, beq_eq_false_iff_ne, ne_eq, Bool.and_eq_true, Bool.or_eq_true] at *); (repeat' split) <;> first | rfl | (exfalso; omega)))
  · simp only [if_neg hk, inB, show ¬ ((2 : Int) = 1) by decide, if_false, if_true]
    refine call_cfg (by kernel_rfl) ?_
    refine evc_go 1000 52 (by kernel_rfl) ?_
    refine evc_is 39 (kx == 2) false (by kernel_rfl) (by first | with_reducible rfl | assumption | (simp_all; done) | omega | (simp_all; omega) | ((try simp only [decide_eq_true_eq, decide_eq_false_iff_not, beq_iff_eq, beq_eq_false_iff_ne, ne_eq, Bool.and_eq_true, Bool.or_eq_true] at *); (repeat' split) <;> first | rfl | (exfalso; omega))) ?_
    refine evc_go 1000 8 (by kernel_rfl) ?_
    exact evc_end (Go.V.Val.bool Bool.false) ({ H := [], L := [] }) (by kernel_rfl) (by first | with_reducible rfl | assumption | (simp_all; done) | omega | (simp_all; omega) | ((try simp only [decide_eq_true_eq, decide_eq_false_iff_not, beq_iff_eq, beq_eq_false_iff_ne, ne_eq, Bool.and_eq_true, Bool.or_eq_true] at *); (repeat' split) <;> first | rfl | (exfalso; omega))) (by first | with_reducible rfl | assumption | (simp_all; done) | omega | (simp_all; omega) | ((try simp only [decide_eq_true_eq, decide_eq_false_iff_not, beq_iff_eq, beq_eq_false_iff_ne, ne_eq, Bool.and_eq_true, Bool.or_eq_true] at *); (repeat' split) <;> first | rfl | (exfalso; omega)))
theorem d91_2_0 (a b c d : Int) (kx n : Int) (s : List UInt8) (q : Q) (l : List It) : Go.V.Call E0 91 [sc 2 a b c d, .int .i64 0, .agg (i4 kx n s l q)] s0 (.bool (inB (numK 2 kx n s) a b || inB (numK 2 kx n s) c d)) s0 := by
  have h1 := d91_2_1 a b c d kx n s q l
  have h2 := d91_2_2 a b c d kx n s q l
  generalize inB (numK 2 kx n s) a b = x at *
  generalize inB (numK 2 kx n s) c d = y at *
  have k1 : Go.V.Call E0 129 [.int .i64 1, .pin [.sli (scl 2 a b c d) 3 .exact] 0, .pin (i4 kx n s l q) 0] s0 (.bool x) s0 := by
    refine call_cfg (by kernel_rfl) ?_
    refine evc_go 1000 9 (by kernel_rfl) ?_
    refine evc_call (by kernel_rfl) (by kernel_rfl) (h1) (by kernel_rfl) ?_
    refine evc_go 1000 2 (by kernel_rfl) ?_
    exact evc_end (Go.V.Val.bool x) ({ H := [], L := [] }) (by kernel_rfl) (by first | with_reducible rfl | assumption | (simp_all; done) | omega | (simp_all; omega) | ((try simp only [decide_eq_true_eq, decide_eq_false_iff_not, beq_iff_eq, beq_eq_false_iff_ne, ne_eq, Bool.and_eq_true, Bool.or_eq_true] at *); (repeat' split) <;> first | rfl | (exfalso; omega))) (by first | with_reducible rfl | assumption | (simp_all; done) | omega | (simp_all; omega) | ((try simp only [decide_eq_true_eq, decide_eq_false_iff_not, beq_iff_eq, beq_eq_false_iff_ne, ne_eq, Bool.and_eq_true, Bool.or_eq_true] at *); (repeat' split) <;> first | rfl | (exfalso; omega)))
  have k2 : Go.V.Call E0 129 [.int .i64 2, .pin [.sli (scl 2 a b c d) 3 .exact] 0, .pin (i4 kx n s l q) 0] s0 (.bool y) s0 := by
    refine call_cfg (by kernel_rfl) ?_
    refine evc_go 1000 9 (by kernel_rfl) ?_
    refine evc_call (by kernel_rfl) (by kernel_rfl) (h2) (by kernel_rfl) ?_
    refine evc_go 1000 2 (by kernel_rfl) ?_
    exact evc_end (Go.V.Val.bool y) ({ H := [], L := [] }) (by kernel_rfl) (by first | with_reducible rfl | assumption | (simp_all; done) | omega | (simp_all; omega) | ((try simp only [decide_eq_true_eq, decide_eq_false_iff_not, beq_iff_eq, beq_eq_false_iff_ne, ne_eq, Bool.and_eq_true, Bool.or_eq_true] at *); (repeat' split) <;> first | rfl | (exfalso; omega))) (by first | with_reducible rfl | assumption | (simp_all; done) | omega | (simp_all; omega) | ((try simp only [decide_eq_true_eq, decide_eq_false_iff_not, beq_iff_eq, beq_eq_false_iff_ne, ne_eq, Bool.and_eq_true, Bool.or_eq_true] at *); (repeat' split) <;> first | rfl | (exfalso; omega)))
  have k3 : Go.V.Call E0 147 [.sli [.int .i64 1, .int .i64 2] 2 .exact, .fn 129 [.pin [.sli (scl 2 a b c d) 3 .exact] 0, .pin (i4 kx n s l q) 0]] s0 (.int .i64 (if x then 0 else if y then 1 else -1)) s0 := by
    refine call_cfg (by kernel_rfl) ?_
    refine evc_go 1000 34 (by kernel_rfl) ?_
    refine evc_call (by kernel_rfl) (by kernel_rfl) (k1) (by kernel_rfl) ?_
    refine evc_go 1000 1 (by kernel_rfl) ?_
    refine evc_split 16 (x) (by kernel_rfl) (fun h12 => ?_) (fun h12 => ?_)
    · refine evc_go 1000 6 (by kernel_rfl) ?_
      exact evc_end (Go.V.Val.int Go.IntKind.i64 0) ({ H := [], L := [] }) (by kernel_rfl) (by first | with_reducible rfl | assumption | (simp_all; done) | omega | (simp_all; omega) | ((try simp only [decide_eq_true_eq, decide_eq_false_iff_not, beq_iff_eq, beq_eq_false_iff_ne, ne_eq, Bool.and_eq_true, Bool.or_eq_true] at *); (repeat' split) <;> first | rfl | (exfalso; omega))) (by first | with_reducible rfl | assumption | (simp_all; done) | omega | (simp_all; omega) | ((try simp only [decide_eq_true_eq, decide_eq_false_iff_not, beq_iff_eq, beq_eq_false_iff_ne, ne_eq, Bool.and_eq_true, Bool.or_eq_true] at *); (repeat' split) <;> first | rfl | (exfalso; omega)))
    · -- HEAD 44 frame [(0, Go.V.Val.sli [Go.V.Val.int Go.IntKind.i64 1, Go.V.Val.int Go.IntKind.i64 2] 2 Go.V.Q.exact), (1, Go.V.Val.fn 129 [Go.V.Val.pin [Go.V.Val.sli [Go.V.Val.int Go.IntKind.i64 10, Go.V.Val.int Go.IntKind.i64 0, Go.V.Val.int Go.IntKind.i64 0, Go.V.Val.int Go.IntKind.i64 0, Go.V.Val.int Go.IntKind.u64 0, Go.V.Val.str [], Go.V.Val.sli [] 0 Go.V.Q.nil, Go.V.Val.sli [Go.V.Val.int Go.IntKind.i64 1, Go.V.Val.int Go.IntKind.i64 2] 2 Go.V.Q.exact, Go.V.Val.sli [] 0 Go.V.Q.nil, Go.V.Val.int Go.IntKind.i64 2, Go.V.Val.int Go.IntKind.i64 a, Go.V.Val.int Go.IntKind.i64 b, Go.V.Val.int Go.IntKind.i64 0, Go.V.Val.int Go.IntKind.u64 0, Go.V.Val.str [], Go.V.Val.sli [] 0 Go.V.Q.nil, Go.V.Val.sli [] 0 Go.V.Q.nil, Go.V.Val.sli [] 0 Go.V.Q.nil, Go.V.Val.int Go.IntKind.i64 2, Go.V.Val.int Go.IntKind.i64 c, Go.V.Val.int Go.IntKind.i64 d, Go.V.Val.int Go.IntKind.i64 0, Go.V.Val.int Go.IntKind.u64 0, Go.V.Val.str [], Go.V.Val.sli [] 0 Go.V.Q.nil, Go.V.Val.sli [] 0 Go.V.Q.nil, Go.V.Val.sli [] 0 Go.V.Q.nil] 3 Go.V.Q.exact] 0, Go.V.Val.pin [Go.V.Val.int Go.IntKind.i64 kx, Go.V.Val.int Go.IntKind.u64 n, Go.V.Val.str s, Go.V.Val.sli (Go.V.encL l) l.length q] 0]), (7, Go.V.Val.int Go.IntKind.i64 2), (8, Go.V.Val.int Go.IntKind.i64 1)]
      refine evc_go 1000 29 (by kernel_rfl) ?_
      refine evc_call (by kernel_rfl) (by kernel_rfl) (k2) (by kernel_rfl) ?_
      refine evc_go 1000 1 (by kernel_rfl) ?_
      refine evc_split 16 (y) (by kernel_rfl) (fun h11 => ?_) (fun h11 => ?_)
      · refine evc_go 1000 6 (by kernel_rfl) ?_
        exact evc_end (Go.V.Val.int Go.IntKind.i64 1) ({ H := [], L := [] }) (by kernel_rfl) (by first | with_reducible rfl | assumption | (simp_all; done) | omega | (simp_all; omega) | ((try simp only [decide_eq_true_eq, decide_eq_false_iff_not, beq_iff_eq, beq_eq_false_iff_ne, ne_eq, Bool.and_eq_true, Bool.or_eq_true] at *); (repeat' split) <;> first | rfl | (exfalso; omega))) (by first | with_reducible rfl | assumption | (simp_all; done) | omega | (simp_all; omega) | ((try simp only [decide_eq_true_eq, decide_eq_false_iff_not, beq_iff_eq, beq_eq_false_iff_ne, ne_eq, Bool.and_eq_true, Bool.or_eq_true] at *); (repeat' split) <;> first | rfl | (exfalso; omega)))
      · -- HEAD 75 frame [(0, Go.V.Val.sli [Go.V.Val.int Go.IntKind.i64 1, Go.V.Val.int Go.IntKind.i64 2] 2 Go.V.Q.exact), (1, Go.V.Val.fn 129 [Go.V.Val.pin [Go.V.Val.sli [Go.V.Val.int Go.IntKind.i64 10, Go.V.Val.int Go.IntKind.i64 0, Go.V.Val.int Go.IntKind.i64 0, Go.V.Val.int Go.IntKind.i64 0, Go.V.Val.int Go.IntKind.u64 0, Go.V.Val.str [], Go.V.Val.sli [] 0 Go.V.Q.nil, Go.V.Val.sli [Go.V.Val.int Go.IntKind.i64 1, Go.V.Val.int Go.IntKind.i64 2] 2 Go.V.Q.exact, Go.V.Val.sli [] 0 Go.V.Q.nil, Go.V.Val.int Go.IntKind.i64 2, Go.V.Val.int Go.IntKind.i64 a, Go.V.Val.int Go.IntKind.i64 b, Go.V.Val.int Go.IntKind.i64 0, Go.V.Val.int Go.IntKind.u64 0, Go.V.Val.str [], Go.V.Val.sli [] 0 Go.V.Q.nil, Go.V.Val.sli [] 0 Go.V.Q.nil, Go.V.Val.sli [] 0 Go.V.Q.nil, Go.V.Val.int Go.IntKind.i64 2, Go.V.Val.int Go.IntKind.i64 c, Go.V.Val.int Go.IntKind.i64 d, Go.V.Val.int Go.IntKind.i64 0, Go.V.Val.int Go.IntKind.u64 0, Go.V.Val.str [], Go.V.Val.sli [] 0 Go.V.Q.nil, Go.V.Val.sli [] 0 Go.V.Q.nil, Go.V.Val.sli [] 0 Go.V.Q.nil] 3 Go.V.Q.exact] 0, Go.V.Val.pin [Go.V.Val.int Go.IntKind.i64 kx, Go.V.Val.int Go.IntKind.u64 n, Go.V.Val.str s, Go.V.Val.sli (Go.V.encL l) l.length q] 0]), (7, Go.V.Val.int Go.IntKind.i64 2), (8, Go.V.Val.int Go.IntKind.i64 2)]
        refine evc_go 1000 19 (by kernel_rfl) ?_
        exact evc_end (Go.V.Val.int Go.IntKind.i64 (-1)) ({ H := [], L := [] }) (by kernel_rfl) (by first | with_reducible rfl | assumption | (simp_all; done) | omega | (simp_all; omega) | ((try simp only [decide_eq_true_eq, decide_eq_false_iff_not, beq_iff_eq, beq_eq_false_iff_ne, ne_eq, Bool.and_eq_true, Bool.or_eq_true] at *); (repeat' split) <;> first | rfl | (exfalso; omega))) (by first | with_reducible rfl | assumption | (simp_all; done) | omega | (simp_all; omega) | ((try simp only [decide_eq_true_eq, decide_eq_false_iff_not, beq_iff_eq, beq_eq_false_iff_ne, ne_eq, Bool.and_eq_true, Bool.or_eq_true] at *); (repeat' split) <;> first | rfl | (exfalso; omega)))
  have k4 : Go.V.Call E0 119 [.sli [.int .i64 1, .int .i64 2] 2 .exact, .fn 129 [.pin [.sli (scl 2 a b c d) 3 .exact] 0, .pin (i4 kx n s l q) 0]] s0 (.bool (x || y)) s0 := by
    cases x
    · cases y
      refine call_cfg (by kernel_rfl) ?_
      refine evc_go 1000 8 (by kernel_rfl) ?_
      refine evc_call (by kernel_rfl) (by kernel_rfl) (k3) (by kernel_rfl) ?_
      refine evc_go 1000 3 (by kernel_rfl) ?_
      exact evc_end (Go.V.Val.bool Bool.false) ({ H := [], L := [] }) (by kernel_rfl) (by first | with_reducible rfl | assumption | (simp_all; done) | omega | (simp_all; omega) | ((try simp only [decide_eq_true_eq, decide_eq_false_iff_not, beq_iff_eq, beq_eq_false_iff_ne, ne_eq, Bool.and_eq_true, Bool.or_eq_true] at *); (repeat' split) <;> first | rfl | (exfalso; omega))) (by first | with_reducible rfl | assumption | (simp_all; done) | omega | (simp_all; omega) | ((try simp only [decide_eq_true_eq, decide_eq_false_iff_not, beq_iff_eq, beq_eq_false_iff_ne, ne_eq, Bool.and_eq_true, Bool.or_eq_true] at *); (repeat' split) <;> first | rfl | (exfalso; omega)))
      refine call_cfg (by kernel_rfl) ?_
      refine evc_go 1000 8 (by kernel_rfl) ?_
      refine evc_call (by kernel_rfl) (by kernel_rfl) (k3) (by kernel_rfl) ?_
      refine evc_go 1000 3 (by kernel_rfl) ?_
      exact evc_end (Go.V.Val.bool Bool.true) ({ H := [], L := [] }) (by kernel_rfl) (by first | with_reducible rfl | assumption | (simp_all; done) | omega | (simp_all; omega) | ((try simp only [decide_eq_true_eq, decide_eq_false_iff_not, beq_iff_eq, beq_eq_false_iff_ne, ne_eq, Bool.and_eq_true, Bool.or_eq_true] at *); (repeat' split) <;> first | rfl | (exfalso; omega))) (by first | with_reducible rfl | assumption | (simp_all; done) | omega | (simp_all; omega) | ((try simp only [decide_eq_true_eq, decide_eq_false_iff_not, beq_iff_eq, beq_eq_false_iff_ne, ne_eq, Bool.and_eq_true, Bool.or_eq_true] at *); (repeat' split) <;> first | rfl | (exfalso; omega)))
    refine call_cfg (by kernel_rfl) ?_
    refine evc_go 1000 8 (by kernel_rfl) ?_
    refine evc_call (by kernel_rfl) (by kernel_rfl) (k3) (by kernel_rfl) ?_
    refine evc_go 1000 3 (by kernel_rfl) ?_
    exact evc_end (Go.V.Val.bool Bool.true) ({ H := [], L := [] }) (by kernel_rfl) (by first | with_reducible rfl | assumption | (simp_all; done) | omega | (simp_all; omega) | ((try simp only [decide_eq_true_eq, decide_eq_false_iff_not, beq_iff_eq, beq_eq_false_iff_ne, ne_eq, Bool.and_eq_true, Bool.or_eq_true] at *); (repeat' split) <;> first | rfl | (exfalso; omega))) (by first | with_reducible rfl | assumption | (simp_all; done) | omega | (simp_all; omega) | ((try simp only [decide_eq_true_eq, decide_eq_false_iff_not, beq_iff_eq, beq_eq_false_iff_ne, ne_eq, Bool.and_eq_true, Bool.or_eq_true] at *); (repeat' split) <;> first | rfl | (exfalso; omega)))
  refine call_cfg (by kernel_rfl) ?_
  refine evc_go 1000 95 (by kernel_rfl) ?_
  refine evc_call (by kernel_rfl) (by kernel_rfl) (k4) (by kernel_rfl) ?_
  refine evc_go 1000 2 (by kernel_rfl) ?_
  exact evc_end (Go.V.Val.bool (x || y)) ({ H := [], L := [] }) (by kernel_rfl) (by first | with_reducible rfl | assumption | (simp_all; done) | omega | (simp_all; omega) | ((try simp only [decide_eq_true_eq, decide_eq_false_iff_not, beq_iff_eq, beq_eq_false_iff_ne, ne_eq, Bool.and_eq_true, Bool.or_eq_true] at *); (repeat' split) <;> first | rfl | (exfalso; omega))) (by first | with_reducible rfl | assumption | (simp_all; done) | omega | (simp_all; omega) | ((try simp only [decide_eq_true_eq, decide_eq_false_iff_not, beq_iff_eq, beq_eq_false_iff_ne, ne_eq, Bool.and_eq_true, Bool.or_eq_true] at *); (repeat' split) <;> first | rfl | (exfalso; omega)))
theorem d125_3 (lo hi v : Int) : Go.V.Call E0 125 [.agg (nd 3 lo hi), .int .i64 v] s0 (.bool (decide (lo ≤ v) && decide (v ≤ hi))) s0 := by
  refine call_cfg (by kernel_rfl) ?_
  refine evc_go 1000 12 (by kernel_rfl) ?_
  refine evc_split 9 (Decidable.decide (lo ≤ v)) (by kernel_rfl) (fun h12 => ?_) (fun h12 => ?_)
  · refine evc_go 1000 7 (by kernel_rfl) ?_
    exact evc_end (Go.V.Val.bool (Decidable.decide (v ≤ hi))) ({ H := [], L := [] }) (by kernel_rfl) (by first | with_reducible rfl | assumption | (simp_all; done) | omega | (simp_all; omega) | ((try simp only [decide_eq_true_eq, decide_eq_false_iff_not, beq_iff_eq, beq_eq_false_iff_ne, ne_eq, Bool.and_eq_true, Bool.or_eq_true] at *); (repeat' split) <;> first | rfl | (exfalso; omega))) (by first | with_reducible rfl | assumption | (simp_all; done) | omega | (simp_all; omega) | ((try simp only [decide_eq_true_eq, decide_eq_false_iff_not, beq_iff_eq, beq_eq_false_iff_ne, ne_eq, Bool.and_eq_true, Bool.or_eq_true] at *); (repeat' split) <;> first | rfl | (exfalso; omega)))
  · refine evc_go 1000 7 (by kernel_rfl) ?_
    exact evc_end (Go.V.Val.bool Bool.false) ({ H := [], L := [] }) (by kernel_rfl) (by first | with_reducible rfl | assumption | (simp_all; done) | omega | (simp_all; omega) | ((try simp only [decide_eq_true_eq, decide_eq_false_iff_not, beq_iff_eq, beq_eq_false_iff_ne, ne_eq, Bool.and_eq_true, Bool.or_eq_true] at *); (repeat' split) <;> first | rfl | (exfalso; omega))) (by first | with_reducible rfl | assumption | (simp_all; done) | omega | (simp_all; omega) | ((try simp only [decide_eq_true_eq, decide_eq_false_iff_not, beq_iff_eq, beq_eq_false_iff_ne, ne_eq, Bool.and_eq_true, Bool.or_eq_true] at *); (repeat' split) <;> first | rfl | (exfalso; omega)))
theorem d91_3_1 (a b c d : Int) (kx n : Int) (s : List UInt8) (q : Q) (l : List It) : Go.V.Call E0 91 [sc 3 a b c d, .int .i64 1, .agg (i4 kx n s l q)] s0 (.bool (inB (numK 3 kx n s) a b)) s0 := by
  have h125 := d125_3 a b
  unfold numK
  by_cases hk : kx = 3
  · subst hk
    simp only [if_true, inB, show ¬ ((3 : Int) = 1) by decide, if_false, show ¬ ((3 : Int) = 2) by decide]
    refine call_cfg (by kernel_rfl) ?_
    refine evc_go 1000 62 (by kernel_rfl) ?_
    refine evc_call (by kernel_rfl) (by kernel_rfl) (h125 ((↑s.length : Int))) (by kernel_rfl) ?_
    refine evc_go 1000 3 (by kernel_rfl) ?_
    exact evc_end (Go.V.Val.bool (Decidable.decide (a ≤ (↑s.length : Int)) && Decidable.decide ((↑s.length : Int) ≤ b))) ({ H := [], L := [] }) (by kernel_rfl) (by first | with_reducible rfl | assumption | (simp_all; done) | omega | (simp_all; omega) | ((try simp only [decide_eq_true_eq, decide_eq_false_iff_not, beq_iff_eq, beq_eq_false_iff_ne, ne_eq, Bool.and_eq_true, Bool.or_eq_true] at *); (repeat' split) <;> first | rfl | (exfalso; omega))) (by first | with_reducible rfl | assumption | (simp_all; done) | omega | (simp_all; omega) | ((try simp only [decide_eq_true_eq, decide_eq_false_iff_not, beq_iff_eq, beq_eq_false_iff_ne, ne_eq, Bool.and_eq_true, Bool.or_eq_true] at *); (repeat' split) <;> first | rfl | (exfalso; omega)))
  · simp only [if_neg hk, inB, show ¬ ((3 : Int) = 1) by decide, if_false, if_true, show ¬ ((3 : Int) = 2) by decide]
    refine call_cfg (by kernel_rfl) ?_
    refine evc_go 1000 58 (by kernel_rfl) ?_
    refine evc_is 51 (kx == 3) false (by kernel_rfl) (by first | with_reducible rfl | assumption | (simp_all; done) | omega | (simp_all; omega) | ((try simp only [decide_eq_true_eq, decide_eq_false_iff_not, beq_iff_eq, beq_eq_false_iff_ne, ne_eq, Bool.and_eq_true, Bool.or_eq_true] at *); (repeat' split) <;> first | rfl | (exfalso; omega))) ?_
    refine evc_go 1000 8 (by kernel_rfl) ?_
    exact evc_end (Go.V.Val.bool Bool.false) ({ H := [], L := [] }) (by kernel_rfl) (by first | with_reducible rfl | assumption | (simp_all; done) | omega | (simp_all; omega) | ((try simp only [decide_eq_true_eq, decide_eq_false_iff_not, beq_iff_eq, beq_eq_false_iff_ne, ne_eq, Bool.and_eq_true, Bool.or_eq_true] at *); (repeat' split) <;> first | rfl | (exfalso; omega))) (by first | with_reducible rfl | assumption | (simp_all; done) | omega | (simp_all; omega) | ((try simp only [decide_eq_true_eq, decide_eq_false_iff_not, beq_iff_eq, beq_eq_false_iff_ne, ne_eq, Bool.and_eq_true, Bool.or_eq_true] at *); (repeat' split) <;> first | rfl | (exfalso; omega)))
theorem d91_3_2 (a b c d : Int) (kx n : Int) (s : List UInt8) (q : Q) (l : List It) : Go.V.Call E0 91 [sc 3 a b c d, .int .i64 2, .agg (i4 kx n s l q)] s0 (.bool (inB (numK 3 kx n s) c d)) s0 := by
  have h125 := d125_3 c d
  unfold numK
  by_cases hk : kx = 3
  · subst hk
    simp only [if_true, inB, show ¬ ((3 : Int) = 1) by decide, if_false, show ¬ ((3 : Int) = 2) by decide]
    refine call_cfg (by kernel_rfl) ?_
    refine evc_go 1000 62 (by kernel_rfl) ?_
    refine evc_call (by kernel_rfl) (by kernel_rfl) (h125 ((↑s.length : Int))) (by kernel_rfl) ?_
    refine evc_go 1000 3 (by kernel_rfl) ?_
    exact evc_end (Go.V.Val.bool (Decidable.decide (c ≤ (↑s.length : Int)) && Decidable.decide ((↑s.length : Int) ≤ d))) ({ H := [], L := [] }) (by kernel_rfl) (by first | with_reducible rfl | assumption | (simp_all; done) | omega | (simp_all; omega) | ((try simp only [decide_eq_true_eq, decide_eq_false_iff_not, beq_iff_eq, beq_eq_false_iff_ne, ne_eq, Bool.and_eq_true, Bool.or_eq_true] at *); (repeat' split) <;> first | rfl | (exfalso; omega))) (by first | with_reducible rfl | assumption | (simp_all; done) | omega | (simp_all; omega) | ((try simp only [decide_eq_true_eq, decide_eq_false_iff_not, beq_iff_eq, beq_eq_false_iff_ne, ne_eq, Bool.and_eq_true, Bool.or_eq_true] at *); (repeat' split) <;> first | rfl | (exfalso; omega)))
  · simp only [if_neg hk, inB, show ¬ ((3 : Int) = 1) by decide, if_false, if_true, show ¬ ((3 : Int) = 2) by decide]
    refine call_cfg (by kernel_rfl) ?_
    refine evc_go 1000 58 (by kernel_rfl) ?_
    refine evc_is 51 (kx == 3) false (by kernel_rfl) (by first | with_reducible rfl | assumption | (simp_all; done) | omega | (simp_all; omega) | ((try simp only [decide_eq_true_eq, decide_eq_false_iff_not, beq_iff_eq, beq_eq_false_iff_ne, ne_eq, Bool.and_eq_true, Bool.or_eq_true] at *); (repeat' split) <;> first | rfl | (exfalso; omega))) ?_
    refine evc_go 1000 8 (by kernel_rfl) ?_
    exact evc_end (Go.V.Val.bool Bool.false) ({ H := [], L := [] }) (by kernel_rfl) (by first | with_reducible rfl | assumption | (simp_all; done) | omega | (simp_all; omega) | ((try simp only [decide_eq_true_eq, decide_eq_false_iff_not, beq_iff_eq, beq_eq_false_iff_ne, ne_eq, Bool.and_eq_true, Bool.or_eq_true] at *); (repeat' split) <;> first | rfl | (exfalso; omega))) (by first | with_reducible rfl | assumption | (simp_all; done) | omega | (simp_all; omega) | ((try simp only [decide_eq_true_eq, decide_eq_false_iff_not, beq_iff_eq, beq_eq_false_iff_ne, ne_eq, Bool.and_eq_true, Bool.or_eq_true] at *); (repeat' split) <;> first | rfl | (exfalso; omega)))
theorem d91_3_0 (a b c d : Int) (kx n : Int) (s : List UInt8) (q : Q) (l : List It) : Go.V.Call E0 91 [sc 3 a b c d, .int .i64 0, .agg (i4 kx n s l q)] s0 (.bool (inB (numK 3 kx n s) a b || inB (numK 3 kx n s) c d)) s0 := by
  have h1 := d91_3_1 a b c d kx n s q l
  have h2 := d91_3_2 a b c d kx n s q l
  generalize inB (numK 3 kx n s) a b = x at *
  generalize inB (numK 3 kx n s) c d = y at *
  have k1 : Go.V.Call E0 129 [.int .i64 1, .pin [.sli (scl 3 a b c d) 3 .exact] 0, .pin (i4 kx n s l q) 0] s0 (.bool x) s0 := by
    refine call_cfg (by kernel_rfl) ?_
    refine evc_go 1000 9 (by kernel_rfl) ?_
    refine evc_call (by kernel_rfl) (by kernel_rfl) (h1) (by kernel_rfl) ?_
    refine evc_go 1000 2 (by kernel_rfl) ?_
    exact evc_end (Go.V.Val.bool x) ({ H := [], L := [] }) (by kernel_rfl) (by first | with_reducible rfl | assumption | (simp_all; done) | omega | (simp_all; omega) | ((try simp only [decide_eq_true_eq, decide_eq_false_iff_not, beq_iff_eq, beq_eq_false_iff_ne, ne_eq, Bool.and_eq_true, Bool.or_eq_true] at *); (repeat' split) <;> first | rfl | (exfalso; omega))) (by first | with_reducible rfl | assumption | (simp_all; done) | omega | (simp_all; omega) | ((try simp only [decide_eq_true_eq, decide_eq_false_iff_not, beq_iff_eq, beq_eq_false_iff_ne, ne_eq, Bool.and_eq_true, Bool.or_eq_true] at *); (repeat' split) <;> first | rfl | (exfalso; omega)))
  have k2 : Go.V.Call E0 129 [.int .i64 2, .pin [.sli (scl 3 a b c d) 3 .exact] 0, .pin (i4 kx n s l q) 0] s0 (.bool y) s0 := by
    refine call_cfg (by kernel_rfl) ?_
    refine evc_go 1000 9 (by kernel_rfl) ?_
    refine evc_call (by kernel_rfl) (by kernel_rfl) (h2) (by kernel_rfl) ?_
    refine evc_go 1000 2 (by kernel_rfl) ?_
    exact evc_end (Go.V.Val.bool y) ({ H := [], L := [] }) (by kernel_rfl) (by first | with_reducible rfl | assumption | (simp_all; done) | omega | (simp_all; omega) | ((try simp only [decide_eq_true_eq, decide_eq_false_iff_not, beq_iff_eq, beq_eq_false_iff_ne, ne_eq, Bool.and_eq_true, Bool.or_eq_true] at *); (repeat' split) <;> first | rfl | (exfalso; omega))) (by first | with_reducible rfl | assumption | (simp_all; done) | omega | (simp_all; omega) | ((try simp only [decide_eq_true_eq, decide_eq_false_iff_not, beq_iff_eq, beq_eq_false_iff_ne, ne_eq, Bool.and_eq_true, Bool.or_eq_true] at *); (repeat' split) <;> first | rfl | (exfalso; omega)))
  have k3 : Go.V.Call E0 147 [.sli [.int .i64 1, .int .i64 2] 2 .exact, .fn 129 [.pin [.sli (scl 3 a b c d) 3 .exact] 0, .pin (i4 kx n s l q) 0]] s0 (.int .i64 (if x then 0 else if y then 1 else -1)) s0 := by
    refine call_cfg (by kernel_rfl) ?_
    refine evc_go 1000 34 (by kernel_rfl) ?_
    refine evc_call (by kernel_rfl) (by kernel_rfl) (k1) (by kernel_rfl) ?_
    refine evc_go 1000 1 (by kernel_rfl) ?_
    refine evc_split 16 (x) (by kernel_rfl) (fun h12 => ?_) (fun h12 => ?_)
    · refine evc_go 1000 6 (by kernel_rfl) ?_
      exact evc_end (Go.V.Val.int Go.IntKind.i64 0) ({ H := [], L := [] }) (by kernel_rfl) (by first | with_reducible rfl | assumption | (simp_all; done) | omega | (simp_all; omega) | ((try simp only [decide_eq_true_eq, decide_eq_false_iff_not, beq_iff_eq, beq_eq_false_iff_ne, ne_eq, Bool.and_eq_true, Bool.or_eq_true] at *); (repeat' split) <;> first | rfl | (exfalso; omega))) (by first | with_reducible rfl | assumption | (simp_all; done) | omega | (simp_all; omega) | ((try simp only [decide_eq_true_eq, decide_eq_false_iff_not, beq_iff_eq, beq_eq_false_iff_ne, ne_eq, Bool.and_eq_true, Bool.or_eq_true] at *); (repeat' split) <;> first | rfl | (exfalso; omega)))
    · -- HEAD 44 frame [(0, Go.V.Val.sli [Go.V.Val.int Go.IntKind.i64 1, Go.V.Val.int Go.IntKind.i64 2] 2 Go.V.Q.exact), (1, Go.V.Val.fn 129 [Go.V.Val.pin [Go.V.Val.sli [Go.V.Val.int Go.IntKind.i64 10, Go.V.Val.int Go.IntKind.i64 0, Go.V.Val.int Go.IntKind.i64 0, Go.V.Val.int Go.IntKind.i64 0, Go.V.Val.int Go.IntKind.u64 0, Go.V.Val.str [], Go.V.Val.sli [] 0 Go.V.Q.nil, Go.V.Val.sli [Go.V.Val.int Go.IntKind.i64 1, Go.V.Val.int Go.IntKind.i64 2] 2 Go.V.Q.exact, Go.V.Val.sli [] 0 Go.V.Q.nil, Go.V.Val.int Go.IntKind.i64 3, Go.V.Val.int Go.IntKind.i64 a, Go.V.Val.int Go.IntKind.i64 b, Go.V.Val.int Go.IntKind.i64 0, Go.V.Val.int Go.IntKind.u64 0, Go.V.Val.str [], Go.V.Val.sli [] 0 Go.V.Q.nil, Go.V.Val.sli [] 0 Go.V.Q.nil, Go.V.Val.sli [] 0 Go.V.Q.nil, Go.V.Val.int Go.IntKind.i64 3, Go.V.Val.int Go.IntKind.i64 c, Go.V.Val.int Go.IntKind.i64 d, Go.V.Val.int Go.IntKind.i64 0, Go.V.Val.int Go.IntKind.u64 0, Go.V.Val.str [], Go.V.Val.sli [] 0 Go.V.Q.nil, Go.V.Val.sli [] 0 Go.V.Q.nil, Go.V.Val.sli [] 0 Go.V.Q.nil] 3 Go.V.Q.exact] 0, Go.V.Val.pin [Go.V.Val.int Go.IntKind.i64 kx, Go.V.Val.int Go.IntKind.u64 n, Go.V.Val.str s, Go.V.Val.sli (Go.V.encL l) l.length q] 0]), (7, Go.V.Val.int Go.IntKind.i64 2), (8, Go.V.Val.int Go.IntKind.i64 1)]
      refine evc_go 1000 29 (by kernel_rfl) ?_
      refine evc_call (by kernel_rfl) (by kernel_rfl) (k2) (by kernel_rfl) ?_
      refine evc_go 1000 1 (by kernel_rfl) ?_
      refine evc_split 16 (y) (by kernel_rfl) (fun h11 => ?_) (fun h11 => ?_)
      · refine evc_go 1000 6 (by kernel_rfl) ?_
        exact evc_end (Go.V.Val.int Go.IntKind.i64 1) ({ H := [], L := [] }) (by kernel_rfl) (by first | with_reducible rfl | assumption | (simp_all; done) | omega | (simp_all; omega) | ((try simp only [decide_eq_true_eq, decide_eq_false_iff_not, beq_iff_eq, beq_eq_false_iff_ne, ne_eq, Bool.and_eq_true, Bool.or_eq_true] at *); (repeat' split) <;> first | rfl | (exfalso; omega))) (by first | with_reducible rfl | assumption | (simp_all; done) | omega | (simp_all; omega) | ((try simp only [decide_eq_true_eq, decide_eq_false_iff_not, beq_iff_eq, beq_eq_false_iff_ne, ne_eq, Bool.and_eq_true, Bool.or_eq_true] at *); (repeat' split) <;> first | rfl | (exfalso; omega)))
      · -- HEAD 75 frame [(0, Go.V.Val.sli [Go.V.Val.int Go.IntKind.i64 1, Go.V.Val.int Go.IntKind.i64 2] 2 Go.V.Q.exact), (1, Go.V.Val.fn 129 [Go.V.Val.pin [Go.V.Val.sli [Go.V.Val.int Go.IntKind.i64 10, Go.V.Val.int Go.IntKind.i64 0, Go.V.Val.int Go.IntKind.i64 0, Go.V.Val.int Go.IntKind.i64 0, Go.V.Val.int Go.IntKind.u64 0, Go.V.Val.str [], Go.V.Val.sli [] 0 Go.V.Q.nil, Go.V.Val.sli [Go.V.Val.int Go.IntKind.i64 1, Go.V.Val.int Go.IntKind.i64 2] 2 Go.V.Q.exact, Go.V.Val.sli [] 0 Go.V.Q.nil, Go.V.Val.int Go.IntKind.i64 3, Go.V.Val.int Go.IntKind.i64 a, Go.V.Val.int Go.IntKind.i64 b, Go.V.Val.int Go.IntKind.i64 0, Go.V.Val.int Go.IntKind.u64 0, Go.V.Val.str [], Go.V.Val.sli [] 0 Go.V.Q.nil, Go.V.Val.sli [] 0 Go.V.Q.nil, Go.V.Val.sli [] 0 Go.V.Q.nil, Go.V.Val.int Go.IntKind.i64 3, Go.V.Val.int Go.IntKind.i64 c, Go.V.Val.int Go.IntKind.i64 d, Go.V.Val.int Go.IntKind.i64 0, Go.V.Val.int Go.IntKind.u64 0, Go.V.Val.str [], Go.V.Val.sli [] 0 Go.V.Q.nil, Go.V.Val.sli [] 0 Go.V.Q.nil, Go.V.Val.sli [] 0 Go.V.Q.nil] 3 Go.V.Q.exact] 0, Go.V.Val.pin [Go.V.Val.int Go.IntKind.i64 kx, Go.V.Val.int Go.IntKind.u64 n, Go.V.Val.str s, Go.V.Val.sli (Go.V.encL l) l.length q] 0]), (7, Go.V.Val.int Go.IntKind.i64 2), (8, Go.V.Val.int Go.IntKind.i64 2)]
        refine evc_go 1000 19 (by kernel_rfl) ?_
        exact evc_end (Go.V.Val.int Go.IntKind.i64 (-1)) ({ H := [], L := [] }) (by kernel_rfl) (by first | with_reducible rfl | assumption | (simp_all; done) | omega | (simp_all; omega) | ((try simp only [decide_eq_true_eq, decide_eq_false_iff_not, beq_iff_eq, beq_eq_false_iff_ne, ne_eq, Bool.and_eq_true, Bool.or_eq_true] at *); (repeat' split) <;> first | rfl | (exfalso; omega))) (by first | with_reducible rfl | assumption | (simp_all; done) | omega | (simp_all; omega) | ((try simp only [decide_eq_true_eq, decide_eq_false_iff_not, beq_iff_eq, beq_eq_false_iff_ne, ne_eq, Bool.and_eq_true, Bool.or_eq_true] at *); (repeat' split) <;> first | rfl | (exfalso; omega)))
  have k4 : Go.V.Call E0 119 [.sli [.int .i64 1, .int .i64 2] 2 .exact, .fn 129 [.pin [.sli (scl 3 a b c d) 3 .exact] 0, .pin (i4 kx n s l q) 0]] s0 (.bool (x || y)) s0 := by
    cases x
    · cases y
      refine call_cfg (by kernel_rfl) ?_
      refine evc_go 1000 8 (by kernel_rfl) ?_
      refine evc_call (by kernel_rfl) (by kernel_rfl) (k3) (by kernel_rfl) ?_
      refine evc_go 1000 3 (by kernel_rfl) ?_
      exact evc_end (Go.V.Val.bool Bool.false) ({ H := [], L := [] }) (by kernel_rfl) (by first | with_reducible rfl | assumption | (simp_all; done) | omega | (simp_all; omega) | ((try simp only [decide_eq_true_eq, decide_eq_false_iff_not, beq_iff_eq, beq_eq_false_iff_ne, ne_eq, Bool.and_eq_true, Bool.or_eq_true] at *); (repeat' split) <;> first | rfl | (exfalso; omega))) (by first | with_reducible rfl | assumption | (simp_all; done) | omega | (simp_all; omega) | ((try simp only [decide_eq_true_eq, decide_eq_false_iff_not, beq_iff_eq, beq_eq_false_iff_ne, ne_eq, Bool.and_eq_true, Bool.or_eq_true] at *); (repeat' split) <;> first | rfl | (exfalso; omega)))
      refine call_cfg (by kernel_rfl) ?_
      refine evc_go 1000 8 (by kernel_rfl) ?_
      refine evc_call (by kernel_rfl) (by kernel_rfl) (k3) (by kernel_rfl) ?_
      refine evc_go 1000 3 (by kernel_rfl) ?_
      exact evc_end (Go.V.Val.bool Bool.true) ({ H := [], L := [] }) (by kernel_rfl) (by first | with_reducible rfl | assumption | (simp_all; done) | omega | (simp_all; omega) | ((try simp only [decide_eq_true_eq, decide_eq_false_iff_not, beq_iff_eq, beq_eq_false_iff_ne, ne_eq, Bool.and_eq_true, Bool.or_eq_true] at *); (repeat' split) <;> first | rfl | (exfalso; omega))) (by first | with_reducible rfl | assumption | (simp_all; done) | omega | (simp_all; omega) | ((try simp only [decide_eq_true_eq, decide_eq_false_iff_not, beq_iff_eq, beq_eq_false_iff_ne, ne_eq, Bool.and_eq_true, Bool.or_eq_true] at *); (repeat' split) <;> first | rfl | (exfalso; omega)))
    refine call_cfg (by kernel_rfl) ?_
    refine evc_go 1000 8 (by kernel_rfl) ?_
    refine evc_call (by kernel_rfl) (by kernel_rfl) (k3) (by kernel_rfl) ?_
    refine evc_go 1000 3 (by kernel_rfl) ?_
    exact evc_end (Go.V.Val.bool Bool.true) ({ H := [], L := [] }) (by kernel_rfl) (by first | with_reducible rfl | assumption | (simp_all; done) | omega | (simp_all; omega) | ((try simp only [decide_eq_true_eq, decide_eq_false_iff_not, beq_iff_eq, beq_eq_false_iff_ne, ne_eq, Bool.and_eq_true, Bool.or_eq_true] at *); (repeat' split) <;> first | rfl | (exfalso; omega))) (by first | with_reducible rfl | assumption | (simp_all; done) | omega | (simp_all; omega) | ((try simp only [decide_eq_true_eq, decide_eq_false_iff_not, beq_iff_eq, beq_eq_false_iff_ne, ne_eq, Bool.and_eq_true, Bool.or_eq_true] at *); (repeat' split) <;> first | rfl | (exfalso; omega)))
  refine call_cfg (by kernel_rfl) ?_
  refine evc_go 1000 95 (by kernel_rfl) ?_
  refine evc_call (by kernel_rfl) (by kernel_rfl) (k4) (by kernel_rfl) ?_
  refine evc_go 1000 2 (by kernel_rfl) ?_
  exact evc_end (Go.V.Val.bool (x || y)) ({ H := [], L := [] }) (by kernel_rfl) (by first | with_reducible rfl | assumption | (simp_all; done) | omega | (simp_all; omega) | ((try simp only [decide_eq_true_eq, decide_eq_false_iff_not, beq_iff_eq, beq_eq_false_iff_ne, ne_eq, Bool.and_eq_true, Bool.or_eq_true] at *); (repeat' split) <;> first | rfl | (exfalso; omega))) (by first | with_reducible rfl | assumption | (simp_all; done) | omega | (simp_all; omega) | ((try simp only [decide_eq_true_eq, decide_eq_false_iff_not, beq_iff_eq, beq_eq_false_iff_ne, ne_eq, Bool.and_eq_true, Bool.or_eq_true] at *); (repeat' split) <;> first | rfl | (exfalso; omega)))
end Go.V.W
