/- ItemTells (ullagelaw08): the rounds, the ranges, the whole call. -/
import Derived.Test.YtgnfinbhnoofpaaDoorVH
import Derived.Test.YtgnfinbhnoofpaaDoorItemCheck
import Derived.Test.YtgnfinbhnoofpaaDoorWalkG
import Derived.Test.YtgnfinbhnoofpaaDoorSize
import Derived.Test.YtgnfinbhnoofpaaDoorGreat
import Derived.Test.YtgnfinbhnoofpaaDoorSame
set_option linter.unusedVariables false
set_option linter.unusedSimpArgs false
set_option linter.unusedSectionVars false
open Go Go.V Go.Proofs
set_option maxRecDepth 100000
set_option maxHeartbeats 4000000
namespace Go.V.W
mutual
theorem same_refl : ∀ x : It, sameI x x = true
  | .mk k n s _ l => by simp [sameI, sameL_refl' l]
theorem sameL_refl' : ∀ l : List It, sameL l l = true
  | [] => by simp [sameL]
  | x :: l => by simp [sameL, same_refl x, sameL_refl' l]
end
def answers3 (g : Nat) (S : St) : Val × St :=
  if g = 17 then (Val.bool true, S) else if g = 18 then (Val.bool false, S) else if g = 19 then (Val.tup [.sli [] 0 .nil, .sli [] 0 .nil], S) else if g = 20 then (Val.fn 79 [], S) else (Val.int .i64 0, S)
noncomputable def E6 : Env := { E0 with native := fun g => some (fun _ S => some (answers3 g S)) }
noncomputable def D3 : Cfg := goT E6 1 (ctxOf E0 3) 98 (entry E0 3 [.agg [.int .i64 0, .int .u64 0, .str [], .sli [] 0 .nil], .int .u8 0] ⟨[], []⟩)
noncomputable def P3 : Pos := D3.pos
noncomputable def A3 : Code := (recAt (ctxOf E0 3) D3).assign
noncomputable def B3 : Code := (recAt (ctxOf E0 3) D3).body
noncomputable def K3 : List Item := match D3.pos with
  | .code (_ :: k) => k
  | _ => []
section
variable (cs : List Val) (f : Nat) (il : List It) (dl : List Int) (qq : Q)
abbrev fr3 (rd : Int) (k : Nat) : Fr := [(3, .lv [.int .u8 (f : Int)]), (4, .lv [.bool false]), (5, .lv [.sli (encL il) il.length qq]), (6, .lv [.sli (encZ dl) il.length qq]), (7, .fn 79 [.pin cs 0]), (8, .lv [.int .i64 rd]), (9, .lv [.int .i64 (k : Int)]), (50, .fn 79 [.pin cs 0])]
noncomputable def r3 (rd : Int) (k : Nat) : LoopRec := ⟨3, fr3 cs f il dl qq rd k, #[51, 52], A3, B3, false, false, false, none⟩
noncomputable def r3d (rd : Int) (k : Nat) : LoopRec := ⟨3, fr3 cs f il dl qq rd k, #[51, 52], A3, B3, false, false, true, some (.exit 2)⟩
section
variable (rd : Int) (k : Nat) (y : It) (d : Int) (hl : il.length ≤ 2 ^ 30) (hk : k < il.length) (hy : il[k]? = some y) (hd : dl[k]? = some d) (hok : okI y) (H : List Block) (L0 : List LoopRec)
include hl hk hy hd hok
theorem round3a (hrd : rd ≠ 0) : Yld E0 L0.length [.int .i64 d, .agg (encI y)] ⟨H, L0 ++ [r3 cs f il dl qq rd k]⟩ (.bool true) ⟨H, L0 ++ [r3 cs f il dl qq rd (k + 1)]⟩ := by
  have c26' : ∀ S, Go.V.Call E0 26 [.agg (encI y), .agg (encI y)] S (.bool true) S := fun S => by have := c26 (2 ^ 30) y y (encI y) S hok.2.1 hok.1 (RepI_enc _ y); rwa [same_refl] at this
  have hc := cut_enc hy
  have hz := get_encZ hd
  have hw : IntKind.wrap .i64 ((k : Int) + 1) = ((k + 1 : Nat) : Int) := wrap_nat (m := 1) (by omega)
  cases y with
  | mk ky ny sy qy ly =>
  rw [encI_mk] at *
  clear hok hy hd
  refine yld_last 100 (fn := Tryd.f3) (fr0 := [(52, .agg (i4 ky ny sy ly qy)), (51, .int .i64 d)] ++ fr3 cs f il dl qq rd k) (fr1 := [(3, .lv [.int .u8 (f : Int)]), (4, .lv [.bool false]), (5, .lv [.sli (encL il) il.length qq]), (6, .lv [.sli (encZ dl) il.length qq]), (7, .fn 79 [.pin cs 0]), (8, .lv [.int .i64 rd]), (9, .lv [.int .i64 (k : Int)]), (10, .int .i64 d), (11, .lv (i4 ky ny sy ly qy))]) (by kernel_rfl) Tryd.func3 (by kernel_rfl) (by kernel_rfl) (by kernel_rfl) ?_
  refine evc_go 1000 9 (by kernel_rfl) ?_
  refine evc_is 57 (Decidable.decide ((↑k : Int) ≥ (↑il.length : Int))) false (by kernel_rfl) (by first | with_reducible rfl | assumption | (simp_all; done) | omega | (simp_all; omega) | ((try simp only [decide_eq_true_eq, decide_eq_false_iff_not, beq_iff_eq, beq_eq_false_iff_ne, ne_eq, Bool.and_eq_true, Bool.or_eq_true] at *); (repeat' split) <;> first | rfl | (exfalso; omega))) ?_
  refine evc_go 1000 3 (by kernel_rfl) ?_
  refine evc_idx (k) (il.length) (Go.V.encZ dl) 1 (by kernel_rfl) (by first | with_reducible rfl | assumption | (simp_all; done) | omega | (simp_all; omega) | ((try simp only [decide_eq_true_eq, decide_eq_false_iff_not, beq_iff_eq, beq_eq_false_iff_ne, ne_eq, Bool.and_eq_true, Bool.or_eq_true] at *); (repeat' split) <;> first | rfl | (exfalso; omega))) (by kernel_rfl) ?_
  refine evc_get (Go.V.encZ dl) (k * 1) (Go.V.Val.int Go.IntKind.i64 d) .pure (by kernel_rfl) hz (by kernel_rfl) ?_
  refine evc_go 1000 3 (by kernel_rfl) ?_
  refine evc_is 65 (d != d) false (by kernel_rfl) (by first | with_reducible rfl | assumption | (simp_all; done) | omega | (simp_all; omega) | ((try simp only [decide_eq_true_eq, decide_eq_false_iff_not, beq_iff_eq, beq_eq_false_iff_ne, ne_eq, Bool.and_eq_true, Bool.or_eq_true] at *); (repeat' split) <;> first | rfl | (exfalso; omega))) ?_
  refine evc_go 1000 3 (by kernel_rfl) ?_
  refine evc_idx (k) (il.length) (Go.V.encL il) 4 (by kernel_rfl) (by first | with_reducible rfl | assumption | (simp_all; done) | omega | (simp_all; omega) | ((try simp only [decide_eq_true_eq, decide_eq_false_iff_not, beq_iff_eq, beq_eq_false_iff_ne, ne_eq, Bool.and_eq_true, Bool.or_eq_true] at *); (repeat' split) <;> first | rfl | (exfalso; omega))) (by kernel_rfl) ?_
  refine evc_cut (Go.V.encL il) (k * 4) 4 (Go.V.i4 ky ny sy ly qy) .pure (by kernel_rfl) hc (by kernel_rfl) ?_
  refine evc_call (by kernel_rfl) (by kernel_rfl) (c26' ({ H := H, L := L0 ++ [{ fn := (Go.V.W.r3 cs f il dl qq rd k).fn, fr := (Go.V.W.r3 cs f il dl qq rd k).fr, params := (Go.V.W.r3 cs f il dl qq rd k).params, assign := (Go.V.W.r3 cs f il dl qq rd k).assign, body := (Go.V.W.r3 cs f il dl qq rd k).body, busy := Bool.true, begun := Bool.true, done := (Go.V.W.r3 cs f il dl qq rd k).done, pending := (Go.V.W.r3 cs f il dl qq rd k).pending }] })) (by kernel_rfl) ?_
  refine evc_go 1000 16 (by kernel_rfl) ?_
  refine evc_is 78 (rd == 0) false (by kernel_rfl) (by first | with_reducible rfl | assumption | (simp_all; done) | omega | (simp_all; omega) | ((try simp only [decide_eq_true_eq, decide_eq_false_iff_not, beq_iff_eq, beq_eq_false_iff_ne, ne_eq, Bool.and_eq_true, Bool.or_eq_true] at *); (repeat' split) <;> first | rfl | (exfalso; omega))) ?_
  refine evc_go 1000 9 (by kernel_rfl) ?_
  -- NO STEP
  -- frame [(3, Go.V.Val.lv [Go.V.Val.int Go.IntKind.u8 (↑f : Int)]), (4, Go.V.Val.lv [Go.V.Val.bool Bool.false]), (5, Go.V.Val.lv [Go.V.Val.sli (Go.V.encL il) il.length qq]), (6, Go.V.Val.lv [Go.V.Val.sli (Go.V.encZ dl) il.length qq]), (7, Go.V.Val.fn 79 [Go.V.Val.pin cs 0]), (8, Go.V.Val.lv [Go.V.Val.int Go.IntKind.i64 rd]), (9, Go.V.Val.lv [Go.V.Val.int Go.IntKind.i64 (Go.IntKind.i64.wrap ((↑k : Int) + 1))]), (83, Go.V.Val.bool Bool.false)]
  refine evc_set 9 (.lv [.int .i64 (IntKind.wrap .i64 ((k : Int) + 1))]) (.lv [.int .i64 ((k + 1 : Nat) : Int)]) (by kernel_rfl) (by rw [hw]) ?_
  exact evc_nilQ (by kernel_rfl) ⟨fr3 cs f il dl qq rd (k + 1), by kernel_rfl, by kernel_rfl, by kernel_rfl, by kernel_rfl⟩
theorem round3b (hf : ¬ k + 1 > f) (hf8 : f < 256) : Yld E0 L0.length [.int .i64 d, .agg (encI y)] ⟨H, L0 ++ [r3 cs f il dl qq 0 k]⟩ (.bool true) ⟨H, L0 ++ [r3 cs f il dl qq 0 (k + 1)]⟩ := by
  have c26' : ∀ S, Go.V.Call E0 26 [.agg (encI y), .agg (encI y)] S (.bool true) S := fun S => by have := c26 (2 ^ 30) y y (encI y) S hok.2.1 hok.1 (RepI_enc _ y); rwa [same_refl] at this
  have hc := cut_enc hy
  have hz := get_encZ hd
  have hw : IntKind.wrap .i64 ((k : Int) + 1) = ((k + 1 : Nat) : Int) := wrap_nat (m := 1) (by omega)
  have hw8 : IntKind.wrap .i64 (f : Int) = (f : Int) := by simpa using wrap_nat (i := f) (m := 0) (by omega)
  have g : ¬ ((k + 1 : Nat) : Int) > (f : Int) := by omega
  cases y with
  | mk ky ny sy qy ly =>
  rw [encI_mk] at *
  clear hok hy hd
  refine yld_last 100 (fn := Tryd.f3) (fr0 := [(52, .agg (i4 ky ny sy ly qy)), (51, .int .i64 d)] ++ fr3 cs f il dl qq 0 k) (fr1 := [(3, .lv [.int .u8 (f : Int)]), (4, .lv [.bool false]), (5, .lv [.sli (encL il) il.length qq]), (6, .lv [.sli (encZ dl) il.length qq]), (7, .fn 79 [.pin cs 0]), (8, .lv [.int .i64 0]), (9, .lv [.int .i64 (k : Int)]), (10, .int .i64 d), (11, .lv (i4 ky ny sy ly qy))]) (by kernel_rfl) Tryd.func3 (by kernel_rfl) (by kernel_rfl) (by kernel_rfl) ?_
  refine evc_go 1000 9 (by kernel_rfl) ?_
  refine evc_is 57 (Decidable.decide ((↑k : Int) ≥ (↑il.length : Int))) false (by kernel_rfl) (by first | with_reducible rfl | assumption | (simp_all; done) | omega | (simp_all; omega) | ((try simp only [decide_eq_true_eq, decide_eq_false_iff_not, beq_iff_eq, beq_eq_false_iff_ne, ne_eq, Bool.and_eq_true, Bool.or_eq_true] at *); (repeat' split) <;> first | rfl | (exfalso; omega))) ?_
  refine evc_go 1000 3 (by kernel_rfl) ?_
  refine evc_idx (k) (il.length) (Go.V.encZ dl) 1 (by kernel_rfl) (by first | with_reducible rfl | assumption | (simp_all; done) | omega | (simp_all; omega) | ((try simp only [decide_eq_true_eq, decide_eq_false_iff_not, beq_iff_eq, beq_eq_false_iff_ne, ne_eq, Bool.and_eq_true, Bool.or_eq_true] at *); (repeat' split) <;> first | rfl | (exfalso; omega))) (by kernel_rfl) ?_
  refine evc_get (Go.V.encZ dl) (k * 1) (Go.V.Val.int Go.IntKind.i64 d) .pure (by kernel_rfl) hz (by kernel_rfl) ?_
  refine evc_go 1000 3 (by kernel_rfl) ?_
  refine evc_is 65 (d != d) false (by kernel_rfl) (by first | with_reducible rfl | assumption | (simp_all; done) | omega | (simp_all; omega) | ((try simp only [decide_eq_true_eq, decide_eq_false_iff_not, beq_iff_eq, beq_eq_false_iff_ne, ne_eq, Bool.and_eq_true, Bool.or_eq_true] at *); (repeat' split) <;> first | rfl | (exfalso; omega))) ?_
  refine evc_go 1000 3 (by kernel_rfl) ?_
  refine evc_idx (k) (il.length) (Go.V.encL il) 4 (by kernel_rfl) (by first | with_reducible rfl | assumption | (simp_all; done) | omega | (simp_all; omega) | ((try simp only [decide_eq_true_eq, decide_eq_false_iff_not, beq_iff_eq, beq_eq_false_iff_ne, ne_eq, Bool.and_eq_true, Bool.or_eq_true] at *); (repeat' split) <;> first | rfl | (exfalso; omega))) (by kernel_rfl) ?_
  refine evc_cut (Go.V.encL il) (k * 4) 4 (Go.V.i4 ky ny sy ly qy) .pure (by kernel_rfl) hc (by kernel_rfl) ?_
  refine evc_call (by kernel_rfl) (by kernel_rfl) (c26' ({ H := H, L := L0 ++ [{ fn := (Go.V.W.r3 cs f il dl qq 0 k).fn, fr := (Go.V.W.r3 cs f il dl qq 0 k).fr, params := (Go.V.W.r3 cs f il dl qq 0 k).params, assign := (Go.V.W.r3 cs f il dl qq 0 k).assign, body := (Go.V.W.r3 cs f il dl qq 0 k).body, busy := Bool.true, begun := Bool.true, done := (Go.V.W.r3 cs f il dl qq 0 k).done, pending := (Go.V.W.r3 cs f il dl qq 0 k).pending }] })) (by kernel_rfl) ?_
  refine evc_go 1000 22 (by kernel_rfl) ?_
  refine evc_is 83 (Decidable.decide (Go.IntKind.i64.wrap ((↑k : Int) + 1) > Go.IntKind.i64.wrap (↑f : Int))) false (by kernel_rfl) (by first | with_reducible rfl | assumption | (simp_all; done) | omega | (simp_all; omega) | ((try simp only [decide_eq_true_eq, decide_eq_false_iff_not, beq_iff_eq, beq_eq_false_iff_ne, ne_eq, Bool.and_eq_true, Bool.or_eq_true] at *); (repeat' split) <;> first | rfl | (exfalso; omega))) ?_
  refine evc_go 1000 3 (by kernel_rfl) ?_
  -- NO STEP
  -- frame [(3, Go.V.Val.lv [Go.V.Val.int Go.IntKind.u8 (↑f : Int)]), (4, Go.V.Val.lv [Go.V.Val.bool Bool.false]), (5, Go.V.Val.lv [Go.V.Val.sli (Go.V.encL il) il.length qq]), (6, Go.V.Val.lv [Go.V.Val.sli (Go.V.encZ dl) il.length qq]), (7, Go.V.Val.fn 79 [Go.V.Val.pin cs 0]), (8, Go.V.Val.lv [Go.V.Val.int Go.IntKind.i64 0]), (9, Go.V.Val.lv [Go.V.Val.int Go.IntKind.i64 (Go.IntKind.i64.wrap ((↑k : Int) + 1))]), (83, Go.V.Val.bool Bool.false)]
  refine evc_set 9 (.lv [.int .i64 (IntKind.wrap .i64 ((k : Int) + 1))]) (.lv [.int .i64 ((k + 1 : Nat) : Int)]) (by kernel_rfl) (by rw [hw]) ?_
  exact evc_nilQ (by kernel_rfl) ⟨fr3 cs f il dl qq 0 (k + 1), by kernel_rfl, by kernel_rfl, by kernel_rfl, by kernel_rfl⟩
theorem round3c (hf : k + 1 > f) (hf8 : f < 256) : Yld E0 L0.length [.int .i64 d, .agg (encI y)] ⟨H, L0 ++ [r3 cs f il dl qq 0 k]⟩ (.bool false) ⟨H, L0 ++ [r3d cs f il dl qq 0 (k + 1)]⟩ := by
  have c26' : ∀ S, Go.V.Call E0 26 [.agg (encI y), .agg (encI y)] S (.bool true) S := fun S => by have := c26 (2 ^ 30) y y (encI y) S hok.2.1 hok.1 (RepI_enc _ y); rwa [same_refl] at this
  have hc := cut_enc hy
  have hz := get_encZ hd
  have hw : IntKind.wrap .i64 ((k : Int) + 1) = ((k + 1 : Nat) : Int) := wrap_nat (m := 1) (by omega)
  have hw8 : IntKind.wrap .i64 (f : Int) = (f : Int) := by simpa using wrap_nat (i := f) (m := 0) (by omega)
  have g : ((k + 1 : Nat) : Int) > (f : Int) := by omega
  cases y with
  | mk ky ny sy qy ly =>
  rw [encI_mk] at *
  clear hok hy hd
  refine yld_last 100 (fn := Tryd.f3) (fr0 := [(52, .agg (i4 ky ny sy ly qy)), (51, .int .i64 d)] ++ fr3 cs f il dl qq 0 k) (fr1 := [(3, .lv [.int .u8 (f : Int)]), (4, .lv [.bool false]), (5, .lv [.sli (encL il) il.length qq]), (6, .lv [.sli (encZ dl) il.length qq]), (7, .fn 79 [.pin cs 0]), (8, .lv [.int .i64 0]), (9, .lv [.int .i64 (k : Int)]), (10, .int .i64 d), (11, .lv (i4 ky ny sy ly qy))]) (by kernel_rfl) Tryd.func3 (by kernel_rfl) (by kernel_rfl) (by kernel_rfl) ?_
  refine evc_go 1000 9 (by kernel_rfl) ?_
  refine evc_is 57 (Decidable.decide ((↑k : Int) ≥ (↑il.length : Int))) false (by kernel_rfl) (by first | with_reducible rfl | assumption | (simp_all; done) | omega | (simp_all; omega) | ((try simp only [decide_eq_true_eq, decide_eq_false_iff_not, beq_iff_eq, beq_eq_false_iff_ne, ne_eq, Bool.and_eq_true, Bool.or_eq_true] at *); (repeat' split) <;> first | rfl | (exfalso; omega))) ?_
  refine evc_go 1000 3 (by kernel_rfl) ?_
  refine evc_idx (k) (il.length) (Go.V.encZ dl) 1 (by kernel_rfl) (by first | with_reducible rfl | assumption | (simp_all; done) | omega | (simp_all; omega) | ((try simp only [decide_eq_true_eq, decide_eq_false_iff_not, beq_iff_eq, beq_eq_false_iff_ne, ne_eq, Bool.and_eq_true, Bool.or_eq_true] at *); (repeat' split) <;> first | rfl | (exfalso; omega))) (by kernel_rfl) ?_
  refine evc_get (Go.V.encZ dl) (k * 1) (Go.V.Val.int Go.IntKind.i64 d) .pure (by kernel_rfl) hz (by kernel_rfl) ?_
  refine evc_go 1000 3 (by kernel_rfl) ?_
  refine evc_is 65 (d != d) false (by kernel_rfl) (by first | with_reducible rfl | assumption | (simp_all; done) | omega | (simp_all; omega) | ((try simp only [decide_eq_true_eq, decide_eq_false_iff_not, beq_iff_eq, beq_eq_false_iff_ne, ne_eq, Bool.and_eq_true, Bool.or_eq_true] at *); (repeat' split) <;> first | rfl | (exfalso; omega))) ?_
  refine evc_go 1000 3 (by kernel_rfl) ?_
  refine evc_idx (k) (il.length) (Go.V.encL il) 4 (by kernel_rfl) (by first | with_reducible rfl | assumption | (simp_all; done) | omega | (simp_all; omega) | ((try simp only [decide_eq_true_eq, decide_eq_false_iff_not, beq_iff_eq, beq_eq_false_iff_ne, ne_eq, Bool.and_eq_true, Bool.or_eq_true] at *); (repeat' split) <;> first | rfl | (exfalso; omega))) (by kernel_rfl) ?_
  refine evc_cut (Go.V.encL il) (k * 4) 4 (Go.V.i4 ky ny sy ly qy) .pure (by kernel_rfl) hc (by kernel_rfl) ?_
  refine evc_call (by kernel_rfl) (by kernel_rfl) (c26' ({ H := H, L := L0 ++ [{ fn := (Go.V.W.r3 cs f il dl qq 0 k).fn, fr := (Go.V.W.r3 cs f il dl qq 0 k).fr, params := (Go.V.W.r3 cs f il dl qq 0 k).params, assign := (Go.V.W.r3 cs f il dl qq 0 k).assign, body := (Go.V.W.r3 cs f il dl qq 0 k).body, busy := Bool.true, begun := Bool.true, done := (Go.V.W.r3 cs f il dl qq 0 k).done, pending := (Go.V.W.r3 cs f il dl qq 0 k).pending }] })) (by kernel_rfl) ?_
  refine evc_go 1000 22 (by kernel_rfl) ?_
  refine evc_is 83 (Decidable.decide (Go.IntKind.i64.wrap ((↑k : Int) + 1) > Go.IntKind.i64.wrap (↑f : Int))) true (by kernel_rfl) (by first | with_reducible rfl | assumption | (simp_all; done) | omega | (simp_all; omega) | ((try simp only [decide_eq_true_eq, decide_eq_false_iff_not, beq_iff_eq, beq_eq_false_iff_ne, ne_eq, Bool.and_eq_true, Bool.or_eq_true] at *); (repeat' split) <;> first | rfl | (exfalso; omega))) ?_
  refine evc_go 1000 1 (by kernel_rfl) ?_
  -- NO STEP
  -- frame [(3, Go.V.Val.lv [Go.V.Val.int Go.IntKind.u8 (↑f : Int)]), (4, Go.V.Val.lv [Go.V.Val.bool Bool.false]), (5, Go.V.Val.lv [Go.V.Val.sli (Go.V.encL il) il.length qq]), (6, Go.V.Val.lv [Go.V.Val.sli (Go.V.encZ dl) il.length qq]), (7, Go.V.Val.fn 79 [Go.V.Val.pin cs 0]), (8, Go.V.Val.lv [Go.V.Val.int Go.IntKind.i64 0]), (9, Go.V.Val.lv [Go.V.Val.int Go.IntKind.i64 (Go.IntKind.i64.wrap ((↑k : Int) + 1))]), (83, Go.V.Val.bool Bool.true)]
  refine evc_set 9 (.lv [.int .i64 (IntKind.wrap .i64 ((k : Int) + 1))]) (.lv [.int .i64 ((k + 1 : Nat) : Int)]) (by kernel_rfl) (by rw [hw]) ?_
  exact evc_exitQ (id := 2) (k := [.inBlock 3]) (by kernel_rfl) (by kernel_rfl) ⟨fr3 cs f il dl qq 0 (k + 1), by kernel_rfl, by kernel_rfl, by kernel_rfl, by kernel_rfl⟩
end
end
end Go.V.W
