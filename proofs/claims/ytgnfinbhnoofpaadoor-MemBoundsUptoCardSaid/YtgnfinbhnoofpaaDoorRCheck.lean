/- Check (ullageref08): its depth, then the first item that isn't right; given what 'wrong' answers. -/
import Derived.Test.YtgnfinbhnoofpaaDoorVH
import Derived.Test.YtgnfinbhnoofpaaDoorRDepth
import Derived.Test.YtgnfinbhnoofpaaDoorWalk
set_option linter.unusedVariables false
set_option linter.unusedSimpArgs false
set_option linter.unusedSectionVars false
open Go Go.V
set_option maxRecDepth 100000
set_option maxHeartbeats 4000000
namespace Go.V.W
noncomputable def E5 : Env := { E0 with native := fun g => some (fun _ S => some (if g = 22 then (Val.int .i64 0, S) else (Val.tup [.sli [] 0 .nil, .sli [] 0 .nil], S))) }
noncomputable def P25 : Pos := (goT E5 1 (ctxOf E0 25) 31 (entry E0 25 [.agg [.int .i64 0, .int .u64 0, .str [], .sli [] 0 .nil]] ⟨[], []⟩)).pos
theorem L25 (wr : It → Int) (il : List It) (q : Q) (S : St) (hl : il.length ≤ 2 ^ 30) (hwr : ∀ y ∈ il, ∀ S, Go.V.Call E0 82 [.agg (encI y)] S (.int .i64 (wr y)) S) : ∀ (m i : Nat), i + m = il.length →
    EvC E0 (ctxOf E0 25) ⟨P25, [(3, .sli (encL il) il.length q), (5, .int .i64 (i : Int))], S⟩ (Go.V.Fin E0 25 S (.int .i64 (firstW wr (il.drop i))) S) := by
  intro m
  induction m with
  | zero =>
    intro i hi
    have e : il.drop i = [] := List.drop_eq_nil_of_le (by omega)
    have g5 : ¬ (i : Int) < (il.length : Int) := by omega
    rw [e]
    simp only [firstW]
    clear hwr
    refine evc_g 8 ?_
    refine evc_i 18 (decide ((↑i : Int) < (↑il.length : Int))) false ?_
    refine evc_g 6 ?_
    exact evc_t (Val.int IntKind.i64 0)
  | succ m ihm =>
    intro i hi
    have hlt : i < il.length := by omega
    have g5 : (i : Int) < (il.length : Int) := by omega
    obtain ⟨y, hy⟩ : ∃ y, il[i]? = some y := ⟨il[i], List.getElem?_eq_getElem hlt⟩
    have hdr : il.drop i = y :: il.drop (i + 1) := by
      obtain ⟨_, rfl⟩ := List.getElem?_eq_some_iff.1 hy
      exact List.drop_eq_getElem_cons hlt
    have hc := cut_enc hy
    have c := hwr y (List.mem_of_getElem? hy) S
    have ih := ihm (i + 1) (by omega)
    rw [hdr]
    simp only [firstW]
    generalize firstW wr (il.drop (i + 1)) = r at *
    generalize wr y = w at *
    clear ihm hdr hwr
    cases y with
    | mk ky ny sy qy ly =>
    rw [encI_mk] at hc c
    by_cases hw : w = 0
    · subst hw
      simp only [if_true]
      refine evc_g 8 ?_
      refine evc_i 18 (decide ((↑i : Int) < (↑il.length : Int))) true ?_
      refine evc_g 8 ?_
      refine evc_idx (i) (il.length) (encL il) 4 (by kernel_rfl) (by first | with_reducible rfl | assumption | (simp_all; done) | omega | (simp_all; omega)) (by kernel_rfl) ?_
      refine evc_cut (encL il) (i * 4) 4 (Go.V.i4 ky ny sy ly qy) .pure (by kernel_rfl) hc (by kernel_rfl) ?_
      refine evc_c (c) ?_
      refine evc_g 16 ?_
      refine evc_set 5 (Val.int IntKind.i64 (IntKind.i64.wrap ((↑i : Int) + 1))) (Val.int IntKind.i64 (↑(i + 1) : Int)) (by kernel_rfl) (congrArg (Val.int IntKind.i64) (wrap_nat (i := i) (m := 1) (by omega))) ?_
      exact evc_a (ih)
    · rw [if_neg hw]
      clear ih
      refine evc_g 8 ?_
      refine evc_i 18 (decide ((↑i : Int) < (↑il.length : Int))) true ?_
      refine evc_g 8 ?_
      refine evc_idx (i) (il.length) (encL il) 4 (by kernel_rfl) (by first | with_reducible rfl | assumption | (simp_all; done) | omega | (simp_all; omega)) (by kernel_rfl) ?_
      refine evc_cut (encL il) (i * 4) 4 (Go.V.i4 ky ny sy ly qy) .pure (by kernel_rfl) hc (by kernel_rfl) ?_
      refine evc_c (c) ?_
      refine evc_g 7 ?_
      refine evc_i 27 (w != 0) true ?_
      refine evc_g 6 ?_
      exact evc_t (Val.int IntKind.i64 w)
def checkR (wr : It → Int) (x : It) : Int := if 64 < maxZ 0 (deepsI x 1) then 3 else firstW wr (itemsI x)
theorem c25 (wr : It → Int) (x : It) (h : (itemsI x).length ≤ 2 ^ 30) (hwr : ∀ y ∈ itemsI x, ∀ S, Go.V.Call E0 82 [.agg (encI y)] S (.int .i64 (wr y)) S) (S : St) : Go.V.Call E0 25 [.agg (encI x)] S (.int .i64 (checkR wr x)) S := by
  have h22 := c22 x h S
  have h19 := c19 (2 ^ 30) x h (by omega) 1 S
  have L := L25 wr (itemsI x) (itq x) S h hwr (itemsI x).length 0 (by omega)
  simp only [List.drop_zero] at L
  unfold checkR
  clear hwr
  cases x with
  | mk k n s q l =>
    generalize hf : firstW wr (itemsI (.mk k n s q l)) = fw at *
    generalize hi : itemsI (.mk k n s q l) = il at *
    generalize hm : maxZ 0 (deepsI (.mk k n s q l) 1) = mz at *
    generalize hd : deepsI (.mk k n s q l) 1 = dl at *
    generalize hq : itq (.mk k n s q l) = qq at *
    rw [encI_mk] at *
    by_cases h64 : 64 < mz
    · rw [if_pos h64]
      clear L
      refine call_cfg (by kernel_rfl) ?_
      refine evc_g 9 ?_
      refine evc_c (h22) ?_
      refine evc_g 2 ?_
      refine evc_i 9 (decide (mz > 64)) true ?_
      refine evc_g 5 ?_
      exact evc_t (Val.int IntKind.i64 3)
    · rw [if_neg h64]
      refine call_cfg (by kernel_rfl) ?_
      refine evc_g 9 ?_
      refine evc_c (h22) ?_
      refine evc_g 2 ?_
      refine evc_i 9 (decide (mz > 64)) false ?_
      refine evc_g 5 ?_
      refine evc_c (h19) ?_
      refine evc_g 13 ?_
      exact evc_a (L)
end Go.V.W
