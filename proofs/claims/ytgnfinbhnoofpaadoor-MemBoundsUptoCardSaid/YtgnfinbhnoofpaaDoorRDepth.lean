/- Depth (ullageref08): the greatest of how deep all stand. -/
import Derived.Test.YtgnfinbhnoofpaaDoorItems
import Derived.Test.YtgnfinbhnoofpaaDoorVH
set_option linter.unusedVariables false
set_option linter.unusedSimpArgs false
set_option linter.unusedSectionVars false
open Go Go.V
set_option maxRecDepth 100000
set_option maxHeartbeats 4000000
namespace Go.V.W
def maxZ (a : Int) : List Int → Int
  | [] => a
  | z :: l => maxZ (if z > a then z else a) l
theorem get_encZ {l : List Int} {i : Nat} {z : Int} (h : l[i]? = some z) : (encZ l)[i * 1]? = some (.int .i64 z) := by
  simp [encZ, h]
def answers22 (_ : Nat) (S : St) : Val × St := (Val.tup [.sli [] 0 .nil, .sli [] 0 .nil], S)
noncomputable def E4 : Env := { E0 with native := fun g => some (fun _ S => some (answers22 g S)) }
noncomputable def P22 : Pos := (goT E4 1 (ctxOf E0 22) 26 (entry E0 22 [.agg [.int .i64 0, .int .u64 0, .str [], .sli [] 0 .nil]] ⟨[], []⟩)).pos
theorem L22 (dl : List Int) (len : Nat) (q : Q) (S : St) (hlen : dl.length = len) (hl : len ≤ 2 ^ 31) : ∀ (m i : Nat) (a : Int), i + m = len → EvC E0 (ctxOf E0 22) ⟨P22, [(4, .sli (encZ dl) len q), (5, .int .i64 a), (6, .int .i64 (i : Int))], S⟩ (Go.V.Fin E0 22 S (.int .i64 (maxZ a (dl.drop i))) S) := by
  intro m
  induction m with
  | zero =>
    intro i a hi
    have e : dl.drop i = [] := List.drop_eq_nil_of_le (by omega)
    rw [e]
    simp only [maxZ]
    refine evc_g 8 ?_
    refine evc_i 15 (decide ((↑i : Int) < (↑len : Int))) false ?_
    refine evc_g 7 ?_
    exact evc_endS (Val.int IntKind.i64 a) (by kernel_rfl) (by kernel_rfl) (by first | with_reducible rfl | assumption | (simp_all; done) | omega | (simp_all; omega)) (by first | rfl | simp [Val.low, Val.lows, low_encL, low_encI])
  | succ m ihm =>
    intro i a hi
    have hlt : i < dl.length := by omega
    obtain ⟨z, hz⟩ : ∃ z, dl[i]? = some z := ⟨dl[i], List.getElem?_eq_getElem hlt⟩
    have hg := get_encZ hz
    have hdr : dl.drop i = z :: dl.drop (i + 1) := by
      obtain ⟨_, rfl⟩ := List.getElem?_eq_some_iff.1 hz
      exact List.drop_eq_getElem_cons hlt
    have ih := ihm (i + 1) (if z > a then z else a) (by omega)
    rw [hdr]
    simp only [maxZ]
    clear ihm hdr
    refine evc_g 8 ?_
    refine evc_i 15 (decide ((↑i : Int) < (↑len : Int))) true ?_
    refine evc_g 8 ?_
    refine evc_idx (i) (len) (encZ dl) 1 (by kernel_rfl) (by first | with_reducible rfl | assumption | (simp_all; done) | omega | (simp_all; omega)) (by kernel_rfl) ?_
    refine evc_get (encZ dl) (i * 1) (Val.int IntKind.i64 z) .pure (by kernel_rfl) hg (by kernel_rfl) ?_
    refine evc_g 10 ?_
    refine evc_set 6 (Val.int IntKind.i64 (IntKind.i64.wrap ((↑i : Int) + 1))) (Val.int IntKind.i64 (↑(i + 1) : Int)) (by kernel_rfl) (congrArg (Val.int IntKind.i64) (wrap_nat (i := i) (m := 1) (by omega))) ?_
    exact evc_a (ih)
theorem c22 (x : It) (h : (itemsI x).length ≤ 2 ^ 30) (S : St) : Go.V.Call E0 22 [.agg (encI x)] S (.int .i64 (maxZ 0 (deepsI x 1))) S := by
  have h19 := c19 (2 ^ 30) x h (by omega) 1 S
  have L := L22 (deepsI x 1) (itemsI x).length (itq x) S (deepsI_len x 1) (by omega) (itemsI x).length 0 0 (by omega)
  simp only [List.drop_zero] at L
  cases x with
  | mk k n s q l =>
    generalize hi : itemsI (.mk k n s q l) = il at *
    generalize hd : deepsI (.mk k n s q l) 1 = dl at *
    generalize hq : itq (.mk k n s q l) = qq at *
    rw [encI_mk] at *
    refine call_cfg (by kernel_rfl) ?_
    refine evc_g 8 ?_
    refine evc_c (h19) ?_
    refine evc_g 17 ?_
    exact evc_a (L)
end Go.V.W
