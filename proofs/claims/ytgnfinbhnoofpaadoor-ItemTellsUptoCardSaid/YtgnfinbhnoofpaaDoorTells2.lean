/- ItemTells (ullagelaw08): the ranges, the whole call. -/
import Derived.Test.YtgnfinbhnoofpaaDoorVH
import Derived.Test.YtgnfinbhnoofpaaDoorTells
set_option linter.unusedVariables false
set_option linter.unusedSimpArgs false
set_option linter.unusedSectionVars false
open Go Go.V Go.Proofs
set_option maxRecDepth 100000
set_option maxHeartbeats 4000000
namespace Go.V.W
section
variable (cs : List Val) (f : Nat) (hf8 : f < 256) (il : List It) (dl : List Int) (qq : Q) (hl : il.length ≤ 2 ^ 30) (hok : ∀ y ∈ il, okI y)
/-- the second round: all come -/
theorem rn1 (hl : il.length ≤ 2 ^ 30) (hok : ∀ y ∈ il, okI y) (W : List (It × Int)) (hWi : W.map (·.1) = il) (hWd : W.map (·.2) = dl) : ∀ (m k : Nat), k + m = il.length →
    Rn 0 (W.drop k) ⟨[], [r3 cs f il dl qq 1 k]⟩ true ⟨[], [r3 cs f il dl qq 1 il.length]⟩
  | 0, k, h => by
    have e : W.drop k = [] := List.drop_eq_nil_of_le (by have : W.length = il.length := by rw [← hWi]; simp
                                                         omega)
    have : k = il.length := by omega
    rw [e, this]; simp [Rn]
  | m + 1, k, h => by
    have hWl : W.length = il.length := by rw [← hWi]; simp
    have hk : k < W.length := by omega
    have hy : il[k]? = some (W[k]).1 := by rw [← hWi]; simp [hk]
    have hd : dl[k]? = some (W[k]).2 := by rw [← hWd]; simp [hk]
    rw [List.drop_eq_getElem_cons hk]
    simp only [Rn]
    exact .inl ⟨_, round3a cs f il dl qq 1 k _ _ hl (by omega) hy hd (hok _ (List.mem_of_getElem? hy)) [] [] (by decide), rn1 hl hok W hWi hWd m (k + 1) (by omega)⟩
/-- the first round: as many as one likes -/
theorem rn0 (hf8 : f < 256) (hl : il.length ≤ 2 ^ 30) (hok : ∀ y ∈ il, okI y) (W : List (It × Int)) (hWi : W.map (·.1) = il) (hWd : W.map (·.2) = dl) : ∀ (m k : Nat), k + m = il.length → k ≤ f →
    ∃ k', (Rn 0 (W.drop k) ⟨[], [r3 cs f il dl qq 0 k]⟩ true ⟨[], [r3 cs f il dl qq 0 k']⟩) ∨ (Rn 0 (W.drop k) ⟨[], [r3 cs f il dl qq 0 k]⟩ false ⟨[], [r3d cs f il dl qq 0 k']⟩)
  | 0, k, h, _ => by
    have e : W.drop k = [] := List.drop_eq_nil_of_le (by have : W.length = il.length := by rw [← hWi]; simp
                                                         omega)
    rw [e]; exact ⟨k, .inl (by simp [Rn])⟩
  | m + 1, k, h, hkf => by
    have hWl : W.length = il.length := by rw [← hWi]; simp
    have hk : k < W.length := by omega
    have hy : il[k]? = some (W[k]).1 := by rw [← hWi]; simp [hk]
    have hd : dl[k]? = some (W[k]).2 := by rw [← hWd]; simp [hk]
    rw [List.drop_eq_getElem_cons hk]
    simp only [Rn]
    by_cases hc : k + 1 > f
    · exact ⟨k + 1, .inr (.inr ⟨round3c cs f il dl qq k _ _ hl (by omega) hy hd (hok _ (List.mem_of_getElem? hy)) [] [] hc hf8, trivial⟩)⟩
    · obtain ⟨k', h'⟩ := rn0 hf8 hl hok W hWi hWd m (k + 1) (by omega) (by omega)
      have hr := round3b cs f il dl qq k _ _ hl (by omega) hy hd (hok _ (List.mem_of_getElem? hy)) [] [] hc hf8
      rcases h' with h' | h'
      · exact ⟨k', .inl (.inl ⟨_, hr, h'⟩)⟩
      · exact ⟨k', .inr (.inl ⟨_, hr, h'⟩)⟩
theorem R3 {Q : Out → Prop} (rd : Int) (k : Nat) (r : LoopRec) (v : Val) (hc : Go.V.Call E0 79 [.yield 0, .pin cs 0] ⟨[], [r3 cs f il dl qq rd 0]⟩ v ⟨[], [r]⟩) (hr : r = r3 cs f il dl qq rd k ∨ r = r3d cs f il dl qq rd k)
    (hq : EvC E0 (ctxOf E0 3) ⟨.code ((r.pending.map Item.code).toList ++ K3), r.fr, ⟨[], []⟩⟩ Q) : EvC E0 (ctxOf E0 3) ⟨P3, fr3 cs f il dl qq rd 0, ⟨[], []⟩⟩ Q := by
  have hrec : recAt (ctxOf E0 3) ⟨P3, fr3 cs f il dl qq rd 0, ⟨[], []⟩⟩ = r3 cs f il dl qq rd 0 := by kernel_rfl
  have hbusy : r.busy = false := by rcases hr with rfl | rfl <;> rfl
  have h3 : frY 0 (fr3 cs f il dl qq rd 0) r.fr = true := by
    rcases hr with rfl | rfl <;> simp [frY, r3, r3d, fr3, Val.noY, Val.noYs, Val.beq_refl]
  refine evc_range (g := 79) (cap := [.pin cs 0]) (v := v) (S2 := ⟨[], [r]⟩) (r := r) (by kernel_rfl) ?_ rfl rfl hbusy rfl rfl h3 ?_
  · rw [hrec]; exact hc
  · have hran : ranged ⟨P3, fr3 cs f il dl qq rd 0, ⟨[], []⟩⟩ r ⟨[], [r]⟩ = ⟨.code ((r.pending.map Item.code).toList ++ K3), r.fr, ⟨[], []⟩⟩ := by kernel_rfl
    rw [hran]; exact hq
end
section
variable (k n : Int) (s : List UInt8) (q : Q) (l : List It) (f : Nat) (il : List It) (dl : List Int) (qq : Q)
theorem T1 (W : List (It × Int)) (h80 : Go.V.Call E0 80 [.agg (i4 k n s l q), .int .i64 1, .yield 0] ⟨[], [r3 (i4 k n s l q) f il dl qq 1 0]⟩ (.bool true) ⟨[], [r3 (i4 k n s l q) f il dl qq 1 il.length]⟩) :
    EvC E0 (ctxOf E0 3) ⟨P3, fr3 (i4 k n s l q) f il dl qq 1 0, ⟨[], []⟩⟩ (Go.V.Fin E0 3 ⟨[], []⟩ (.bool true) ⟨[], []⟩) := by
  have h79 := c79 k n s q l _ _ 0 _ h80
  refine R3 (i4 k n s l q) f il dl qq 1 il.length (r3 (i4 k n s l q) f il dl qq 1 il.length) _ h79 (.inl rfl) ?_
  clear h79 h80
  generalize i4 k n s l q = cs
  show EvC E0 (ctxOf E0 3) ⟨.code K3, [(3, .lv [.int .u8 (f : Int)]), (4, .lv [.bool false]), (5, .lv [.sli (encL il) il.length qq]), (6, .lv [.sli (encZ dl) il.length qq]), (7, .fn 79 [.pin cs 0]), (8, .lv [.int .i64 1]), (9, .lv [.int .i64 (il.length : Int)]), (50, .fn 79 [.pin cs 0])], ⟨[], []⟩⟩ _
  refine evc_go 1000 12 (by kernel_rfl) ?_
  refine evc_is 91 ((↑il.length : Int) != (↑il.length : Int)) false (by kernel_rfl) (by first | with_reducible rfl | assumption | (simp_all; done) | omega | (simp_all; omega) | ((try simp only [decide_eq_true_eq, decide_eq_false_iff_not, beq_iff_eq, beq_eq_false_iff_ne, ne_eq, Bool.and_eq_true, Bool.or_eq_true] at *); (repeat' split) <;> first | rfl | (exfalso; omega))) ?_
  refine evc_go 1000 30 (by kernel_rfl) ?_
  exact evc_end (Go.V.Val.bool Bool.true) ({ H := [], L := [] }) (by kernel_rfl) (by first | with_reducible rfl | assumption | (simp_all; done) | omega | (simp_all; omega) | ((try simp only [decide_eq_true_eq, decide_eq_false_iff_not, beq_iff_eq, beq_eq_false_iff_ne, ne_eq, Bool.and_eq_true, Bool.or_eq_true] at *); (repeat' split) <;> first | rfl | (exfalso; omega))) (by first | with_reducible rfl | assumption | (simp_all; done) | omega | (simp_all; omega) | ((try simp only [decide_eq_true_eq, decide_eq_false_iff_not, beq_iff_eq, beq_eq_false_iff_ne, ne_eq, Bool.and_eq_true, Bool.or_eq_true] at *); (repeat' split) <;> first | rfl | (exfalso; omega)))
theorem T0 (r : LoopRec) (b : Bool) (k' : Nat) (hr : r = r3 (i4 k n s l q) f il dl qq 0 k' ∨ r = r3d (i4 k n s l q) f il dl qq 0 k') (h80 : Go.V.Call E0 80 [.agg (i4 k n s l q), .int .i64 1, .yield 0] ⟨[], [r3 (i4 k n s l q) f il dl qq 0 0]⟩ (.bool b) ⟨[], [r]⟩)
    (hT : EvC E0 (ctxOf E0 3) ⟨P3, fr3 (i4 k n s l q) f il dl qq 1 0, ⟨[], []⟩⟩ (Go.V.Fin E0 3 ⟨[], []⟩ (.bool true) ⟨[], []⟩)) :
    EvC E0 (ctxOf E0 3) ⟨P3, fr3 (i4 k n s l q) f il dl qq 0 0, ⟨[], []⟩⟩ (Go.V.Fin E0 3 ⟨[], []⟩ (.bool true) ⟨[], []⟩) := by
  have h79 := c79 k n s q l _ _ 0 _ h80
  refine R3 (i4 k n s l q) f il dl qq 0 k' r _ h79 hr ?_
  clear h79 h80
  generalize i4 k n s l q = cs at *
  unfold fr3 at hT
  rcases hr with rfl | rfl
  · show EvC E0 (ctxOf E0 3) ⟨.code K3, [(3, .lv [.int .u8 (f : Int)]), (4, .lv [.bool false]), (5, .lv [.sli (encL il) il.length qq]), (6, .lv [.sli (encZ dl) il.length qq]), (7, .fn 79 [.pin cs 0]), (8, .lv [.int .i64 0]), (9, .lv [.int .i64 (k' : Int)]), (50, .fn 79 [.pin cs 0])], ⟨[], []⟩⟩ _
    refine evc_go 1000 51 (by kernel_rfl) ?_
    exact evc_at (hT) (by kernel_rfl) (by first | rfl | (simp_all; done))
  · show EvC E0 (ctxOf E0 3) ⟨.code (.code (.exit 2) :: K3), [(3, .lv [.int .u8 (f : Int)]), (4, .lv [.bool false]), (5, .lv [.sli (encL il) il.length qq]), (6, .lv [.sli (encZ dl) il.length qq]), (7, .fn 79 [.pin cs 0]), (8, .lv [.int .i64 0]), (9, .lv [.int .i64 (k' : Int)]), (50, .fn 79 [.pin cs 0])], ⟨[], []⟩⟩ _
    refine evc_go 1000 51 (by kernel_rfl) ?_
    exact evc_at (hT) (by kernel_rfl) (by first | rfl | (simp_all; done))
theorem T (dp ch : Int) (g : Bool) (h17 : Go.V.Call E0 17 [] ⟨[], []⟩ (.bool true) ⟨[], []⟩) (h18 : Go.V.Call E0 18 [.agg (i4 k n s l q)] ⟨[], []⟩ (.bool g) ⟨[], []⟩)
    (h19 : Go.V.Call E0 19 [.agg (i4 k n s l q), .int .i64 1] ⟨[], []⟩ (.tup [.sli (encL il) il.length qq, .sli (encZ dl) il.length qq]) ⟨[], []⟩)
    (h21 : Go.V.Call E0 21 [.agg (i4 k n s l q)] ⟨[], []⟩ (.int .i64 dp) ⟨[], []⟩)
    (h22 : Go.V.Call E0 22 [.agg (i4 k n s l q)] ⟨[], []⟩ (.int .i64 dp) ⟨[], []⟩)
    (h23 : Go.V.Call E0 23 [.agg (i4 k n s l q)] ⟨[], []⟩ (.int .i64 (il.length : Int)) ⟨[], []⟩)
    (h24 : g = false → Go.V.Call E0 24 [.agg (i4 k n s l q)] ⟨[], []⟩ (.int .i64 ch) ⟨[], []⟩)
    (h25 : g = false → Go.V.Call E0 25 [.agg (i4 k n s l q)] ⟨[], []⟩ (.int .i64 ch) ⟨[], []⟩)
    (hT : g = false → EvC E0 (ctxOf E0 3) ⟨P3, fr3 (i4 k n s l q) f il dl qq 0 0, ⟨[], []⟩⟩ (Go.V.Fin E0 3 ⟨[], []⟩ (.bool true) ⟨[], []⟩)) :
    Go.V.Call E0 3 [.agg (i4 k n s l q), .int .u8 (f : Int)] ⟨[], []⟩ (.bool true) ⟨[], []⟩ := by
  have h20 := c20 k n s q l ⟨[], []⟩
  cases g with
  | true =>
    clear h24 h25 hT
    refine call_cfg (by kernel_rfl) ?_
    refine evc_go 1000 9 (by kernel_rfl) ?_
    refine evc_call (by kernel_rfl) (by kernel_rfl) (h17) (by kernel_rfl) ?_
    refine evc_go 1000 8 (by kernel_rfl) ?_
    refine evc_call (by kernel_rfl) (by kernel_rfl) (h18) (by kernel_rfl) ?_
    refine evc_go 1000 6 (by kernel_rfl) ?_
    exact evc_end (Go.V.Val.bool Bool.true) ({ H := [], L := [] }) (by kernel_rfl) (by first | with_reducible rfl | assumption | (simp_all; done) | omega | (simp_all; omega) | ((try simp only [decide_eq_true_eq, decide_eq_false_iff_not, beq_iff_eq, beq_eq_false_iff_ne, ne_eq, Bool.and_eq_true, Bool.or_eq_true] at *); (repeat' split) <;> first | rfl | (exfalso; omega))) (by first | with_reducible rfl | assumption | (simp_all; done) | omega | (simp_all; omega) | ((try simp only [decide_eq_true_eq, decide_eq_false_iff_not, beq_iff_eq, beq_eq_false_iff_ne, ne_eq, Bool.and_eq_true, Bool.or_eq_true] at *); (repeat' split) <;> first | rfl | (exfalso; omega)))
  | false =>
    have k24 := h24 rfl
    have k25 := h25 rfl
    have kT := hT rfl
    unfold fr3 at kT
    clear h24 h25 hT
    refine call_cfg (by kernel_rfl) ?_
    refine evc_go 1000 9 (by kernel_rfl) ?_
    refine evc_call (by kernel_rfl) (by kernel_rfl) (h17) (by kernel_rfl) ?_
    refine evc_go 1000 8 (by kernel_rfl) ?_
    refine evc_call (by kernel_rfl) (by kernel_rfl) (h18) (by kernel_rfl) ?_
    refine evc_go 1000 6 (by kernel_rfl) ?_
    refine evc_call (by kernel_rfl) (by kernel_rfl) (h19) (by kernel_rfl) ?_
    refine evc_go 1000 11 (by kernel_rfl) ?_
    refine evc_call (by kernel_rfl) (by kernel_rfl) (h20) (by kernel_rfl) ?_
    refine evc_go 1000 9 (by kernel_rfl) ?_
    refine evc_call (by kernel_rfl) (by kernel_rfl) (h21) (by kernel_rfl) ?_
    refine evc_go 1000 1 (by kernel_rfl) ?_
    refine evc_call (by kernel_rfl) (by kernel_rfl) (h22) (by kernel_rfl) ?_
    refine evc_go 1000 3 (by kernel_rfl) ?_
    refine evc_is 32 (dp != dp) false (by kernel_rfl) (by first | with_reducible rfl | assumption | (simp_all; done) | omega | (simp_all; omega) | ((try simp only [decide_eq_true_eq, decide_eq_false_iff_not, beq_iff_eq, beq_eq_false_iff_ne, ne_eq, Bool.and_eq_true, Bool.or_eq_true] at *); (repeat' split) <;> first | rfl | (exfalso; omega))) ?_
    refine evc_go 1000 1 (by kernel_rfl) ?_
    refine evc_call (by kernel_rfl) (by kernel_rfl) (h23) (by kernel_rfl) ?_
    refine evc_go 1000 5 (by kernel_rfl) ?_
    refine evc_is 39 ((↑il.length : Int) != (↑il.length : Int)) false (by kernel_rfl) (by first | with_reducible rfl | assumption | (simp_all; done) | omega | (simp_all; omega) | ((try simp only [decide_eq_true_eq, decide_eq_false_iff_not, beq_iff_eq, beq_eq_false_iff_ne, ne_eq, Bool.and_eq_true, Bool.or_eq_true] at *); (repeat' split) <;> first | rfl | (exfalso; omega))) ?_
    refine evc_go 1000 1 (by kernel_rfl) ?_
    refine evc_call (by kernel_rfl) (by kernel_rfl) (k24) (by kernel_rfl) ?_
    refine evc_go 1000 1 (by kernel_rfl) ?_
    refine evc_call (by kernel_rfl) (by kernel_rfl) (k25) (by kernel_rfl) ?_
    refine evc_go 1000 3 (by kernel_rfl) ?_
    refine evc_is 45 (ch != ch) false (by kernel_rfl) (by first | with_reducible rfl | assumption | (simp_all; done) | omega | (simp_all; omega) | ((try simp only [decide_eq_true_eq, decide_eq_false_iff_not, beq_iff_eq, beq_eq_false_iff_ne, ne_eq, Bool.and_eq_true, Bool.or_eq_true] at *); (repeat' split) <;> first | rfl | (exfalso; omega))) ?_
    refine evc_go 1000 31 (by kernel_rfl) ?_
    exact evc_at (kT) (by kernel_rfl) (by first | rfl | (simp_all; done))
end
/-- THE LAW, of items of no more than so many items -/
theorem c3 (x : It) (f : Nat) (hf : f < 256) (hx : (itemsI x).length ≤ 2 ^ 30) (wx : x.wf) : Go.V.Call E0 3 [.agg (encI x), .int .u8 (f : Int)] ⟨[], []⟩ (.bool true) ⟨[], []⟩ := by
  have h17 : Go.V.Call E0 17 [] ⟨[], []⟩ (.bool true) ⟨[], []⟩ := call_run 100000 (by kernel_rfl)
  have h18 := c18 x ⟨[], []⟩ hx
  have h19 := c19 (2 ^ 30) x hx (by omega) 1 ⟨[], []⟩
  have h21 := c21 (2 ^ 30) x hx (by omega) ⟨[], []⟩
  have h22 := c22 x hx ⟨[], []⟩
  rw [depth_eq x hx] at h22
  have h23 := c23 (2 ^ 30) x hx (by omega) ⟨[], []⟩
  have hok : greatI x = false → okI x := fun hg => by
    simp only [greatI, Bool.or_eq_false_iff] at hg
    exact ⟨wx, hx, fun y hy => by have := (over_short 80 x hg.1 y hy).1; omega⟩
  have h24 := fun hg => check24 x (hok hg) ⟨[], []⟩
  have h25 := fun hg => check25 x (hok hg) ⟨[], []⟩
  have hWi := walkI_fst x 1
  have hWd := walkI_snd x 1
  have hwk := fun lp => c80G (lp := lp) (2 ^ 30) x 1 hx (by omega)
  cases x with
  | mk k n s q l =>
    rw [encI_mk] at *
    refine T k n s q l f (itemsI (.mk k n s q l)) (deepsI (.mk k n s q l) 1) (itq (.mk k n s q l)) _ _ _ h17 h18 h19 h21 h22 h23 h24 h25 fun hg => ?_
    have hall := okI_items (hok hg)
    have t1 := T1 k n s q l f (itemsI (.mk k n s q l)) (deepsI (.mk k n s q l) 1) (itq (.mk k n s q l)) (walkI (.mk k n s q l) 1) (hwk 0 _ _ _ (rn1 (i4 k n s l q) f _ _ (itq (.mk k n s q l)) hx hall (walkI (.mk k n s q l) 1) hWi hWd _ 0 (Nat.zero_add _)))
    obtain ⟨k', hr⟩ := rn0 (i4 k n s l q) f _ _ (itq (.mk k n s q l)) hf hx hall (walkI (.mk k n s q l) 1) hWi hWd _ 0 (Nat.zero_add _) (by omega)
    rcases hr with hr | hr
    · exact T0 k n s q l f _ _ _ _ _ k' (.inl rfl) (hwk 0 _ _ _ hr) t1
    · exact T0 k n s q l f _ _ _ _ _ k' (.inr rfl) (hwk 0 _ _ _ hr) t1
end Go.V.W
