/- walk (item), whatever the rounds do: it hands on all items, in order, till one isn't wanted. -/
import Derived.Test.YtgnfinbhnoofpaaDoorVH
import Derived.Test.YtgnfinbhnoofpaaDoorWalk
set_option linter.unusedVariables false
set_option linter.unusedSimpArgs false
set_option linter.unusedSectionVars false
open Go Go.V
set_option maxRecDepth 100000
set_option maxHeartbeats 4000000
namespace Go.V.W
mutual
/-- all items, and how deep each stands -/
def walkI : It → Int → List (It × Int)
  | .mk k n s q l, d => (.mk k n s q l, d) :: walkL l (IntKind.wrap .i64 (d + 1))
def walkL : List It → Int → List (It × Int)
  | [], _ => []
  | x :: l, d => walkI x d ++ walkL l d
end
mutual
theorem walkI_fst : ∀ (x : It) (d : Int), (walkI x d).map (·.1) = itemsI x
  | .mk k n s q l, d => by simp only [walkI, itemsI, List.map_cons, walkL_fst l]
theorem walkL_fst : ∀ (l : List It) (d : Int), (walkL l d).map (·.1) = itemsL l
  | [], _ => rfl
  | x :: l, d => by simp only [walkL, itemsL, List.map_append, walkI_fst x, walkL_fst l]
end
mutual
theorem walkI_snd : ∀ (x : It) (d : Int), (walkI x d).map (·.2) = deepsI x d
  | .mk k n s q l, d => by simp only [walkI, deepsI, List.map_cons, walkL_snd l]
theorem walkL_snd : ∀ (l : List It) (d : Int), (walkL l d).map (·.2) = deepsL l d
  | [], _ => rfl
  | x :: l, d => by simp only [walkL, deepsL, List.map_append, walkI_snd x, walkL_snd l]
end
/-- rounds, one after the other -/
def Rn (lp : Nat) : List (It × Int) → St → Bool → St → Prop
  | [], S, b, S' => b = true ∧ S' = S
  | p :: ps, S, b, S' => (∃ S1, Yld E0 lp [.int .i64 p.2, .agg (encI p.1)] S (.bool true) S1 ∧ Rn lp ps S1 b S') ∨ (Yld E0 lp [.int .i64 p.2, .agg (encI p.1)] S (.bool false) S' ∧ b = false)
theorem Rn_app {lp : Nat} : ∀ {a c : List (It × Int)} {S : St} {b : Bool} {S' : St}, Rn lp (a ++ c) S b S' → (∃ S1, Rn lp a S true S1 ∧ Rn lp c S1 b S') ∨ (Rn lp a S false S' ∧ b = false)
  | [], c, S, b, S', h => .inl ⟨S, by simp [Rn], h⟩
  | p :: a, c, S, b, S', h => by
    simp only [List.cons_append, Rn] at h
    rcases h with ⟨S1, hy, hr⟩ | ⟨hy, rfl⟩
    · rcases Rn_app hr with ⟨S2, h1, h2⟩ | ⟨h1, rfl⟩
      · exact .inl ⟨S2, by simp only [Rn]; exact .inl ⟨S1, hy, h1⟩, h2⟩
      · exact .inr ⟨by simp only [Rn]; exact .inl ⟨S1, hy, h1⟩, rfl⟩
    · exact .inr ⟨by simp only [Rn]; exact .inr ⟨hy, trivial⟩, rfl⟩
section
variable {lp : Nat}
theorem L80G (S0 : St) (d : Int) (l : List It) (q : Q) (hlen : l.length ≤ 2 ^ 30) (hcall : ∀ y ∈ l, ∀ S b S', Rn lp (walkI y (IntKind.wrap .i64 (d + 1))) S b S' → Go.V.Call E0 80 [.agg (encI y), .int .i64 (IntKind.wrap .i64 (d + 1)), .yield lp] S (.bool b) S') :
    ∀ (m i : Nat), i + m = l.length → ∀ (S : St) (b : Bool) (S' : St), Rn lp (walkL (l.drop i) (IntKind.wrap .i64 (d + 1))) S b S' →
    EvC E0 (ctxOf E0 80) ⟨P80, [(1, .int .i64 d), (2, .yield lp), (15, .sli (encL l) l.length q), (16, .int .i64 (l.length : Int)), (17, .int .i64 (i : Int))], S⟩ (Go.V.Fin E0 80 S0 (.bool b) S') := by
  intro m
  induction m with
  | zero =>
    intro i hi S b S' h
    have e : l.drop i = [] := List.drop_eq_nil_of_le (by omega)
    rw [e] at h
    simp only [walkL, Rn] at h
    obtain ⟨rfl, rfl⟩ := h
    have g : ¬ (i : Int) < (l.length : Int) := by omega
    clear hcall
    refine evc_go 1000 5 (by kernel_rfl) ?_
    refine evc_is 18 (Decidable.decide ((↑i : Int) < (↑l.length : Int))) false (by kernel_rfl) (by first | with_reducible rfl | assumption | (simp_all; done) | omega | (simp_all; omega) | ((try simp only [decide_eq_true_eq, decide_eq_false_iff_not, beq_iff_eq, beq_eq_false_iff_ne, ne_eq, Bool.and_eq_true, Bool.or_eq_true] at *); (repeat' split) <;> first | rfl | (exfalso; omega))) ?_
    refine evc_go 1000 6 (by kernel_rfl) ?_
    exact evc_end (Go.V.Val.bool Bool.true) (S') (by kernel_rfl) (by first | with_reducible rfl | assumption | (simp_all; done) | omega | (simp_all; omega) | ((try simp only [decide_eq_true_eq, decide_eq_false_iff_not, beq_iff_eq, beq_eq_false_iff_ne, ne_eq, Bool.and_eq_true, Bool.or_eq_true] at *); (repeat' split) <;> first | rfl | (exfalso; omega))) (by first | with_reducible rfl | assumption | (simp_all; done) | omega | (simp_all; omega) | ((try simp only [decide_eq_true_eq, decide_eq_false_iff_not, beq_iff_eq, beq_eq_false_iff_ne, ne_eq, Bool.and_eq_true, Bool.or_eq_true] at *); (repeat' split) <;> first | rfl | (exfalso; omega)))
  | succ m ihm =>
    intro i hi S b S' h
    have hlt : i < l.length := by omega
    have g : (i : Int) < (l.length : Int) := by omega
    obtain ⟨y, hy⟩ : ∃ y, l[i]? = some y := ⟨l[i], List.getElem?_eq_getElem hlt⟩
    have hc := cut_enc hy
    have hdr : l.drop i = y :: l.drop (i + 1) := by
      obtain ⟨_, rfl⟩ := List.getElem?_eq_some_iff.1 hy
      exact List.drop_eq_getElem_cons hlt
    rw [hdr] at h
    simp only [walkL] at h
    have hcl := hcall y (List.mem_of_getElem? hy) S
    rcases Rn_app h with ⟨S1, h1, h2⟩ | ⟨h1, rfl⟩
    · have c := hcl true S1 h1
      have ih := ihm (i + 1) (by omega) S1 b S' h2
      clear ihm hdr hcall hcl h h1 h2
      cases y with
      | mk ky ny sy qy ly =>
        rw [encI_mk] at hc c
        refine evc_go 1000 5 (by kernel_rfl) ?_
        refine evc_is 18 (Decidable.decide ((↑i : Int) < (↑l.length : Int))) true (by kernel_rfl) (by first | with_reducible rfl | assumption | (simp_all; done) | omega | (simp_all; omega) | ((try simp only [decide_eq_true_eq, decide_eq_false_iff_not, beq_iff_eq, beq_eq_false_iff_ne, ne_eq, Bool.and_eq_true, Bool.or_eq_true] at *); (repeat' split) <;> first | rfl | (exfalso; omega))) ?_
        refine evc_go 1000 6 (by kernel_rfl) ?_
        refine evc_idx (i) (l.length) (Go.V.encL l) 4 (by kernel_rfl) (by first | with_reducible rfl | assumption | (simp_all; done) | omega | (simp_all; omega) | ((try simp only [decide_eq_true_eq, decide_eq_false_iff_not, beq_iff_eq, beq_eq_false_iff_ne, ne_eq, Bool.and_eq_true, Bool.or_eq_true] at *); (repeat' split) <;> first | rfl | (exfalso; omega))) (by kernel_rfl) ?_
        refine evc_cut (Go.V.encL l) (i * 4) 4 (Go.V.i4 ky ny sy ly qy) .pure (by kernel_rfl) hc (by kernel_rfl) ?_
        refine evc_go 1000 9 (by kernel_rfl) ?_
        refine evc_call (by kernel_rfl) (by kernel_rfl) (c) (by kernel_rfl) ?_
        refine evc_go 1000 10 (by kernel_rfl) ?_
        refine evc_set 17 (Go.V.Val.int Go.IntKind.i64 (Go.IntKind.i64.wrap ((↑i : Int) + 1))) (Go.V.Val.int Go.IntKind.i64 (↑(i + 1) : Int)) (by kernel_rfl) (congrArg (Go.V.Val.int Go.IntKind.i64) (wrap_nat (i := i) (m := 1) (by omega))) ?_
        exact evc_at (ih) (by kernel_rfl) (by first | rfl | (simp_all; done))
    · have c := hcl false S' h1
      clear ihm hdr hcall hcl h h1
      cases y with
      | mk ky ny sy qy ly =>
        rw [encI_mk] at hc c
        refine evc_go 1000 5 (by kernel_rfl) ?_
        refine evc_is 18 (Decidable.decide ((↑i : Int) < (↑l.length : Int))) true (by kernel_rfl) (by first | with_reducible rfl | assumption | (simp_all; done) | omega | (simp_all; omega) | ((try simp only [decide_eq_true_eq, decide_eq_false_iff_not, beq_iff_eq, beq_eq_false_iff_ne, ne_eq, Bool.and_eq_true, Bool.or_eq_true] at *); (repeat' split) <;> first | rfl | (exfalso; omega))) ?_
        refine evc_go 1000 6 (by kernel_rfl) ?_
        refine evc_idx (i) (l.length) (Go.V.encL l) 4 (by kernel_rfl) (by first | with_reducible rfl | assumption | (simp_all; done) | omega | (simp_all; omega) | ((try simp only [decide_eq_true_eq, decide_eq_false_iff_not, beq_iff_eq, beq_eq_false_iff_ne, ne_eq, Bool.and_eq_true, Bool.or_eq_true] at *); (repeat' split) <;> first | rfl | (exfalso; omega))) (by kernel_rfl) ?_
        refine evc_cut (Go.V.encL l) (i * 4) 4 (Go.V.i4 ky ny sy ly qy) .pure (by kernel_rfl) hc (by kernel_rfl) ?_
        refine evc_go 1000 9 (by kernel_rfl) ?_
        refine evc_call (by kernel_rfl) (by kernel_rfl) (c) (by kernel_rfl) ?_
        refine evc_go 1000 7 (by kernel_rfl) ?_
        exact evc_end (Go.V.Val.bool Bool.false) (S') (by kernel_rfl) (by first | with_reducible rfl | assumption | (simp_all; done) | omega | (simp_all; omega) | ((try simp only [decide_eq_true_eq, decide_eq_false_iff_not, beq_iff_eq, beq_eq_false_iff_ne, ne_eq, Bool.and_eq_true, Bool.or_eq_true] at *); (repeat' split) <;> first | rfl | (exfalso; omega))) (by first | with_reducible rfl | assumption | (simp_all; done) | omega | (simp_all; omega) | ((try simp only [decide_eq_true_eq, decide_eq_false_iff_not, beq_iff_eq, beq_eq_false_iff_ne, ne_eq, Bool.and_eq_true, Bool.or_eq_true] at *); (repeat' split) <;> first | rfl | (exfalso; omega)))
/-- WALK, whatever the rounds do -/
theorem c80G : ∀ (N : Nat) (x : It) (d : Int), (itemsI x).length ≤ N → N ≤ 2 ^ 30 → ∀ (S : St) (b : Bool) (S' : St), Rn lp (walkI x d) S b S' → Go.V.Call E0 80 [.agg (encI x), .int .i64 d, .yield lp] S (.bool b) S'
  | 0, x, _, h, _, _, _, _, _ => by have := itemsI_pos x; omega
  | N + 1, .mk k n s q l, d, h, hN, S, b, S', hr => by
    simp only [itemsI, List.length_cons] at h
    have hcall : ∀ y ∈ l, ∀ S b S', Rn lp (walkI y (IntKind.wrap .i64 (d + 1))) S b S' → Go.V.Call E0 80 [.agg (encI y), .int .i64 (IntKind.wrap .i64 (d + 1)), .yield lp] S (.bool b) S' := fun y hm => c80G N y _ (by have := itemsL_mem hm; omega) (by omega)
    simp only [walkI, Rn] at hr
    rw [encI_mk] at *
    rcases hr with ⟨S1, y1, h1⟩ | ⟨y1, rfl⟩
    · have L := L80G S d l q (by have := length_itemsL l; omega) hcall l.length 0 (by omega) S1 b S' (by simpa using h1)
      clear hcall h1
      refine call_cfg (by kernel_rfl) ?_
      refine evc_go 1000 11 (by kernel_rfl) ?_
      refine evc_yld (by kernel_rfl) (by kernel_rfl) (y1) (by kernel_rfl) ?_
      refine evc_go 1000 14 (by kernel_rfl) ?_
      exact evc_at (L) (by kernel_rfl) (by first | rfl | (simp_all; done))
    · clear hcall
      refine call_cfg (by kernel_rfl) ?_
      refine evc_go 1000 11 (by kernel_rfl) ?_
      refine evc_yld (by kernel_rfl) (by kernel_rfl) (y1) (by kernel_rfl) ?_
      refine evc_go 1000 7 (by kernel_rfl) ?_
      exact evc_end (Go.V.Val.bool Bool.false) (S') (by kernel_rfl) (by first | with_reducible rfl | assumption | (simp_all; done) | omega | (simp_all; omega) | ((try simp only [decide_eq_true_eq, decide_eq_false_iff_not, beq_iff_eq, beq_eq_false_iff_ne, ne_eq, Bool.and_eq_true, Bool.or_eq_true] at *); (repeat' split) <;> first | rfl | (exfalso; omega))) (by first | with_reducible rfl | assumption | (simp_all; done) | omega | (simp_all; omega) | ((try simp only [decide_eq_true_eq, decide_eq_false_iff_not, beq_iff_eq, beq_eq_false_iff_ne, ne_eq, Bool.and_eq_true, Bool.or_eq_true] at *); (repeat' split) <;> first | rfl | (exfalso; omega)))
end
end Go.V.W
