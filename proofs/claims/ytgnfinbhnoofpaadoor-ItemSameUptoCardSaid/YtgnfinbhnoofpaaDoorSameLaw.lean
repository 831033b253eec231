/- ItemSame (ullagelaw08): the whole call answers true. -/
import Derived.Test.YtgnfinbhnoofpaaDoorGreat
import Derived.Test.YtgnfinbhnoofpaaDoorLoops
import Derived.Test.YtgnfinbhnoofpaaDoorCopy2
set_option linter.unusedVariables false
set_option linter.unusedSimpArgs false
set_option linter.unusedSectionVars false
open Go Go.V
set_option maxRecDepth 100000
set_option maxHeartbeats 4000000
namespace Go.V.W
mutual
theorem sameI_comm : ∀ x y : It, sameI x y = sameI y x
  | .mk k n s _ l, .mk k' n' s' _ l' => by
    simp only [sameI, sameL_comm l l']
    rw [show (k == k') = (k' == k) from BEq.comm, show (n == n') = (n' == n) from BEq.comm, show (s == s') = (s' == s) from BEq.comm, show (l.length == l'.length) = (l'.length == l.length) from BEq.comm]
theorem sameL_comm : ∀ x y : List It, sameL x y = sameL y x
  | [], [] => rfl
  | [], _ :: _ => by simp [sameL]
  | _ :: _, [] => by simp [sameL]
  | x :: l, y :: l' => by simp only [sameL, sameI_comm x y, sameL_comm l l']
end
theorem c17 : Go.V.Call E0 17 [] ⟨[], []⟩ (.bool true) ⟨[], []⟩ := call_run 100000 (by kernel_rfl)
/-- THE LAW, of items of no more than so many items -/
theorem c4 (x y : It) (hx : (itemsI x).length ≤ 2 ^ 30) (hy : (itemsI y).length ≤ 2 ^ 30) (wx : x.wf) (wy : y.wf) : Go.V.Call E0 4 [.agg (encI x), .agg (encI y)] ⟨[], []⟩ (.bool true) ⟨[], []⟩ := by
  have g1 := c18 x ⟨[], []⟩ hx
  have g2 := c18 y ⟨[], []⟩ hy
  have s1 := c27 (2 ^ 30) x y (encI x) ⟨[], []⟩ hx wx (RepI_enc _ x)
  have s2 := c26 (2 ^ 30) x y (encI x) ⟨[], []⟩ hx wx (RepI_enc _ x)
  have s3 := c27 (2 ^ 30) y x (encI y) ⟨[], []⟩ hy wy (RepI_enc _ y)
  have s4 := c27 (2 ^ 30) x x (encI x) ⟨[], []⟩ hx wx (RepI_enc _ x)
  rw [sameI_comm] at s3
  rw [sameI_refl] at s4
  obtain ⟨X1, cs1, k1, r1⟩ := c28 (2 ^ 30) x hx (by omega) ⟨[], []⟩
  obtain ⟨X2, cs2, k2, r2⟩ := c28 (2 ^ 30) x hx (by omega) ⟨X1, []⟩
  simp only [List.nil_append] at k1
  simp only [Copied, List.nil_append, List.length_nil, Nat.zero_le, true_and, Nat.zero_add] at r1
  simp only [Copied] at r2
  have r1' : RepP (X1 ++ X2) (fun c => c < X1.length) x cs1 := r1.mono fun b hb => ⟨hb, fun o ho => by rw [List.getElem?_append_left hb]; exact ho⟩
  have s5 := c26 (2 ^ 30) x x cs1 ⟨X1 ++ X2, []⟩ hx wx r1'.rep
  rw [sameI_refl] at s5
  generalize hg1 : greatI x = e1 at g1
  generalize hg2 : greatI y = e2 at g2
  generalize hs : sameI x y = e3 at s1 s2 s3
  have hlenx := hx
  have wx' := wx
  cases x with
  | mk k n s q l =>
    cases y with
    | mk k' n' s' q' l' =>
      simp only [encI_mk] at *
      have hl30 : l.length ≤ 2 ^ 30 := by
        simp only [itemsI, List.length_cons] at hx
        have := length_itemsL l; omega
      have r2' : RepP (X1 ++ X2) (fun b => X1.length ≤ b) (.mk k n s q l) cs2 := r2.mono fun b hb => ⟨hb.1, fun o ho => ho⟩
      have q2 := r2'
      simp only [RepP] at q2
      obtain ⟨w2, rfl, _⟩ := q2
      have s6 := c26 (2 ^ 30) (.mk k n s q l) (.mk k n s q l) [.int .i64 k, .int .u64 n, .str s, w2] ⟨X1 ++ X2, []⟩ hx wx r2'.rep
      rw [sameI_refl, encI_mk] at s6
      by_cases hnil : l = []
      · have q1 := r1'
        simp only [RepP, hnil, true_and, List.length_nil] at q1
        obtain ⟨w1, rfl, hw1⟩ := q1
        have hw1' : w1 = .sli [] 0 .nil ∨ ∃ b hc, w1 = .sl b 0 0 4 (.flex hc) := by
          rcases hw1 with rfl | ⟨b, hc, _, rfl, _, _, _⟩
          · exact .inl rfl
          · exact .inr ⟨b, _, rfl⟩
        rcases hw1' with rfl | ⟨b, hc, rfl⟩
        refine call_cfg (by kernel_rfl) ?_
        refine evc_go 1000 9 (by kernel_rfl) ?_
        refine evc_call (by kernel_rfl) (by kernel_rfl) (Go.V.W.c17) (by kernel_rfl) ?_
        refine evc_go 1000 8 (by kernel_rfl) ?_
        refine evc_call (by kernel_rfl) (by kernel_rfl) (g1) (by kernel_rfl) ?_
        refine evc_go 1000 1 (by kernel_rfl) ?_
        refine evc_split 13 (e1) (by kernel_rfl) (fun h12 => ?_) (fun h12 => ?_)
        · refine evc_go 1000 9 (by kernel_rfl) ?_
          exact evc_end (Go.V.Val.bool Bool.true) ({ H := [], L := [] }) (by kernel_rfl) (by first | with_reducible rfl | assumption | (simp_all; done) | omega | (simp_all; omega)) (by first | with_reducible rfl | assumption | (simp_all; done) | omega | (simp_all; omega))
        · refine evc_go 1000 1 (by kernel_rfl) ?_
          refine evc_call (by kernel_rfl) (by kernel_rfl) (g2) (by kernel_rfl) ?_
          refine evc_go 1000 2 (by kernel_rfl) ?_
          refine evc_split 16 (e2) (by kernel_rfl) (fun h11 => ?_) (fun h11 => ?_)
          · refine evc_go 1000 5 (by kernel_rfl) ?_
            exact evc_end (Go.V.Val.bool Bool.true) ({ H := [], L := [] }) (by kernel_rfl) (by first | with_reducible rfl | assumption | (simp_all; done) | omega | (simp_all; omega)) (by first | with_reducible rfl | assumption | (simp_all; done) | omega | (simp_all; omega))
          · refine evc_go 1000 7 (by kernel_rfl) ?_
            refine evc_call (by kernel_rfl) (by kernel_rfl) (s1) (by kernel_rfl) ?_
            refine evc_go 1000 2 (by kernel_rfl) ?_
            refine evc_call (by kernel_rfl) (by kernel_rfl) (s2) (by kernel_rfl) ?_
            refine evc_go 1000 2 (by kernel_rfl) ?_
            refine evc_is 24 (!e3 == e3) false (by kernel_rfl) (by first | with_reducible rfl | assumption | (simp_all; done) | omega | (simp_all; omega)) ?_
            refine evc_go 1000 2 (by kernel_rfl) ?_
            refine evc_call (by kernel_rfl) (by kernel_rfl) (s3) (by kernel_rfl) ?_
            refine evc_go 1000 2 (by kernel_rfl) ?_
            refine evc_call (by kernel_rfl) (by kernel_rfl) (s2) (by kernel_rfl) ?_
            refine evc_go 1000 3 (by kernel_rfl) ?_
            refine evc_is 33 (!e3 == e3) false (by kernel_rfl) (by first | with_reducible rfl | assumption | (simp_all; done) | omega | (simp_all; omega)) ?_
            refine evc_go 1000 2 (by kernel_rfl) ?_
            refine evc_call (by kernel_rfl) (by kernel_rfl) (s4) (by kernel_rfl) ?_
            refine evc_go 1000 8 (by kernel_rfl) ?_
            refine evc_call (by kernel_rfl) (by kernel_rfl) (k1) (by kernel_rfl) ?_
            refine evc_go 1000 1 (by kernel_rfl) ?_
            refine evc_call (by kernel_rfl) (by kernel_rfl) (k2) (by kernel_rfl) ?_
            refine evc_go 1000 10 (by kernel_rfl) ?_
            refine evc_call (by kernel_rfl) (by kernel_rfl) (s5) (by kernel_rfl) ?_
            refine evc_go 1000 30 (by kernel_rfl) ?_
            refine evc_call (by kernel_rfl) (by kernel_rfl) (s6) (by kernel_rfl) ?_
            refine evc_go 1000 2 (by kernel_rfl) ?_
            exact evc_end (Go.V.Val.bool Bool.true) ({ H := [], L := [] }) (by kernel_rfl) (by first | with_reducible rfl | assumption | (simp_all; done) | omega | (simp_all; omega)) (by first | with_reducible rfl | assumption | (simp_all; done) | omega | (simp_all; omega))
        refine call_cfg (by kernel_rfl) ?_
        refine evc_go 1000 9 (by kernel_rfl) ?_
        refine evc_call (by kernel_rfl) (by kernel_rfl) (Go.V.W.c17) (by kernel_rfl) ?_
        refine evc_go 1000 8 (by kernel_rfl) ?_
        refine evc_call (by kernel_rfl) (by kernel_rfl) (g1) (by kernel_rfl) ?_
        refine evc_go 1000 1 (by kernel_rfl) ?_
        refine evc_split 13 (e1) (by kernel_rfl) (fun h12 => ?_) (fun h12 => ?_)
        · refine evc_go 1000 9 (by kernel_rfl) ?_
          exact evc_end (Go.V.Val.bool Bool.true) ({ H := [], L := [] }) (by kernel_rfl) (by first | with_reducible rfl | assumption | (simp_all; done) | omega | (simp_all; omega)) (by first | with_reducible rfl | assumption | (simp_all; done) | omega | (simp_all; omega))
        · refine evc_go 1000 1 (by kernel_rfl) ?_
          refine evc_call (by kernel_rfl) (by kernel_rfl) (g2) (by kernel_rfl) ?_
          refine evc_go 1000 2 (by kernel_rfl) ?_
          refine evc_split 16 (e2) (by kernel_rfl) (fun h11 => ?_) (fun h11 => ?_)
          · refine evc_go 1000 5 (by kernel_rfl) ?_
            exact evc_end (Go.V.Val.bool Bool.true) ({ H := [], L := [] }) (by kernel_rfl) (by first | with_reducible rfl | assumption | (simp_all; done) | omega | (simp_all; omega)) (by first | with_reducible rfl | assumption | (simp_all; done) | omega | (simp_all; omega))
          · refine evc_go 1000 7 (by kernel_rfl) ?_
            refine evc_call (by kernel_rfl) (by kernel_rfl) (s1) (by kernel_rfl) ?_
            refine evc_go 1000 2 (by kernel_rfl) ?_
            refine evc_call (by kernel_rfl) (by kernel_rfl) (s2) (by kernel_rfl) ?_
            refine evc_go 1000 2 (by kernel_rfl) ?_
            refine evc_is 24 (!e3 == e3) false (by kernel_rfl) (by first | with_reducible rfl | assumption | (simp_all; done) | omega | (simp_all; omega)) ?_
            refine evc_go 1000 2 (by kernel_rfl) ?_
            refine evc_call (by kernel_rfl) (by kernel_rfl) (s3) (by kernel_rfl) ?_
            refine evc_go 1000 2 (by kernel_rfl) ?_
            refine evc_call (by kernel_rfl) (by kernel_rfl) (s2) (by kernel_rfl) ?_
            refine evc_go 1000 3 (by kernel_rfl) ?_
            refine evc_is 33 (!e3 == e3) false (by kernel_rfl) (by first | with_reducible rfl | assumption | (simp_all; done) | omega | (simp_all; omega)) ?_
            refine evc_go 1000 2 (by kernel_rfl) ?_
            refine evc_call (by kernel_rfl) (by kernel_rfl) (s4) (by kernel_rfl) ?_
            refine evc_go 1000 8 (by kernel_rfl) ?_
            refine evc_call (by kernel_rfl) (by kernel_rfl) (k1) (by kernel_rfl) ?_
            refine evc_go 1000 1 (by kernel_rfl) ?_
            refine evc_call (by kernel_rfl) (by kernel_rfl) (k2) (by kernel_rfl) ?_
            refine evc_go 1000 10 (by kernel_rfl) ?_
            refine evc_call (by kernel_rfl) (by kernel_rfl) (s5) (by kernel_rfl) ?_
            refine evc_go 1000 30 (by kernel_rfl) ?_
            refine evc_call (by kernel_rfl) (by kernel_rfl) (s6) (by kernel_rfl) ?_
            refine evc_go 1000 2 (by kernel_rfl) ?_
            exact evc_end (Go.V.Val.bool Bool.true) ({ H := [], L := [] }) (by kernel_rfl) (by first | with_reducible rfl | assumption | (simp_all; done) | omega | (simp_all; omega)) (by first | with_reducible rfl | assumption | (simp_all; done) | omega | (simp_all; omega))
      · obtain ⟨bc, W, rfl, hbc, hM⟩ := MInv.of hnil r1'
        have hpos : 0 < l.length := by cases l with | nil => exact absurd rfl hnil | cons => simp
        have L := LOA (2 ^ 30) hx wx hl30 hpos (X1 ++ X2) ⟨hM, r2', hbc⟩
        refine call_cfg (by kernel_rfl) ?_
        refine evc_go 1000 9 (by kernel_rfl) ?_
        refine evc_call (by kernel_rfl) (by kernel_rfl) (Go.V.W.c17) (by kernel_rfl) ?_
        refine evc_go 1000 8 (by kernel_rfl) ?_
        refine evc_call (by kernel_rfl) (by kernel_rfl) (g1) (by kernel_rfl) ?_
        refine evc_go 1000 1 (by kernel_rfl) ?_
        refine evc_split 13 (e1) (by kernel_rfl) (fun h12 => ?_) (fun h12 => ?_)
        · refine evc_go 1000 9 (by kernel_rfl) ?_
          exact evc_end (Go.V.Val.bool Bool.true) ({ H := [], L := [] }) (by kernel_rfl) (by first | with_reducible rfl | assumption | (simp_all; done) | omega | (simp_all; omega)) (by first | with_reducible rfl | assumption | (simp_all; done) | omega | (simp_all; omega))
        · refine evc_go 1000 1 (by kernel_rfl) ?_
          refine evc_call (by kernel_rfl) (by kernel_rfl) (g2) (by kernel_rfl) ?_
          refine evc_go 1000 2 (by kernel_rfl) ?_
          refine evc_split 16 (e2) (by kernel_rfl) (fun h11 => ?_) (fun h11 => ?_)
          · refine evc_go 1000 5 (by kernel_rfl) ?_
            exact evc_end (Go.V.Val.bool Bool.true) ({ H := [], L := [] }) (by kernel_rfl) (by first | with_reducible rfl | assumption | (simp_all; done) | omega | (simp_all; omega)) (by first | with_reducible rfl | assumption | (simp_all; done) | omega | (simp_all; omega))
          · refine evc_go 1000 7 (by kernel_rfl) ?_
            refine evc_call (by kernel_rfl) (by kernel_rfl) (s1) (by kernel_rfl) ?_
            refine evc_go 1000 2 (by kernel_rfl) ?_
            refine evc_call (by kernel_rfl) (by kernel_rfl) (s2) (by kernel_rfl) ?_
            refine evc_go 1000 2 (by kernel_rfl) ?_
            refine evc_is 24 (!e3 == e3) false (by kernel_rfl) (by first | with_reducible rfl | assumption | (simp_all; done) | omega | (simp_all; omega)) ?_
            refine evc_go 1000 2 (by kernel_rfl) ?_
            refine evc_call (by kernel_rfl) (by kernel_rfl) (s3) (by kernel_rfl) ?_
            refine evc_go 1000 2 (by kernel_rfl) ?_
            refine evc_call (by kernel_rfl) (by kernel_rfl) (s2) (by kernel_rfl) ?_
            refine evc_go 1000 3 (by kernel_rfl) ?_
            refine evc_is 33 (!e3 == e3) false (by kernel_rfl) (by first | with_reducible rfl | assumption | (simp_all; done) | omega | (simp_all; omega)) ?_
            refine evc_go 1000 2 (by kernel_rfl) ?_
            refine evc_call (by kernel_rfl) (by kernel_rfl) (s4) (by kernel_rfl) ?_
            refine evc_go 1000 8 (by kernel_rfl) ?_
            refine evc_call (by kernel_rfl) (by kernel_rfl) (k1) (by kernel_rfl) ?_
            refine evc_go 1000 1 (by kernel_rfl) ?_
            refine evc_call (by kernel_rfl) (by kernel_rfl) (k2) (by kernel_rfl) ?_
            refine evc_go 1000 10 (by kernel_rfl) ?_
            refine evc_call (by kernel_rfl) (by kernel_rfl) (s5) (by kernel_rfl) ?_
            refine evc_go 1000 11 (by kernel_rfl) ?_
            exact evc_at (L) (by kernel_rfl) (by first | rfl | (simp_all; done))
end Go.V.W
