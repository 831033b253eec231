/- Check (item): the whole, given what 'wrong' answers. -/
import Derived.Test.YtgnfinbhnoofpaaDoorCheck
set_option linter.unusedVariables false
set_option linter.unusedSimpArgs false
set_option linter.unusedSectionVars false
open Go Go.V Go.Proofs
set_option maxRecDepth 100000
set_option maxHeartbeats 4000000
namespace Go.V.W
theorem frY_refl {m : Nat} : ∀ f : Fr, frY m f f = true
  | [] => rfl
  | (a, v) :: l => by simp [frY, Val.beq_refl, frY_refl l]
theorem keptYH_refl {m : Nat} : ∀ H : List Block, keptYH m H H = true
  | [] => rfl
  | a :: l => by simp [keptYH, Block.beq_refl, keptYH_refl l]
theorem keptYL_last {m : Nat} {r : LoopRec} : ∀ L : List LoopRec, keptYL m L (L ++ [r]) = true
  | [] => rfl
  | a :: l => by simp [keptYL, frY_refl, keptYL_last l]
theorem R24 {Q : Out → Prop} (cs : List Val) (S : St) (r : LoopRec) (v : Val) (hc : Go.V.Call E0 79 [.yield S.L.length, .pin cs 0] ⟨S.H, S.L ++ [r0 cs]⟩ v ⟨S.H, S.L ++ [r]⟩) (hr : r = r0 cs ∨ ∃ e, r = r1 cs e)
    (hq : EvC E0 (ctxOf E0 24) ⟨.code ((r.pending.map Item.code).toList ++ K24), r.fr, S⟩ Q) : EvC E0 (ctxOf E0 24) ⟨P24, [(2, .lv [.int .i64 0]), (10, .fn 79 [.pin cs 0])], S⟩ Q := by
  have hrec : recAt (ctxOf E0 24) ⟨P24, [(2, .lv [.int .i64 0]), (10, .fn 79 [.pin cs 0])], S⟩ = r0 cs := by kernel_rfl
  have hbusy : r.busy = false := by rcases hr with rfl | ⟨e, rfl⟩ <;> rfl
  have h3 : frY S.L.length [(2, .lv [.int .i64 0]), (10, .fn 79 [.pin cs 0])] r.fr = true := by
    rcases hr with rfl | ⟨e, rfl⟩
    · exact frY_refl _
    · simp [frY, r1, Val.noY, Val.noYs, Val.beq_refl]
  have hran : ranged ⟨P24, [(2, .lv [.int .i64 0]), (10, .fn 79 [.pin cs 0])], S⟩ r ⟨S.H, S.L ++ [r]⟩ = ⟨.code ((r.pending.map Item.code).toList ++ K24), r.fr, ⟨S.H, (S.L ++ [r]).take S.L.length⟩⟩ := by kernel_rfl
  refine evc_range (g := 79) (cap := [.pin cs 0]) (v := v) (S2 := ⟨S.H, S.L ++ [r]⟩) (r := r) (by kernel_rfl) (by rw [hrec]; exact hc) (by simp) (by simp) hbusy (keptYH_refl _) (keptYL_last _) h3 ?_
  rw [hran]
  simpa using hq
theorem c20 (k n : Int) (s : List UInt8) (q : Q) (l : List It) (S : St) : Go.V.Call E0 20 [.agg (i4 k n s l q)] S (.fn 79 [.pin (i4 k n s l q) 0]) S := by
  refine call_cfg (by kernel_rfl) ?_
  refine evc_g 10 ?_
  exact evc_endS (Val.fn 79 [Val.pin [Val.int IntKind.i64 k, Val.int IntKind.u64 n, Val.str s, Val.sli (encL l) l.length q] 0]) (by kernel_rfl) (by kernel_rfl) (by first | with_reducible rfl | assumption | (simp_all; done) | omega | (simp_all; omega)) (by first | rfl | simp [Val.low, Val.lows, low_encL, low_encI])
theorem c79 (k n : Int) (s : List UInt8) (q : Q) (l : List It) (S S' : St) (lp : Nat) (v : Val) (hw : Go.V.Call E0 80 [.agg (i4 k n s l q), .int .i64 1, .yield lp] S v S') : Go.V.Call E0 79 [.yield lp, .pin (i4 k n s l q) 0] S (.tup []) S' := by
  refine call_cfg (by kernel_rfl) ?_
  refine evc_g 3 ?_
  refine evc_c (hw) ?_
  refine evc_g 1 ?_
  exact evc_e (Val.tup []) (S')
/-- what Check answers, given what 'wrong' answers -/
def checkI (wr : It → Int) (x : It) : Int := if 64 < depthI x then 3 else firstW wr (itemsI x)
theorem c24 {P : It → Prop} {wr : It → Int} (hP : ∀ k n s q l, P (.mk k n s q l) → ∀ y ∈ l, P y) (hwr : ∀ y, P y → ∀ S, Go.V.Call E0 81 [.agg (encI y)] S (.int .i64 (wr y)) S) (x : It) (hx : P x) (hN : (itemsI x).length ≤ 2 ^ 30) (S : St) :
    Go.V.Call E0 24 [.agg (encI x)] S (.int .i64 (checkI wr x)) S := by
  have hd := c21 (2 ^ 30) x hN (by omega) S
  have hwalk := c80 (S0 := ⟨S.H, S.L ++ [r0 (encI x)]⟩) (S1 := fun e => ⟨S.H, S.L ++ [r1 (encI x) e]⟩) (lp := S.L.length) (wr := wr) hP (fun y d hy => by
    cases y with
    | mk k n s q l =>
      have hw := hwr _ hy
      rw [encI_mk] at hw ⊢
      exact ⟨fun h0 => round0 k n d s q l (encI x) S.H S.L (fun S => by have := hw S; rwa [h0] at this), fun h0 => round1 k n d s q l (encI x) S.H S.L _ h0 hw⟩) (2 ^ 30) x 1 hx hN (by omega)
  obtain ⟨w1, w2⟩ := hwalk
  have R : EvC E0 (ctxOf E0 24) ⟨P24, [(2, .lv [.int .i64 0]), (10, .fn 79 [.pin (encI x) 0])], S⟩ (Go.V.Fin E0 24 S (.int .i64 (firstW wr (itemsI x))) S) := by
    by_cases h0 : firstW wr (itemsI x) = 0
    · have hc := w1 h0
      rw [h0]
      have hc79 : Go.V.Call E0 79 [.yield S.L.length, .pin (encI x) 0] ⟨S.H, S.L ++ [r0 (encI x)]⟩ (.tup []) ⟨S.H, S.L ++ [r0 (encI x)]⟩ := by
        cases x with
        | mk k n s q l => rw [encI_mk] at hc ⊢; exact c79 k n s q l _ _ _ _ hc
      refine R24 (encI x) S (r0 (encI x)) _ hc79 (.inl rfl) ?_
      generalize encI x = cs
      show EvC E0 (ctxOf E0 24) ⟨.code K24, [(2, .lv [.int .i64 0]), (10, .fn 79 [.pin cs 0])], S⟩ _
      refine evc_g 5 ?_
      exact evc_endS (Val.int IntKind.i64 0) (by kernel_rfl) (by kernel_rfl) (by first | with_reducible rfl | assumption | (simp_all; done) | omega | (simp_all; omega)) (by first | rfl | simp [Val.low, Val.lows, low_encL, low_encI])
    · have hc := w2 h0
      have hc79 : Go.V.Call E0 79 [.yield S.L.length, .pin (encI x) 0] ⟨S.H, S.L ++ [r0 (encI x)]⟩ (.tup []) ⟨S.H, S.L ++ [r1 (encI x) (firstW wr (itemsI x))]⟩ := by
        cases x with
        | mk k n s q l => rw [encI_mk] at hc ⊢; exact c79 k n s q l _ _ _ _ hc
      refine R24 (encI x) S (r1 (encI x) (firstW wr (itemsI x))) _ hc79 (.inr ⟨_, rfl⟩) ?_
      generalize encI x = cs
      generalize firstW wr (itemsI x) = e
      show EvC E0 (ctxOf E0 24) ⟨.code (.code .ret :: K24), [(2, .lv [.int .i64 e]), (10, .fn 79 [.pin cs 0])], S⟩ _
      exact evc_endS (Val.int IntKind.i64 e) (by kernel_rfl) (by kernel_rfl) (by first | with_reducible rfl | assumption | (simp_all; done) | omega | (simp_all; omega)) (by first | rfl | simp [Val.low, Val.lows, low_encL, low_encI])
  clear w1 w2
  unfold checkI
  cases x with
  | mk k n s q l =>
    have ha := c20 k n s q l S
    rw [encI_mk] at *
    generalize depthI (.mk k n s q l) = D at *
    by_cases h : 64 < D
    · rw [if_pos h]
      clear R
      refine call_cfg (by kernel_rfl) ?_
      refine evc_g 9 ?_
      refine evc_c (hd) ?_
      refine evc_g 2 ?_
      refine evc_i 8 (decide ((↑D : Int) > 64)) true ?_
      refine evc_g 5 ?_
      exact evc_endS (Val.int IntKind.i64 3) (by kernel_rfl) (by kernel_rfl) (by first | with_reducible rfl | assumption | (simp_all; done) | omega | (simp_all; omega)) (by first | rfl | simp [Val.low, Val.lows, low_encL, low_encI])
    · rw [if_neg h]
      refine call_cfg (by kernel_rfl) ?_
      refine evc_g 9 ?_
      refine evc_c (hd) ?_
      refine evc_g 2 ?_
      refine evc_i 8 (decide ((↑D : Int) > 64)) false ?_
      refine evc_g 6 ?_
      refine evc_c (ha) ?_
      refine evc_g 2 ?_
      exact evc_a (R)
end Go.V.W
