/- Copy (item): what it makes, of any item, in any state. -/
import Derived.Test.YtgnfinbhnoofpaaDoorE0
import Derived.Test.YtgnfinbhnoofpaaDoorCopy
import Derived.Test.YtgnfinbhnoofpaaDoorVH
set_option linter.unusedVariables false
set_option linter.unusedSimpArgs false
set_option linter.unusedSectionVars false
open Go Go.V
set_option maxRecDepth 100000
set_option maxHeartbeats 4000000
namespace Go.V.W
/-- COPY, of any item, in any state -/
theorem c28 : ∀ (N : Nat) (x : It), (itemsI x).length ≤ N → N ≤ 2 ^ 30 → ∀ S, ∃ X cs, Go.V.Call E0 28 [.agg (encI x)] S (.agg cs) ⟨S.H ++ X, S.L⟩ ∧ Copied S x X cs
  | 0, x, h, _, _ => by have := itemsI_pos x; omega
  | N + 1, .mk k n s q [], _, _, S => by
    refine ⟨[], [.int .i64 k, .int .u64 n, .str s, .sli [] 0 .nil], ?_, ?_⟩
    · have hS : ({ H := S.H ++ [], L := S.L } : St) = S := by simp
      rw [hS]
      show Go.V.Call E0 28 [.agg [.int .i64 k, .int .u64 n, .str s, .sli [] 0 q]] S (.agg [.int .i64 k, .int .u64 n, .str s, .sli [] 0 .nil]) S
      refine call_cfg (by kernel_rfl) ?_
      refine evc_go 1000 38 (by kernel_rfl) ?_
      exact evc_end (Go.V.Val.agg [Go.V.Val.int Go.IntKind.i64 k, Go.V.Val.int Go.IntKind.u64 n, Go.V.Val.str s, Go.V.Val.sli [] 0 Go.V.Q.nil]) (S) (by kernel_rfl) (by first | with_reducible rfl | assumption | (simp_all; done) | omega | (simp_all; omega)) (by first | with_reducible rfl | assumption | (simp_all; done) | omega | (simp_all; omega))
    · simp [Copied, RepP]
  | N + 1, .mk k n s q (y :: r), h, hN, S => by
    simp only [itemsI, List.length_cons] at h
    have hcall : ∀ z ∈ y :: r, ∀ S, ∃ X cs, Go.V.Call E0 28 [.agg (encI z)] S (.agg cs) ⟨S.H ++ X, S.L⟩ ∧ Copied S z X cs := fun z hz S => c28 N z (by have := itemsL_mem hz; omega) (by omega) S
    obtain ⟨Y, cy, hcl, hcp⟩ := hcall y (by simp) S
    obtain ⟨l, hl⟩ : ∃ l, l = y :: r := ⟨_, rfl⟩
    have hlen : l.length ≤ 2 ^ 30 := by have := length_itemsL (y :: r); rw [hl]; omega
    have hc : cut (encL l) 0 4 = some (encI y) := by
      have := cut_enc (l := l) (i := 0) (y := y) (by rw [hl]; rfl)
      simpa using this
    have h0 : 0 < l.length := by rw [hl]; simp
    rw [← hl] at hcall
    cases y with
    | mk ky ny sy qy ly =>
      rw [encI_mk] at hc hcl
      have hcp' := hcp
      simp only [Copied, RepP] at hcp'
      obtain ⟨wy, rfl, _⟩ := hcp'
      have e1 : appendOp E0 ⟨S.H ++ Y, S.L⟩ 23 (.sli [] 0 .nil) (.sli [.int .i64 ky, .int .u64 ny, .str sy, wy] 1 .exact) = some (.sl (S.H.length + Y.length) 0 1 4 (.flex [Val.int .i64 ky, .int .u64 ny, .str sy, wy].length), .eh, ⟨S.H ++ (Y ++ [.cells [.int .i64 ky, .int .u64 ny, .str sy, wy] true]), S.L⟩) := by
        rw [app_exact (nb := 56) (.inl rfl) el23' rfl rfl (by omega) (by omega) (by omega) (by omega)]
        simp
      obtain ⟨X, cs, L, hX⟩ := L28 k n s q l S hlen hcall r.length 1 Y [] [.int .i64 ky, .int .u64 ny, .str sy, wy] [Val.int .i64 ky, .int .u64 ny, .str sy, wy].length (by rw [hl]; simp; omega) (by omega) rfl rfl (fun i z hi hz => by
        obtain rfl : i = 0 := by omega
        rw [hl] at hz
        simp only [List.getElem?_cons_zero, Option.some.injEq] at hz
        subst hz
        refine ⟨[.int .i64 ky, .int .u64 ny, .str sy, wy], rfl, ?_⟩
        simp only [Copied] at hcp
        refine hcp.mono fun b hb => ⟨⟨⟨hb.1, by omega⟩, by omega⟩, fun o ho => ?_⟩
        have hlt : b < (S.H ++ Y).length := by simp only [List.length_append]; omega
        rw [show S.H ++ (Y ++ [Block.cells [Val.int .i64 ky, .int .u64 ny, .str sy, wy] true]) = (S.H ++ Y) ++ [Block.cells [Val.int .i64 ky, .int .u64 ny, .str sy, wy] true] by simp, List.getElem?_append_left hlt]
        exact ho)
      rw [← hl]
      refine ⟨X, cs, ?_, hX⟩
      rw [encI_mk]
      rw [← List.append_assoc, ← List.length_append] at L
      refine call_cfg (by kernel_rfl) ?_
      refine evc_go 1000 31 (by kernel_rfl) ?_
      refine evc_is 12 (Decidable.decide (0 < (↑l.length : Int))) true (by kernel_rfl) (by first | with_reducible rfl | assumption | (simp_all; done) | omega | (simp_all; omega)) ?_
      refine evc_go 1000 6 (by kernel_rfl) ?_
      refine evc_idx (0) (l.length) (Go.V.encL l) 4 (by kernel_rfl) (by first | with_reducible rfl | assumption | (simp_all; done) | omega | (simp_all; omega)) (by kernel_rfl) ?_
      refine evc_cut (Go.V.encL l) (0) 4 (Go.V.i4 ky ny sy ly qy) .pure (by kernel_rfl) hc (by kernel_rfl) ?_
      refine evc_go 1000 7 (by kernel_rfl) ?_
      refine evc_call (by kernel_rfl) (by kernel_rfl) (hcl) (by kernel_rfl) ?_
      refine evc_go 1000 11 (by kernel_rfl) ?_
      exact evc_at (L) (by kernel_rfl) (by first | rfl | (simp_all; done))
end Go.V.W
