/- utf.Valid: what it answers of any text. -/
import Derived.Test.YtgnfinbhnoofpaaDoorUtf
set_option linter.unusedVariables false
set_option linter.unusedSimpArgs false
set_option linter.unusedSectionVars false
open Go Go.V
set_option maxRecDepth 100000
set_option maxHeartbeats 4000000
namespace Go.V.W
theorem c145 (S : St) (b : Nat) (w : U8) (hh : hcells S b none = some (encU w)) : Go.V.Call E0 145 [.ptr b 0 none] S (.bool w.done) S := by
  obtain ⟨left, lo, hi, bad⟩ := w
  unfold U8.done
  simp only [encU] at *
  refine call_cfg (by kernel_rfl) ?_
  refine evc_g 10 ?_
  refine evc_nilG (S) (b) (0) (Option.none) ([Val.int IntKind.i64 left, Val.int IntKind.u8 (↑lo : Int), Val.int IntKind.u8 (↑hi : Int), Val.bool bad]) (by kernel_rfl) (by kernel_rfl) hh (by kernel_rfl) ?_
  refine evc_fldG (S) (b) (0) (Option.none) 3 0 ([Val.int IntKind.i64 left, Val.int IntKind.u8 (↑lo : Int), Val.int IntKind.u8 (↑hi : Int), Val.bool bad]) (by kernel_rfl) (by kernel_rfl) hh (by kernel_rfl) ?_
  refine evc_getG (S) (b) (Option.none) ([Val.int IntKind.i64 left, Val.int IntKind.u8 (↑lo : Int), Val.int IntKind.u8 (↑hi : Int), Val.bool bad]) (3) (Val.bool bad) (by kernel_rfl) (by kernel_rfl) hh (by kernel_rfl) (by kernel_rfl) ?_
  refine evc_g 3 ?_
  refine evc_s 12 (!bad) (fun h12 => ?_) (fun h12 => ?_)
  · refine evc_g 1 ?_
    refine evc_nilG (S) (b) (0) (Option.none) ([Val.int IntKind.i64 left, Val.int IntKind.u8 (↑lo : Int), Val.int IntKind.u8 (↑hi : Int), Val.bool bad]) (by kernel_rfl) (by kernel_rfl) hh (by kernel_rfl) ?_
    refine evc_fldG (S) (b) (0) (Option.none) 0 0 ([Val.int IntKind.i64 left, Val.int IntKind.u8 (↑lo : Int), Val.int IntKind.u8 (↑hi : Int), Val.bool bad]) (by kernel_rfl) (by kernel_rfl) hh (by kernel_rfl) ?_
    refine evc_getG (S) (b) (Option.none) ([Val.int IntKind.i64 left, Val.int IntKind.u8 (↑lo : Int), Val.int IntKind.u8 (↑hi : Int), Val.bool bad]) (0) (Val.int IntKind.i64 left) (by kernel_rfl) (by kernel_rfl) hh (by kernel_rfl) (by kernel_rfl) ?_
    refine evc_g 4 ?_
    exact evc_t (Val.bool (left == 0))
  · refine evc_g 8 ?_
    exact evc_t (Val.bool Bool.false)
def _root_.Go.V.U8.ok (w : U8) : Prop := w.bad = false → 0 ≤ w.left ∧ w.left ≤ 3
theorem begin_range : ∀ c : _root_.Fin 256, (beginU c.val).1 ≤ 3 := by decide +kernel
theorem ok_step {w : U8} {c : UInt8} (h : w.ok) : (w.step c.toNat).ok := by
  unfold U8.step
  split
  · exact h
  · rename_i hb
    have hl := h (by simpa using hb)
    split
    · intro h'
      simp only [decide_eq_false_iff_not] at h'
      exact ⟨by simpa using h', begin_range ⟨c.toNat, UInt8.toNat_lt c⟩⟩
    · split
      · intro h'; simp at h'
      · intro _; simp only; omega
noncomputable def P112 : Pos := (goT E0 1 (ctxOf E0 112) 17 (entry E0 112 [.str []] ⟨[], []⟩)).pos
theorem L112 (s : List UInt8) (hs : s.length ≤ 2 ^ 60) (S : St) : ∀ (m i : Nat) (w : U8), i + m = s.length → w.ok →
    EvC E0 (ctxOf E0 112) ⟨P112, [(0, .str s), (3, .ptr S.H.length 0 none), (6, .int .i64 (s.length : Int)), (7, .int .i64 (i : Int))], ⟨S.H ++ [.cells (encU w) false], S.L⟩⟩ (Go.V.Fin E0 112 S (.bool (w.steps (s.drop i)).done) S) := by
  intro m
  induction m with
  | zero =>
    intro i w hi hw
    have e : s.drop i = [] := List.drop_eq_nil_of_le (by omega)
    have h145 := c145 ⟨S.H ++ [.cells (encU w) false], S.L⟩ S.H.length w (hc_top (i := 0) rfl rfl)
    rw [e]
    simp only [U8.steps, List.foldl_nil]
    generalize w.done = r at *
    refine evc_g 5 ?_
    refine evc_i 8 (decide ((↑i : Int) < (↑s.length : Int))) false ?_
    refine evc_g 4 ?_
    refine evc_c (h145) ?_
    refine evc_g 2 ?_
    exact evc_endX (Val.bool r) ([Go.V.Block.cells [Val.int IntKind.i64 w.1, Val.int IntKind.u8 (↑w.2 : Int), Val.int IntKind.u8 (↑w.3 : Int), Val.bool w.4] Bool.false]) (by kernel_rfl) (by kernel_rfl) (by kernel_rfl) (by first | with_reducible rfl | assumption | (simp_all; done) | omega | (simp_all; omega)) (by first | rfl | simp [Val.low, Val.lows, low_encL, low_encI])
  | succ m ihm =>
    intro i w hi hw
    have hlt : i < s.length := by omega
    obtain ⟨b, hb⟩ : ∃ b, s[i]? = some b := ⟨s[i], List.getElem?_eq_getElem hlt⟩
    have hdr : s.drop i = b :: s.drop (i + 1) := by
      obtain ⟨_, rfl⟩ := List.getElem?_eq_some_iff.1 hb
      exact List.drop_eq_getElem_cons hlt
    have h144 := c144 ⟨S.H ++ [.cells (encU w) false], S.L⟩ S.H.length w b.toNat hw (hc_top (i := 0) rfl rfl)
    rw [set_top0] at h144
    have ih := ihm (i + 1) (w.step b.toNat) (by omega) (ok_step hw)
    rw [hdr, steps_cons]
    generalize (w.step b.toNat).steps (s.drop (i + 1)) = r at *
    generalize w.step b.toNat = w' at *
    clear ihm hdr
    refine evc_g 5 ?_
    refine evc_i 8 (decide ((↑i : Int) < (↑s.length : Int))) true ?_
    refine evc_g 12 ?_
    refine evc_str (s) (i) (b) (by kernel_rfl) hb (by kernel_rfl) ?_
    refine evc_c (h144) ?_
    refine evc_g 7 ?_
    refine evc_set 7 (Val.int IntKind.i64 (IntKind.i64.wrap ((↑i : Int) + 1))) (Val.int IntKind.i64 (↑(i + 1) : Int)) (by kernel_rfl) (congrArg (Val.int IntKind.i64) (wrap_nat (i := i) (m := 1) (by omega))) ?_
    exact evc_a (ih)
theorem c112 (s : List UInt8) (hs : s.length ≤ 2 ^ 60) (S : St) : Go.V.Call E0 112 [.str s] S (.bool (validU s)) S := by
  have L := L112 s hs S s.length 0 ⟨0, 0, 0, false⟩ (by omega) (fun _ => by simp)
  simp only [List.drop_zero] at L
  unfold validU
  generalize (U8.steps _ s).done = r at *
  refine call_cfg (by kernel_rfl) ?_
  refine evc_g 17 ?_
  exact evc_a (L)
end Go.V.W
