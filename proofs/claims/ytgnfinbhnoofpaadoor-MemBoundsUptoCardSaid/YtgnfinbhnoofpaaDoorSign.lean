/- sign, follow (ullageref04): what they answer. Printed by a program (wip/tools/gensign.py). -/
import Derived.Test.YtgnfinbhnoofpaaDoorE0
import Derived.Test.YtgnfinbhnoofpaaDoorUtfS
import Derived.Test.YtgnfinbhnoofpaaDoorVH
set_option linter.unusedVariables false
set_option linter.unusedSimpArgs false
set_option linter.unusedSectionVars false
open Go Go.V
set_option maxRecDepth 100000
set_option maxHeartbeats 4000000
namespace Go.V.W
theorem wrap_nn {i m : Nat} (h : i + m ≤ 9223372036854775807) : IntKind.wrap .i64 ((i : Int) + (m : Int)) = ((i + m : Nat) : Int) := wrap_nat h
noncomputable def P139 : Pos := (goT E0 1 (ctxOf E0 139) 11 (entry E0 139 [.str [], .int .i64 0, .int .i64 0] ⟨[], []⟩)).pos
theorem L139 (s : List UInt8) (hs : s.length ≤ 2 ^ 60) (at' n : Nat) (hat : at' ≤ s.length) (hn : n ≤ 4) (S : St) : ∀ (m k : Nat), k + m = n →
    EvC E0 (ctxOf E0 139) ⟨P139, [(0, .str s), (1, .int .i64 (at' : Int)), (2, .int .i64 (n : Int)), (7, .int .i64 (k : Int))], S⟩ (Go.V.Fin E0 139 S (.int .i64 ((k + followU m (s.drop (at' + k)) : Nat) : Int)) S) := by
  intro m
  induction m with
  | zero =>
    intro k hk
    simp only [followU, Nat.add_zero]
    have g : ¬ ((k : Int) < (n : Int)) := by omega
    refine evc_g 7 ?_
    refine evc_i 11 (decide ((↑k : Int) < (↑n : Int))) false ?_
    refine evc_g 31 ?_
    exact evc_t (Val.int IntKind.i64 (↑k : Int)) (hl := (by first | rfl | simp [Val.low, Val.lows, low_encL, low_encI]))
  | succ m ihm =>
    intro k hk
    have g : ((k : Int) < (n : Int)) := by omega
    have hw : IntKind.wrap .i64 ((at' : Int) + (k : Int)) = ((at' + k : Nat) : Int) := wrap_nn (by omega)
    by_cases hlt : at' + k < s.length
    · obtain ⟨b, hb⟩ : ∃ b, s[at' + k]? = some b := ⟨s[at' + k], List.getElem?_eq_getElem hlt⟩
      have hdr : s.drop (at' + k) = b :: s.drop (at' + k + 1) := by
        obtain ⟨_, rfl⟩ := List.getElem?_eq_some_iff.1 hb
        exact List.drop_eq_getElem_cons hlt
      have g2 : (((at' + k : Nat) : Int) < (s.length : Int)) := by omega
      rw [hdr]
      simp only [followU]
      by_cases hc : 128 ≤ b.toNat ∧ b.toNat ≤ 191
      · rw [if_pos hc]
        have g3 : ((b.toNat : Int) ≥ 128) := by omega
        have g4 : ((b.toNat : Int) ≤ 191) := by omega
        have ih := ihm (k + 1) (by omega)
        rw [show k + (followU m (s.drop (at' + k + 1)) + 1) = (k + 1) + followU m (s.drop (at' + (k + 1))) by rw [show at' + (k + 1) = at' + k + 1 by omega]; omega]
        generalize followU m (s.drop (at' + (k + 1))) = r at *
        clear ihm hdr
        refine evc_g 7 ?_
        refine evc_i 11 (decide ((↑k : Int) < (↑n : Int))) true ?_
        refine evc_g 8 ?_
        refine evc_i 19 (decide (IntKind.i64.wrap ((↑at' : Int) + (↑k : Int)) < (↑s.length : Int))) true ?_
        refine evc_g 4 ?_
        refine evc_set 23 (Val.int IntKind.i64 (IntKind.i64.wrap ((↑at' : Int) + (↑k : Int)))) (Val.int IntKind.i64 (↑(at' + k) : Int)) (by kernel_rfl) (congrArg (Val.int IntKind.i64) hw) ?_
        refine evc_str (s) (at' + k) (b) (by kernel_rfl) hb (by kernel_rfl) ?_
        refine evc_g 3 ?_
        refine evc_i 27 (decide ((↑b.toNat : Int) ≥ 128)) true ?_
        refine evc_g 4 ?_
        refine evc_set 31 (Val.int IntKind.i64 (IntKind.i64.wrap ((↑at' : Int) + (↑k : Int)))) (Val.int IntKind.i64 (↑(at' + k) : Int)) (by kernel_rfl) (congrArg (Val.int IntKind.i64) hw) ?_
        refine evc_str (s) (at' + k) (b) (by kernel_rfl) hb (by kernel_rfl) ?_
        refine evc_g 3 ?_
        refine evc_i 34 (decide ((↑b.toNat : Int) ≤ 191)) true ?_
        refine evc_g 10 ?_
        refine evc_set 7 (Val.int IntKind.i64 (IntKind.i64.wrap ((↑k : Int) + 1))) (Val.int IntKind.i64 (↑(k + 1) : Int)) (by kernel_rfl) (congrArg (Val.int IntKind.i64) (wrap_nat (i := k) (m := 1) (by omega))) ?_
        exact evc_a (ih)
      · rw [if_neg hc]
        clear ihm hdr
        by_cases h1 : 128 ≤ b.toNat
        · have g3 : ((b.toNat : Int) ≥ 128) := by omega
          have g4 : ¬ ((b.toNat : Int) ≤ 191) := by omega
          refine evc_g 7 ?_
          refine evc_i 11 (decide ((↑k : Int) < (↑n : Int))) true ?_
          refine evc_g 8 ?_
          refine evc_i 19 (decide (IntKind.i64.wrap ((↑at' : Int) + (↑k : Int)) < (↑s.length : Int))) true ?_
          refine evc_g 4 ?_
          refine evc_set 23 (Val.int IntKind.i64 (IntKind.i64.wrap ((↑at' : Int) + (↑k : Int)))) (Val.int IntKind.i64 (↑(at' + k) : Int)) (by kernel_rfl) (congrArg (Val.int IntKind.i64) hw) ?_
          refine evc_str (s) (at' + k) (b) (by kernel_rfl) hb (by kernel_rfl) ?_
          refine evc_g 3 ?_
          refine evc_i 27 (decide ((↑b.toNat : Int) ≥ 128)) true ?_
          refine evc_g 4 ?_
          refine evc_set 31 (Val.int IntKind.i64 (IntKind.i64.wrap ((↑at' : Int) + (↑k : Int)))) (Val.int IntKind.i64 (↑(at' + k) : Int)) (by kernel_rfl) (congrArg (Val.int IntKind.i64) hw) ?_
          refine evc_str (s) (at' + k) (b) (by kernel_rfl) hb (by kernel_rfl) ?_
          refine evc_g 3 ?_
          refine evc_i 34 (decide ((↑b.toNat : Int) ≤ 191)) false ?_
          refine evc_g 7 ?_
          exact evc_t (Val.int IntKind.i64 (↑k : Int)) (hl := (by first | rfl | simp [Val.low, Val.lows, low_encL, low_encI]))
        · have g3 : ¬ ((b.toNat : Int) ≥ 128) := by omega
          refine evc_g 7 ?_
          refine evc_i 11 (decide ((↑k : Int) < (↑n : Int))) true ?_
          refine evc_g 8 ?_
          refine evc_i 19 (decide (IntKind.i64.wrap ((↑at' : Int) + (↑k : Int)) < (↑s.length : Int))) true ?_
          refine evc_g 4 ?_
          refine evc_set 23 (Val.int IntKind.i64 (IntKind.i64.wrap ((↑at' : Int) + (↑k : Int)))) (Val.int IntKind.i64 (↑(at' + k) : Int)) (by kernel_rfl) (congrArg (Val.int IntKind.i64) hw) ?_
          refine evc_str (s) (at' + k) (b) (by kernel_rfl) hb (by kernel_rfl) ?_
          refine evc_g 3 ?_
          refine evc_i 27 (decide ((↑b.toNat : Int) ≥ 128)) false ?_
          refine evc_g 15 ?_
          exact evc_t (Val.int IntKind.i64 (↑k : Int)) (hl := (by first | rfl | simp [Val.low, Val.lows, low_encL, low_encI]))
    · have e : s.drop (at' + k) = [] := List.drop_eq_nil_of_le (by omega)
      have g2 : ¬ (((at' + k : Nat) : Int) < (s.length : Int)) := by omega
      rw [e]
      simp only [followU]
      clear ihm
      refine evc_g 7 ?_
      refine evc_i 11 (decide ((↑k : Int) < (↑n : Int))) true ?_
      refine evc_g 8 ?_
      refine evc_i 19 (decide (IntKind.i64.wrap ((↑at' : Int) + (↑k : Int)) < (↑s.length : Int))) false ?_
      refine evc_g 23 ?_
      exact evc_t (Val.int IntKind.i64 (↑k : Int)) (hl := (by first | rfl | simp [Val.low, Val.lows, low_encL, low_encI]))
theorem c139 (s : List UInt8) (hs : s.length ≤ 2 ^ 60) (at' n : Nat) (hat : at' ≤ s.length) (hn : n ≤ 4) (S : St) : Go.V.Call E0 139 [.str s, .int .i64 (at' : Int), .int .i64 (n : Int)] S (.int .i64 ((followU n (s.drop at') : Nat) : Int)) S := by
  have L := L139 s hs at' n hat hn S n 0 (by omega)
  simp only [Nat.add_zero, Nat.zero_add] at L
  generalize followU n (s.drop at') = r at *
  refine call_cfg (by kernel_rfl) ?_
  refine evc_g 11 ?_
  exact evc_a (L)
abbrev signV (p : Nat × Nat) : Val := .tup [.int .i64 (p.1 : Int), .int .i64 (p.2 : Int)]
theorem c102_0 (s : List UInt8) (at' : Nat) (c : UInt8) (hc : s[at']? = some c) (hcl : c.toNat < 128) (S : St) : Go.V.Call E0 102 [.str s, .int .i64 (at' : Int)] S (signV (1, 1)) S := by
  refine call_cfg (by kernel_rfl) ?_
  refine evc_g 9 ?_
  refine evc_str (s) (at') (c) (by kernel_rfl) hc (by kernel_rfl) ?_
  refine evc_g 8 ?_
  refine evc_i 14 (decide ((↑c.toNat : Int) < 128)) true ?_
  refine evc_g 6 ?_
  exact evc_t (Val.tup [Val.int IntKind.i64 1, Val.int IntKind.i64 1])
theorem c102_1 (s : List UInt8) (at' : Nat) (c : UInt8) (hc : s[at']? = some c) (hcl : 128 ≤ c.toNat ∧ c.toNat < 194 ∨ 244 < c.toNat) (S : St) : Go.V.Call E0 102 [.str s, .int .i64 (at' : Int)] S (signV (0, 0)) S := by
  refine call_cfg (by kernel_rfl) ?_
  refine evc_g 9 ?_
  refine evc_str (s) (at') (c) (by kernel_rfl) hc (by kernel_rfl) ?_
  refine evc_g 8 ?_
  refine evc_i 14 (decide ((↑c.toNat : Int) < 128)) false ?_
  refine evc_g 14 ?_
  refine evc_s 17 (decide ((↑c.toNat : Int) ≥ 194)) (fun h12 => ?_) (fun h12 => ?_)
  · refine evc_g 4 ?_
    refine evc_i 20 (decide ((↑c.toNat : Int) ≤ 223)) false ?_
    refine evc_g 8 ?_
    refine evc_i 23 (decide ((↑c.toNat : Int) ≥ 224)) true ?_
    refine evc_g 4 ?_
    refine evc_i 26 (decide ((↑c.toNat : Int) ≤ 239)) false ?_
    refine evc_g 8 ?_
    refine evc_i 33 (decide ((↑c.toNat : Int) ≥ 240)) true ?_
    refine evc_g 4 ?_
    refine evc_i 36 (decide ((↑c.toNat : Int) ≤ 244)) false ?_
    refine evc_g 14 ?_
    exact evc_t (Val.tup [Val.int IntKind.i64 0, Val.int IntKind.i64 0])
  · refine evc_g 12 ?_
    refine evc_i 23 (decide ((↑c.toNat : Int) ≥ 224)) false ?_
    refine evc_g 12 ?_
    refine evc_i 33 (decide ((↑c.toNat : Int) ≥ 240)) false ?_
    refine evc_g 18 ?_
    exact evc_t (Val.tup [Val.int IntKind.i64 0, Val.int IntKind.i64 0])
theorem c102_a (s : List UInt8) (hs : s.length ≤ 2 ^ 60) (at' : Nat) (c : UInt8) (hc : s[at']? = some c) (hcl : 194 ≤ c.toNat ∧ c.toNat ≤ 223) (S : St) :
    (¬ at' + 1 < s.length → Go.V.Call E0 102 [.str s, .int .i64 (at' : Int)] S (signV (2, 1)) S) ∧
    (∀ d, s[at' + 1]? = some d → d.toNat < 128 ∨ d.toNat > 191 → Go.V.Call E0 102 [.str s, .int .i64 (at' : Int)] S (signV (2, 1)) S) ∧
    (∀ d, s[at' + 1]? = some d → ¬ (d.toNat < 128 ∨ d.toNat > 191) → Go.V.Call E0 102 [.str s, .int .i64 (at' : Int)] S (signV (2, 2 + followU 0 (s.drop (at' + 2)))) S) := by
  have hat := (List.getElem?_eq_some_iff.1 hc).1
  have hw1 : IntKind.wrap .i64 ((at' : Int) + 1) = ((at' + 1 : Nat) : Int) := wrap_nat (m := 1) (by omega)
  have hw2 : IntKind.wrap .i64 ((at' : Int) + 2) = ((at' + 2 : Nat) : Int) := wrap_nat (m := 2) (by omega)
  refine ⟨fun h => ?_, fun d hd h => ?_, fun d hd h => ?_⟩
  · have g : ((at' + 1 : Nat) : Int) ≥ (s.length : Int) := by omega
    refine call_cfg (by kernel_rfl) ?_
    refine evc_g 9 ?_
    refine evc_str (s) (at') (c) (by kernel_rfl) hc (by kernel_rfl) ?_
    refine evc_g 8 ?_
    refine evc_i 14 (decide ((↑c.toNat : Int) < 128)) false ?_
    refine evc_g 14 ?_
    refine evc_i 17 (decide ((↑c.toNat : Int) ≥ 194)) true ?_
    refine evc_g 4 ?_
    refine evc_i 20 (decide ((↑c.toNat : Int) ≤ 223)) true ?_
    refine evc_g 10 ?_
    refine evc_i 23 (decide ((↑c.toNat : Int) ≥ 224)) false ?_
    refine evc_g 12 ?_
    refine evc_i 33 (decide ((↑c.toNat : Int) ≥ 240)) false ?_
    refine evc_g 23 ?_
    refine evc_i 48 (decide (IntKind.i64.wrap ((↑at' : Int) + 1) ≥ (↑s.length : Int))) true ?_
    refine evc_g 23 ?_
    exact evc_t (Val.tup [Val.int IntKind.i64 2, Val.int IntKind.i64 1])
  · have hlt := (List.getElem?_eq_some_iff.1 hd).1
    have g : ¬ ((at' + 1 : Nat) : Int) ≥ (s.length : Int) := by omega
    refine call_cfg (by kernel_rfl) ?_
    refine evc_g 9 ?_
    refine evc_str (s) (at') (c) (by kernel_rfl) hc (by kernel_rfl) ?_
    refine evc_g 8 ?_
    refine evc_i 14 (decide ((↑c.toNat : Int) < 128)) false ?_
    refine evc_g 14 ?_
    refine evc_i 17 (decide ((↑c.toNat : Int) ≥ 194)) true ?_
    refine evc_g 4 ?_
    refine evc_i 20 (decide ((↑c.toNat : Int) ≤ 223)) true ?_
    refine evc_g 10 ?_
    refine evc_i 23 (decide ((↑c.toNat : Int) ≥ 224)) false ?_
    refine evc_g 12 ?_
    refine evc_i 33 (decide ((↑c.toNat : Int) ≥ 240)) false ?_
    refine evc_g 23 ?_
    refine evc_i 48 (decide (IntKind.i64.wrap ((↑at' : Int) + 1) ≥ (↑s.length : Int))) false ?_
    refine evc_g 3 ?_
    refine evc_set 51 (Val.int IntKind.i64 (IntKind.i64.wrap ((↑at' : Int) + 1))) (Val.int IntKind.i64 (↑(at' + 1) : Int)) (by kernel_rfl) (congrArg (Val.int IntKind.i64) hw1) ?_
    refine evc_str (s) (at' + 1) (d) (by kernel_rfl) hd (by kernel_rfl) ?_
    refine evc_g 4 ?_
    refine evc_s 56 (decide ((↑d.toNat : Int) < 128)) (fun h12 => ?_) (fun h12 => ?_)
    · refine evc_g 15 ?_
      exact evc_t (Val.tup [Val.int IntKind.i64 2, Val.int IntKind.i64 1])
    · refine evc_g 3 ?_
      refine evc_set 59 (Val.int IntKind.i64 (IntKind.i64.wrap ((↑at' : Int) + 1))) (Val.int IntKind.i64 (↑(at' + 1) : Int)) (by kernel_rfl) (congrArg (Val.int IntKind.i64) hw1) ?_
      refine evc_str (s) (at' + 1) (d) (by kernel_rfl) hd (by kernel_rfl) ?_
      refine evc_g 4 ?_
      refine evc_i 63 (decide ((↑d.toNat : Int) > 191)) true ?_
      refine evc_g 7 ?_
      exact evc_t (Val.tup [Val.int IntKind.i64 2, Val.int IntKind.i64 1])
  · have hlt := (List.getElem?_eq_some_iff.1 hd).1
    have g : ¬ ((at' + 1 : Nat) : Int) ≥ (s.length : Int) := by omega
    have h139 := c139 s hs (at' + 2) 0 (by omega) (by omega) S
    have hf := followU_le 0 (s.drop (at' + 2))
    generalize followU 0 (s.drop (at' + 2)) = f at *
    have hw3 : IntKind.wrap .i64 (2 + (f : Int)) = ((2 + f : Nat) : Int) := wrap_nat (i := 2) (by omega)
    refine call_cfg (by kernel_rfl) ?_
    refine evc_g 9 ?_
    refine evc_str (s) (at') (c) (by kernel_rfl) hc (by kernel_rfl) ?_
    refine evc_g 8 ?_
    refine evc_i 14 (decide ((↑c.toNat : Int) < 128)) false ?_
    refine evc_g 14 ?_
    refine evc_i 17 (decide ((↑c.toNat : Int) ≥ 194)) true ?_
    refine evc_g 4 ?_
    refine evc_i 20 (decide ((↑c.toNat : Int) ≤ 223)) true ?_
    refine evc_g 10 ?_
    refine evc_i 23 (decide ((↑c.toNat : Int) ≥ 224)) false ?_
    refine evc_g 12 ?_
    refine evc_i 33 (decide ((↑c.toNat : Int) ≥ 240)) false ?_
    refine evc_g 23 ?_
    refine evc_i 48 (decide (IntKind.i64.wrap ((↑at' : Int) + 1) ≥ (↑s.length : Int))) false ?_
    refine evc_g 3 ?_
    refine evc_set 51 (Val.int IntKind.i64 (IntKind.i64.wrap ((↑at' : Int) + 1))) (Val.int IntKind.i64 (↑(at' + 1) : Int)) (by kernel_rfl) (congrArg (Val.int IntKind.i64) hw1) ?_
    refine evc_str (s) (at' + 1) (d) (by kernel_rfl) hd (by kernel_rfl) ?_
    refine evc_g 4 ?_
    refine evc_i 56 (decide ((↑d.toNat : Int) < 128)) false ?_
    refine evc_g 3 ?_
    refine evc_set 59 (Val.int IntKind.i64 (IntKind.i64.wrap ((↑at' : Int) + 1))) (Val.int IntKind.i64 (↑(at' + 1) : Int)) (by kernel_rfl) (congrArg (Val.int IntKind.i64) hw1) ?_
    refine evc_str (s) (at' + 1) (d) (by kernel_rfl) hd (by kernel_rfl) ?_
    refine evc_g 4 ?_
    refine evc_i 63 (decide ((↑d.toNat : Int) > 191)) false ?_
    refine evc_g 10 ?_
    refine evc_set 68 (Val.int IntKind.i64 (IntKind.i64.wrap ((↑at' : Int) + 2))) (Val.int IntKind.i64 (↑(at' + 2) : Int)) (by kernel_rfl) (congrArg (Val.int IntKind.i64) hw2) ?_
    refine evc_c (h139) ?_
    refine evc_g 4 ?_
    exact evc_t (Val.tup [Val.int IntKind.i64 2, Val.int IntKind.i64 (IntKind.i64.wrap (2 + (↑f : Int)))]) (hl := (by first | rfl | simp [Val.low, Val.lows, low_encL, low_encI]))
theorem c102_b (s : List UInt8) (hs : s.length ≤ 2 ^ 60) (at' : Nat) (c : UInt8) (hc : s[at']? = some c) (hcl : c.toNat = 224) (S : St) :
    (¬ at' + 1 < s.length → Go.V.Call E0 102 [.str s, .int .i64 (at' : Int)] S (signV (3, 1)) S) ∧
    (∀ d, s[at' + 1]? = some d → d.toNat < 160 ∨ d.toNat > 191 → Go.V.Call E0 102 [.str s, .int .i64 (at' : Int)] S (signV (3, 1)) S) ∧
    (∀ d, s[at' + 1]? = some d → ¬ (d.toNat < 160 ∨ d.toNat > 191) → Go.V.Call E0 102 [.str s, .int .i64 (at' : Int)] S (signV (3, 2 + followU 1 (s.drop (at' + 2)))) S) := by
  have hat := (List.getElem?_eq_some_iff.1 hc).1
  have hw1 : IntKind.wrap .i64 ((at' : Int) + 1) = ((at' + 1 : Nat) : Int) := wrap_nat (m := 1) (by omega)
  have hw2 : IntKind.wrap .i64 ((at' : Int) + 2) = ((at' + 2 : Nat) : Int) := wrap_nat (m := 2) (by omega)
  refine ⟨fun h => ?_, fun d hd h => ?_, fun d hd h => ?_⟩
  · have g : ((at' + 1 : Nat) : Int) ≥ (s.length : Int) := by omega
    refine call_cfg (by kernel_rfl) ?_
    refine evc_g 9 ?_
    refine evc_str (s) (at') (c) (by kernel_rfl) hc (by kernel_rfl) ?_
    refine evc_g 8 ?_
    refine evc_i 14 (decide ((↑c.toNat : Int) < 128)) false ?_
    refine evc_g 14 ?_
    refine evc_i 17 (decide ((↑c.toNat : Int) ≥ 194)) true ?_
    refine evc_g 4 ?_
    refine evc_i 20 (decide ((↑c.toNat : Int) ≤ 223)) false ?_
    refine evc_g 8 ?_
    refine evc_i 23 (decide ((↑c.toNat : Int) ≥ 224)) true ?_
    refine evc_g 4 ?_
    refine evc_i 26 (decide ((↑c.toNat : Int) ≤ 239)) true ?_
    refine evc_g 11 ?_
    refine evc_i 28 ((↑c.toNat : Int) == 224) true ?_
    refine evc_g 9 ?_
    refine evc_i 30 ((↑c.toNat : Int) == 237) false ?_
    refine evc_g 8 ?_
    refine evc_i 33 (decide ((↑c.toNat : Int) ≥ 240)) false ?_
    refine evc_g 23 ?_
    refine evc_i 48 (decide (IntKind.i64.wrap ((↑at' : Int) + 1) ≥ (↑s.length : Int))) true ?_
    refine evc_g 23 ?_
    exact evc_t (Val.tup [Val.int IntKind.i64 3, Val.int IntKind.i64 1])
  · have hlt := (List.getElem?_eq_some_iff.1 hd).1
    have g : ¬ ((at' + 1 : Nat) : Int) ≥ (s.length : Int) := by omega
    refine call_cfg (by kernel_rfl) ?_
    refine evc_g 9 ?_
    refine evc_str (s) (at') (c) (by kernel_rfl) hc (by kernel_rfl) ?_
    refine evc_g 8 ?_
    refine evc_i 14 (decide ((↑c.toNat : Int) < 128)) false ?_
    refine evc_g 14 ?_
    refine evc_i 17 (decide ((↑c.toNat : Int) ≥ 194)) true ?_
    refine evc_g 4 ?_
    refine evc_i 20 (decide ((↑c.toNat : Int) ≤ 223)) false ?_
    refine evc_g 8 ?_
    refine evc_i 23 (decide ((↑c.toNat : Int) ≥ 224)) true ?_
    refine evc_g 4 ?_
    refine evc_i 26 (decide ((↑c.toNat : Int) ≤ 239)) true ?_
    refine evc_g 11 ?_
    refine evc_i 28 ((↑c.toNat : Int) == 224) true ?_
    refine evc_g 9 ?_
    refine evc_i 30 ((↑c.toNat : Int) == 237) false ?_
    refine evc_g 8 ?_
    refine evc_i 33 (decide ((↑c.toNat : Int) ≥ 240)) false ?_
    refine evc_g 23 ?_
    refine evc_i 48 (decide (IntKind.i64.wrap ((↑at' : Int) + 1) ≥ (↑s.length : Int))) false ?_
    refine evc_g 3 ?_
    refine evc_set 51 (Val.int IntKind.i64 (IntKind.i64.wrap ((↑at' : Int) + 1))) (Val.int IntKind.i64 (↑(at' + 1) : Int)) (by kernel_rfl) (congrArg (Val.int IntKind.i64) hw1) ?_
    refine evc_str (s) (at' + 1) (d) (by kernel_rfl) hd (by kernel_rfl) ?_
    refine evc_g 4 ?_
    refine evc_s 56 (decide ((↑d.toNat : Int) < 160)) (fun h12 => ?_) (fun h12 => ?_)
    · refine evc_g 15 ?_
      exact evc_t (Val.tup [Val.int IntKind.i64 3, Val.int IntKind.i64 1])
    · refine evc_g 3 ?_
      refine evc_set 59 (Val.int IntKind.i64 (IntKind.i64.wrap ((↑at' : Int) + 1))) (Val.int IntKind.i64 (↑(at' + 1) : Int)) (by kernel_rfl) (congrArg (Val.int IntKind.i64) hw1) ?_
      refine evc_str (s) (at' + 1) (d) (by kernel_rfl) hd (by kernel_rfl) ?_
      refine evc_g 4 ?_
      refine evc_i 63 (decide ((↑d.toNat : Int) > 191)) true ?_
      refine evc_g 7 ?_
      exact evc_t (Val.tup [Val.int IntKind.i64 3, Val.int IntKind.i64 1])
  · have hlt := (List.getElem?_eq_some_iff.1 hd).1
    have g : ¬ ((at' + 1 : Nat) : Int) ≥ (s.length : Int) := by omega
    have h139 := c139 s hs (at' + 2) 1 (by omega) (by omega) S
    have hf := followU_le 1 (s.drop (at' + 2))
    generalize followU 1 (s.drop (at' + 2)) = f at *
    have hw3 : IntKind.wrap .i64 (2 + (f : Int)) = ((2 + f : Nat) : Int) := wrap_nat (i := 2) (by omega)
    refine call_cfg (by kernel_rfl) ?_
    refine evc_g 9 ?_
    refine evc_str (s) (at') (c) (by kernel_rfl) hc (by kernel_rfl) ?_
    refine evc_g 8 ?_
    refine evc_i 14 (decide ((↑c.toNat : Int) < 128)) false ?_
    refine evc_g 14 ?_
    refine evc_i 17 (decide ((↑c.toNat : Int) ≥ 194)) true ?_
    refine evc_g 4 ?_
    refine evc_i 20 (decide ((↑c.toNat : Int) ≤ 223)) false ?_
    refine evc_g 8 ?_
    refine evc_i 23 (decide ((↑c.toNat : Int) ≥ 224)) true ?_
    refine evc_g 4 ?_
    refine evc_i 26 (decide ((↑c.toNat : Int) ≤ 239)) true ?_
    refine evc_g 11 ?_
    refine evc_i 28 ((↑c.toNat : Int) == 224) true ?_
    refine evc_g 9 ?_
    refine evc_i 30 ((↑c.toNat : Int) == 237) false ?_
    refine evc_g 8 ?_
    refine evc_i 33 (decide ((↑c.toNat : Int) ≥ 240)) false ?_
    refine evc_g 23 ?_
    refine evc_i 48 (decide (IntKind.i64.wrap ((↑at' : Int) + 1) ≥ (↑s.length : Int))) false ?_
    refine evc_g 3 ?_
    refine evc_set 51 (Val.int IntKind.i64 (IntKind.i64.wrap ((↑at' : Int) + 1))) (Val.int IntKind.i64 (↑(at' + 1) : Int)) (by kernel_rfl) (congrArg (Val.int IntKind.i64) hw1) ?_
    refine evc_str (s) (at' + 1) (d) (by kernel_rfl) hd (by kernel_rfl) ?_
    refine evc_g 4 ?_
    refine evc_i 56 (decide ((↑d.toNat : Int) < 160)) false ?_
    refine evc_g 3 ?_
    refine evc_set 59 (Val.int IntKind.i64 (IntKind.i64.wrap ((↑at' : Int) + 1))) (Val.int IntKind.i64 (↑(at' + 1) : Int)) (by kernel_rfl) (congrArg (Val.int IntKind.i64) hw1) ?_
    refine evc_str (s) (at' + 1) (d) (by kernel_rfl) hd (by kernel_rfl) ?_
    refine evc_g 4 ?_
    refine evc_i 63 (decide ((↑d.toNat : Int) > 191)) false ?_
    refine evc_g 10 ?_
    refine evc_set 68 (Val.int IntKind.i64 (IntKind.i64.wrap ((↑at' : Int) + 2))) (Val.int IntKind.i64 (↑(at' + 2) : Int)) (by kernel_rfl) (congrArg (Val.int IntKind.i64) hw2) ?_
    refine evc_c (h139) ?_
    refine evc_g 4 ?_
    exact evc_t (Val.tup [Val.int IntKind.i64 3, Val.int IntKind.i64 (IntKind.i64.wrap (2 + (↑f : Int)))]) (hl := (by first | rfl | simp [Val.low, Val.lows, low_encL, low_encI]))
theorem c102_c (s : List UInt8) (hs : s.length ≤ 2 ^ 60) (at' : Nat) (c : UInt8) (hc : s[at']? = some c) (hcl : 225 ≤ c.toNat ∧ c.toNat ≤ 236 ∨ 238 ≤ c.toNat ∧ c.toNat ≤ 239) (S : St) :
    (¬ at' + 1 < s.length → Go.V.Call E0 102 [.str s, .int .i64 (at' : Int)] S (signV (3, 1)) S) ∧
    (∀ d, s[at' + 1]? = some d → d.toNat < 128 ∨ d.toNat > 191 → Go.V.Call E0 102 [.str s, .int .i64 (at' : Int)] S (signV (3, 1)) S) ∧
    (∀ d, s[at' + 1]? = some d → ¬ (d.toNat < 128 ∨ d.toNat > 191) → Go.V.Call E0 102 [.str s, .int .i64 (at' : Int)] S (signV (3, 2 + followU 1 (s.drop (at' + 2)))) S) := by
  have hat := (List.getElem?_eq_some_iff.1 hc).1
  have hw1 : IntKind.wrap .i64 ((at' : Int) + 1) = ((at' + 1 : Nat) : Int) := wrap_nat (m := 1) (by omega)
  have hw2 : IntKind.wrap .i64 ((at' : Int) + 2) = ((at' + 2 : Nat) : Int) := wrap_nat (m := 2) (by omega)
  refine ⟨fun h => ?_, fun d hd h => ?_, fun d hd h => ?_⟩
  · have g : ((at' + 1 : Nat) : Int) ≥ (s.length : Int) := by omega
    refine call_cfg (by kernel_rfl) ?_
    refine evc_g 9 ?_
    refine evc_str (s) (at') (c) (by kernel_rfl) hc (by kernel_rfl) ?_
    refine evc_g 8 ?_
    refine evc_i 14 (decide ((↑c.toNat : Int) < 128)) false ?_
    refine evc_g 14 ?_
    refine evc_i 17 (decide ((↑c.toNat : Int) ≥ 194)) true ?_
    refine evc_g 4 ?_
    refine evc_i 20 (decide ((↑c.toNat : Int) ≤ 223)) false ?_
    refine evc_g 8 ?_
    refine evc_i 23 (decide ((↑c.toNat : Int) ≥ 224)) true ?_
    refine evc_g 4 ?_
    refine evc_i 26 (decide ((↑c.toNat : Int) ≤ 239)) true ?_
    refine evc_g 11 ?_
    refine evc_i 28 ((↑c.toNat : Int) == 224) false ?_
    refine evc_g 7 ?_
    refine evc_i 30 ((↑c.toNat : Int) == 237) false ?_
    refine evc_g 8 ?_
    refine evc_i 33 (decide ((↑c.toNat : Int) ≥ 240)) false ?_
    refine evc_g 23 ?_
    refine evc_i 48 (decide (IntKind.i64.wrap ((↑at' : Int) + 1) ≥ (↑s.length : Int))) true ?_
    refine evc_g 23 ?_
    exact evc_t (Val.tup [Val.int IntKind.i64 3, Val.int IntKind.i64 1])
  · have hlt := (List.getElem?_eq_some_iff.1 hd).1
    have g : ¬ ((at' + 1 : Nat) : Int) ≥ (s.length : Int) := by omega
    refine call_cfg (by kernel_rfl) ?_
    refine evc_g 9 ?_
    refine evc_str (s) (at') (c) (by kernel_rfl) hc (by kernel_rfl) ?_
    refine evc_g 8 ?_
    refine evc_i 14 (decide ((↑c.toNat : Int) < 128)) false ?_
    refine evc_g 14 ?_
    refine evc_i 17 (decide ((↑c.toNat : Int) ≥ 194)) true ?_
    refine evc_g 4 ?_
    refine evc_i 20 (decide ((↑c.toNat : Int) ≤ 223)) false ?_
    refine evc_g 8 ?_
    refine evc_i 23 (decide ((↑c.toNat : Int) ≥ 224)) true ?_
    refine evc_g 4 ?_
    refine evc_i 26 (decide ((↑c.toNat : Int) ≤ 239)) true ?_
    refine evc_g 11 ?_
    refine evc_i 28 ((↑c.toNat : Int) == 224) false ?_
    refine evc_g 7 ?_
    refine evc_i 30 ((↑c.toNat : Int) == 237) false ?_
    refine evc_g 8 ?_
    refine evc_i 33 (decide ((↑c.toNat : Int) ≥ 240)) false ?_
    refine evc_g 23 ?_
    refine evc_i 48 (decide (IntKind.i64.wrap ((↑at' : Int) + 1) ≥ (↑s.length : Int))) false ?_
    refine evc_g 3 ?_
    refine evc_set 51 (Val.int IntKind.i64 (IntKind.i64.wrap ((↑at' : Int) + 1))) (Val.int IntKind.i64 (↑(at' + 1) : Int)) (by kernel_rfl) (congrArg (Val.int IntKind.i64) hw1) ?_
    refine evc_str (s) (at' + 1) (d) (by kernel_rfl) hd (by kernel_rfl) ?_
    refine evc_g 4 ?_
    refine evc_s 56 (decide ((↑d.toNat : Int) < 128)) (fun h12 => ?_) (fun h12 => ?_)
    · refine evc_g 15 ?_
      exact evc_t (Val.tup [Val.int IntKind.i64 3, Val.int IntKind.i64 1])
    · refine evc_g 3 ?_
      refine evc_set 59 (Val.int IntKind.i64 (IntKind.i64.wrap ((↑at' : Int) + 1))) (Val.int IntKind.i64 (↑(at' + 1) : Int)) (by kernel_rfl) (congrArg (Val.int IntKind.i64) hw1) ?_
      refine evc_str (s) (at' + 1) (d) (by kernel_rfl) hd (by kernel_rfl) ?_
      refine evc_g 4 ?_
      refine evc_i 63 (decide ((↑d.toNat : Int) > 191)) true ?_
      refine evc_g 7 ?_
      exact evc_t (Val.tup [Val.int IntKind.i64 3, Val.int IntKind.i64 1])
  · have hlt := (List.getElem?_eq_some_iff.1 hd).1
    have g : ¬ ((at' + 1 : Nat) : Int) ≥ (s.length : Int) := by omega
    have h139 := c139 s hs (at' + 2) 1 (by omega) (by omega) S
    have hf := followU_le 1 (s.drop (at' + 2))
    generalize followU 1 (s.drop (at' + 2)) = f at *
    have hw3 : IntKind.wrap .i64 (2 + (f : Int)) = ((2 + f : Nat) : Int) := wrap_nat (i := 2) (by omega)
    refine call_cfg (by kernel_rfl) ?_
    refine evc_g 9 ?_
    refine evc_str (s) (at') (c) (by kernel_rfl) hc (by kernel_rfl) ?_
    refine evc_g 8 ?_
    refine evc_i 14 (decide ((↑c.toNat : Int) < 128)) false ?_
    refine evc_g 14 ?_
    refine evc_i 17 (decide ((↑c.toNat : Int) ≥ 194)) true ?_
    refine evc_g 4 ?_
    refine evc_i 20 (decide ((↑c.toNat : Int) ≤ 223)) false ?_
    refine evc_g 8 ?_
    refine evc_i 23 (decide ((↑c.toNat : Int) ≥ 224)) true ?_
    refine evc_g 4 ?_
    refine evc_i 26 (decide ((↑c.toNat : Int) ≤ 239)) true ?_
    refine evc_g 11 ?_
    refine evc_i 28 ((↑c.toNat : Int) == 224) false ?_
    refine evc_g 7 ?_
    refine evc_i 30 ((↑c.toNat : Int) == 237) false ?_
    refine evc_g 8 ?_
    refine evc_i 33 (decide ((↑c.toNat : Int) ≥ 240)) false ?_
    refine evc_g 23 ?_
    refine evc_i 48 (decide (IntKind.i64.wrap ((↑at' : Int) + 1) ≥ (↑s.length : Int))) false ?_
    refine evc_g 3 ?_
    refine evc_set 51 (Val.int IntKind.i64 (IntKind.i64.wrap ((↑at' : Int) + 1))) (Val.int IntKind.i64 (↑(at' + 1) : Int)) (by kernel_rfl) (congrArg (Val.int IntKind.i64) hw1) ?_
    refine evc_str (s) (at' + 1) (d) (by kernel_rfl) hd (by kernel_rfl) ?_
    refine evc_g 4 ?_
    refine evc_i 56 (decide ((↑d.toNat : Int) < 128)) false ?_
    refine evc_g 3 ?_
    refine evc_set 59 (Val.int IntKind.i64 (IntKind.i64.wrap ((↑at' : Int) + 1))) (Val.int IntKind.i64 (↑(at' + 1) : Int)) (by kernel_rfl) (congrArg (Val.int IntKind.i64) hw1) ?_
    refine evc_str (s) (at' + 1) (d) (by kernel_rfl) hd (by kernel_rfl) ?_
    refine evc_g 4 ?_
    refine evc_i 63 (decide ((↑d.toNat : Int) > 191)) false ?_
    refine evc_g 10 ?_
    refine evc_set 68 (Val.int IntKind.i64 (IntKind.i64.wrap ((↑at' : Int) + 2))) (Val.int IntKind.i64 (↑(at' + 2) : Int)) (by kernel_rfl) (congrArg (Val.int IntKind.i64) hw2) ?_
    refine evc_c (h139) ?_
    refine evc_g 4 ?_
    exact evc_t (Val.tup [Val.int IntKind.i64 3, Val.int IntKind.i64 (IntKind.i64.wrap (2 + (↑f : Int)))]) (hl := (by first | rfl | simp [Val.low, Val.lows, low_encL, low_encI]))
theorem c102_d (s : List UInt8) (hs : s.length ≤ 2 ^ 60) (at' : Nat) (c : UInt8) (hc : s[at']? = some c) (hcl : c.toNat = 237) (S : St) :
    (¬ at' + 1 < s.length → Go.V.Call E0 102 [.str s, .int .i64 (at' : Int)] S (signV (3, 1)) S) ∧
    (∀ d, s[at' + 1]? = some d → d.toNat < 128 ∨ d.toNat > 159 → Go.V.Call E0 102 [.str s, .int .i64 (at' : Int)] S (signV (3, 1)) S) ∧
    (∀ d, s[at' + 1]? = some d → ¬ (d.toNat < 128 ∨ d.toNat > 159) → Go.V.Call E0 102 [.str s, .int .i64 (at' : Int)] S (signV (3, 2 + followU 1 (s.drop (at' + 2)))) S) := by
  have hat := (List.getElem?_eq_some_iff.1 hc).1
  have hw1 : IntKind.wrap .i64 ((at' : Int) + 1) = ((at' + 1 : Nat) : Int) := wrap_nat (m := 1) (by omega)
  have hw2 : IntKind.wrap .i64 ((at' : Int) + 2) = ((at' + 2 : Nat) : Int) := wrap_nat (m := 2) (by omega)
  refine ⟨fun h => ?_, fun d hd h => ?_, fun d hd h => ?_⟩
  · have g : ((at' + 1 : Nat) : Int) ≥ (s.length : Int) := by omega
    refine call_cfg (by kernel_rfl) ?_
    refine evc_g 9 ?_
    refine evc_str (s) (at') (c) (by kernel_rfl) hc (by kernel_rfl) ?_
    refine evc_g 8 ?_
    refine evc_i 14 (decide ((↑c.toNat : Int) < 128)) false ?_
    refine evc_g 14 ?_
    refine evc_i 17 (decide ((↑c.toNat : Int) ≥ 194)) true ?_
    refine evc_g 4 ?_
    refine evc_i 20 (decide ((↑c.toNat : Int) ≤ 223)) false ?_
    refine evc_g 8 ?_
    refine evc_i 23 (decide ((↑c.toNat : Int) ≥ 224)) true ?_
    refine evc_g 4 ?_
    refine evc_i 26 (decide ((↑c.toNat : Int) ≤ 239)) true ?_
    refine evc_g 11 ?_
    refine evc_i 28 ((↑c.toNat : Int) == 224) false ?_
    refine evc_g 7 ?_
    refine evc_i 30 ((↑c.toNat : Int) == 237) true ?_
    refine evc_g 10 ?_
    refine evc_i 33 (decide ((↑c.toNat : Int) ≥ 240)) false ?_
    refine evc_g 23 ?_
    refine evc_i 48 (decide (IntKind.i64.wrap ((↑at' : Int) + 1) ≥ (↑s.length : Int))) true ?_
    refine evc_g 23 ?_
    exact evc_t (Val.tup [Val.int IntKind.i64 3, Val.int IntKind.i64 1])
  · have hlt := (List.getElem?_eq_some_iff.1 hd).1
    have g : ¬ ((at' + 1 : Nat) : Int) ≥ (s.length : Int) := by omega
    refine call_cfg (by kernel_rfl) ?_
    refine evc_g 9 ?_
    refine evc_str (s) (at') (c) (by kernel_rfl) hc (by kernel_rfl) ?_
    refine evc_g 8 ?_
    refine evc_i 14 (decide ((↑c.toNat : Int) < 128)) false ?_
    refine evc_g 14 ?_
    refine evc_i 17 (decide ((↑c.toNat : Int) ≥ 194)) true ?_
    refine evc_g 4 ?_
    refine evc_i 20 (decide ((↑c.toNat : Int) ≤ 223)) false ?_
    refine evc_g 8 ?_
    refine evc_i 23 (decide ((↑c.toNat : Int) ≥ 224)) true ?_
    refine evc_g 4 ?_
    refine evc_i 26 (decide ((↑c.toNat : Int) ≤ 239)) true ?_
    refine evc_g 11 ?_
    refine evc_i 28 ((↑c.toNat : Int) == 224) false ?_
    refine evc_g 7 ?_
    refine evc_i 30 ((↑c.toNat : Int) == 237) true ?_
    refine evc_g 10 ?_
    refine evc_i 33 (decide ((↑c.toNat : Int) ≥ 240)) false ?_
    refine evc_g 23 ?_
    refine evc_i 48 (decide (IntKind.i64.wrap ((↑at' : Int) + 1) ≥ (↑s.length : Int))) false ?_
    refine evc_g 3 ?_
    refine evc_set 51 (Val.int IntKind.i64 (IntKind.i64.wrap ((↑at' : Int) + 1))) (Val.int IntKind.i64 (↑(at' + 1) : Int)) (by kernel_rfl) (congrArg (Val.int IntKind.i64) hw1) ?_
    refine evc_str (s) (at' + 1) (d) (by kernel_rfl) hd (by kernel_rfl) ?_
    refine evc_g 4 ?_
    refine evc_s 56 (decide ((↑d.toNat : Int) < 128)) (fun h12 => ?_) (fun h12 => ?_)
    · refine evc_g 15 ?_
      exact evc_t (Val.tup [Val.int IntKind.i64 3, Val.int IntKind.i64 1])
    · refine evc_g 3 ?_
      refine evc_set 59 (Val.int IntKind.i64 (IntKind.i64.wrap ((↑at' : Int) + 1))) (Val.int IntKind.i64 (↑(at' + 1) : Int)) (by kernel_rfl) (congrArg (Val.int IntKind.i64) hw1) ?_
      refine evc_str (s) (at' + 1) (d) (by kernel_rfl) hd (by kernel_rfl) ?_
      refine evc_g 4 ?_
      refine evc_i 63 (decide ((↑d.toNat : Int) > 159)) true ?_
      refine evc_g 7 ?_
      exact evc_t (Val.tup [Val.int IntKind.i64 3, Val.int IntKind.i64 1])
  · have hlt := (List.getElem?_eq_some_iff.1 hd).1
    have g : ¬ ((at' + 1 : Nat) : Int) ≥ (s.length : Int) := by omega
    have h139 := c139 s hs (at' + 2) 1 (by omega) (by omega) S
    have hf := followU_le 1 (s.drop (at' + 2))
    generalize followU 1 (s.drop (at' + 2)) = f at *
    have hw3 : IntKind.wrap .i64 (2 + (f : Int)) = ((2 + f : Nat) : Int) := wrap_nat (i := 2) (by omega)
    refine call_cfg (by kernel_rfl) ?_
    refine evc_g 9 ?_
    refine evc_str (s) (at') (c) (by kernel_rfl) hc (by kernel_rfl) ?_
    refine evc_g 8 ?_
    refine evc_i 14 (decide ((↑c.toNat : Int) < 128)) false ?_
    refine evc_g 14 ?_
    refine evc_i 17 (decide ((↑c.toNat : Int) ≥ 194)) true ?_
    refine evc_g 4 ?_
    refine evc_i 20 (decide ((↑c.toNat : Int) ≤ 223)) false ?_
    refine evc_g 8 ?_
    refine evc_i 23 (decide ((↑c.toNat : Int) ≥ 224)) true ?_
    refine evc_g 4 ?_
    refine evc_i 26 (decide ((↑c.toNat : Int) ≤ 239)) true ?_
    refine evc_g 11 ?_
    refine evc_i 28 ((↑c.toNat : Int) == 224) false ?_
    refine evc_g 7 ?_
    refine evc_i 30 ((↑c.toNat : Int) == 237) true ?_
    refine evc_g 10 ?_
    refine evc_i 33 (decide ((↑c.toNat : Int) ≥ 240)) false ?_
    refine evc_g 23 ?_
    refine evc_i 48 (decide (IntKind.i64.wrap ((↑at' : Int) + 1) ≥ (↑s.length : Int))) false ?_
    refine evc_g 3 ?_
    refine evc_set 51 (Val.int IntKind.i64 (IntKind.i64.wrap ((↑at' : Int) + 1))) (Val.int IntKind.i64 (↑(at' + 1) : Int)) (by kernel_rfl) (congrArg (Val.int IntKind.i64) hw1) ?_
    refine evc_str (s) (at' + 1) (d) (by kernel_rfl) hd (by kernel_rfl) ?_
    refine evc_g 4 ?_
    refine evc_i 56 (decide ((↑d.toNat : Int) < 128)) false ?_
    refine evc_g 3 ?_
    refine evc_set 59 (Val.int IntKind.i64 (IntKind.i64.wrap ((↑at' : Int) + 1))) (Val.int IntKind.i64 (↑(at' + 1) : Int)) (by kernel_rfl) (congrArg (Val.int IntKind.i64) hw1) ?_
    refine evc_str (s) (at' + 1) (d) (by kernel_rfl) hd (by kernel_rfl) ?_
    refine evc_g 4 ?_
    refine evc_i 63 (decide ((↑d.toNat : Int) > 159)) false ?_
    refine evc_g 10 ?_
    refine evc_set 68 (Val.int IntKind.i64 (IntKind.i64.wrap ((↑at' : Int) + 2))) (Val.int IntKind.i64 (↑(at' + 2) : Int)) (by kernel_rfl) (congrArg (Val.int IntKind.i64) hw2) ?_
    refine evc_c (h139) ?_
    refine evc_g 4 ?_
    exact evc_t (Val.tup [Val.int IntKind.i64 3, Val.int IntKind.i64 (IntKind.i64.wrap (2 + (↑f : Int)))]) (hl := (by first | rfl | simp [Val.low, Val.lows, low_encL, low_encI]))
theorem c102_e (s : List UInt8) (hs : s.length ≤ 2 ^ 60) (at' : Nat) (c : UInt8) (hc : s[at']? = some c) (hcl : c.toNat = 240) (S : St) :
    (¬ at' + 1 < s.length → Go.V.Call E0 102 [.str s, .int .i64 (at' : Int)] S (signV (4, 1)) S) ∧
    (∀ d, s[at' + 1]? = some d → d.toNat < 144 ∨ d.toNat > 191 → Go.V.Call E0 102 [.str s, .int .i64 (at' : Int)] S (signV (4, 1)) S) ∧
    (∀ d, s[at' + 1]? = some d → ¬ (d.toNat < 144 ∨ d.toNat > 191) → Go.V.Call E0 102 [.str s, .int .i64 (at' : Int)] S (signV (4, 2 + followU 2 (s.drop (at' + 2)))) S) := by
  have hat := (List.getElem?_eq_some_iff.1 hc).1
  have hw1 : IntKind.wrap .i64 ((at' : Int) + 1) = ((at' + 1 : Nat) : Int) := wrap_nat (m := 1) (by omega)
  have hw2 : IntKind.wrap .i64 ((at' : Int) + 2) = ((at' + 2 : Nat) : Int) := wrap_nat (m := 2) (by omega)
  refine ⟨fun h => ?_, fun d hd h => ?_, fun d hd h => ?_⟩
  · have g : ((at' + 1 : Nat) : Int) ≥ (s.length : Int) := by omega
    refine call_cfg (by kernel_rfl) ?_
    refine evc_g 9 ?_
    refine evc_str (s) (at') (c) (by kernel_rfl) hc (by kernel_rfl) ?_
    refine evc_g 8 ?_
    refine evc_i 14 (decide ((↑c.toNat : Int) < 128)) false ?_
    refine evc_g 14 ?_
    refine evc_i 17 (decide ((↑c.toNat : Int) ≥ 194)) true ?_
    refine evc_g 4 ?_
    refine evc_i 20 (decide ((↑c.toNat : Int) ≤ 223)) false ?_
    refine evc_g 8 ?_
    refine evc_i 23 (decide ((↑c.toNat : Int) ≥ 224)) true ?_
    refine evc_g 4 ?_
    refine evc_i 26 (decide ((↑c.toNat : Int) ≤ 239)) false ?_
    refine evc_g 8 ?_
    refine evc_i 33 (decide ((↑c.toNat : Int) ≥ 240)) true ?_
    refine evc_g 4 ?_
    refine evc_i 36 (decide ((↑c.toNat : Int) ≤ 244)) true ?_
    refine evc_g 11 ?_
    refine evc_i 38 ((↑c.toNat : Int) == 240) true ?_
    refine evc_g 9 ?_
    refine evc_i 40 ((↑c.toNat : Int) == 244) false ?_
    refine evc_g 19 ?_
    refine evc_i 48 (decide (IntKind.i64.wrap ((↑at' : Int) + 1) ≥ (↑s.length : Int))) true ?_
    refine evc_g 23 ?_
    exact evc_t (Val.tup [Val.int IntKind.i64 4, Val.int IntKind.i64 1])
  · have hlt := (List.getElem?_eq_some_iff.1 hd).1
    have g : ¬ ((at' + 1 : Nat) : Int) ≥ (s.length : Int) := by omega
    refine call_cfg (by kernel_rfl) ?_
    refine evc_g 9 ?_
    refine evc_str (s) (at') (c) (by kernel_rfl) hc (by kernel_rfl) ?_
    refine evc_g 8 ?_
    refine evc_i 14 (decide ((↑c.toNat : Int) < 128)) false ?_
    refine evc_g 14 ?_
    refine evc_i 17 (decide ((↑c.toNat : Int) ≥ 194)) true ?_
    refine evc_g 4 ?_
    refine evc_i 20 (decide ((↑c.toNat : Int) ≤ 223)) false ?_
    refine evc_g 8 ?_
    refine evc_i 23 (decide ((↑c.toNat : Int) ≥ 224)) true ?_
    refine evc_g 4 ?_
    refine evc_i 26 (decide ((↑c.toNat : Int) ≤ 239)) false ?_
    refine evc_g 8 ?_
    refine evc_i 33 (decide ((↑c.toNat : Int) ≥ 240)) true ?_
    refine evc_g 4 ?_
    refine evc_i 36 (decide ((↑c.toNat : Int) ≤ 244)) true ?_
    refine evc_g 11 ?_
    refine evc_i 38 ((↑c.toNat : Int) == 240) true ?_
    refine evc_g 9 ?_
    refine evc_i 40 ((↑c.toNat : Int) == 244) false ?_
    refine evc_g 19 ?_
    refine evc_i 48 (decide (IntKind.i64.wrap ((↑at' : Int) + 1) ≥ (↑s.length : Int))) false ?_
    refine evc_g 3 ?_
    refine evc_set 51 (Val.int IntKind.i64 (IntKind.i64.wrap ((↑at' : Int) + 1))) (Val.int IntKind.i64 (↑(at' + 1) : Int)) (by kernel_rfl) (congrArg (Val.int IntKind.i64) hw1) ?_
    refine evc_str (s) (at' + 1) (d) (by kernel_rfl) hd (by kernel_rfl) ?_
    refine evc_g 4 ?_
    refine evc_s 56 (decide ((↑d.toNat : Int) < 144)) (fun h12 => ?_) (fun h12 => ?_)
    · refine evc_g 15 ?_
      exact evc_t (Val.tup [Val.int IntKind.i64 4, Val.int IntKind.i64 1])
    · refine evc_g 3 ?_
      refine evc_set 59 (Val.int IntKind.i64 (IntKind.i64.wrap ((↑at' : Int) + 1))) (Val.int IntKind.i64 (↑(at' + 1) : Int)) (by kernel_rfl) (congrArg (Val.int IntKind.i64) hw1) ?_
      refine evc_str (s) (at' + 1) (d) (by kernel_rfl) hd (by kernel_rfl) ?_
      refine evc_g 4 ?_
      refine evc_i 63 (decide ((↑d.toNat : Int) > 191)) true ?_
      refine evc_g 7 ?_
      exact evc_t (Val.tup [Val.int IntKind.i64 4, Val.int IntKind.i64 1])
  · have hlt := (List.getElem?_eq_some_iff.1 hd).1
    have g : ¬ ((at' + 1 : Nat) : Int) ≥ (s.length : Int) := by omega
    have h139 := c139 s hs (at' + 2) 2 (by omega) (by omega) S
    have hf := followU_le 2 (s.drop (at' + 2))
    generalize followU 2 (s.drop (at' + 2)) = f at *
    have hw3 : IntKind.wrap .i64 (2 + (f : Int)) = ((2 + f : Nat) : Int) := wrap_nat (i := 2) (by omega)
    refine call_cfg (by kernel_rfl) ?_
    refine evc_g 9 ?_
    refine evc_str (s) (at') (c) (by kernel_rfl) hc (by kernel_rfl) ?_
    refine evc_g 8 ?_
    refine evc_i 14 (decide ((↑c.toNat : Int) < 128)) false ?_
    refine evc_g 14 ?_
    refine evc_i 17 (decide ((↑c.toNat : Int) ≥ 194)) true ?_
    refine evc_g 4 ?_
    refine evc_i 20 (decide ((↑c.toNat : Int) ≤ 223)) false ?_
    refine evc_g 8 ?_
    refine evc_i 23 (decide ((↑c.toNat : Int) ≥ 224)) true ?_
    refine evc_g 4 ?_
    refine evc_i 26 (decide ((↑c.toNat : Int) ≤ 239)) false ?_
    refine evc_g 8 ?_
    refine evc_i 33 (decide ((↑c.toNat : Int) ≥ 240)) true ?_
    refine evc_g 4 ?_
    refine evc_i 36 (decide ((↑c.toNat : Int) ≤ 244)) true ?_
    refine evc_g 11 ?_
    refine evc_i 38 ((↑c.toNat : Int) == 240) true ?_
    refine evc_g 9 ?_
    refine evc_i 40 ((↑c.toNat : Int) == 244) false ?_
    refine evc_g 19 ?_
    refine evc_i 48 (decide (IntKind.i64.wrap ((↑at' : Int) + 1) ≥ (↑s.length : Int))) false ?_
    refine evc_g 3 ?_
    refine evc_set 51 (Val.int IntKind.i64 (IntKind.i64.wrap ((↑at' : Int) + 1))) (Val.int IntKind.i64 (↑(at' + 1) : Int)) (by kernel_rfl) (congrArg (Val.int IntKind.i64) hw1) ?_
    refine evc_str (s) (at' + 1) (d) (by kernel_rfl) hd (by kernel_rfl) ?_
    refine evc_g 4 ?_
    refine evc_i 56 (decide ((↑d.toNat : Int) < 144)) false ?_
    refine evc_g 3 ?_
    refine evc_set 59 (Val.int IntKind.i64 (IntKind.i64.wrap ((↑at' : Int) + 1))) (Val.int IntKind.i64 (↑(at' + 1) : Int)) (by kernel_rfl) (congrArg (Val.int IntKind.i64) hw1) ?_
    refine evc_str (s) (at' + 1) (d) (by kernel_rfl) hd (by kernel_rfl) ?_
    refine evc_g 4 ?_
    refine evc_i 63 (decide ((↑d.toNat : Int) > 191)) false ?_
    refine evc_g 10 ?_
    refine evc_set 68 (Val.int IntKind.i64 (IntKind.i64.wrap ((↑at' : Int) + 2))) (Val.int IntKind.i64 (↑(at' + 2) : Int)) (by kernel_rfl) (congrArg (Val.int IntKind.i64) hw2) ?_
    refine evc_c (h139) ?_
    refine evc_g 4 ?_
    exact evc_t (Val.tup [Val.int IntKind.i64 4, Val.int IntKind.i64 (IntKind.i64.wrap (2 + (↑f : Int)))]) (hl := (by first | rfl | simp [Val.low, Val.lows, low_encL, low_encI]))
theorem c102_f (s : List UInt8) (hs : s.length ≤ 2 ^ 60) (at' : Nat) (c : UInt8) (hc : s[at']? = some c) (hcl : 241 ≤ c.toNat ∧ c.toNat ≤ 243) (S : St) :
    (¬ at' + 1 < s.length → Go.V.Call E0 102 [.str s, .int .i64 (at' : Int)] S (signV (4, 1)) S) ∧
    (∀ d, s[at' + 1]? = some d → d.toNat < 128 ∨ d.toNat > 191 → Go.V.Call E0 102 [.str s, .int .i64 (at' : Int)] S (signV (4, 1)) S) ∧
    (∀ d, s[at' + 1]? = some d → ¬ (d.toNat < 128 ∨ d.toNat > 191) → Go.V.Call E0 102 [.str s, .int .i64 (at' : Int)] S (signV (4, 2 + followU 2 (s.drop (at' + 2)))) S) := by
  have hat := (List.getElem?_eq_some_iff.1 hc).1
  have hw1 : IntKind.wrap .i64 ((at' : Int) + 1) = ((at' + 1 : Nat) : Int) := wrap_nat (m := 1) (by omega)
  have hw2 : IntKind.wrap .i64 ((at' : Int) + 2) = ((at' + 2 : Nat) : Int) := wrap_nat (m := 2) (by omega)
  refine ⟨fun h => ?_, fun d hd h => ?_, fun d hd h => ?_⟩
  · have g : ((at' + 1 : Nat) : Int) ≥ (s.length : Int) := by omega
    refine call_cfg (by kernel_rfl) ?_
    refine evc_g 9 ?_
    refine evc_str (s) (at') (c) (by kernel_rfl) hc (by kernel_rfl) ?_
    refine evc_g 8 ?_
    refine evc_i 14 (decide ((↑c.toNat : Int) < 128)) false ?_
    refine evc_g 14 ?_
    refine evc_i 17 (decide ((↑c.toNat : Int) ≥ 194)) true ?_
    refine evc_g 4 ?_
    refine evc_i 20 (decide ((↑c.toNat : Int) ≤ 223)) false ?_
    refine evc_g 8 ?_
    refine evc_i 23 (decide ((↑c.toNat : Int) ≥ 224)) true ?_
    refine evc_g 4 ?_
    refine evc_i 26 (decide ((↑c.toNat : Int) ≤ 239)) false ?_
    refine evc_g 8 ?_
    refine evc_i 33 (decide ((↑c.toNat : Int) ≥ 240)) true ?_
    refine evc_g 4 ?_
    refine evc_i 36 (decide ((↑c.toNat : Int) ≤ 244)) true ?_
    refine evc_g 11 ?_
    refine evc_i 38 ((↑c.toNat : Int) == 240) false ?_
    refine evc_g 7 ?_
    refine evc_i 40 ((↑c.toNat : Int) == 244) false ?_
    refine evc_g 19 ?_
    refine evc_i 48 (decide (IntKind.i64.wrap ((↑at' : Int) + 1) ≥ (↑s.length : Int))) true ?_
    refine evc_g 23 ?_
    exact evc_t (Val.tup [Val.int IntKind.i64 4, Val.int IntKind.i64 1])
  · have hlt := (List.getElem?_eq_some_iff.1 hd).1
    have g : ¬ ((at' + 1 : Nat) : Int) ≥ (s.length : Int) := by omega
    refine call_cfg (by kernel_rfl) ?_
    refine evc_g 9 ?_
    refine evc_str (s) (at') (c) (by kernel_rfl) hc (by kernel_rfl) ?_
    refine evc_g 8 ?_
    refine evc_i 14 (decide ((↑c.toNat : Int) < 128)) false ?_
    refine evc_g 14 ?_
    refine evc_i 17 (decide ((↑c.toNat : Int) ≥ 194)) true ?_
    refine evc_g 4 ?_
    refine evc_i 20 (decide ((↑c.toNat : Int) ≤ 223)) false ?_
    refine evc_g 8 ?_
    refine evc_i 23 (decide ((↑c.toNat : Int) ≥ 224)) true ?_
    refine evc_g 4 ?_
    refine evc_i 26 (decide ((↑c.toNat : Int) ≤ 239)) false ?_
    refine evc_g 8 ?_
    refine evc_i 33 (decide ((↑c.toNat : Int) ≥ 240)) true ?_
    refine evc_g 4 ?_
    refine evc_i 36 (decide ((↑c.toNat : Int) ≤ 244)) true ?_
    refine evc_g 11 ?_
    refine evc_i 38 ((↑c.toNat : Int) == 240) false ?_
    refine evc_g 7 ?_
    refine evc_i 40 ((↑c.toNat : Int) == 244) false ?_
    refine evc_g 19 ?_
    refine evc_i 48 (decide (IntKind.i64.wrap ((↑at' : Int) + 1) ≥ (↑s.length : Int))) false ?_
    refine evc_g 3 ?_
    refine evc_set 51 (Val.int IntKind.i64 (IntKind.i64.wrap ((↑at' : Int) + 1))) (Val.int IntKind.i64 (↑(at' + 1) : Int)) (by kernel_rfl) (congrArg (Val.int IntKind.i64) hw1) ?_
    refine evc_str (s) (at' + 1) (d) (by kernel_rfl) hd (by kernel_rfl) ?_
    refine evc_g 4 ?_
    refine evc_s 56 (decide ((↑d.toNat : Int) < 128)) (fun h12 => ?_) (fun h12 => ?_)
    · refine evc_g 15 ?_
      exact evc_t (Val.tup [Val.int IntKind.i64 4, Val.int IntKind.i64 1])
    · refine evc_g 3 ?_
      refine evc_set 59 (Val.int IntKind.i64 (IntKind.i64.wrap ((↑at' : Int) + 1))) (Val.int IntKind.i64 (↑(at' + 1) : Int)) (by kernel_rfl) (congrArg (Val.int IntKind.i64) hw1) ?_
      refine evc_str (s) (at' + 1) (d) (by kernel_rfl) hd (by kernel_rfl) ?_
      refine evc_g 4 ?_
      refine evc_i 63 (decide ((↑d.toNat : Int) > 191)) true ?_
      refine evc_g 7 ?_
      exact evc_t (Val.tup [Val.int IntKind.i64 4, Val.int IntKind.i64 1])
  · have hlt := (List.getElem?_eq_some_iff.1 hd).1
    have g : ¬ ((at' + 1 : Nat) : Int) ≥ (s.length : Int) := by omega
    have h139 := c139 s hs (at' + 2) 2 (by omega) (by omega) S
    have hf := followU_le 2 (s.drop (at' + 2))
    generalize followU 2 (s.drop (at' + 2)) = f at *
    have hw3 : IntKind.wrap .i64 (2 + (f : Int)) = ((2 + f : Nat) : Int) := wrap_nat (i := 2) (by omega)
    refine call_cfg (by kernel_rfl) ?_
    refine evc_g 9 ?_
    refine evc_str (s) (at') (c) (by kernel_rfl) hc (by kernel_rfl) ?_
    refine evc_g 8 ?_
    refine evc_i 14 (decide ((↑c.toNat : Int) < 128)) false ?_
    refine evc_g 14 ?_
    refine evc_i 17 (decide ((↑c.toNat : Int) ≥ 194)) true ?_
    refine evc_g 4 ?_
    refine evc_i 20 (decide ((↑c.toNat : Int) ≤ 223)) false ?_
    refine evc_g 8 ?_
    refine evc_i 23 (decide ((↑c.toNat : Int) ≥ 224)) true ?_
    refine evc_g 4 ?_
    refine evc_i 26 (decide ((↑c.toNat : Int) ≤ 239)) false ?_
    refine evc_g 8 ?_
    refine evc_i 33 (decide ((↑c.toNat : Int) ≥ 240)) true ?_
    refine evc_g 4 ?_
    refine evc_i 36 (decide ((↑c.toNat : Int) ≤ 244)) true ?_
    refine evc_g 11 ?_
    refine evc_i 38 ((↑c.toNat : Int) == 240) false ?_
    refine evc_g 7 ?_
    refine evc_i 40 ((↑c.toNat : Int) == 244) false ?_
    refine evc_g 19 ?_
    refine evc_i 48 (decide (IntKind.i64.wrap ((↑at' : Int) + 1) ≥ (↑s.length : Int))) false ?_
    refine evc_g 3 ?_
    refine evc_set 51 (Val.int IntKind.i64 (IntKind.i64.wrap ((↑at' : Int) + 1))) (Val.int IntKind.i64 (↑(at' + 1) : Int)) (by kernel_rfl) (congrArg (Val.int IntKind.i64) hw1) ?_
    refine evc_str (s) (at' + 1) (d) (by kernel_rfl) hd (by kernel_rfl) ?_
    refine evc_g 4 ?_
    refine evc_i 56 (decide ((↑d.toNat : Int) < 128)) false ?_
    refine evc_g 3 ?_
    refine evc_set 59 (Val.int IntKind.i64 (IntKind.i64.wrap ((↑at' : Int) + 1))) (Val.int IntKind.i64 (↑(at' + 1) : Int)) (by kernel_rfl) (congrArg (Val.int IntKind.i64) hw1) ?_
    refine evc_str (s) (at' + 1) (d) (by kernel_rfl) hd (by kernel_rfl) ?_
    refine evc_g 4 ?_
    refine evc_i 63 (decide ((↑d.toNat : Int) > 191)) false ?_
    refine evc_g 10 ?_
    refine evc_set 68 (Val.int IntKind.i64 (IntKind.i64.wrap ((↑at' : Int) + 2))) (Val.int IntKind.i64 (↑(at' + 2) : Int)) (by kernel_rfl) (congrArg (Val.int IntKind.i64) hw2) ?_
    refine evc_c (h139) ?_
    refine evc_g 4 ?_
    exact evc_t (Val.tup [Val.int IntKind.i64 4, Val.int IntKind.i64 (IntKind.i64.wrap (2 + (↑f : Int)))]) (hl := (by first | rfl | simp [Val.low, Val.lows, low_encL, low_encI]))
theorem c102_g (s : List UInt8) (hs : s.length ≤ 2 ^ 60) (at' : Nat) (c : UInt8) (hc : s[at']? = some c) (hcl : c.toNat = 244) (S : St) :
    (¬ at' + 1 < s.length → Go.V.Call E0 102 [.str s, .int .i64 (at' : Int)] S (signV (4, 1)) S) ∧
    (∀ d, s[at' + 1]? = some d → d.toNat < 128 ∨ d.toNat > 143 → Go.V.Call E0 102 [.str s, .int .i64 (at' : Int)] S (signV (4, 1)) S) ∧
    (∀ d, s[at' + 1]? = some d → ¬ (d.toNat < 128 ∨ d.toNat > 143) → Go.V.Call E0 102 [.str s, .int .i64 (at' : Int)] S (signV (4, 2 + followU 2 (s.drop (at' + 2)))) S) := by
  have hat := (List.getElem?_eq_some_iff.1 hc).1
  have hw1 : IntKind.wrap .i64 ((at' : Int) + 1) = ((at' + 1 : Nat) : Int) := wrap_nat (m := 1) (by omega)
  have hw2 : IntKind.wrap .i64 ((at' : Int) + 2) = ((at' + 2 : Nat) : Int) := wrap_nat (m := 2) (by omega)
  refine ⟨fun h => ?_, fun d hd h => ?_, fun d hd h => ?_⟩
  · have g : ((at' + 1 : Nat) : Int) ≥ (s.length : Int) := by omega
    refine call_cfg (by kernel_rfl) ?_
    refine evc_g 9 ?_
    refine evc_str (s) (at') (c) (by kernel_rfl) hc (by kernel_rfl) ?_
    refine evc_g 8 ?_
    refine evc_i 14 (decide ((↑c.toNat : Int) < 128)) false ?_
    refine evc_g 14 ?_
    refine evc_i 17 (decide ((↑c.toNat : Int) ≥ 194)) true ?_
    refine evc_g 4 ?_
    refine evc_i 20 (decide ((↑c.toNat : Int) ≤ 223)) false ?_
    refine evc_g 8 ?_
    refine evc_i 23 (decide ((↑c.toNat : Int) ≥ 224)) true ?_
    refine evc_g 4 ?_
    refine evc_i 26 (decide ((↑c.toNat : Int) ≤ 239)) false ?_
    refine evc_g 8 ?_
    refine evc_i 33 (decide ((↑c.toNat : Int) ≥ 240)) true ?_
    refine evc_g 4 ?_
    refine evc_i 36 (decide ((↑c.toNat : Int) ≤ 244)) true ?_
    refine evc_g 11 ?_
    refine evc_i 38 ((↑c.toNat : Int) == 240) false ?_
    refine evc_g 7 ?_
    refine evc_i 40 ((↑c.toNat : Int) == 244) true ?_
    refine evc_g 21 ?_
    refine evc_i 48 (decide (IntKind.i64.wrap ((↑at' : Int) + 1) ≥ (↑s.length : Int))) true ?_
    refine evc_g 23 ?_
    exact evc_t (Val.tup [Val.int IntKind.i64 4, Val.int IntKind.i64 1])
  · have hlt := (List.getElem?_eq_some_iff.1 hd).1
    have g : ¬ ((at' + 1 : Nat) : Int) ≥ (s.length : Int) := by omega
    refine call_cfg (by kernel_rfl) ?_
    refine evc_g 9 ?_
    refine evc_str (s) (at') (c) (by kernel_rfl) hc (by kernel_rfl) ?_
    refine evc_g 8 ?_
    refine evc_i 14 (decide ((↑c.toNat : Int) < 128)) false ?_
    refine evc_g 14 ?_
    refine evc_i 17 (decide ((↑c.toNat : Int) ≥ 194)) true ?_
    refine evc_g 4 ?_
    refine evc_i 20 (decide ((↑c.toNat : Int) ≤ 223)) false ?_
    refine evc_g 8 ?_
    refine evc_i 23 (decide ((↑c.toNat : Int) ≥ 224)) true ?_
    refine evc_g 4 ?_
    refine evc_i 26 (decide ((↑c.toNat : Int) ≤ 239)) false ?_
    refine evc_g 8 ?_
    refine evc_i 33 (decide ((↑c.toNat : Int) ≥ 240)) true ?_
    refine evc_g 4 ?_
    refine evc_i 36 (decide ((↑c.toNat : Int) ≤ 244)) true ?_
    refine evc_g 11 ?_
    refine evc_i 38 ((↑c.toNat : Int) == 240) false ?_
    refine evc_g 7 ?_
    refine evc_i 40 ((↑c.toNat : Int) == 244) true ?_
    refine evc_g 21 ?_
    refine evc_i 48 (decide (IntKind.i64.wrap ((↑at' : Int) + 1) ≥ (↑s.length : Int))) false ?_
    refine evc_g 3 ?_
    refine evc_set 51 (Val.int IntKind.i64 (IntKind.i64.wrap ((↑at' : Int) + 1))) (Val.int IntKind.i64 (↑(at' + 1) : Int)) (by kernel_rfl) (congrArg (Val.int IntKind.i64) hw1) ?_
    refine evc_str (s) (at' + 1) (d) (by kernel_rfl) hd (by kernel_rfl) ?_
    refine evc_g 4 ?_
    refine evc_s 56 (decide ((↑d.toNat : Int) < 128)) (fun h12 => ?_) (fun h12 => ?_)
    · refine evc_g 15 ?_
      exact evc_t (Val.tup [Val.int IntKind.i64 4, Val.int IntKind.i64 1])
    · refine evc_g 3 ?_
      refine evc_set 59 (Val.int IntKind.i64 (IntKind.i64.wrap ((↑at' : Int) + 1))) (Val.int IntKind.i64 (↑(at' + 1) : Int)) (by kernel_rfl) (congrArg (Val.int IntKind.i64) hw1) ?_
      refine evc_str (s) (at' + 1) (d) (by kernel_rfl) hd (by kernel_rfl) ?_
      refine evc_g 4 ?_
      refine evc_i 63 (decide ((↑d.toNat : Int) > 143)) true ?_
      refine evc_g 7 ?_
      exact evc_t (Val.tup [Val.int IntKind.i64 4, Val.int IntKind.i64 1])
  · have hlt := (List.getElem?_eq_some_iff.1 hd).1
    have g : ¬ ((at' + 1 : Nat) : Int) ≥ (s.length : Int) := by omega
    have h139 := c139 s hs (at' + 2) 2 (by omega) (by omega) S
    have hf := followU_le 2 (s.drop (at' + 2))
    generalize followU 2 (s.drop (at' + 2)) = f at *
    have hw3 : IntKind.wrap .i64 (2 + (f : Int)) = ((2 + f : Nat) : Int) := wrap_nat (i := 2) (by omega)
    refine call_cfg (by kernel_rfl) ?_
    refine evc_g 9 ?_
    refine evc_str (s) (at') (c) (by kernel_rfl) hc (by kernel_rfl) ?_
    refine evc_g 8 ?_
    refine evc_i 14 (decide ((↑c.toNat : Int) < 128)) false ?_
    refine evc_g 14 ?_
    refine evc_i 17 (decide ((↑c.toNat : Int) ≥ 194)) true ?_
    refine evc_g 4 ?_
    refine evc_i 20 (decide ((↑c.toNat : Int) ≤ 223)) false ?_
    refine evc_g 8 ?_
    refine evc_i 23 (decide ((↑c.toNat : Int) ≥ 224)) true ?_
    refine evc_g 4 ?_
    refine evc_i 26 (decide ((↑c.toNat : Int) ≤ 239)) false ?_
    refine evc_g 8 ?_
    refine evc_i 33 (decide ((↑c.toNat : Int) ≥ 240)) true ?_
    refine evc_g 4 ?_
    refine evc_i 36 (decide ((↑c.toNat : Int) ≤ 244)) true ?_
    refine evc_g 11 ?_
    refine evc_i 38 ((↑c.toNat : Int) == 240) false ?_
    refine evc_g 7 ?_
    refine evc_i 40 ((↑c.toNat : Int) == 244) true ?_
    refine evc_g 21 ?_
    refine evc_i 48 (decide (IntKind.i64.wrap ((↑at' : Int) + 1) ≥ (↑s.length : Int))) false ?_
    refine evc_g 3 ?_
    refine evc_set 51 (Val.int IntKind.i64 (IntKind.i64.wrap ((↑at' : Int) + 1))) (Val.int IntKind.i64 (↑(at' + 1) : Int)) (by kernel_rfl) (congrArg (Val.int IntKind.i64) hw1) ?_
    refine evc_str (s) (at' + 1) (d) (by kernel_rfl) hd (by kernel_rfl) ?_
    refine evc_g 4 ?_
    refine evc_i 56 (decide ((↑d.toNat : Int) < 128)) false ?_
    refine evc_g 3 ?_
    refine evc_set 59 (Val.int IntKind.i64 (IntKind.i64.wrap ((↑at' : Int) + 1))) (Val.int IntKind.i64 (↑(at' + 1) : Int)) (by kernel_rfl) (congrArg (Val.int IntKind.i64) hw1) ?_
    refine evc_str (s) (at' + 1) (d) (by kernel_rfl) hd (by kernel_rfl) ?_
    refine evc_g 4 ?_
    refine evc_i 63 (decide ((↑d.toNat : Int) > 143)) false ?_
    refine evc_g 10 ?_
    refine evc_set 68 (Val.int IntKind.i64 (IntKind.i64.wrap ((↑at' : Int) + 2))) (Val.int IntKind.i64 (↑(at' + 2) : Int)) (by kernel_rfl) (congrArg (Val.int IntKind.i64) hw2) ?_
    refine evc_c (h139) ?_
    refine evc_g 4 ?_
    exact evc_t (Val.tup [Val.int IntKind.i64 4, Val.int IntKind.i64 (IntKind.i64.wrap (2 + (↑f : Int)))]) (hl := (by first | rfl | simp [Val.low, Val.lows, low_encL, low_encI]))
end Go.V.W
