/- utf.Valid: what it answers of any text. -/
import Derived.Test.YtgnfinbhnoofpaaDoorE0
import Derived.Test.YtgnfinbhnoofpaaDoorUtfS
import Derived.Test.YtgnfinbhnoofpaaDoorVH
set_option linter.unusedVariables false
set_option linter.unusedSimpArgs false
set_option linter.unusedSectionVars false
open Go Go.V
set_option maxRecDepth 100000
set_option maxHeartbeats 4000000
namespace Go.V.W
theorem hc_same {S : St} {b : Nat} {cs : List Val} (h : hcells S b none = some cs) : setCells S b none cs = S := by
  unfold hcells at h
  unfold setCells
  have hb : S.H[b]? = some (.cells cs false) := by
    split at h
    · rename_i he _; cases h; exact he
    · simp_all
    · simp at h
  obtain ⟨hl, he⟩ := List.getElem?_eq_some_iff.1 hb
  have : S.H.set b (.cells cs (none : Option Nat).isSome) = S.H := by
    show S.H.set b (.cells cs false) = S.H
    rw [← he, List.set_getElem_self]
  rw [this]
def beginV (c : Nat) : Val := .tup [.int .i64 (beginU c).1, .int .u8 ((beginU c).2.1 : Int), .int .u8 ((beginU c).2.2 : Int)]
theorem c163 (c : Nat) (S : St) : Go.V.Call E0 163 [.int .u8 (c : Int)] S (beginV c) S := by
  have e : beginV c = if (c : Int) ≤ 127 then .tup [.int .i64 0, .int .u8 128, .int .u8 191]
      else if (c : Int) ≥ 194 ∧ (c : Int) ≤ 223 then .tup [.int .i64 1, .int .u8 128, .int .u8 191]
      else if (c : Int) = 224 then .tup [.int .i64 2, .int .u8 160, .int .u8 191]
      else if ((c : Int) ≥ 225 ∧ (c : Int) ≤ 236) ∨ ((c : Int) ≥ 238 ∧ (c : Int) ≤ 239) then .tup [.int .i64 2, .int .u8 128, .int .u8 191]
      else if (c : Int) = 237 then .tup [.int .i64 2, .int .u8 128, .int .u8 159]
      else if (c : Int) = 240 then .tup [.int .i64 3, .int .u8 144, .int .u8 191]
      else if (c : Int) ≥ 241 ∧ (c : Int) ≤ 243 then .tup [.int .i64 3, .int .u8 128, .int .u8 191]
      else if (c : Int) = 244 then .tup [.int .i64 3, .int .u8 128, .int .u8 143]
      else .tup [.int .i64 (-1), .int .u8 128, .int .u8 191] := by
    unfold beginV beginU
    by_cases h0 : c ≤ 127
    · simp only [if_pos h0, if_pos (show (c : Int) ≤ 127 by omega)]; rfl
    simp only [if_neg h0, if_neg (show ¬ ((c : Int) ≤ 127) by omega)]
    by_cases h1 : 194 ≤ c ∧ c ≤ 223
    · simp only [if_pos h1, if_pos (show (c : Int) ≥ 194 ∧ (c : Int) ≤ 223 by omega)]; rfl
    simp only [if_neg h1, if_neg (show ¬ ((c : Int) ≥ 194 ∧ (c : Int) ≤ 223) by omega)]
    by_cases h2 : c = 224
    · simp only [if_pos h2, if_pos (show (c : Int) = 224 by omega)]; rfl
    simp only [if_neg h2, if_neg (show ¬ ((c : Int) = 224) by omega)]
    by_cases h3 : (225 ≤ c ∧ c ≤ 236) ∨ (238 ≤ c ∧ c ≤ 239)
    · simp only [if_pos h3, if_pos (show ((c : Int) ≥ 225 ∧ (c : Int) ≤ 236) ∨ ((c : Int) ≥ 238 ∧ (c : Int) ≤ 239) by omega)]; rfl
    simp only [if_neg h3, if_neg (show ¬ (((c : Int) ≥ 225 ∧ (c : Int) ≤ 236) ∨ ((c : Int) ≥ 238 ∧ (c : Int) ≤ 239)) by omega)]
    by_cases h4 : c = 237
    · simp only [if_pos h4, if_pos (show (c : Int) = 237 by omega)]; rfl
    simp only [if_neg h4, if_neg (show ¬ ((c : Int) = 237) by omega)]
    by_cases h5 : c = 240
    · simp only [if_pos h5, if_pos (show (c : Int) = 240 by omega)]; rfl
    simp only [if_neg h5, if_neg (show ¬ ((c : Int) = 240) by omega)]
    by_cases h6 : 241 ≤ c ∧ c ≤ 243
    · simp only [if_pos h6, if_pos (show (c : Int) ≥ 241 ∧ (c : Int) ≤ 243 by omega)]; rfl
    simp only [if_neg h6, if_neg (show ¬ ((c : Int) ≥ 241 ∧ (c : Int) ≤ 243) by omega)]
    by_cases h7 : c = 244
    · simp only [if_pos h7, if_pos (show (c : Int) = 244 by omega)]; rfl
    simp only [if_neg h7, if_neg (show ¬ ((c : Int) = 244) by omega)]
    rfl
  rw [e]
  clear e
  generalize (c : Int) = c
  refine call_cfg (by kernel_rfl) ?_
  refine evc_g 37 ?_
  refine evc_s 5 (decide (c ≤ 127)) (fun h12 => ?_) (fun h12 => ?_)
  · refine evc_g 11 ?_
    exact evc_t (Val.tup [Val.int IntKind.i64 0, Val.int IntKind.u8 128, Val.int IntKind.u8 191])
  · refine evc_g 8 ?_
    refine evc_s 11 (decide (c ≥ 194)) (fun h11 => ?_) (fun h11 => ?_)
    · refine evc_g 5 ?_
      refine evc_s 8 (decide (c ≤ 223)) (fun h10 => ?_) (fun h10 => ?_)
      · refine evc_g 11 ?_
        exact evc_t (Val.tup [Val.int IntKind.i64 1, Val.int IntKind.u8 128, Val.int IntKind.u8 191])
      · refine evc_g 9 ?_
        refine evc_s 15 (c == 224) (fun h9 => ?_) (fun h9 => ?_)
        · refine evc_g 15 ?_
          exact evc_t (Val.tup [Val.int IntKind.i64 2, Val.int IntKind.u8 160, Val.int IntKind.u8 191])
        · refine evc_g 9 ?_
          refine evc_i 21 (decide (c ≥ 225)) true ?_
          refine evc_g 5 ?_
          refine evc_s 18 (decide (c ≤ 236)) (fun h8 => ?_) (fun h8 => ?_)
          · refine evc_g 13 ?_
            exact evc_t (Val.tup [Val.int IntKind.i64 2, Val.int IntKind.u8 128, Val.int IntKind.u8 191])
          · refine evc_g 5 ?_
            refine evc_s 27 (decide (c ≥ 238)) (fun h7 => ?_) (fun h7 => ?_)
            · refine evc_g 5 ?_
              refine evc_s 18 (decide (c ≤ 239)) (fun h6 => ?_) (fun h6 => ?_)
              · refine evc_g 11 ?_
                exact evc_t (Val.tup [Val.int IntKind.i64 2, Val.int IntKind.u8 128, Val.int IntKind.u8 191])
              · refine evc_g 9 ?_
                refine evc_i 31 (c == 237) false ?_
                refine evc_g 9 ?_
                refine evc_s 34 (c == 240) (fun h5 => ?_) (fun h5 => ?_)
                · refine evc_g 15 ?_
                  exact evc_t (Val.tup [Val.int IntKind.i64 3, Val.int IntKind.u8 144, Val.int IntKind.u8 191])
                · refine evc_g 8 ?_
                  refine evc_i 40 (decide (c ≥ 241)) true ?_
                  refine evc_g 5 ?_
                  refine evc_s 37 (decide (c ≤ 243)) (fun h4 => ?_) (fun h4 => ?_)
                  · refine evc_g 11 ?_
                    exact evc_t (Val.tup [Val.int IntKind.i64 3, Val.int IntKind.u8 128, Val.int IntKind.u8 191])
                  · refine evc_g 8 ?_
                    refine evc_s 44 (c == 244) (fun h3 => ?_) (fun h3 => ?_)
                    · refine evc_g 10 ?_
                      exact evc_t (Val.tup [Val.int IntKind.i64 3, Val.int IntKind.u8 128, Val.int IntKind.u8 143])
                    · refine evc_g 11 ?_
                      exact evc_t (Val.tup [Val.int IntKind.i64 (-1), Val.int IntKind.u8 128, Val.int IntKind.u8 191])
            · refine evc_g 14 ?_
              refine evc_i 31 (c == 237) true ?_
              refine evc_g 10 ?_
              exact evc_t (Val.tup [Val.int IntKind.i64 2, Val.int IntKind.u8 128, Val.int IntKind.u8 159])
    · refine evc_g 14 ?_
      refine evc_i 15 (c == 224) false ?_
      refine evc_g 9 ?_
      refine evc_i 21 (decide (c ≥ 225)) false ?_
      refine evc_g 10 ?_
      refine evc_i 27 (decide (c ≥ 238)) false ?_
      refine evc_g 14 ?_
      refine evc_i 31 (c == 237) false ?_
      refine evc_g 9 ?_
      refine evc_i 34 (c == 240) false ?_
      refine evc_g 8 ?_
      refine evc_i 40 (decide (c ≥ 241)) false ?_
      refine evc_g 13 ?_
      refine evc_i 44 (c == 244) false ?_
      refine evc_g 11 ?_
      exact evc_t (Val.tup [Val.int IntKind.i64 (-1), Val.int IntKind.u8 128, Val.int IntKind.u8 191])
abbrev encU (w : U8) : List Val := [.int .i64 w.left, .int .u8 (w.lo : Int), .int .u8 (w.hi : Int), .bool w.bad]
theorem c144 (S : St) (b : Nat) (w : U8) (c : Nat) (hl : w.bad = false → 0 ≤ w.left ∧ w.left ≤ 3) (hh : hcells S b none = some (encU w)) :
    Go.V.Call E0 144 [.ptr b 0 none, .int .u8 (c : Int)] S (.bool (!(w.step c).bad)) (setCells S b none (encU (w.step c))) := by
  obtain ⟨left, lo, hi, bad⟩ := w
  simp only [encU] at hh hl
  unfold U8.step
  by_cases hb : bad = true
  · subst hb
    simp only [if_true, Bool.not_true]
    rw [encU, hc_same hh]
    refine call_cfg (by kernel_rfl) ?_
    refine evc_g 12 ?_
    refine evc_nilG (S) (b) (0) (Option.none) ([Val.int IntKind.i64 left, Val.int IntKind.u8 (↑lo : Int), Val.int IntKind.u8 (↑hi : Int), Val.bool Bool.true]) (by kernel_rfl) (by kernel_rfl) hh (by kernel_rfl) ?_
    refine evc_fldG (S) (b) (0) (Option.none) 3 0 ([Val.int IntKind.i64 left, Val.int IntKind.u8 (↑lo : Int), Val.int IntKind.u8 (↑hi : Int), Val.bool Bool.true]) (by kernel_rfl) (by kernel_rfl) hh (by kernel_rfl) ?_
    refine evc_getG (S) (b) (Option.none) ([Val.int IntKind.i64 left, Val.int IntKind.u8 (↑lo : Int), Val.int IntKind.u8 (↑hi : Int), Val.bool Bool.true]) (3) (Val.bool Bool.true) (by kernel_rfl) (by kernel_rfl) hh (by kernel_rfl) (by kernel_rfl) ?_
    refine evc_g 8 ?_
    exact evc_t (Val.bool Bool.false)
  · have hbf : bad = false := by simpa using hb
    subst hbf
    have hl := hl rfl
    simp only [Bool.false_eq_true, if_false]
    by_cases h0 : left = 0
    · subst h0
      simp only [if_true, encU]
      have h163 := c163 c S
      unfold beginV at h163
      generalize (beginU c).1 = a at *
      generalize (beginU c).2.1 = lo' at *
      generalize (beginU c).2.2 = hi' at *
      refine call_cfg (by kernel_rfl) ?_
      refine evc_g 12 ?_
      refine evc_nilG (S) (b) (0) (Option.none) ([Val.int IntKind.i64 0, Val.int IntKind.u8 (↑lo : Int), Val.int IntKind.u8 (↑hi : Int), Val.bool Bool.false]) (by kernel_rfl) (by kernel_rfl) hh (by kernel_rfl) ?_
      refine evc_fldG (S) (b) (0) (Option.none) 3 0 ([Val.int IntKind.i64 0, Val.int IntKind.u8 (↑lo : Int), Val.int IntKind.u8 (↑hi : Int), Val.bool Bool.false]) (by kernel_rfl) (by kernel_rfl) hh (by kernel_rfl) ?_
      refine evc_getG (S) (b) (Option.none) ([Val.int IntKind.i64 0, Val.int IntKind.u8 (↑lo : Int), Val.int IntKind.u8 (↑hi : Int), Val.bool Bool.false]) (3) (Val.bool Bool.false) (by kernel_rfl) (by kernel_rfl) hh (by kernel_rfl) (by kernel_rfl) ?_
      refine evc_g 7 ?_
      refine evc_nilG (S) (b) (0) (Option.none) ([Val.int IntKind.i64 0, Val.int IntKind.u8 (↑lo : Int), Val.int IntKind.u8 (↑hi : Int), Val.bool Bool.false]) (by kernel_rfl) (by kernel_rfl) hh (by kernel_rfl) ?_
      refine evc_fldG (S) (b) (0) (Option.none) 0 0 ([Val.int IntKind.i64 0, Val.int IntKind.u8 (↑lo : Int), Val.int IntKind.u8 (↑hi : Int), Val.bool Bool.false]) (by kernel_rfl) (by kernel_rfl) hh (by kernel_rfl) ?_
      refine evc_getG (S) (b) (Option.none) ([Val.int IntKind.i64 0, Val.int IntKind.u8 (↑lo : Int), Val.int IntKind.u8 (↑hi : Int), Val.bool Bool.false]) (0) (Val.int IntKind.i64 0) (by kernel_rfl) (by kernel_rfl) hh (by kernel_rfl) (by kernel_rfl) ?_
      refine evc_g 10 ?_
      refine evc_c (h163) ?_
      refine evc_g 4 ?_
      refine evc_nilG (S) (b) (0) (Option.none) ([Val.int IntKind.i64 0, Val.int IntKind.u8 (↑lo : Int), Val.int IntKind.u8 (↑hi : Int), Val.bool Bool.false]) (by kernel_rfl) (by kernel_rfl) hh (by kernel_rfl) ?_
      refine evc_fldG (S) (b) (0) (Option.none) 0 0 ([Val.int IntKind.i64 0, Val.int IntKind.u8 (↑lo : Int), Val.int IntKind.u8 (↑hi : Int), Val.bool Bool.false]) (by kernel_rfl) (by kernel_rfl) hh (by kernel_rfl) ?_
      refine evc_stG (S) ({ H := S.H.set b (Go.V.Block.cells [Val.int IntKind.i64 a, Val.int IntKind.u8 (↑lo : Int), Val.int IntKind.u8 (↑hi : Int), Val.bool Bool.false] Option.none.isSome), L := S.L }) (b) (Option.none) ([Val.int IntKind.i64 0, Val.int IntKind.u8 (↑lo : Int), Val.int IntKind.u8 (↑hi : Int), Val.bool Bool.false]) (0) ([Val.int IntKind.i64 a]) ([Val.int IntKind.i64 a, Val.int IntKind.u8 (↑lo : Int), Val.int IntKind.u8 (↑hi : Int), Val.bool Bool.false]) (by kernel_rfl) (by kernel_rfl) hh (by kernel_rfl) rfl (by kernel_rfl) ?_
      refine evc_nilG ({ H := S.H.set b (Go.V.Block.cells [Val.int IntKind.i64 a, Val.int IntKind.u8 (↑lo : Int), Val.int IntKind.u8 (↑hi : Int), Val.bool Bool.false] Option.none.isSome), L := S.L }) (b) (0) (Option.none) ([Val.int IntKind.i64 a, Val.int IntKind.u8 (↑lo : Int), Val.int IntKind.u8 (↑hi : Int), Val.bool Bool.false]) (by kernel_rfl) (by kernel_rfl) (hc_set hh) (by kernel_rfl) ?_
      refine evc_fldG ({ H := S.H.set b (Go.V.Block.cells [Val.int IntKind.i64 a, Val.int IntKind.u8 (↑lo : Int), Val.int IntKind.u8 (↑hi : Int), Val.bool Bool.false] Option.none.isSome), L := S.L }) (b) (0) (Option.none) 1 0 ([Val.int IntKind.i64 a, Val.int IntKind.u8 (↑lo : Int), Val.int IntKind.u8 (↑hi : Int), Val.bool Bool.false]) (by kernel_rfl) (by kernel_rfl) (hc_set hh) (by kernel_rfl) ?_
      refine evc_stG ({ H := S.H.set b (Go.V.Block.cells [Val.int IntKind.i64 a, Val.int IntKind.u8 (↑lo : Int), Val.int IntKind.u8 (↑hi : Int), Val.bool Bool.false] Option.none.isSome), L := S.L }) ({ H := S.H.set b (Go.V.Block.cells [Val.int IntKind.i64 a, Val.int IntKind.u8 (↑lo' : Int), Val.int IntKind.u8 (↑hi : Int), Val.bool Bool.false] Bool.false), L := S.L }) (b) (Option.none) ([Val.int IntKind.i64 a, Val.int IntKind.u8 (↑lo : Int), Val.int IntKind.u8 (↑hi : Int), Val.bool Bool.false]) (1) ([Val.int IntKind.u8 (↑lo' : Int)]) ([Val.int IntKind.i64 a, Val.int IntKind.u8 (↑lo' : Int), Val.int IntKind.u8 (↑hi : Int), Val.bool Bool.false]) (by kernel_rfl) (by kernel_rfl) (hc_set hh) (by kernel_rfl) (by simp [setCells]) (by kernel_rfl) ?_
      refine evc_nilG ({ H := S.H.set b (Go.V.Block.cells [Val.int IntKind.i64 a, Val.int IntKind.u8 (↑lo' : Int), Val.int IntKind.u8 (↑hi : Int), Val.bool Bool.false] Bool.false), L := S.L }) (b) (0) (Option.none) ([Val.int IntKind.i64 a, Val.int IntKind.u8 (↑lo' : Int), Val.int IntKind.u8 (↑hi : Int), Val.bool Bool.false]) (by kernel_rfl) (by kernel_rfl) (hc_set hh) (by kernel_rfl) ?_
      refine evc_fldG ({ H := S.H.set b (Go.V.Block.cells [Val.int IntKind.i64 a, Val.int IntKind.u8 (↑lo' : Int), Val.int IntKind.u8 (↑hi : Int), Val.bool Bool.false] Bool.false), L := S.L }) (b) (0) (Option.none) 2 0 ([Val.int IntKind.i64 a, Val.int IntKind.u8 (↑lo' : Int), Val.int IntKind.u8 (↑hi : Int), Val.bool Bool.false]) (by kernel_rfl) (by kernel_rfl) (hc_set hh) (by kernel_rfl) ?_
      refine evc_stG ({ H := S.H.set b (Go.V.Block.cells [Val.int IntKind.i64 a, Val.int IntKind.u8 (↑lo' : Int), Val.int IntKind.u8 (↑hi : Int), Val.bool Bool.false] Bool.false), L := S.L }) ({ H := S.H.set b (Go.V.Block.cells [Val.int IntKind.i64 a, Val.int IntKind.u8 (↑lo' : Int), Val.int IntKind.u8 (↑hi' : Int), Val.bool Bool.false] Bool.false), L := S.L }) (b) (Option.none) ([Val.int IntKind.i64 a, Val.int IntKind.u8 (↑lo' : Int), Val.int IntKind.u8 (↑hi : Int), Val.bool Bool.false]) (2) ([Val.int IntKind.u8 (↑hi' : Int)]) ([Val.int IntKind.i64 a, Val.int IntKind.u8 (↑lo' : Int), Val.int IntKind.u8 (↑hi' : Int), Val.bool Bool.false]) (by kernel_rfl) (by kernel_rfl) (hc_set hh) (by kernel_rfl) (by simp [setCells]) (by kernel_rfl) ?_
      refine evc_g 4 ?_
      refine evc_nilG ({ H := S.H.set b (Go.V.Block.cells [Val.int IntKind.i64 a, Val.int IntKind.u8 (↑lo' : Int), Val.int IntKind.u8 (↑hi' : Int), Val.bool Bool.false] Bool.false), L := S.L }) (b) (0) (Option.none) ([Val.int IntKind.i64 a, Val.int IntKind.u8 (↑lo' : Int), Val.int IntKind.u8 (↑hi' : Int), Val.bool Bool.false]) (by kernel_rfl) (by kernel_rfl) (hc_set hh) (by kernel_rfl) ?_
      refine evc_fldG ({ H := S.H.set b (Go.V.Block.cells [Val.int IntKind.i64 a, Val.int IntKind.u8 (↑lo' : Int), Val.int IntKind.u8 (↑hi' : Int), Val.bool Bool.false] Bool.false), L := S.L }) (b) (0) (Option.none) 0 0 ([Val.int IntKind.i64 a, Val.int IntKind.u8 (↑lo' : Int), Val.int IntKind.u8 (↑hi' : Int), Val.bool Bool.false]) (by kernel_rfl) (by kernel_rfl) (hc_set hh) (by kernel_rfl) ?_
      refine evc_getG ({ H := S.H.set b (Go.V.Block.cells [Val.int IntKind.i64 a, Val.int IntKind.u8 (↑lo' : Int), Val.int IntKind.u8 (↑hi' : Int), Val.bool Bool.false] Bool.false), L := S.L }) (b) (Option.none) ([Val.int IntKind.i64 a, Val.int IntKind.u8 (↑lo' : Int), Val.int IntKind.u8 (↑hi' : Int), Val.bool Bool.false]) (0) (Val.int IntKind.i64 a) (by kernel_rfl) (by kernel_rfl) (hc_set hh) (by kernel_rfl) (by kernel_rfl) ?_
      refine evc_g 1 ?_
      refine evc_nilG ({ H := S.H.set b (Go.V.Block.cells [Val.int IntKind.i64 a, Val.int IntKind.u8 (↑lo' : Int), Val.int IntKind.u8 (↑hi' : Int), Val.bool Bool.false] Bool.false), L := S.L }) (b) (0) (Option.none) ([Val.int IntKind.i64 a, Val.int IntKind.u8 (↑lo' : Int), Val.int IntKind.u8 (↑hi' : Int), Val.bool Bool.false]) (by kernel_rfl) (by kernel_rfl) (hc_set hh) (by kernel_rfl) ?_
      refine evc_fldG ({ H := S.H.set b (Go.V.Block.cells [Val.int IntKind.i64 a, Val.int IntKind.u8 (↑lo' : Int), Val.int IntKind.u8 (↑hi' : Int), Val.bool Bool.false] Bool.false), L := S.L }) (b) (0) (Option.none) 3 0 ([Val.int IntKind.i64 a, Val.int IntKind.u8 (↑lo' : Int), Val.int IntKind.u8 (↑hi' : Int), Val.bool Bool.false]) (by kernel_rfl) (by kernel_rfl) (hc_set hh) (by kernel_rfl) ?_
      refine evc_stG ({ H := S.H.set b (Go.V.Block.cells [Val.int IntKind.i64 a, Val.int IntKind.u8 (↑lo' : Int), Val.int IntKind.u8 (↑hi' : Int), Val.bool Bool.false] Bool.false), L := S.L }) ({ H := S.H.set b (Go.V.Block.cells [Val.int IntKind.i64 a, Val.int IntKind.u8 (↑lo' : Int), Val.int IntKind.u8 (↑hi' : Int), Val.bool (decide (a < 0))] Bool.false), L := S.L }) (b) (Option.none) ([Val.int IntKind.i64 a, Val.int IntKind.u8 (↑lo' : Int), Val.int IntKind.u8 (↑hi' : Int), Val.bool Bool.false]) (3) ([Val.bool (decide (a < 0))]) ([Val.int IntKind.i64 a, Val.int IntKind.u8 (↑lo' : Int), Val.int IntKind.u8 (↑hi' : Int), Val.bool (decide (a < 0))]) (by kernel_rfl) (by kernel_rfl) (hc_set hh) (by kernel_rfl) (by simp [setCells]) (by kernel_rfl) ?_
      refine evc_g 5 ?_
      refine evc_nilG ({ H := S.H.set b (Go.V.Block.cells [Val.int IntKind.i64 a, Val.int IntKind.u8 (↑lo' : Int), Val.int IntKind.u8 (↑hi' : Int), Val.bool (decide (a < 0))] Bool.false), L := S.L }) (b) (0) (Option.none) ([Val.int IntKind.i64 a, Val.int IntKind.u8 (↑lo' : Int), Val.int IntKind.u8 (↑hi' : Int), Val.bool (decide (a < 0))]) (by kernel_rfl) (by kernel_rfl) (hc_set hh) (by kernel_rfl) ?_
      refine evc_fldG ({ H := S.H.set b (Go.V.Block.cells [Val.int IntKind.i64 a, Val.int IntKind.u8 (↑lo' : Int), Val.int IntKind.u8 (↑hi' : Int), Val.bool (decide (a < 0))] Bool.false), L := S.L }) (b) (0) (Option.none) 3 0 ([Val.int IntKind.i64 a, Val.int IntKind.u8 (↑lo' : Int), Val.int IntKind.u8 (↑hi' : Int), Val.bool (decide (a < 0))]) (by kernel_rfl) (by kernel_rfl) (hc_set hh) (by kernel_rfl) ?_
      refine evc_getG ({ H := S.H.set b (Go.V.Block.cells [Val.int IntKind.i64 a, Val.int IntKind.u8 (↑lo' : Int), Val.int IntKind.u8 (↑hi' : Int), Val.bool (decide (a < 0))] Bool.false), L := S.L }) (b) (Option.none) ([Val.int IntKind.i64 a, Val.int IntKind.u8 (↑lo' : Int), Val.int IntKind.u8 (↑hi' : Int), Val.bool (decide (a < 0))]) (3) (Val.bool (decide (a < 0))) (by kernel_rfl) (by kernel_rfl) (hc_set hh) (by kernel_rfl) (by kernel_rfl) ?_
      refine evc_g 3 ?_
      exact evc_endW (b := b) (cs := [Val.int IntKind.i64 a, Val.int IntKind.u8 (↑lo' : Int), Val.int IntKind.u8 (↑hi' : Int), Val.bool (decide (a < 0))]) (Val.bool !decide (a < 0)) (by kernel_rfl) (by kernel_rfl) (by first | with_reducible rfl | assumption | (simp_all; done) | omega | (simp_all; omega)) (by first | with_reducible rfl | assumption | (simp_all; done) | omega | (simp_all; omega)) (by first | rfl | simp [Val.low, Val.lows, low_encL, low_encI]) (by first | rfl | simp [Val.low, Val.lows, low_encL, low_encI])
    · simp only [if_neg h0]
      by_cases hc : c < lo ∨ c > hi
      · simp only [if_pos hc, encU, Bool.not_true]
        have g : ((c : Int) < (lo : Int)) ∨ ((c : Int) > (hi : Int)) := by omega
        refine call_cfg (by kernel_rfl) ?_
        refine evc_g 12 ?_
        refine evc_nilG (S) (b) (0) (Option.none) ([Val.int IntKind.i64 left, Val.int IntKind.u8 (↑lo : Int), Val.int IntKind.u8 (↑hi : Int), Val.bool Bool.false]) (by kernel_rfl) (by kernel_rfl) hh (by kernel_rfl) ?_
        refine evc_fldG (S) (b) (0) (Option.none) 3 0 ([Val.int IntKind.i64 left, Val.int IntKind.u8 (↑lo : Int), Val.int IntKind.u8 (↑hi : Int), Val.bool Bool.false]) (by kernel_rfl) (by kernel_rfl) hh (by kernel_rfl) ?_
        refine evc_getG (S) (b) (Option.none) ([Val.int IntKind.i64 left, Val.int IntKind.u8 (↑lo : Int), Val.int IntKind.u8 (↑hi : Int), Val.bool Bool.false]) (3) (Val.bool Bool.false) (by kernel_rfl) (by kernel_rfl) hh (by kernel_rfl) (by kernel_rfl) ?_
        refine evc_g 7 ?_
        refine evc_nilG (S) (b) (0) (Option.none) ([Val.int IntKind.i64 left, Val.int IntKind.u8 (↑lo : Int), Val.int IntKind.u8 (↑hi : Int), Val.bool Bool.false]) (by kernel_rfl) (by kernel_rfl) hh (by kernel_rfl) ?_
        refine evc_fldG (S) (b) (0) (Option.none) 0 0 ([Val.int IntKind.i64 left, Val.int IntKind.u8 (↑lo : Int), Val.int IntKind.u8 (↑hi : Int), Val.bool Bool.false]) (by kernel_rfl) (by kernel_rfl) hh (by kernel_rfl) ?_
        refine evc_getG (S) (b) (Option.none) ([Val.int IntKind.i64 left, Val.int IntKind.u8 (↑lo : Int), Val.int IntKind.u8 (↑hi : Int), Val.bool Bool.false]) (0) (Val.int IntKind.i64 left) (by kernel_rfl) (by kernel_rfl) hh (by kernel_rfl) (by kernel_rfl) ?_
        refine evc_g 3 ?_
        refine evc_i 28 (left == 0) false ?_
        refine evc_g 5 ?_
        refine evc_nilG (S) (b) (0) (Option.none) ([Val.int IntKind.i64 left, Val.int IntKind.u8 (↑lo : Int), Val.int IntKind.u8 (↑hi : Int), Val.bool Bool.false]) (by kernel_rfl) (by kernel_rfl) hh (by kernel_rfl) ?_
        refine evc_fldG (S) (b) (0) (Option.none) 1 0 ([Val.int IntKind.i64 left, Val.int IntKind.u8 (↑lo : Int), Val.int IntKind.u8 (↑hi : Int), Val.bool Bool.false]) (by kernel_rfl) (by kernel_rfl) hh (by kernel_rfl) ?_
        refine evc_getG (S) (b) (Option.none) ([Val.int IntKind.i64 left, Val.int IntKind.u8 (↑lo : Int), Val.int IntKind.u8 (↑hi : Int), Val.bool Bool.false]) (1) (Val.int IntKind.u8 (↑lo : Int)) (by kernel_rfl) (by kernel_rfl) hh (by kernel_rfl) (by kernel_rfl) ?_
        refine evc_g 2 ?_
        refine evc_s 64 (decide ((↑c : Int) < (↑lo : Int))) (fun h12 => ?_) (fun h12 => ?_)
        · refine evc_g 12 ?_
          refine evc_nilG (S) (b) (0) (Option.none) ([Val.int IntKind.i64 left, Val.int IntKind.u8 (↑lo : Int), Val.int IntKind.u8 (↑hi : Int), Val.bool Bool.false]) (by kernel_rfl) (by kernel_rfl) hh (by kernel_rfl) ?_
          refine evc_fldG (S) (b) (0) (Option.none) 3 0 ([Val.int IntKind.i64 left, Val.int IntKind.u8 (↑lo : Int), Val.int IntKind.u8 (↑hi : Int), Val.bool Bool.false]) (by kernel_rfl) (by kernel_rfl) hh (by kernel_rfl) ?_
          refine evc_stG (S) ({ H := S.H.set b (Go.V.Block.cells [Val.int IntKind.i64 left, Val.int IntKind.u8 (↑lo : Int), Val.int IntKind.u8 (↑hi : Int), Val.bool Bool.true] Option.none.isSome), L := S.L }) (b) (Option.none) ([Val.int IntKind.i64 left, Val.int IntKind.u8 (↑lo : Int), Val.int IntKind.u8 (↑hi : Int), Val.bool Bool.false]) (3) ([Val.bool Bool.true]) ([Val.int IntKind.i64 left, Val.int IntKind.u8 (↑lo : Int), Val.int IntKind.u8 (↑hi : Int), Val.bool Bool.true]) (by kernel_rfl) (by kernel_rfl) hh (by kernel_rfl) rfl (by kernel_rfl) ?_
          refine evc_g 5 ?_
          refine evc_nilG ({ H := S.H.set b (Go.V.Block.cells [Val.int IntKind.i64 left, Val.int IntKind.u8 (↑lo : Int), Val.int IntKind.u8 (↑hi : Int), Val.bool Bool.true] Option.none.isSome), L := S.L }) (b) (0) (Option.none) ([Val.int IntKind.i64 left, Val.int IntKind.u8 (↑lo : Int), Val.int IntKind.u8 (↑hi : Int), Val.bool Bool.true]) (by kernel_rfl) (by kernel_rfl) (hc_set hh) (by kernel_rfl) ?_
          refine evc_fldG ({ H := S.H.set b (Go.V.Block.cells [Val.int IntKind.i64 left, Val.int IntKind.u8 (↑lo : Int), Val.int IntKind.u8 (↑hi : Int), Val.bool Bool.true] Option.none.isSome), L := S.L }) (b) (0) (Option.none) 3 0 ([Val.int IntKind.i64 left, Val.int IntKind.u8 (↑lo : Int), Val.int IntKind.u8 (↑hi : Int), Val.bool Bool.true]) (by kernel_rfl) (by kernel_rfl) (hc_set hh) (by kernel_rfl) ?_
          refine evc_getG ({ H := S.H.set b (Go.V.Block.cells [Val.int IntKind.i64 left, Val.int IntKind.u8 (↑lo : Int), Val.int IntKind.u8 (↑hi : Int), Val.bool Bool.true] Option.none.isSome), L := S.L }) (b) (Option.none) ([Val.int IntKind.i64 left, Val.int IntKind.u8 (↑lo : Int), Val.int IntKind.u8 (↑hi : Int), Val.bool Bool.true]) (3) (Val.bool Bool.true) (by kernel_rfl) (by kernel_rfl) (hc_set hh) (by kernel_rfl) (by kernel_rfl) ?_
          refine evc_g 3 ?_
          exact evc_endW (b := b) (cs := [Val.int IntKind.i64 left, Val.int IntKind.u8 (↑lo : Int), Val.int IntKind.u8 (↑hi : Int), Val.bool Bool.true]) (Val.bool Bool.false) (by kernel_rfl) (by kernel_rfl) (by first | with_reducible rfl | assumption | (simp_all; done) | omega | (simp_all; omega)) (by first | with_reducible rfl | assumption | (simp_all; done) | omega | (simp_all; omega)) (by first | rfl | simp [Val.low, Val.lows, low_encL, low_encI]) (by first | rfl | simp [Val.low, Val.lows, low_encL, low_encI])
        · refine evc_g 2 ?_
          refine evc_nilG (S) (b) (0) (Option.none) ([Val.int IntKind.i64 left, Val.int IntKind.u8 (↑lo : Int), Val.int IntKind.u8 (↑hi : Int), Val.bool Bool.false]) (by kernel_rfl) (by kernel_rfl) hh (by kernel_rfl) ?_
          refine evc_fldG (S) (b) (0) (Option.none) 2 0 ([Val.int IntKind.i64 left, Val.int IntKind.u8 (↑lo : Int), Val.int IntKind.u8 (↑hi : Int), Val.bool Bool.false]) (by kernel_rfl) (by kernel_rfl) hh (by kernel_rfl) ?_
          refine evc_getG (S) (b) (Option.none) ([Val.int IntKind.i64 left, Val.int IntKind.u8 (↑lo : Int), Val.int IntKind.u8 (↑hi : Int), Val.bool Bool.false]) (2) (Val.int IntKind.u8 (↑hi : Int)) (by kernel_rfl) (by kernel_rfl) hh (by kernel_rfl) (by kernel_rfl) ?_
          refine evc_g 4 ?_
          refine evc_i 57 (decide ((↑c : Int) > (↑hi : Int))) true ?_
          refine evc_g 3 ?_
          refine evc_nilG (S) (b) (0) (Option.none) ([Val.int IntKind.i64 left, Val.int IntKind.u8 (↑lo : Int), Val.int IntKind.u8 (↑hi : Int), Val.bool Bool.false]) (by kernel_rfl) (by kernel_rfl) hh (by kernel_rfl) ?_
          refine evc_fldG (S) (b) (0) (Option.none) 3 0 ([Val.int IntKind.i64 left, Val.int IntKind.u8 (↑lo : Int), Val.int IntKind.u8 (↑hi : Int), Val.bool Bool.false]) (by kernel_rfl) (by kernel_rfl) hh (by kernel_rfl) ?_
          refine evc_stG (S) ({ H := S.H.set b (Go.V.Block.cells [Val.int IntKind.i64 left, Val.int IntKind.u8 (↑lo : Int), Val.int IntKind.u8 (↑hi : Int), Val.bool Bool.true] Option.none.isSome), L := S.L }) (b) (Option.none) ([Val.int IntKind.i64 left, Val.int IntKind.u8 (↑lo : Int), Val.int IntKind.u8 (↑hi : Int), Val.bool Bool.false]) (3) ([Val.bool Bool.true]) ([Val.int IntKind.i64 left, Val.int IntKind.u8 (↑lo : Int), Val.int IntKind.u8 (↑hi : Int), Val.bool Bool.true]) (by kernel_rfl) (by kernel_rfl) hh (by kernel_rfl) rfl (by kernel_rfl) ?_
          refine evc_g 5 ?_
          refine evc_nilG ({ H := S.H.set b (Go.V.Block.cells [Val.int IntKind.i64 left, Val.int IntKind.u8 (↑lo : Int), Val.int IntKind.u8 (↑hi : Int), Val.bool Bool.true] Option.none.isSome), L := S.L }) (b) (0) (Option.none) ([Val.int IntKind.i64 left, Val.int IntKind.u8 (↑lo : Int), Val.int IntKind.u8 (↑hi : Int), Val.bool Bool.true]) (by kernel_rfl) (by kernel_rfl) (hc_set hh) (by kernel_rfl) ?_
          refine evc_fldG ({ H := S.H.set b (Go.V.Block.cells [Val.int IntKind.i64 left, Val.int IntKind.u8 (↑lo : Int), Val.int IntKind.u8 (↑hi : Int), Val.bool Bool.true] Option.none.isSome), L := S.L }) (b) (0) (Option.none) 3 0 ([Val.int IntKind.i64 left, Val.int IntKind.u8 (↑lo : Int), Val.int IntKind.u8 (↑hi : Int), Val.bool Bool.true]) (by kernel_rfl) (by kernel_rfl) (hc_set hh) (by kernel_rfl) ?_
          refine evc_getG ({ H := S.H.set b (Go.V.Block.cells [Val.int IntKind.i64 left, Val.int IntKind.u8 (↑lo : Int), Val.int IntKind.u8 (↑hi : Int), Val.bool Bool.true] Option.none.isSome), L := S.L }) (b) (Option.none) ([Val.int IntKind.i64 left, Val.int IntKind.u8 (↑lo : Int), Val.int IntKind.u8 (↑hi : Int), Val.bool Bool.true]) (3) (Val.bool Bool.true) (by kernel_rfl) (by kernel_rfl) (hc_set hh) (by kernel_rfl) (by kernel_rfl) ?_
          refine evc_g 3 ?_
          exact evc_endW (b := b) (cs := [Val.int IntKind.i64 left, Val.int IntKind.u8 (↑lo : Int), Val.int IntKind.u8 (↑hi : Int), Val.bool Bool.true]) (Val.bool Bool.false) (by kernel_rfl) (by kernel_rfl) (by first | with_reducible rfl | assumption | (simp_all; done) | omega | (simp_all; omega)) (by first | with_reducible rfl | assumption | (simp_all; done) | omega | (simp_all; omega)) (by first | rfl | simp [Val.low, Val.lows, low_encL, low_encI]) (by first | rfl | simp [Val.low, Val.lows, low_encL, low_encI])
      · simp only [if_neg hc, encU, Bool.not_false]
        have g1 : ¬ ((c : Int) < (lo : Int)) := by omega
        have g2 : ¬ ((c : Int) > (hi : Int)) := by omega
        have hw : IntKind.wrap .i64 (left - 1) = left - 1 := by
          simp only [IntKind.wrap, IntKind.bits, IntKind.signed]
          simp only [Bool.true_and, decide_eq_true_eq, ge_iff_le]
          split <;> omega
        refine call_cfg (by kernel_rfl) ?_
        refine evc_g 12 ?_
        refine evc_nilG (S) (b) (0) (Option.none) ([Val.int IntKind.i64 left, Val.int IntKind.u8 (↑lo : Int), Val.int IntKind.u8 (↑hi : Int), Val.bool Bool.false]) (by kernel_rfl) (by kernel_rfl) hh (by kernel_rfl) ?_
        refine evc_fldG (S) (b) (0) (Option.none) 3 0 ([Val.int IntKind.i64 left, Val.int IntKind.u8 (↑lo : Int), Val.int IntKind.u8 (↑hi : Int), Val.bool Bool.false]) (by kernel_rfl) (by kernel_rfl) hh (by kernel_rfl) ?_
        refine evc_getG (S) (b) (Option.none) ([Val.int IntKind.i64 left, Val.int IntKind.u8 (↑lo : Int), Val.int IntKind.u8 (↑hi : Int), Val.bool Bool.false]) (3) (Val.bool Bool.false) (by kernel_rfl) (by kernel_rfl) hh (by kernel_rfl) (by kernel_rfl) ?_
        refine evc_g 7 ?_
        refine evc_nilG (S) (b) (0) (Option.none) ([Val.int IntKind.i64 left, Val.int IntKind.u8 (↑lo : Int), Val.int IntKind.u8 (↑hi : Int), Val.bool Bool.false]) (by kernel_rfl) (by kernel_rfl) hh (by kernel_rfl) ?_
        refine evc_fldG (S) (b) (0) (Option.none) 0 0 ([Val.int IntKind.i64 left, Val.int IntKind.u8 (↑lo : Int), Val.int IntKind.u8 (↑hi : Int), Val.bool Bool.false]) (by kernel_rfl) (by kernel_rfl) hh (by kernel_rfl) ?_
        refine evc_getG (S) (b) (Option.none) ([Val.int IntKind.i64 left, Val.int IntKind.u8 (↑lo : Int), Val.int IntKind.u8 (↑hi : Int), Val.bool Bool.false]) (0) (Val.int IntKind.i64 left) (by kernel_rfl) (by kernel_rfl) hh (by kernel_rfl) (by kernel_rfl) ?_
        refine evc_g 3 ?_
        refine evc_i 28 (left == 0) false ?_
        refine evc_g 5 ?_
        refine evc_nilG (S) (b) (0) (Option.none) ([Val.int IntKind.i64 left, Val.int IntKind.u8 (↑lo : Int), Val.int IntKind.u8 (↑hi : Int), Val.bool Bool.false]) (by kernel_rfl) (by kernel_rfl) hh (by kernel_rfl) ?_
        refine evc_fldG (S) (b) (0) (Option.none) 1 0 ([Val.int IntKind.i64 left, Val.int IntKind.u8 (↑lo : Int), Val.int IntKind.u8 (↑hi : Int), Val.bool Bool.false]) (by kernel_rfl) (by kernel_rfl) hh (by kernel_rfl) ?_
        refine evc_getG (S) (b) (Option.none) ([Val.int IntKind.i64 left, Val.int IntKind.u8 (↑lo : Int), Val.int IntKind.u8 (↑hi : Int), Val.bool Bool.false]) (1) (Val.int IntKind.u8 (↑lo : Int)) (by kernel_rfl) (by kernel_rfl) hh (by kernel_rfl) (by kernel_rfl) ?_
        refine evc_g 2 ?_
        refine evc_i 64 (decide ((↑c : Int) < (↑lo : Int))) false ?_
        refine evc_g 2 ?_
        refine evc_nilG (S) (b) (0) (Option.none) ([Val.int IntKind.i64 left, Val.int IntKind.u8 (↑lo : Int), Val.int IntKind.u8 (↑hi : Int), Val.bool Bool.false]) (by kernel_rfl) (by kernel_rfl) hh (by kernel_rfl) ?_
        refine evc_fldG (S) (b) (0) (Option.none) 2 0 ([Val.int IntKind.i64 left, Val.int IntKind.u8 (↑lo : Int), Val.int IntKind.u8 (↑hi : Int), Val.bool Bool.false]) (by kernel_rfl) (by kernel_rfl) hh (by kernel_rfl) ?_
        refine evc_getG (S) (b) (Option.none) ([Val.int IntKind.i64 left, Val.int IntKind.u8 (↑lo : Int), Val.int IntKind.u8 (↑hi : Int), Val.bool Bool.false]) (2) (Val.int IntKind.u8 (↑hi : Int)) (by kernel_rfl) (by kernel_rfl) hh (by kernel_rfl) (by kernel_rfl) ?_
        refine evc_g 4 ?_
        refine evc_i 57 (decide ((↑c : Int) > (↑hi : Int))) false ?_
        refine evc_g 6 ?_
        refine evc_nilG (S) (b) (0) (Option.none) ([Val.int IntKind.i64 left, Val.int IntKind.u8 (↑lo : Int), Val.int IntKind.u8 (↑hi : Int), Val.bool Bool.false]) (by kernel_rfl) (by kernel_rfl) hh (by kernel_rfl) ?_
        refine evc_fldG (S) (b) (0) (Option.none) 0 0 ([Val.int IntKind.i64 left, Val.int IntKind.u8 (↑lo : Int), Val.int IntKind.u8 (↑hi : Int), Val.bool Bool.false]) (by kernel_rfl) (by kernel_rfl) hh (by kernel_rfl) ?_
        refine evc_getG (S) (b) (Option.none) ([Val.int IntKind.i64 left, Val.int IntKind.u8 (↑lo : Int), Val.int IntKind.u8 (↑hi : Int), Val.bool Bool.false]) (0) (Val.int IntKind.i64 left) (by kernel_rfl) (by kernel_rfl) hh (by kernel_rfl) (by kernel_rfl) ?_
        refine evc_g 1 ?_
        refine evc_nilG (S) (b) (0) (Option.none) ([Val.int IntKind.i64 left, Val.int IntKind.u8 (↑lo : Int), Val.int IntKind.u8 (↑hi : Int), Val.bool Bool.false]) (by kernel_rfl) (by kernel_rfl) hh (by kernel_rfl) ?_
        refine evc_fldG (S) (b) (0) (Option.none) 0 0 ([Val.int IntKind.i64 left, Val.int IntKind.u8 (↑lo : Int), Val.int IntKind.u8 (↑hi : Int), Val.bool Bool.false]) (by kernel_rfl) (by kernel_rfl) hh (by kernel_rfl) ?_
        refine evc_stG (S) ({ H := S.H.set b (Go.V.Block.cells [Val.int IntKind.i64 (IntKind.i64.wrap (left - 1)), Val.int IntKind.u8 (↑lo : Int), Val.int IntKind.u8 (↑hi : Int), Val.bool Bool.false] Option.none.isSome), L := S.L }) (b) (Option.none) ([Val.int IntKind.i64 left, Val.int IntKind.u8 (↑lo : Int), Val.int IntKind.u8 (↑hi : Int), Val.bool Bool.false]) (0) ([Val.int IntKind.i64 (IntKind.i64.wrap (left - 1))]) ([Val.int IntKind.i64 (IntKind.i64.wrap (left - 1)), Val.int IntKind.u8 (↑lo : Int), Val.int IntKind.u8 (↑hi : Int), Val.bool Bool.false]) (by kernel_rfl) (by kernel_rfl) hh (by kernel_rfl) rfl (by kernel_rfl) ?_
        refine evc_nilG ({ H := S.H.set b (Go.V.Block.cells [Val.int IntKind.i64 (IntKind.i64.wrap (left - 1)), Val.int IntKind.u8 (↑lo : Int), Val.int IntKind.u8 (↑hi : Int), Val.bool Bool.false] Option.none.isSome), L := S.L }) (b) (0) (Option.none) ([Val.int IntKind.i64 (IntKind.i64.wrap (left - 1)), Val.int IntKind.u8 (↑lo : Int), Val.int IntKind.u8 (↑hi : Int), Val.bool Bool.false]) (by kernel_rfl) (by kernel_rfl) (hc_set hh) (by kernel_rfl) ?_
        refine evc_fldG ({ H := S.H.set b (Go.V.Block.cells [Val.int IntKind.i64 (IntKind.i64.wrap (left - 1)), Val.int IntKind.u8 (↑lo : Int), Val.int IntKind.u8 (↑hi : Int), Val.bool Bool.false] Option.none.isSome), L := S.L }) (b) (0) (Option.none) 1 0 ([Val.int IntKind.i64 (IntKind.i64.wrap (left - 1)), Val.int IntKind.u8 (↑lo : Int), Val.int IntKind.u8 (↑hi : Int), Val.bool Bool.false]) (by kernel_rfl) (by kernel_rfl) (hc_set hh) (by kernel_rfl) ?_
        refine evc_stG ({ H := S.H.set b (Go.V.Block.cells [Val.int IntKind.i64 (IntKind.i64.wrap (left - 1)), Val.int IntKind.u8 (↑lo : Int), Val.int IntKind.u8 (↑hi : Int), Val.bool Bool.false] Option.none.isSome), L := S.L }) ({ H := S.H.set b (Go.V.Block.cells [Val.int IntKind.i64 (IntKind.i64.wrap (left - 1)), Val.int IntKind.u8 128, Val.int IntKind.u8 (↑hi : Int), Val.bool Bool.false] Bool.false), L := S.L }) (b) (Option.none) ([Val.int IntKind.i64 (IntKind.i64.wrap (left - 1)), Val.int IntKind.u8 (↑lo : Int), Val.int IntKind.u8 (↑hi : Int), Val.bool Bool.false]) (1) ([Val.int IntKind.u8 128]) ([Val.int IntKind.i64 (IntKind.i64.wrap (left - 1)), Val.int IntKind.u8 128, Val.int IntKind.u8 (↑hi : Int), Val.bool Bool.false]) (by kernel_rfl) (by kernel_rfl) (hc_set hh) (by kernel_rfl) (by simp [setCells]) (by kernel_rfl) ?_
        refine evc_nilG ({ H := S.H.set b (Go.V.Block.cells [Val.int IntKind.i64 (IntKind.i64.wrap (left - 1)), Val.int IntKind.u8 128, Val.int IntKind.u8 (↑hi : Int), Val.bool Bool.false] Bool.false), L := S.L }) (b) (0) (Option.none) ([Val.int IntKind.i64 (IntKind.i64.wrap (left - 1)), Val.int IntKind.u8 128, Val.int IntKind.u8 (↑hi : Int), Val.bool Bool.false]) (by kernel_rfl) (by kernel_rfl) (hc_set hh) (by kernel_rfl) ?_
        refine evc_fldG ({ H := S.H.set b (Go.V.Block.cells [Val.int IntKind.i64 (IntKind.i64.wrap (left - 1)), Val.int IntKind.u8 128, Val.int IntKind.u8 (↑hi : Int), Val.bool Bool.false] Bool.false), L := S.L }) (b) (0) (Option.none) 2 0 ([Val.int IntKind.i64 (IntKind.i64.wrap (left - 1)), Val.int IntKind.u8 128, Val.int IntKind.u8 (↑hi : Int), Val.bool Bool.false]) (by kernel_rfl) (by kernel_rfl) (hc_set hh) (by kernel_rfl) ?_
        refine evc_stG ({ H := S.H.set b (Go.V.Block.cells [Val.int IntKind.i64 (IntKind.i64.wrap (left - 1)), Val.int IntKind.u8 128, Val.int IntKind.u8 (↑hi : Int), Val.bool Bool.false] Bool.false), L := S.L }) ({ H := S.H.set b (Go.V.Block.cells [Val.int IntKind.i64 (IntKind.i64.wrap (left - 1)), Val.int IntKind.u8 128, Val.int IntKind.u8 191, Val.bool Bool.false] Bool.false), L := S.L }) (b) (Option.none) ([Val.int IntKind.i64 (IntKind.i64.wrap (left - 1)), Val.int IntKind.u8 128, Val.int IntKind.u8 (↑hi : Int), Val.bool Bool.false]) (2) ([Val.int IntKind.u8 191]) ([Val.int IntKind.i64 (IntKind.i64.wrap (left - 1)), Val.int IntKind.u8 128, Val.int IntKind.u8 191, Val.bool Bool.false]) (by kernel_rfl) (by kernel_rfl) (hc_set hh) (by kernel_rfl) (by simp [setCells]) (by kernel_rfl) ?_
        refine evc_g 5 ?_
        refine evc_nilG ({ H := S.H.set b (Go.V.Block.cells [Val.int IntKind.i64 (IntKind.i64.wrap (left - 1)), Val.int IntKind.u8 128, Val.int IntKind.u8 191, Val.bool Bool.false] Bool.false), L := S.L }) (b) (0) (Option.none) ([Val.int IntKind.i64 (IntKind.i64.wrap (left - 1)), Val.int IntKind.u8 128, Val.int IntKind.u8 191, Val.bool Bool.false]) (by kernel_rfl) (by kernel_rfl) (hc_set hh) (by kernel_rfl) ?_
        refine evc_fldG ({ H := S.H.set b (Go.V.Block.cells [Val.int IntKind.i64 (IntKind.i64.wrap (left - 1)), Val.int IntKind.u8 128, Val.int IntKind.u8 191, Val.bool Bool.false] Bool.false), L := S.L }) (b) (0) (Option.none) 3 0 ([Val.int IntKind.i64 (IntKind.i64.wrap (left - 1)), Val.int IntKind.u8 128, Val.int IntKind.u8 191, Val.bool Bool.false]) (by kernel_rfl) (by kernel_rfl) (hc_set hh) (by kernel_rfl) ?_
        refine evc_getG ({ H := S.H.set b (Go.V.Block.cells [Val.int IntKind.i64 (IntKind.i64.wrap (left - 1)), Val.int IntKind.u8 128, Val.int IntKind.u8 191, Val.bool Bool.false] Bool.false), L := S.L }) (b) (Option.none) ([Val.int IntKind.i64 (IntKind.i64.wrap (left - 1)), Val.int IntKind.u8 128, Val.int IntKind.u8 191, Val.bool Bool.false]) (3) (Val.bool Bool.false) (by kernel_rfl) (by kernel_rfl) (hc_set hh) (by kernel_rfl) (by kernel_rfl) ?_
        refine evc_g 3 ?_
        exact evc_endW (b := b) (cs := [Val.int IntKind.i64 (IntKind.i64.wrap (left - 1)), Val.int IntKind.u8 128, Val.int IntKind.u8 191, Val.bool Bool.false]) (Val.bool Bool.true) (by kernel_rfl) (by kernel_rfl) (by first | with_reducible rfl | assumption | (simp_all; done) | omega | (simp_all; omega)) (by first | with_reducible rfl | assumption | (simp_all; done) | omega | (simp_all; omega)) (by first | rfl | simp [Val.low, Val.lows, low_encL, low_encI]) (by first | rfl | simp [Val.low, Val.lows, low_encL, low_encI])
end Go.V.W
