/- ItemSame (ullagelaw08): the loops that write over a copy. -/
import Derived.Test.YtgnfinbhnoofpaaDoorSame
import Derived.Test.YtgnfinbhnoofpaaDoorMut
set_option linter.unusedVariables false
set_option linter.unusedSimpArgs false
set_option linter.unusedSectionVars false
open Go Go.V
set_option maxRecDepth 100000
set_option maxHeartbeats 4000000
namespace Go.V.W
mutual
theorem sameI_refl : ∀ x : It, sameI x x = true
  | .mk k n s q l => by simp [sameI, sameL_refl l]
theorem sameL_refl : ∀ l : List It, sameL l l = true
  | [] => by simp [sameL]
  | x :: l => by simp [sameL, sameI_refl x, sameL_refl l]
end
/-- calls answered out of hand: only to name places in the code -/
def answers (g : Nat) (S : St) : Val × St :=
  if g = 18 then (Val.bool false, S)
  else if g = 28 then (Val.agg [.int .i64 0, .int .u64 0, .str [], .sl S.H.length 0 1 4 (.flex 4)], ⟨S.H ++ [Block.cells [.int .i64 0, .int .u64 0, .str [], .sli [] 0 .nil] true], S.L⟩)
  else (Val.bool true, S)
noncomputable def E1 : Env := { E0 with native := fun g => some (fun _ S => some (answers g S)) }
noncomputable def D4 : Cfg := entry E0 4 [.agg [.int .i64 0, .int .u64 0, .str [], .sli [] 0 .nil], .agg [.int .i64 0, .int .u64 0, .str [], .sli [] 0 .nil]] ⟨[], []⟩
noncomputable def PO : Pos := (goT E1 1 (ctxOf E0 4) 82 D4).pos
noncomputable def PI : Pos := (goT E1 1 (ctxOf E0 4) 118 D4).pos
/-- what the copies stand for -/
structure Two (H : List Block) (k n : Int) (s : List UInt8) (q : Q) (l : List It) (n1 bc : Nat) (W : Nat → Val) (w2 : Val) : Prop where
  c : MInv H n1 bc l.length W
  d : RepP H (fun b => n1 ≤ b) (.mk k n s q l) [.int .i64 k, .int .u64 n, .str s, w2]
  b : bc < n1
abbrev QF : Out → Prop := Go.V.Fin E0 4 ⟨[], []⟩ (.bool true) ⟨[], []⟩
section
variable {k n : Int} {s : List UInt8} {q : Q} {l : List It} {n1 bc : Nat} {W : Nat → Val} {w2 : Val}
theorem LIB (i : Nat) (hi : i < l.length) (hi2 : i < 200) (hO : ∀ H' v1 v2 v3 v4, Two H' k n s q l n1 bc W w2 → EvC E0 (ctxOf E0 4) ⟨PO, [(2, .lv [.int .i64 k, .int .u64 n, .str s, .sli (encL l) l.length q]), (5, .lv [.int .i64 k, .int .u64 n, .str s, .sl bc 0 l.length 4 (.flex (l.length * 4))]), (6, .lv [.int .i64 k, .int .u64 n, .str s, w2]), (7, .int .i64 ((i + 1 : Nat) : Int)), (53, v1), (54, v2), (77, v3), (78, v4)], ⟨H', []⟩⟩ QF) :
    ∀ (r j : Nat) (H : List Block) (v1 v2 v3 v4 : Val), j + r = 200 → Two H k n s q l n1 bc W w2 → EvC E0 (ctxOf E0 4) ⟨PI, [(2, .lv [.int .i64 k, .int .u64 n, .str s, .sli (encL l) l.length q]), (5, .lv [.int .i64 k, .int .u64 n, .str s, .sl bc 0 l.length 4 (.flex (l.length * 4))]), (6, .lv [.int .i64 k, .int .u64 n, .str s, w2]), (7, .int .i64 (i : Int)), (8, .int .i64 (j : Int)), (53, v1), (54, v2), (77, v3), (78, v4)], ⟨H, []⟩⟩ QF := by
  intro r
  induction r with
  | zero =>
    intro j H v1 v2 v3 v4 hj h
    obtain ⟨hc, hb, hlen, hg⟩ := h.c.cells
    obtain ⟨⟨a, hn⟩, hw⟩ := hg i hi
    have hh : hcells ⟨H, []⟩ bc (some (l.length * 4)) = some hc := by simp [hcells, hb, hlen]
    have hO1 := fun v1 v2 v3 v4 => hO H v1 v2 v3 v4 h
    have hj2 : ¬ ((j : Int) < 200) := by omega
    rcases h.c.kids i hi with hk | ⟨b', m', hk, hb1, hb2, hc', hb3, hl'⟩
    · rw [hk] at hw
      refine evc_go 1000 7 (by kernel_rfl) ?_
      refine evc_idxH ({ H := H, L := [] }) (i) (l.length) (bc) (0) (l.length * 4) 4 (hc) (by kernel_rfl) (by kernel_rfl) (by first | with_reducible rfl | assumption | (simp_all; done) | omega | (simp_all; omega)) hh (by kernel_rfl) ?_
      refine evc_fldH ({ H := H, L := [] }) (bc) (0 + i * 4) (l.length * 4) 3 0 (hc) (by kernel_rfl) (by kernel_rfl) hh (by kernel_rfl) ?_
      refine evc_getH ({ H := H, L := [] }) (bc) (l.length * 4) (hc) (0 + i * 4 + 3) (Go.V.Val.sli [] 0 Go.V.Q.nil) (by kernel_rfl) (by kernel_rfl) hh hw (by kernel_rfl) ?_
      refine evc_go 1000 16 (by kernel_rfl) ?_
      refine evc_set 7 (Go.V.Val.int Go.IntKind.i64 (Go.IntKind.i64.wrap ((↑i : Int) + 1))) (Go.V.Val.int Go.IntKind.i64 (↑(i + 1) : Int)) (by kernel_rfl) (congrArg (Go.V.Val.int Go.IntKind.i64) (wrap_nat (i := i) (m := 1) (by omega))) ?_
      exact evc_at (hO1 (v1) (v2) (Go.V.Val.tup []) (Go.V.Val.tup [])) (by kernel_rfl) (by first | rfl | (simp_all; done))
    · rw [hk] at hw
      refine evc_go 1000 7 (by kernel_rfl) ?_
      refine evc_idxH ({ H := H, L := [] }) (i) (l.length) (bc) (0) (l.length * 4) 4 (hc) (by kernel_rfl) (by kernel_rfl) (by first | with_reducible rfl | assumption | (simp_all; done) | omega | (simp_all; omega)) hh (by kernel_rfl) ?_
      refine evc_fldH ({ H := H, L := [] }) (bc) (0 + i * 4) (l.length * 4) 3 0 (hc) (by kernel_rfl) (by kernel_rfl) hh (by kernel_rfl) ?_
      refine evc_getH ({ H := H, L := [] }) (bc) (l.length * 4) (hc) (0 + i * 4 + 3) (Go.V.Val.sl b' 0 m' 4 (Go.V.Cap.flex (m' * 4))) (by kernel_rfl) (by kernel_rfl) hh hw (by kernel_rfl) ?_
      refine evc_go 1000 3 (by kernel_rfl) ?_
      refine evc_split 76 (Decidable.decide ((↑j : Int) < (↑m' : Int))) (by kernel_rfl) (fun h12 => ?_) (fun h12 => ?_)
      · refine evc_go 1000 4 (by kernel_rfl) ?_
        refine evc_is 79 (Decidable.decide ((↑j : Int) < 200)) false (by kernel_rfl) (by first | with_reducible rfl | assumption | (simp_all; done) | omega | (simp_all; omega)) ?_
        refine evc_go 1000 9 (by kernel_rfl) ?_
        refine evc_set 7 (Go.V.Val.int Go.IntKind.i64 (Go.IntKind.i64.wrap ((↑i : Int) + 1))) (Go.V.Val.int Go.IntKind.i64 (↑(i + 1) : Int)) (by kernel_rfl) (congrArg (Go.V.Val.int Go.IntKind.i64) (wrap_nat (i := i) (m := 1) (by omega))) ?_
        exact evc_at (hO1 (v1) (v2) (Go.V.Val.int Go.IntKind.i64 (↑j : Int)) (Go.V.Val.bool (Decidable.decide ((↑j : Int) < 200)))) (by kernel_rfl) (by first | rfl | (simp_all; done))
      · -- HEAD 26 frame [(2, Go.V.Val.lv [Go.V.Val.int Go.IntKind.i64 k, Go.V.Val.int Go.IntKind.u64 n, Go.V.Val.str s, Go.V.Val.sli (Go.V.encL l) l.length q]), (5, Go.V.Val.lv [Go.V.Val.int Go.IntKind.i64 k, Go.V.Val.int Go.IntKind.u64 n, Go.V.Val.str s, Go.V.Val.sl bc 0 l.length 4 (Go.V.Cap.flex (l.length * 4))]), (6, Go.V.Val.lv [Go.V.Val.int Go.IntKind.i64 k, Go.V.Val.int Go.IntKind.u64 n, Go.V.Val.str s, w2]), (7, Go.V.Val.int Go.IntKind.i64 (Go.IntKind.i64.wrap ((↑i : Int) + 1))), (53, v1), (54, v2), (77, Go.V.Val.tup []), (78, Go.V.Val.tup [])]
        refine evc_go 1000 13 (by kernel_rfl) ?_
        refine evc_set 7 (Go.V.Val.int Go.IntKind.i64 (Go.IntKind.i64.wrap ((↑i : Int) + 1))) (Go.V.Val.int Go.IntKind.i64 (↑(i + 1) : Int)) (by kernel_rfl) (congrArg (Go.V.Val.int Go.IntKind.i64) (wrap_nat (i := i) (m := 1) (by omega))) ?_
        exact evc_at (hO1 (v1) (v2) (Go.V.Val.tup []) (Go.V.Val.tup [])) (by kernel_rfl) (by first | rfl | (simp_all; done))
  | succ r ihr =>
    intro j H v1 v2 v3 v4 hj h
    obtain ⟨hc, hb, hlen, hg⟩ := h.c.cells
    obtain ⟨⟨a, hn⟩, hw⟩ := hg i hi
    have hh : hcells ⟨H, []⟩ bc (some (l.length * 4)) = some hc := by simp [hcells, hb, hlen]
    have hO1 := fun v1 v2 v3 v4 => hO H v1 v2 v3 v4 h
    rcases h.c.kids i hi with hk | ⟨b', m', hk, hb1, hb2, hc', hb3, hl'⟩
    · rw [hk] at hw
      refine evc_go 1000 7 (by kernel_rfl) ?_
      refine evc_idxH ({ H := H, L := [] }) (i) (l.length) (bc) (0) (l.length * 4) 4 (hc) (by kernel_rfl) (by kernel_rfl) (by first | with_reducible rfl | assumption | (simp_all; done) | omega | (simp_all; omega)) hh (by kernel_rfl) ?_
      refine evc_fldH ({ H := H, L := [] }) (bc) (0 + i * 4) (l.length * 4) 3 0 (hc) (by kernel_rfl) (by kernel_rfl) hh (by kernel_rfl) ?_
      refine evc_getH ({ H := H, L := [] }) (bc) (l.length * 4) (hc) (0 + i * 4 + 3) (Go.V.Val.sli [] 0 Go.V.Q.nil) (by kernel_rfl) (by kernel_rfl) hh hw (by kernel_rfl) ?_
      refine evc_go 1000 16 (by kernel_rfl) ?_
      refine evc_set 7 (Go.V.Val.int Go.IntKind.i64 (Go.IntKind.i64.wrap ((↑i : Int) + 1))) (Go.V.Val.int Go.IntKind.i64 (↑(i + 1) : Int)) (by kernel_rfl) (congrArg (Go.V.Val.int Go.IntKind.i64) (wrap_nat (i := i) (m := 1) (by omega))) ?_
      exact evc_at (hO1 (v1) (v2) (Go.V.Val.tup []) (Go.V.Val.tup [])) (by kernel_rfl) (by first | rfl | (simp_all; done))
    · rw [hk] at hw
      by_cases hjm : j < m'
      · have hh' : hcells ⟨H, []⟩ b' (some (m' * 4)) = some hc' := by simp [hcells, hb3, hl']
        have hov : over hc' (0 + j * 4 + 0) [.int .i64 77] = some (hc'.set (0 + j * 4 + 0) (.int .i64 77)) := over_one (by omega)
        have h2 : Two (H.set b' (.cells (hc'.set (0 + j * 4 + 0) (.int .i64 77)) true)) k n s q l n1 bc W w2 := ⟨h.c.wr_kid hb3 hb2, h.d.set (by omega), h.b⟩
        have ih := fun v1 v2 v3 v4 => ihr (j + 1) (H.set b' (.cells (hc'.set (0 + j * 4 + 0) (.int .i64 77)) true)) v1 v2 v3 v4 (by omega) h2
        refine evc_go 1000 7 (by kernel_rfl) ?_
        refine evc_idxH ({ H := H, L := [] }) (i) (l.length) (bc) (0) (l.length * 4) 4 (hc) (by kernel_rfl) (by kernel_rfl) (by first | with_reducible rfl | assumption | (simp_all; done) | omega | (simp_all; omega)) hh (by kernel_rfl) ?_
        refine evc_fldH ({ H := H, L := [] }) (bc) (0 + i * 4) (l.length * 4) 3 0 (hc) (by kernel_rfl) (by kernel_rfl) hh (by kernel_rfl) ?_
        refine evc_getH ({ H := H, L := [] }) (bc) (l.length * 4) (hc) (0 + i * 4 + 3) (Go.V.Val.sl b' 0 m' 4 (Go.V.Cap.flex (m' * 4))) (by kernel_rfl) (by kernel_rfl) hh hw (by kernel_rfl) ?_
        refine evc_go 1000 3 (by kernel_rfl) ?_
        refine evc_is 76 (Decidable.decide ((↑j : Int) < (↑m' : Int))) true (by kernel_rfl) (by first | with_reducible rfl | assumption | (simp_all; done) | omega | (simp_all; omega)) ?_
        refine evc_go 1000 4 (by kernel_rfl) ?_
        refine evc_is 79 (Decidable.decide ((↑j : Int) < 200)) true (by kernel_rfl) (by first | with_reducible rfl | assumption | (simp_all; done) | omega | (simp_all; omega)) ?_
        refine evc_go 1000 8 (by kernel_rfl) ?_
        refine evc_idxH ({ H := H, L := [] }) (i) (l.length) (bc) (0) (l.length * 4) 4 (hc) (by kernel_rfl) (by kernel_rfl) (by first | with_reducible rfl | assumption | (simp_all; done) | omega | (simp_all; omega)) hh (by kernel_rfl) ?_
        refine evc_fldH ({ H := H, L := [] }) (bc) (0 + i * 4) (l.length * 4) 3 0 (hc) (by kernel_rfl) (by kernel_rfl) hh (by kernel_rfl) ?_
        refine evc_getH ({ H := H, L := [] }) (bc) (l.length * 4) (hc) (0 + i * 4 + 3) (Go.V.Val.sl b' 0 m' 4 (Go.V.Cap.flex (m' * 4))) (by kernel_rfl) (by kernel_rfl) hh hw (by kernel_rfl) ?_
        refine evc_go 1000 1 (by kernel_rfl) ?_
        refine evc_idxH ({ H := H, L := [] }) (j) (m') (b') (0) (m' * 4) 4 (hc') (by kernel_rfl) (by kernel_rfl) (by first | with_reducible rfl | assumption | (simp_all; done) | omega | (simp_all; omega)) hh' (by kernel_rfl) ?_
        refine evc_fldH ({ H := H, L := [] }) (b') (0 + j * 4) (m' * 4) 0 0 (hc') (by kernel_rfl) (by kernel_rfl) hh' (by kernel_rfl) ?_
        refine evc_stH ({ H := H, L := [] }) (b') (m' * 4) (hc') (0 + j * 4 + 0) ([Go.V.Val.int Go.IntKind.i64 77]) (hc'.set (0 + j * 4 + 0) (Go.V.Val.int Go.IntKind.i64 77)) (by kernel_rfl) (by kernel_rfl) hh' hov (by kernel_rfl) ?_
        refine evc_go 1000 8 (by kernel_rfl) ?_
        refine evc_set 8 (Go.V.Val.int Go.IntKind.i64 (Go.IntKind.i64.wrap ((↑j : Int) + 1))) (Go.V.Val.int Go.IntKind.i64 (↑(j + 1) : Int)) (by kernel_rfl) (congrArg (Go.V.Val.int Go.IntKind.i64) (wrap_nat (i := j) (m := 1) (by omega))) ?_
        exact evc_at (ih (v1) (v2) (Go.V.Val.int Go.IntKind.i64 (↑j : Int)) (Go.V.Val.bool (Decidable.decide ((↑j : Int) < 200)))) (by kernel_rfl) (by first | rfl | (simp_all; done))
      refine evc_go 1000 7 (by kernel_rfl) ?_
      refine evc_idxH ({ H := H, L := [] }) (i) (l.length) (bc) (0) (l.length * 4) 4 (hc) (by kernel_rfl) (by kernel_rfl) (by first | with_reducible rfl | assumption | (simp_all; done) | omega | (simp_all; omega)) hh (by kernel_rfl) ?_
      refine evc_fldH ({ H := H, L := [] }) (bc) (0 + i * 4) (l.length * 4) 3 0 (hc) (by kernel_rfl) (by kernel_rfl) hh (by kernel_rfl) ?_
      refine evc_getH ({ H := H, L := [] }) (bc) (l.length * 4) (hc) (0 + i * 4 + 3) (Go.V.Val.sl b' 0 m' 4 (Go.V.Cap.flex (m' * 4))) (by kernel_rfl) (by kernel_rfl) hh hw (by kernel_rfl) ?_
      refine evc_go 1000 3 (by kernel_rfl) ?_
      refine evc_is 76 (Decidable.decide ((↑j : Int) < (↑m' : Int))) false (by kernel_rfl) (by first | with_reducible rfl | assumption | (simp_all; done) | omega | (simp_all; omega)) ?_
      refine evc_go 1000 13 (by kernel_rfl) ?_
      refine evc_set 7 (Go.V.Val.int Go.IntKind.i64 (Go.IntKind.i64.wrap ((↑i : Int) + 1))) (Go.V.Val.int Go.IntKind.i64 (↑(i + 1) : Int)) (by kernel_rfl) (congrArg (Go.V.Val.int Go.IntKind.i64) (wrap_nat (i := i) (m := 1) (by omega))) ?_
      exact evc_at (hO1 (v1) (v2) (Go.V.Val.tup []) (Go.V.Val.tup [])) (by kernel_rfl) (by first | rfl | (simp_all; done))
theorem LIA (i : Nat) (hi : i < l.length) (hi2 : i < 200) (hO : ∀ H' v1 v2 v3 v4, Two H' k n s q l n1 bc W w2 → EvC E0 (ctxOf E0 4) ⟨PO, [(2, .lv [.int .i64 k, .int .u64 n, .str s, .sli (encL l) l.length q]), (5, .lv [.int .i64 k, .int .u64 n, .str s, .sl bc 0 l.length 4 (.flex (l.length * 4))]), (6, .lv [.int .i64 k, .int .u64 n, .str s, w2]), (7, .int .i64 ((i + 1 : Nat) : Int)), (53, v1), (54, v2), (77, v3), (78, v4)], ⟨H', []⟩⟩ QF) (H : List Block) (v1 v2 : Val) (h : Two H k n s q l n1 bc W w2) : EvC E0 (ctxOf E0 4) ⟨PI, [(2, .lv [.int .i64 k, .int .u64 n, .str s, .sli (encL l) l.length q]), (5, .lv [.int .i64 k, .int .u64 n, .str s, .sl bc 0 l.length 4 (.flex (l.length * 4))]), (6, .lv [.int .i64 k, .int .u64 n, .str s, w2]), (7, .int .i64 (i : Int)), (8, .int .i64 0), (53, v1), (54, v2)], ⟨H, []⟩⟩ QF := by
    obtain ⟨hc, hb, hlen, hg⟩ := h.c.cells
    obtain ⟨⟨a, hn⟩, hw⟩ := hg i hi
    have hh : hcells ⟨H, []⟩ bc (some (l.length * 4)) = some hc := by simp [hcells, hb, hlen]
    have hO1 := fun v1 v2 v3 v4 => hO H v1 v2 v3 v4 h
    rcases h.c.kids i hi with hk | ⟨b', m', hk, hb1, hb2, hc', hb3, hl'⟩
    · rw [hk] at hw
      refine evc_go 1000 7 (by kernel_rfl) ?_
      refine evc_idxH ({ H := H, L := [] }) (i) (l.length) (bc) (0) (l.length * 4) 4 (hc) (by kernel_rfl) (by kernel_rfl) (by first | with_reducible rfl | assumption | (simp_all; done) | omega | (simp_all; omega)) hh (by kernel_rfl) ?_
      refine evc_fldH ({ H := H, L := [] }) (bc) (0 + i * 4) (l.length * 4) 3 0 (hc) (by kernel_rfl) (by kernel_rfl) hh (by kernel_rfl) ?_
      refine evc_getH ({ H := H, L := [] }) (bc) (l.length * 4) (hc) (0 + i * 4 + 3) (Go.V.Val.sli [] 0 Go.V.Q.nil) (by kernel_rfl) (by kernel_rfl) hh hw (by kernel_rfl) ?_
      refine evc_go 1000 16 (by kernel_rfl) ?_
      refine evc_set 7 (Go.V.Val.int Go.IntKind.i64 (Go.IntKind.i64.wrap ((↑i : Int) + 1))) (Go.V.Val.int Go.IntKind.i64 (↑(i + 1) : Int)) (by kernel_rfl) (congrArg (Go.V.Val.int Go.IntKind.i64) (wrap_nat (i := i) (m := 1) (by omega))) ?_
      exact evc_at (hO1 (v1) (v2) (Go.V.Val.tup []) (Go.V.Val.tup [])) (by kernel_rfl) (by first | rfl | (simp_all; done))
    · rw [hk] at hw
      by_cases hjm : 0 < m'
      · have hh' : hcells ⟨H, []⟩ b' (some (m' * 4)) = some hc' := by simp [hcells, hb3, hl']
        have hov : over hc' (0 + 0 * 4 + 0) [.int .i64 77] = some (hc'.set (0 + 0 * 4 + 0) (.int .i64 77)) := over_one (by omega)
        have h2 : Two (H.set b' (.cells (hc'.set (0 + 0 * 4 + 0) (.int .i64 77)) true)) k n s q l n1 bc W w2 := ⟨h.c.wr_kid hb3 hb2, h.d.set (by omega), h.b⟩
        have ih := fun v1 v2 v3 v4 => LIB i hi hi2 hO 199 1 (H.set b' (.cells (hc'.set (0 + 0 * 4 + 0) (.int .i64 77)) true)) v1 v2 v3 v4 (by omega) h2
        refine evc_go 1000 7 (by kernel_rfl) ?_
        refine evc_idxH ({ H := H, L := [] }) (i) (l.length) (bc) (0) (l.length * 4) 4 (hc) (by kernel_rfl) (by kernel_rfl) (by first | with_reducible rfl | assumption | (simp_all; done) | omega | (simp_all; omega)) hh (by kernel_rfl) ?_
        refine evc_fldH ({ H := H, L := [] }) (bc) (0 + i * 4) (l.length * 4) 3 0 (hc) (by kernel_rfl) (by kernel_rfl) hh (by kernel_rfl) ?_
        refine evc_getH ({ H := H, L := [] }) (bc) (l.length * 4) (hc) (0 + i * 4 + 3) (Go.V.Val.sl b' 0 m' 4 (Go.V.Cap.flex (m' * 4))) (by kernel_rfl) (by kernel_rfl) hh hw (by kernel_rfl) ?_
        refine evc_go 1000 3 (by kernel_rfl) ?_
        refine evc_is 76 (Decidable.decide (0 < (↑m' : Int))) true (by kernel_rfl) (by first | with_reducible rfl | assumption | (simp_all; done) | omega | (simp_all; omega)) ?_
        refine evc_go 1000 12 (by kernel_rfl) ?_
        refine evc_idxH ({ H := H, L := [] }) (i) (l.length) (bc) (0) (l.length * 4) 4 (hc) (by kernel_rfl) (by kernel_rfl) (by first | with_reducible rfl | assumption | (simp_all; done) | omega | (simp_all; omega)) hh (by kernel_rfl) ?_
        refine evc_fldH ({ H := H, L := [] }) (bc) (0 + i * 4) (l.length * 4) 3 0 (hc) (by kernel_rfl) (by kernel_rfl) hh (by kernel_rfl) ?_
        refine evc_getH ({ H := H, L := [] }) (bc) (l.length * 4) (hc) (0 + i * 4 + 3) (Go.V.Val.sl b' 0 m' 4 (Go.V.Cap.flex (m' * 4))) (by kernel_rfl) (by kernel_rfl) hh hw (by kernel_rfl) ?_
        refine evc_go 1000 1 (by kernel_rfl) ?_
        refine evc_idxH ({ H := H, L := [] }) (0) (m') (b') (0) (m' * 4) 4 (hc') (by kernel_rfl) (by kernel_rfl) (by first | with_reducible rfl | assumption | (simp_all; done) | omega | (simp_all; omega)) hh' (by kernel_rfl) ?_
        refine evc_fldH ({ H := H, L := [] }) (b') (0) (m' * 4) 0 0 (hc') (by kernel_rfl) (by kernel_rfl) hh' (by kernel_rfl) ?_
        refine evc_stH ({ H := H, L := [] }) (b') (m' * 4) (hc') (0 + 0 * 4 + 0) ([Go.V.Val.int Go.IntKind.i64 77]) (hc'.set (0 + 0 * 4 + 0) (Go.V.Val.int Go.IntKind.i64 77)) (by kernel_rfl) (by kernel_rfl) hh' hov (by kernel_rfl) ?_
        refine evc_go 1000 8 (by kernel_rfl) ?_
        exact evc_at (ih (v1) (v2) (Go.V.Val.int Go.IntKind.i64 0) (Go.V.Val.bool Bool.true)) (by kernel_rfl) (by first | rfl | (simp_all; done))
      refine evc_go 1000 7 (by kernel_rfl) ?_
      refine evc_idxH ({ H := H, L := [] }) (i) (l.length) (bc) (0) (l.length * 4) 4 (hc) (by kernel_rfl) (by kernel_rfl) (by first | with_reducible rfl | assumption | (simp_all; done) | omega | (simp_all; omega)) hh (by kernel_rfl) ?_
      refine evc_fldH ({ H := H, L := [] }) (bc) (0 + i * 4) (l.length * 4) 3 0 (hc) (by kernel_rfl) (by kernel_rfl) hh (by kernel_rfl) ?_
      refine evc_getH ({ H := H, L := [] }) (bc) (l.length * 4) (hc) (0 + i * 4 + 3) (Go.V.Val.sl b' 0 m' 4 (Go.V.Cap.flex (m' * 4))) (by kernel_rfl) (by kernel_rfl) hh hw (by kernel_rfl) ?_
      refine evc_go 1000 3 (by kernel_rfl) ?_
      refine evc_is 76 (Decidable.decide (0 < (↑m' : Int))) false (by kernel_rfl) (by first | with_reducible rfl | assumption | (simp_all; done) | omega | (simp_all; omega)) ?_
      refine evc_go 1000 13 (by kernel_rfl) ?_
      refine evc_set 7 (Go.V.Val.int Go.IntKind.i64 (Go.IntKind.i64.wrap ((↑i : Int) + 1))) (Go.V.Val.int Go.IntKind.i64 (↑(i + 1) : Int)) (by kernel_rfl) (congrArg (Go.V.Val.int Go.IntKind.i64) (wrap_nat (i := i) (m := 1) (by omega))) ?_
      exact evc_at (hO1 (v1) (v2) (Go.V.Val.tup []) (Go.V.Val.tup [])) (by kernel_rfl) (by first | rfl | (simp_all; done))
theorem LOB (N : Nat) (hN : (itemsI (.mk k n s q l)).length ≤ N) (hwf : (It.mk k n s q l).wf) (hlen0 : l.length ≤ 2 ^ 30) :
    ∀ (r i : Nat) (H : List Block) (v1 v2 v3 v4 : Val), i + r = l.length → Two H k n s q l n1 bc W w2 → EvC E0 (ctxOf E0 4) ⟨PO, [(2, .lv [.int .i64 k, .int .u64 n, .str s, .sli (encL l) l.length q]), (5, .lv [.int .i64 k, .int .u64 n, .str s, .sl bc 0 l.length 4 (.flex (l.length * 4))]), (6, .lv [.int .i64 k, .int .u64 n, .str s, w2]), (7, .int .i64 (i : Int)), (53, v1), (54, v2), (77, v3), (78, v4)], ⟨H, []⟩⟩ QF := by
  intro r
  induction r with
  | zero =>
    intro i H v1 v2 v3 v4 hi0 h
    have hsame : Go.V.Call E0 26 [.agg [.int .i64 k, .int .u64 n, .str s, w2], .agg [.int .i64 k, .int .u64 n, .str s, .sli (encL l) l.length q]] ⟨H, []⟩ (.bool true) ⟨H, []⟩ := by
      have := c26 N (.mk k n s q l) (.mk k n s q l) [.int .i64 k, .int .u64 n, .str s, w2] ⟨H, []⟩ hN hwf h.d.rep
      rwa [encI_mk, sameI_refl] at this
    refine evc_go 1000 9 (by kernel_rfl) ?_
    refine evc_is 52 (Decidable.decide ((↑i : Int) < (↑l.length : Int))) false (by kernel_rfl) (by first | with_reducible rfl | assumption | (simp_all; done) | omega | (simp_all; omega)) ?_
    refine evc_go 1000 10 (by kernel_rfl) ?_
    refine evc_call (by kernel_rfl) (by kernel_rfl) (hsame) (by kernel_rfl) ?_
    refine evc_go 1000 2 (by kernel_rfl) ?_
    exact evc_end (Go.V.Val.bool Bool.true) ({ H := [], L := [] }) (by kernel_rfl) (by first | with_reducible rfl | assumption | (simp_all; done) | omega | (simp_all; omega)) (by first | with_reducible rfl | assumption | (simp_all; done) | omega | (simp_all; omega))
  | succ r ihr =>
    intro i H v1 v2 v3 v4 hi0 h
    have hi : i < l.length := by omega
    have hsame : Go.V.Call E0 26 [.agg [.int .i64 k, .int .u64 n, .str s, w2], .agg [.int .i64 k, .int .u64 n, .str s, .sli (encL l) l.length q]] ⟨H, []⟩ (.bool true) ⟨H, []⟩ := by
      have := c26 N (.mk k n s q l) (.mk k n s q l) [.int .i64 k, .int .u64 n, .str s, w2] ⟨H, []⟩ hN hwf h.d.rep
      rwa [encI_mk, sameI_refl] at this
    obtain ⟨hc, hb, hlen, hg⟩ := h.c.cells
    obtain ⟨⟨a, hn⟩, hw⟩ := hg i hi
    have hh : hcells ⟨H, []⟩ bc (some (l.length * 4)) = some hc := by simp [hcells, hb, hlen]
    have hov : over hc (0 + i * 4 + 1) [.int .u64 (IntKind.wrap .u64 (a + 1))] = some (hc.set (0 + i * 4 + 1) (.int .u64 (IntKind.wrap .u64 (a + 1)))) := over_one (by omega)
    have h2 : Two (H.set bc (.cells (hc.set (0 + i * 4 + 1) (.int .u64 (IntKind.wrap .u64 (a + 1)))) true)) k n s q l n1 bc W w2 := ⟨h.c.wr_own hb hi, h.d.set (by have := h.b; omega), h.b⟩
    by_cases hi2 : i < 200
    · have L := fun v1 v2 v3 v4 => LIB i hi hi2 (fun H' v1 v2 v3 v4 h' => ihr (i + 1) H' v1 v2 v3 v4 (by omega) h') 200 0 _ v1 v2 v3 v4 rfl h2
      refine evc_go 1000 9 (by kernel_rfl) ?_
      refine evc_is 52 (Decidable.decide ((↑i : Int) < (↑l.length : Int))) true (by kernel_rfl) (by first | with_reducible rfl | assumption | (simp_all; done) | omega | (simp_all; omega)) ?_
      refine evc_go 1000 4 (by kernel_rfl) ?_
      refine evc_is 55 (Decidable.decide ((↑i : Int) < 200)) true (by kernel_rfl) (by first | with_reducible rfl | assumption | (simp_all; done) | omega | (simp_all; omega)) ?_
      refine evc_go 1000 9 (by kernel_rfl) ?_
      refine evc_idxH ({ H := H, L := [] }) (i) (l.length) (bc) (0) (l.length * 4) 4 (hc) (by kernel_rfl) (by kernel_rfl) (by first | with_reducible rfl | assumption | (simp_all; done) | omega | (simp_all; omega)) hh (by kernel_rfl) ?_
      refine evc_fldH ({ H := H, L := [] }) (bc) (0 + i * 4) (l.length * 4) 1 0 (hc) (by kernel_rfl) (by kernel_rfl) hh (by kernel_rfl) ?_
      refine evc_getH ({ H := H, L := [] }) (bc) (l.length * 4) (hc) (0 + i * 4 + 1) (Go.V.Val.int Go.IntKind.u64 a) (by kernel_rfl) (by kernel_rfl) hh hn (by kernel_rfl) ?_
      refine evc_go 1000 1 (by kernel_rfl) ?_
      refine evc_idxH ({ H := H, L := [] }) (i) (l.length) (bc) (0) (l.length * 4) 4 (hc) (by kernel_rfl) (by kernel_rfl) (by first | with_reducible rfl | assumption | (simp_all; done) | omega | (simp_all; omega)) hh (by kernel_rfl) ?_
      refine evc_fldH ({ H := H, L := [] }) (bc) (0 + i * 4) (l.length * 4) 1 0 (hc) (by kernel_rfl) (by kernel_rfl) hh (by kernel_rfl) ?_
      refine evc_stH ({ H := H, L := [] }) (bc) (l.length * 4) (hc) (0 + i * 4 + 1) ([Go.V.Val.int Go.IntKind.u64 (Go.IntKind.u64.wrap (a + 1))]) (hc.set (0 + i * 4 + 1) (Go.V.Val.int Go.IntKind.u64 (Go.IntKind.u64.wrap (a + 1)))) (by kernel_rfl) (by kernel_rfl) hh hov (by kernel_rfl) ?_
      refine evc_go 1000 7 (by kernel_rfl) ?_
      exact evc_at (L (Go.V.Val.int Go.IntKind.i64 (↑i : Int)) (Go.V.Val.bool (Decidable.decide ((↑i : Int) < 200))) (v3) (v4)) (by kernel_rfl) (by first | rfl | (simp_all; done))
    refine evc_go 1000 9 (by kernel_rfl) ?_
    refine evc_is 52 (Decidable.decide ((↑i : Int) < (↑l.length : Int))) true (by kernel_rfl) (by first | with_reducible rfl | assumption | (simp_all; done) | omega | (simp_all; omega)) ?_
    refine evc_go 1000 4 (by kernel_rfl) ?_
    refine evc_is 55 (Decidable.decide ((↑i : Int) < 200)) false (by kernel_rfl) (by first | with_reducible rfl | assumption | (simp_all; done) | omega | (simp_all; omega)) ?_
    refine evc_go 1000 6 (by kernel_rfl) ?_
    refine evc_call (by kernel_rfl) (by kernel_rfl) (hsame) (by kernel_rfl) ?_
    refine evc_go 1000 2 (by kernel_rfl) ?_
    exact evc_end (Go.V.Val.bool Bool.true) ({ H := [], L := [] }) (by kernel_rfl) (by first | with_reducible rfl | assumption | (simp_all; done) | omega | (simp_all; omega)) (by first | with_reducible rfl | assumption | (simp_all; done) | omega | (simp_all; omega))
theorem LOA (N : Nat) (hN : (itemsI (.mk k n s q l)).length ≤ N) (hwf : (It.mk k n s q l).wf) (hlen0 : l.length ≤ 2 ^ 30) (hpos : 0 < l.length) (H : List Block) (h : Two H k n s q l n1 bc W w2) : EvC E0 (ctxOf E0 4) ⟨PO, [(2, .lv [.int .i64 k, .int .u64 n, .str s, .sli (encL l) l.length q]), (5, .lv [.int .i64 k, .int .u64 n, .str s, .sl bc 0 l.length 4 (.flex (l.length * 4))]), (6, .lv [.int .i64 k, .int .u64 n, .str s, w2]), (7, .int .i64 0)], ⟨H, []⟩⟩ QF := by
    have hi : 0 < l.length := hpos
    have hsame : Go.V.Call E0 26 [.agg [.int .i64 k, .int .u64 n, .str s, w2], .agg [.int .i64 k, .int .u64 n, .str s, .sli (encL l) l.length q]] ⟨H, []⟩ (.bool true) ⟨H, []⟩ := by
      have := c26 N (.mk k n s q l) (.mk k n s q l) [.int .i64 k, .int .u64 n, .str s, w2] ⟨H, []⟩ hN hwf h.d.rep
      rwa [encI_mk, sameI_refl] at this
    obtain ⟨hc, hb, hlen, hg⟩ := h.c.cells
    obtain ⟨⟨a, hn⟩, hw⟩ := hg 0 hi
    have hh : hcells ⟨H, []⟩ bc (some (l.length * 4)) = some hc := by simp [hcells, hb, hlen]
    have hov : over hc (0 + 0 * 4 + 1) [.int .u64 (IntKind.wrap .u64 (a + 1))] = some (hc.set (0 + 0 * 4 + 1) (.int .u64 (IntKind.wrap .u64 (a + 1)))) := over_one (by omega)
    have h2 : Two (H.set bc (.cells (hc.set (0 + 0 * 4 + 1) (.int .u64 (IntKind.wrap .u64 (a + 1)))) true)) k n s q l n1 bc W w2 := ⟨h.c.wr_own hb hi, h.d.set (by have := h.b; omega), h.b⟩
    have L := fun v1 v2 => LIA 0 hi (by omega) (fun H' v1 v2 v3 v4 h' => LOB N hN hwf hlen0 (l.length - 1) 1 H' v1 v2 v3 v4 (by omega) h') _ v1 v2 h2
    refine evc_go 1000 9 (by kernel_rfl) ?_
    refine evc_is 52 (Decidable.decide (0 < (↑l.length : Int))) true (by kernel_rfl) (by first | with_reducible rfl | assumption | (simp_all; done) | omega | (simp_all; omega)) ?_
    refine evc_go 1000 13 (by kernel_rfl) ?_
    refine evc_idxH ({ H := H, L := [] }) (0) (l.length) (bc) (0) (l.length * 4) 4 (hc) (by kernel_rfl) (by kernel_rfl) (by first | with_reducible rfl | assumption | (simp_all; done) | omega | (simp_all; omega)) hh (by kernel_rfl) ?_
    refine evc_fldH ({ H := H, L := [] }) (bc) (0) (l.length * 4) 1 0 (hc) (by kernel_rfl) (by kernel_rfl) hh (by kernel_rfl) ?_
    refine evc_getH ({ H := H, L := [] }) (bc) (l.length * 4) (hc) (0 + 0 * 4 + 1) (Go.V.Val.int Go.IntKind.u64 a) (by kernel_rfl) (by kernel_rfl) hh hn (by kernel_rfl) ?_
    refine evc_go 1000 1 (by kernel_rfl) ?_
    refine evc_idxH ({ H := H, L := [] }) (0) (l.length) (bc) (0) (l.length * 4) 4 (hc) (by kernel_rfl) (by kernel_rfl) (by first | with_reducible rfl | assumption | (simp_all; done) | omega | (simp_all; omega)) hh (by kernel_rfl) ?_
    refine evc_fldH ({ H := H, L := [] }) (bc) (0) (l.length * 4) 1 0 (hc) (by kernel_rfl) (by kernel_rfl) hh (by kernel_rfl) ?_
    refine evc_stH ({ H := H, L := [] }) (bc) (l.length * 4) (hc) (0 + 0 * 4 + 1) ([Go.V.Val.int Go.IntKind.u64 (Go.IntKind.u64.wrap (a + 1))]) (hc.set (0 + 0 * 4 + 1) (Go.V.Val.int Go.IntKind.u64 (Go.IntKind.u64.wrap (a + 1)))) (by kernel_rfl) (by kernel_rfl) hh hov (by kernel_rfl) ?_
    refine evc_go 1000 7 (by kernel_rfl) ?_
    exact evc_at (L (Go.V.Val.int Go.IntKind.i64 0) (Go.V.Val.bool Bool.true)) (by kernel_rfl) (by first | rfl | (simp_all; done))
end
end Go.V.W
