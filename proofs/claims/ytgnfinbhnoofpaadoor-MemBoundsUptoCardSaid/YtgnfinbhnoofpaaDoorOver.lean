/- over (ullageref08): what it answers of any item. -/
import Derived.Test.YtgnfinbhnoofpaaDoorE0
import Derived.Test.YtgnfinbhnoofpaaDoorItem
set_option linter.unusedVariables false
set_option linter.unusedSimpArgs false
set_option linter.unusedSectionVars false
open Go Go.V
set_option maxRecDepth 100000
set_option maxHeartbeats 4000000
namespace Go.V.W
noncomputable def P78 : Pos := (goT E0 1000 (ctxOf E0 78) 32 (entry E0 78 [.agg [.int .i64 0, .int .u64 0, .str [], .sli [] 0 .nil], .int .i64 1] ⟨[], []⟩)).pos
theorem L78 (d : Nat) (k n : Int) (s : List UInt8) (q : Q) (l : List It) (S : St) (hl : l.length ≤ 200) (hd : ∀ x, Go.V.Call E0 78 [.agg (encI x), .int .i64 (IntKind.wrap .i64 (((d + 1 : Nat) : Int) - 1))] S (.bool (overI d x)) S) :
    ∀ (m i : Nat), i + m = l.length → EvC E0 (ctxOf E0 78) ⟨P78, [(1, .int .i64 ((d + 1 : Nat) : Int)), (2, .lv [.int .i64 k, .int .u64 n, .str s, .sli (encL l) l.length q]), (5, .int .i64 (i : Int))], S⟩ (Go.V.Fin E0 78 S (.bool ((l.drop i).any (overI d))) S)
  | 0, i, hi => by
    have e : (l.drop i).any (overI d) = false := by rw [List.drop_eq_nil_of_le (by omega)]; rfl
    rw [e]
    refine evc_g 9 ?_
    refine evc_i 24 (decide ((↑i : Int) < (↑l.length : Int))) false ?_
    refine evc_g 6 ?_
    exact evc_endS (Val.bool Bool.false) (by kernel_rfl) (by kernel_rfl) (by first | with_reducible rfl | assumption | (simp_all; done) | omega | (simp_all; omega)) (by first | rfl | simp [low_enc])
  | m + 1, i, hi => by
    have hlt : i < l.length := by omega
    obtain ⟨y, hy⟩ : ∃ y, l[i]? = some y := ⟨l[i], List.getElem?_eq_getElem hlt⟩
    have hc := cut_enc hy
    have hdr : (l.drop i).any (overI d) = (overI d y || (l.drop (i + 1)).any (overI d)) := by
      obtain ⟨_, rfl⟩ := List.getElem?_eq_some_iff.1 hy
      rw [List.drop_eq_getElem_cons hlt]; rfl
    have ih := L78 d k n s q l S hl hd m (i + 1) (by omega)
    rw [hdr]
    refine evc_g 9 ?_
    refine evc_i 24 (decide ((↑i : Int) < (↑l.length : Int))) true ?_
    refine evc_g 9 ?_
    refine evc_idx (i) (l.length) (encL l) 4 (by kernel_rfl) (by first | with_reducible rfl | assumption | (simp_all; done) | omega | (simp_all; omega)) (by kernel_rfl) ?_
    refine evc_cut (encL l) (i * 4) 4 (encI y) .pure (by kernel_rfl) hc (by kernel_rfl) ?_
    refine evc_g 2 ?_
    refine evc_c (hd (y)) ?_
    refine evc_g 1 ?_
    refine evc_s 34 (Go.V.overI d y) (fun h12 => ?_) (fun h12 => ?_)
    · refine evc_g 5 ?_
      exact evc_endS (Val.bool Bool.true) (by kernel_rfl) (by kernel_rfl) (by first | with_reducible rfl | assumption | (simp_all; done) | omega | (simp_all; omega)) (by first | rfl | simp [low_enc])
    · -- HEAD 33 frame [(1, Val.int IntKind.i64 (↑(d + 1) : Int)), (2, Val.lv [Val.int IntKind.i64 k, Val.int IntKind.u64 n, Val.str s, Val.sli (encL l) l.length q]), (5, Val.int IntKind.i64 (IntKind.i64.wrap ((↑i : Int) + 1)))]
      refine evc_g 9 ?_
      refine evc_set 5 (Val.int IntKind.i64 (IntKind.i64.wrap ((↑i : Int) + 1))) (Val.int IntKind.i64 (↑(i + 1) : Int)) (by kernel_rfl) (congrArg (Val.int IntKind.i64) (wrap_nat (i := i) (m := 1) (by omega))) ?_
      exact evc_a (ih)
theorem c78 : ∀ (d : Nat) (x : It) (S : St), d < 1000 → Go.V.Call E0 78 [.agg (encI x), .int .i64 (d : Int)] S (.bool (overI d x)) S
  | 0, .mk k n s q l, S, _ => by
    show Go.V.Call E0 78 [.agg [.int .i64 k, .int .u64 n, .str s, .sli (encL l) l.length q], .int .i64 0] S (.bool true) S
    refine call_cfg (by kernel_rfl) ?_
    refine evc_g 28 ?_
    exact evc_endS (Val.bool Bool.true) (by kernel_rfl) (by kernel_rfl) (by first | with_reducible rfl | assumption | (simp_all; done) | omega | (simp_all; omega)) (by first | rfl | simp [low_enc])
  | d + 1, .mk k n s q l, S, hdl => by
    have hw : IntKind.wrap .i64 (((d + 1 : Nat) : Int) - 1) = (d : Int) := by
      rw [show (((d + 1 : Nat) : Int) - 1) = ((d : Int) + ((0 : Nat) : Int)) by omega, wrap_nat (by omega)]; simp
    have hd : ∀ x, Go.V.Call E0 78 [.agg (encI x), .int .i64 (IntKind.wrap .i64 (((d + 1 : Nat) : Int) - 1))] S (.bool (overI d x)) S := fun x => by rw [hw]; exact c78 d x S (by omega)
    by_cases h1 : 200 < l.length
    · have e : overI (d + 1) (.mk k n s q l) = true := by simp [overI, h1]
      rw [e]
      show Go.V.Call E0 78 [.agg [.int .i64 k, .int .u64 n, .str s, .sli (encL l) l.length q], .int .i64 ((d + 1 : Nat) : Int)] S (.bool true) S
      refine call_cfg (by kernel_rfl) ?_
      refine evc_g 17 ?_
      refine evc_i 14 (decide ((↑l.length : Int) > 200)) true ?_
      refine evc_g 11 ?_
      exact evc_endS (Val.bool Bool.true) (by kernel_rfl) (by kernel_rfl) (by first | with_reducible rfl | assumption | (simp_all; done) | omega | (simp_all; omega)) (by first | rfl | simp [low_enc])
    · by_cases h2 : 300 < s.length
      · have e : overI (d + 1) (.mk k n s q l) = true := by simp [overI, h2]
        rw [e]
        show Go.V.Call E0 78 [.agg [.int .i64 k, .int .u64 n, .str s, .sli (encL l) l.length q], .int .i64 ((d + 1 : Nat) : Int)] S (.bool true) S
        refine call_cfg (by kernel_rfl) ?_
        refine evc_g 17 ?_
        refine evc_i 14 (decide ((↑l.length : Int) > 200)) false ?_
        refine evc_g 6 ?_
        refine evc_i 19 (decide ((↑s.length : Int) > 300)) true ?_
        refine evc_g 5 ?_
        exact evc_endS (Val.bool Bool.true) (by kernel_rfl) (by kernel_rfl) (by first | with_reducible rfl | assumption | (simp_all; done) | omega | (simp_all; omega)) (by first | rfl | simp [low_enc])
      · have e : overI (d + 1) (.mk k n s q l) = (l.drop 0).any (overI d) := by simp [overI, h1, h2]
        rw [e]
        have L := L78 d k n s q l S (by omega) hd l.length 0 (by omega)
        show Go.V.Call E0 78 [.agg [.int .i64 k, .int .u64 n, .str s, .sli (encL l) l.length q], .int .i64 ((d + 1 : Nat) : Int)] S (.bool ((l.drop 0).any (overI d))) S
        refine call_cfg (by kernel_rfl) ?_
        refine evc_g 17 ?_
        refine evc_i 14 (decide ((↑l.length : Int) > 200)) false ?_
        refine evc_g 6 ?_
        refine evc_i 19 (decide ((↑s.length : Int) > 300)) false ?_
        refine evc_g 9 ?_
        exact evc_a (L)
end Go.V.W
