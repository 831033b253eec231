/- Same (ullageref08, item): of an item that lies inline or in memory that grew, and an inline one. -/
import Derived.Test.YtgnfinbhnoofpaaDoorE0
import Derived.Test.YtgnfinbhnoofpaaDoorItem
import Derived.Test.YtgnfinbhnoofpaaDoorVH
set_option linter.unusedVariables false
set_option linter.unusedSimpArgs false
set_option linter.unusedSectionVars false
open Go Go.V
set_option maxRecDepth 100000
set_option maxHeartbeats 4000000
namespace Go.V.W
noncomputable def P26 : Pos := (goT E0 1000 (ctxOf E0 26) 47 (entry E0 26 [.agg [.int .i64 0, .int .u64 0, .str [], .sli [] 0 .nil], .agg [.int .i64 0, .int .u64 0, .str [], .sli [] 0 .nil]] ⟨[], []⟩)).pos
theorem L26i (k n k' n' : Int) (s s' : List UInt8) (l l' : List It) (q' : Q) (S : St) (q : Q) (hl : l.length = l'.length) (hb : l.length ≤ 9223372036854775807)
    (hcall : ∀ y ∈ l, ∀ z ∈ l', ∀ cs, RepI S y cs → Go.V.Call E0 26 [.agg cs, .agg (encI z)] S (.bool (sameI y z)) S) :
    ∀ (m i : Nat), i + m = l.length → EvC E0 (ctxOf E0 26) ⟨P26, [(2, .lv [.int .i64 k, .int .u64 n, .str s, .sli (encL l) l.length q]), (3, .lv [.int .i64 k', .int .u64 n', .str s', .sli (encL l') l'.length q']), (5, .int .i64 (i : Int))], S⟩ (Go.V.Fin E0 26 S (.bool (sameL (l.drop i) (l'.drop i))) S)
  | 0, i, hi => by
    have e1 : l.drop i = [] := List.drop_eq_nil_of_le (by omega)
    have e2 : sameL (l.drop i) (l'.drop i) = true := by rw [e1]; simp [sameL]
    rw [e2]
    refine evc_g 9 ?_
    refine evc_i 38 (decide ((↑i : Int) < (↑l.length : Int))) false ?_
    refine evc_g 6 ?_
    exact evc_endS (Val.bool Bool.true) (by kernel_rfl) (by kernel_rfl) (by first | with_reducible rfl | assumption | (simp_all; done) | omega | (simp_all; omega)) (by first | rfl | simp [low_enc])
  | m + 1, i, hi => by
    have hlt : i < l.length := by omega
    have hlt' : i < l'.length := by omega
    obtain ⟨y, hy⟩ : ∃ y, l[i]? = some y := ⟨l[i], List.getElem?_eq_getElem hlt⟩
    obtain ⟨z, hz⟩ : ∃ z, l'[i]? = some z := ⟨l'[i], List.getElem?_eq_getElem hlt'⟩
    have hdr : sameL (l.drop i) (l'.drop i) = (sameI y z && sameL (l.drop (i + 1)) (l'.drop (i + 1))) := by
      obtain ⟨_, rfl⟩ := List.getElem?_eq_some_iff.1 hy
      obtain ⟨_, rfl⟩ := List.getElem?_eq_some_iff.1 hz
      rw [List.drop_eq_getElem_cons hlt, List.drop_eq_getElem_cons hlt']; rfl
    have hcz := cut_enc hz
    have hcy := cut_enc hy
    have hcl := hcall y (List.mem_of_getElem? hy) z (List.mem_of_getElem? hz) (encI y) (RepI_enc S y)
    have ih := L26i k n k' n' s s' l l' q' S q hl hb hcall m (i + 1) (by omega)
    rw [hdr]
    refine evc_g 9 ?_
    refine evc_i 38 (decide ((↑i : Int) < (↑l.length : Int))) true ?_
    refine evc_g 9 ?_
    refine evc_idx (i) (l.length) (encL l) 4 (by kernel_rfl) (by first | with_reducible rfl | assumption | (simp_all; done) | omega | (simp_all; omega)) (by kernel_rfl) ?_
    refine evc_cut (encL l) (i * 4) 4 (encI y) .pure (by kernel_rfl) hcy (by kernel_rfl) ?_
    refine evc_g 3 ?_
    refine evc_idx (i) (l'.length) (encL l') 4 (by kernel_rfl) (by first | with_reducible rfl | assumption | (simp_all; done) | omega | (simp_all; omega)) (by kernel_rfl) ?_
    refine evc_cut (encL l') (i * 4) 4 (encI z) .pure (by kernel_rfl) hcz (by kernel_rfl) ?_
    refine evc_c (hcl) ?_
    refine evc_g 2 ?_
    refine evc_s 52 (!Go.V.sameI y z) (fun h12 => ?_) (fun h12 => ?_)
    · refine evc_g 5 ?_
      exact evc_endS (Val.bool Bool.false) (by kernel_rfl) (by kernel_rfl) (by first | with_reducible rfl | assumption | (simp_all; done) | omega | (simp_all; omega)) (by first | rfl | simp [low_enc])
    · -- HEAD 37 frame [(2, Val.lv [Val.int IntKind.i64 k, Val.int IntKind.u64 n, Val.str s, Val.sli (encL l) l.length q]), (3, Val.lv [Val.int IntKind.i64 k', Val.int IntKind.u64 n', Val.str s', Val.sli (encL l') l'.length q']), (5, Val.int IntKind.i64 (IntKind.i64.wrap ((↑i : Int) + 1)))]
      refine evc_g 9 ?_
      refine evc_set 5 (Val.int IntKind.i64 (IntKind.i64.wrap ((↑i : Int) + 1))) (Val.int IntKind.i64 (↑(i + 1) : Int)) (by kernel_rfl) (congrArg (Val.int IntKind.i64) (wrap_nat (i := i) (m := 1) (by omega))) ?_
      exact evc_a (ih)
theorem L26h (k n k' n' : Int) (s s' : List UInt8) (l l' : List It) (q' : Q) (S : St) (b e : Nat) (hc : List Val) (hh : hcells S b (some e) = some hc) (hr : RepH S hc l 0) (hl : l.length = l'.length) (hb : l.length ≤ 9223372036854775807)
    (hcall : ∀ y ∈ l, ∀ z ∈ l', ∀ cs, RepI S y cs → Go.V.Call E0 26 [.agg cs, .agg (encI z)] S (.bool (sameI y z)) S) :
    ∀ (m i : Nat), i + m = l.length → EvC E0 (ctxOf E0 26) ⟨P26, [(2, .lv [.int .i64 k, .int .u64 n, .str s, .sl b 0 l.length 4 (.flex e)]), (3, .lv [.int .i64 k', .int .u64 n', .str s', .sli (encL l') l'.length q']), (5, .int .i64 (i : Int))], S⟩ (Go.V.Fin E0 26 S (.bool (sameL (l.drop i) (l'.drop i))) S)
  | 0, i, hi => by
    have e1 : l.drop i = [] := List.drop_eq_nil_of_le (by omega)
    have e2 : sameL (l.drop i) (l'.drop i) = true := by rw [e1]; simp [sameL]
    rw [e2]
    refine evc_g 9 ?_
    refine evc_i 38 (decide ((↑i : Int) < (↑l.length : Int))) false ?_
    refine evc_g 6 ?_
    exact evc_endS (Val.bool Bool.true) (by kernel_rfl) (by kernel_rfl) (by first | with_reducible rfl | assumption | (simp_all; done) | omega | (simp_all; omega)) (by first | rfl | simp [low_enc])
  | m + 1, i, hi => by
    have hlt : i < l.length := by omega
    have hlt' : i < l'.length := by omega
    obtain ⟨y, hy⟩ : ∃ y, l[i]? = some y := ⟨l[i], List.getElem?_eq_getElem hlt⟩
    obtain ⟨z, hz⟩ : ∃ z, l'[i]? = some z := ⟨l'[i], List.getElem?_eq_getElem hlt'⟩
    have hdr : sameL (l.drop i) (l'.drop i) = (sameI y z && sameL (l.drop (i + 1)) (l'.drop (i + 1))) := by
      obtain ⟨_, rfl⟩ := List.getElem?_eq_some_iff.1 hy
      obtain ⟨_, rfl⟩ := List.getElem?_eq_some_iff.1 hz
      rw [List.drop_eq_getElem_cons hlt, List.drop_eq_getElem_cons hlt']; rfl
    have hcz := cut_enc hz
    obtain ⟨c4, hcy0, hry⟩ := RepH_get hr hy
    have hcy : cut hc (0 + i * 4) 4 = some c4 := by simpa using hcy0
    have hcl := hcall y (List.mem_of_getElem? hy) z (List.mem_of_getElem? hz) c4 hry
    have ih := L26h k n k' n' s s' l l' q' S b e hc hh hr hl hb hcall m (i + 1) (by omega)
    rw [hdr]
    refine evc_g 9 ?_
    refine evc_i 38 (decide ((↑i : Int) < (↑l.length : Int))) true ?_
    refine evc_g 9 ?_
    refine evc_idxH (S) (i) (l.length) (b) (0) (e) 4 (hc) (by kernel_rfl) (by kernel_rfl) (by first | with_reducible rfl | assumption | (simp_all; done) | omega | (simp_all; omega)) hh (by kernel_rfl) ?_
    refine evc_cutH (S) (b) (e) (hc) (0 + i * 4) 4 (c4) (by kernel_rfl) (by kernel_rfl) hh hcy (by kernel_rfl) ?_
    refine evc_g 3 ?_
    refine evc_idx (i) (l'.length) (encL l') 4 (by kernel_rfl) (by first | with_reducible rfl | assumption | (simp_all; done) | omega | (simp_all; omega)) (by kernel_rfl) ?_
    refine evc_cut (encL l') (i * 4) 4 (encI z) .pure (by kernel_rfl) hcz (by kernel_rfl) ?_
    refine evc_c (hcl) ?_
    refine evc_g 2 ?_
    refine evc_s 52 (!Go.V.sameI y z) (fun h12 => ?_) (fun h12 => ?_)
    · refine evc_g 5 ?_
      exact evc_endS (Val.bool Bool.false) (by kernel_rfl) (by kernel_rfl) (by first | with_reducible rfl | assumption | (simp_all; done) | omega | (simp_all; omega)) (by first | rfl | simp [low_enc])
    · -- HEAD 37 frame [(2, Val.lv [Val.int IntKind.i64 k, Val.int IntKind.u64 n, Val.str s, Val.sl b 0 l.length 4 (Go.V.Cap.flex e)]), (3, Val.lv [Val.int IntKind.i64 k', Val.int IntKind.u64 n', Val.str s', Val.sli (encL l') l'.length q']), (5, Val.int IntKind.i64 (IntKind.i64.wrap ((↑i : Int) + 1)))]
      refine evc_g 9 ?_
      refine evc_set 5 (Val.int IntKind.i64 (IntKind.i64.wrap ((↑i : Int) + 1))) (Val.int IntKind.i64 (↑(i + 1) : Int)) (by kernel_rfl) (congrArg (Val.int IntKind.i64) (wrap_nat (i := i) (m := 1) (by omega))) ?_
      exact evc_a (ih)
theorem c26 : ∀ (N : Nat) (x y : It) (cs : List Val) (S : St), (itemsI x).length ≤ N → x.wf → RepI S x cs → Go.V.Call E0 26 [.agg cs, .agg (encI y)] S (.bool (sameI x y)) S
  | 0, x, _, _, _, h, _, _ => by have := itemsI_pos x; omega
  | N + 1, .mk k n s q0 l, .mk k' n' s' q' l', cs, S, hN, hw, h => by
    simp only [RepI] at h
    simp only [itemsI, List.length_cons] at hN
    simp only [It.wf] at hw
    obtain ⟨w, rfl, hwv⟩ := h
    have hb := hw.2.2.2.1
    have hcall : ∀ y ∈ l, ∀ z ∈ l', ∀ cs, RepI S y cs → Go.V.Call E0 26 [.agg cs, .agg (encI z)] S (.bool (sameI y z)) S := fun y hy z _ cs hr => c26 N y z cs S (by have := itemsL_mem hy; omega) (by obtain ⟨i, hi⟩ := List.getElem?_of_mem hy; exact wfL_get hw.2.2.2.2 hi) hr
    have e : sameI (.mk k n s q0 l) (.mk k' n' s' q' l') = (k == k' && (n == n' && (s == s' && (l.length == l'.length && sameL (l.drop 0) (l'.drop 0))))) := by simp [sameI]
    rw [e, encI_mk]
    rcases hwv with ⟨q, rfl⟩ | ⟨b, ex, hc, rfl, hh, hr⟩
    · by_cases hl : l.length = l'.length
      · have L := L26i k n k' n' s s' l l' q' S q hl hb hcall l.length 0 (by omega)
        generalize sameL (l.drop 0) (l'.drop 0) = r at *
        refine call_cfg (by kernel_rfl) ?_
        refine evc_g 15 ?_
        refine evc_s 11 (k != k') (fun h12 => ?_) (fun h12 => ?_)
        · refine evc_g 28 ?_
          exact evc_endS (Val.bool Bool.false) (by kernel_rfl) (by kernel_rfl) (by first | with_reducible rfl | assumption | (simp_all; done) | omega | (simp_all; omega)) (by first | rfl | simp [low_enc])
        · refine evc_g 7 ?_
          refine evc_s 18 (n != n') (fun h11 => ?_) (fun h11 => ?_)
          · refine evc_g 21 ?_
            exact evc_endS (Val.bool Bool.false) (by kernel_rfl) (by kernel_rfl) (by first | with_reducible rfl | assumption | (simp_all; done) | omega | (simp_all; omega)) (by first | rfl | simp [low_enc])
          · refine evc_g 7 ?_
            refine evc_s 25 (!s == s') (fun h10 => ?_) (fun h10 => ?_)
            · refine evc_g 14 ?_
              exact evc_endS (Val.bool Bool.false) (by kernel_rfl) (by kernel_rfl) (by first | with_reducible rfl | assumption | (simp_all; done) | omega | (simp_all; omega)) (by first | rfl | simp [low_enc])
            · refine evc_g 9 ?_
              refine evc_i 33 ((↑l.length : Int) != (↑l'.length : Int)) false ?_
              refine evc_g 9 ?_
              exact evc_a (L)
      · generalize sameL (l.drop 0) (l'.drop 0) = r at *
        refine call_cfg (by kernel_rfl) ?_
        refine evc_g 15 ?_
        refine evc_s 11 (k != k') (fun h12 => ?_) (fun h12 => ?_)
        · refine evc_g 28 ?_
          exact evc_endS (Val.bool Bool.false) (by kernel_rfl) (by kernel_rfl) (by first | with_reducible rfl | assumption | (simp_all; done) | omega | (simp_all; omega)) (by first | rfl | simp [low_enc])
        · refine evc_g 7 ?_
          refine evc_s 18 (n != n') (fun h11 => ?_) (fun h11 => ?_)
          · refine evc_g 21 ?_
            exact evc_endS (Val.bool Bool.false) (by kernel_rfl) (by kernel_rfl) (by first | with_reducible rfl | assumption | (simp_all; done) | omega | (simp_all; omega)) (by first | rfl | simp [low_enc])
          · refine evc_g 7 ?_
            refine evc_s 25 (!s == s') (fun h10 => ?_) (fun h10 => ?_)
            · refine evc_g 14 ?_
              exact evc_endS (Val.bool Bool.false) (by kernel_rfl) (by kernel_rfl) (by first | with_reducible rfl | assumption | (simp_all; done) | omega | (simp_all; omega)) (by first | rfl | simp [low_enc])
            · refine evc_g 9 ?_
              refine evc_i 33 ((↑l.length : Int) != (↑l'.length : Int)) true ?_
              refine evc_g 5 ?_
              exact evc_endS (Val.bool Bool.false) (by kernel_rfl) (by kernel_rfl) (by first | with_reducible rfl | assumption | (simp_all; done) | omega | (simp_all; omega)) (by first | rfl | simp [low_enc])
    · by_cases hl : l.length = l'.length
      · have L := L26h k n k' n' s s' l l' q' S b ex hc hh hr hl hb hcall l.length 0 (by omega)
        generalize sameL (l.drop 0) (l'.drop 0) = r at *
        refine call_cfg (by kernel_rfl) ?_
        refine evc_g 15 ?_
        refine evc_s 11 (k != k') (fun h12 => ?_) (fun h12 => ?_)
        · refine evc_g 28 ?_
          exact evc_endS (Val.bool Bool.false) (by kernel_rfl) (by kernel_rfl) (by first | with_reducible rfl | assumption | (simp_all; done) | omega | (simp_all; omega)) (by first | rfl | simp [low_enc])
        · refine evc_g 7 ?_
          refine evc_s 18 (n != n') (fun h11 => ?_) (fun h11 => ?_)
          · refine evc_g 21 ?_
            exact evc_endS (Val.bool Bool.false) (by kernel_rfl) (by kernel_rfl) (by first | with_reducible rfl | assumption | (simp_all; done) | omega | (simp_all; omega)) (by first | rfl | simp [low_enc])
          · refine evc_g 7 ?_
            refine evc_s 25 (!s == s') (fun h10 => ?_) (fun h10 => ?_)
            · refine evc_g 14 ?_
              exact evc_endS (Val.bool Bool.false) (by kernel_rfl) (by kernel_rfl) (by first | with_reducible rfl | assumption | (simp_all; done) | omega | (simp_all; omega)) (by first | rfl | simp [low_enc])
            · refine evc_g 9 ?_
              refine evc_i 33 ((↑l.length : Int) != (↑l'.length : Int)) false ?_
              refine evc_g 9 ?_
              exact evc_a (L)
      · generalize sameL (l.drop 0) (l'.drop 0) = r at *
        refine call_cfg (by kernel_rfl) ?_
        refine evc_g 15 ?_
        refine evc_s 11 (k != k') (fun h12 => ?_) (fun h12 => ?_)
        · refine evc_g 28 ?_
          exact evc_endS (Val.bool Bool.false) (by kernel_rfl) (by kernel_rfl) (by first | with_reducible rfl | assumption | (simp_all; done) | omega | (simp_all; omega)) (by first | rfl | simp [low_enc])
        · refine evc_g 7 ?_
          refine evc_s 18 (n != n') (fun h11 => ?_) (fun h11 => ?_)
          · refine evc_g 21 ?_
            exact evc_endS (Val.bool Bool.false) (by kernel_rfl) (by kernel_rfl) (by first | with_reducible rfl | assumption | (simp_all; done) | omega | (simp_all; omega)) (by first | rfl | simp [low_enc])
          · refine evc_g 7 ?_
            refine evc_s 25 (!s == s') (fun h10 => ?_) (fun h10 => ?_)
            · refine evc_g 14 ?_
              exact evc_endS (Val.bool Bool.false) (by kernel_rfl) (by kernel_rfl) (by first | with_reducible rfl | assumption | (simp_all; done) | omega | (simp_all; omega)) (by first | rfl | simp [low_enc])
            · refine evc_g 9 ?_
              refine evc_i 33 ((↑l.length : Int) != (↑l'.length : Int)) true ?_
              refine evc_g 5 ?_
              exact evc_endS (Val.bool Bool.false) (by kernel_rfl) (by kernel_rfl) (by first | with_reducible rfl | assumption | (simp_all; done) | omega | (simp_all; omega)) (by first | rfl | simp [low_enc])
noncomputable def P27 : Pos := (goT E0 1000 (ctxOf E0 27) 50 (entry E0 27 [.agg [.int .i64 0, .int .u64 0, .str [], .sli [] 0 .nil], .agg [.int .i64 0, .int .u64 0, .str [], .sli [] 0 .nil]] ⟨[], []⟩)).pos
theorem L27i (k n k' n' : Int) (s s' : List UInt8) (l l' : List It) (q' : Q) (S : St) (q : Q) (hl : l.length = l'.length) (hb : l.length ≤ 9223372036854775807)
    (hcall : ∀ y ∈ l, ∀ z ∈ l', ∀ cs, RepI S y cs → Go.V.Call E0 27 [.agg cs, .agg (encI z)] S (.bool (sameI y z)) S) :
    ∀ (m i : Nat), i + m = l.length → EvC E0 (ctxOf E0 27) ⟨P27, [(2, .lv [.int .i64 k, .int .u64 n, .str s, .sli (encL l) l.length q]), (3, .lv [.int .i64 k', .int .u64 n', .str s', .sli (encL l') l'.length q']), (36, .int .i64 (l.length : Int)), (37, .int .i64 (i : Int))], S⟩ (Go.V.Fin E0 27 S (.bool (sameL (l.drop i) (l'.drop i))) S)
  | 0, i, hi => by
    have e1 : l.drop i = [] := List.drop_eq_nil_of_le (by omega)
    have e2 : sameL (l.drop i) (l'.drop i) = true := by rw [e1]; simp [sameL]
    rw [e2]
    refine evc_g 5 ?_
    refine evc_i 38 (decide ((↑i : Int) < (↑l.length : Int))) false ?_
    refine evc_g 6 ?_
    exact evc_endS (Val.bool Bool.true) (by kernel_rfl) (by kernel_rfl) (by first | with_reducible rfl | assumption | (simp_all; done) | omega | (simp_all; omega)) (by first | rfl | simp [low_enc])
  | m + 1, i, hi => by
    have hlt : i < l.length := by omega
    have hlt' : i < l'.length := by omega
    obtain ⟨y, hy⟩ : ∃ y, l[i]? = some y := ⟨l[i], List.getElem?_eq_getElem hlt⟩
    obtain ⟨z, hz⟩ : ∃ z, l'[i]? = some z := ⟨l'[i], List.getElem?_eq_getElem hlt'⟩
    have hdr : sameL (l.drop i) (l'.drop i) = (sameI y z && sameL (l.drop (i + 1)) (l'.drop (i + 1))) := by
      obtain ⟨_, rfl⟩ := List.getElem?_eq_some_iff.1 hy
      obtain ⟨_, rfl⟩ := List.getElem?_eq_some_iff.1 hz
      rw [List.drop_eq_getElem_cons hlt, List.drop_eq_getElem_cons hlt']; rfl
    have hcz := cut_enc hz
    have hcy := cut_enc hy
    have hcl := hcall y (List.mem_of_getElem? hy) z (List.mem_of_getElem? hz) (encI y) (RepI_enc S y)
    have ih := L27i k n k' n' s s' l l' q' S q hl hb hcall m (i + 1) (by omega)
    rw [hdr]
    refine evc_g 5 ?_
    refine evc_i 38 (decide ((↑i : Int) < (↑l.length : Int))) true ?_
    refine evc_g 14 ?_
    refine evc_idx (i) (l.length) (encL l) 4 (by kernel_rfl) (by first | with_reducible rfl | assumption | (simp_all; done) | omega | (simp_all; omega)) (by kernel_rfl) ?_
    refine evc_cut (encL l) (i * 4) 4 (encI y) .pure (by kernel_rfl) hcy (by kernel_rfl) ?_
    refine evc_g 3 ?_
    refine evc_idx (i) (l'.length) (encL l') 4 (by kernel_rfl) (by first | with_reducible rfl | assumption | (simp_all; done) | omega | (simp_all; omega)) (by kernel_rfl) ?_
    refine evc_cut (encL l') (i * 4) 4 (encI z) .pure (by kernel_rfl) hcz (by kernel_rfl) ?_
    refine evc_c (hcl) ?_
    refine evc_g 2 ?_
    refine evc_s 51 (!Go.V.sameI y z) (fun h12 => ?_) (fun h12 => ?_)
    · refine evc_g 5 ?_
      exact evc_endS (Val.bool Bool.false) (by kernel_rfl) (by kernel_rfl) (by first | with_reducible rfl | assumption | (simp_all; done) | omega | (simp_all; omega)) (by first | rfl | simp [low_enc])
    · -- HEAD 37 frame [(2, Val.lv [Val.int IntKind.i64 k, Val.int IntKind.u64 n, Val.str s, Val.sli (encL l) l.length q]), (3, Val.lv [Val.int IntKind.i64 k', Val.int IntKind.u64 n', Val.str s', Val.sli (encL l') l'.length q']), (36, Val.int IntKind.i64 (↑l.length : Int)), (37, Val.int IntKind.i64 (IntKind.i64.wrap ((↑i : Int) + 1)))]
      refine evc_g 8 ?_
      refine evc_set 37 (Val.int IntKind.i64 (IntKind.i64.wrap ((↑i : Int) + 1))) (Val.int IntKind.i64 (↑(i + 1) : Int)) (by kernel_rfl) (congrArg (Val.int IntKind.i64) (wrap_nat (i := i) (m := 1) (by omega))) ?_
      exact evc_a (ih)
theorem L27h (k n k' n' : Int) (s s' : List UInt8) (l l' : List It) (q' : Q) (S : St) (b e : Nat) (hc : List Val) (hh : hcells S b (some e) = some hc) (hr : RepH S hc l 0) (hl : l.length = l'.length) (hb : l.length ≤ 9223372036854775807)
    (hcall : ∀ y ∈ l, ∀ z ∈ l', ∀ cs, RepI S y cs → Go.V.Call E0 27 [.agg cs, .agg (encI z)] S (.bool (sameI y z)) S) :
    ∀ (m i : Nat), i + m = l.length → EvC E0 (ctxOf E0 27) ⟨P27, [(2, .lv [.int .i64 k, .int .u64 n, .str s, .sl b 0 l.length 4 (.flex e)]), (3, .lv [.int .i64 k', .int .u64 n', .str s', .sli (encL l') l'.length q']), (36, .int .i64 (l.length : Int)), (37, .int .i64 (i : Int))], S⟩ (Go.V.Fin E0 27 S (.bool (sameL (l.drop i) (l'.drop i))) S)
  | 0, i, hi => by
    have e1 : l.drop i = [] := List.drop_eq_nil_of_le (by omega)
    have e2 : sameL (l.drop i) (l'.drop i) = true := by rw [e1]; simp [sameL]
    rw [e2]
    refine evc_g 5 ?_
    refine evc_i 38 (decide ((↑i : Int) < (↑l.length : Int))) false ?_
    refine evc_g 6 ?_
    exact evc_endS (Val.bool Bool.true) (by kernel_rfl) (by kernel_rfl) (by first | with_reducible rfl | assumption | (simp_all; done) | omega | (simp_all; omega)) (by first | rfl | simp [low_enc])
  | m + 1, i, hi => by
    have hlt : i < l.length := by omega
    have hlt' : i < l'.length := by omega
    obtain ⟨y, hy⟩ : ∃ y, l[i]? = some y := ⟨l[i], List.getElem?_eq_getElem hlt⟩
    obtain ⟨z, hz⟩ : ∃ z, l'[i]? = some z := ⟨l'[i], List.getElem?_eq_getElem hlt'⟩
    have hdr : sameL (l.drop i) (l'.drop i) = (sameI y z && sameL (l.drop (i + 1)) (l'.drop (i + 1))) := by
      obtain ⟨_, rfl⟩ := List.getElem?_eq_some_iff.1 hy
      obtain ⟨_, rfl⟩ := List.getElem?_eq_some_iff.1 hz
      rw [List.drop_eq_getElem_cons hlt, List.drop_eq_getElem_cons hlt']; rfl
    have hcz := cut_enc hz
    obtain ⟨c4, hcy0, hry⟩ := RepH_get hr hy
    have hcy : cut hc (0 + i * 4) 4 = some c4 := by simpa using hcy0
    have hcl := hcall y (List.mem_of_getElem? hy) z (List.mem_of_getElem? hz) c4 hry
    have ih := L27h k n k' n' s s' l l' q' S b e hc hh hr hl hb hcall m (i + 1) (by omega)
    rw [hdr]
    refine evc_g 5 ?_
    refine evc_i 38 (decide ((↑i : Int) < (↑l.length : Int))) true ?_
    refine evc_g 14 ?_
    refine evc_idxH (S) (i) (l.length) (b) (0) (e) 4 (hc) (by kernel_rfl) (by kernel_rfl) (by first | with_reducible rfl | assumption | (simp_all; done) | omega | (simp_all; omega)) hh (by kernel_rfl) ?_
    refine evc_cutH (S) (b) (e) (hc) (0 + i * 4) 4 (c4) (by kernel_rfl) (by kernel_rfl) hh hcy (by kernel_rfl) ?_
    refine evc_g 3 ?_
    refine evc_idx (i) (l'.length) (encL l') 4 (by kernel_rfl) (by first | with_reducible rfl | assumption | (simp_all; done) | omega | (simp_all; omega)) (by kernel_rfl) ?_
    refine evc_cut (encL l') (i * 4) 4 (encI z) .pure (by kernel_rfl) hcz (by kernel_rfl) ?_
    refine evc_c (hcl) ?_
    refine evc_g 2 ?_
    refine evc_s 51 (!Go.V.sameI y z) (fun h12 => ?_) (fun h12 => ?_)
    · refine evc_g 5 ?_
      exact evc_endS (Val.bool Bool.false) (by kernel_rfl) (by kernel_rfl) (by first | with_reducible rfl | assumption | (simp_all; done) | omega | (simp_all; omega)) (by first | rfl | simp [low_enc])
    · -- HEAD 37 frame [(2, Val.lv [Val.int IntKind.i64 k, Val.int IntKind.u64 n, Val.str s, Val.sl b 0 l.length 4 (Go.V.Cap.flex e)]), (3, Val.lv [Val.int IntKind.i64 k', Val.int IntKind.u64 n', Val.str s', Val.sli (encL l') l'.length q']), (36, Val.int IntKind.i64 (↑l.length : Int)), (37, Val.int IntKind.i64 (IntKind.i64.wrap ((↑i : Int) + 1)))]
      refine evc_g 8 ?_
      refine evc_set 37 (Val.int IntKind.i64 (IntKind.i64.wrap ((↑i : Int) + 1))) (Val.int IntKind.i64 (↑(i + 1) : Int)) (by kernel_rfl) (congrArg (Val.int IntKind.i64) (wrap_nat (i := i) (m := 1) (by omega))) ?_
      exact evc_a (ih)
theorem c27 : ∀ (N : Nat) (x y : It) (cs : List Val) (S : St), (itemsI x).length ≤ N → x.wf → RepI S x cs → Go.V.Call E0 27 [.agg cs, .agg (encI y)] S (.bool (sameI x y)) S
  | 0, x, _, _, _, h, _, _ => by have := itemsI_pos x; omega
  | N + 1, .mk k n s q0 l, .mk k' n' s' q' l', cs, S, hN, hw, h => by
    simp only [RepI] at h
    simp only [itemsI, List.length_cons] at hN
    simp only [It.wf] at hw
    obtain ⟨w, rfl, hwv⟩ := h
    have hb := hw.2.2.2.1
    have hcall : ∀ y ∈ l, ∀ z ∈ l', ∀ cs, RepI S y cs → Go.V.Call E0 27 [.agg cs, .agg (encI z)] S (.bool (sameI y z)) S := fun y hy z _ cs hr => c27 N y z cs S (by have := itemsL_mem hy; omega) (by obtain ⟨i, hi⟩ := List.getElem?_of_mem hy; exact wfL_get hw.2.2.2.2 hi) hr
    have e : sameI (.mk k n s q0 l) (.mk k' n' s' q' l') = (k == k' && (n == n' && (s == s' && (l.length == l'.length && sameL (l.drop 0) (l'.drop 0))))) := by simp [sameI]
    rw [e, encI_mk]
    rcases hwv with ⟨q, rfl⟩ | ⟨b, ex, hc, rfl, hh, hr⟩
    · by_cases hl : l.length = l'.length
      · have L := L27i k n k' n' s s' l l' q' S q hl hb hcall l.length 0 (by omega)
        generalize sameL (l.drop 0) (l'.drop 0) = r at *
        refine call_cfg (by kernel_rfl) ?_
        refine evc_g 15 ?_
        refine evc_s 11 (k != k') (fun h12 => ?_) (fun h12 => ?_)
        · refine evc_g 28 ?_
          exact evc_endS (Val.bool Bool.false) (by kernel_rfl) (by kernel_rfl) (by first | with_reducible rfl | assumption | (simp_all; done) | omega | (simp_all; omega)) (by first | rfl | simp [low_enc])
        · refine evc_g 7 ?_
          refine evc_s 18 (n != n') (fun h11 => ?_) (fun h11 => ?_)
          · refine evc_g 21 ?_
            exact evc_endS (Val.bool Bool.false) (by kernel_rfl) (by kernel_rfl) (by first | with_reducible rfl | assumption | (simp_all; done) | omega | (simp_all; omega)) (by first | rfl | simp [low_enc])
          · refine evc_g 7 ?_
            refine evc_s 25 (!s == s') (fun h10 => ?_) (fun h10 => ?_)
            · refine evc_g 14 ?_
              exact evc_endS (Val.bool Bool.false) (by kernel_rfl) (by kernel_rfl) (by first | with_reducible rfl | assumption | (simp_all; done) | omega | (simp_all; omega)) (by first | rfl | simp [low_enc])
            · refine evc_g 9 ?_
              refine evc_i 33 ((↑l.length : Int) != (↑l'.length : Int)) false ?_
              refine evc_g 12 ?_
              exact evc_a (L)
      · generalize sameL (l.drop 0) (l'.drop 0) = r at *
        refine call_cfg (by kernel_rfl) ?_
        refine evc_g 15 ?_
        refine evc_s 11 (k != k') (fun h12 => ?_) (fun h12 => ?_)
        · refine evc_g 28 ?_
          exact evc_endS (Val.bool Bool.false) (by kernel_rfl) (by kernel_rfl) (by first | with_reducible rfl | assumption | (simp_all; done) | omega | (simp_all; omega)) (by first | rfl | simp [low_enc])
        · refine evc_g 7 ?_
          refine evc_s 18 (n != n') (fun h11 => ?_) (fun h11 => ?_)
          · refine evc_g 21 ?_
            exact evc_endS (Val.bool Bool.false) (by kernel_rfl) (by kernel_rfl) (by first | with_reducible rfl | assumption | (simp_all; done) | omega | (simp_all; omega)) (by first | rfl | simp [low_enc])
          · refine evc_g 7 ?_
            refine evc_s 25 (!s == s') (fun h10 => ?_) (fun h10 => ?_)
            · refine evc_g 14 ?_
              exact evc_endS (Val.bool Bool.false) (by kernel_rfl) (by kernel_rfl) (by first | with_reducible rfl | assumption | (simp_all; done) | omega | (simp_all; omega)) (by first | rfl | simp [low_enc])
            · refine evc_g 9 ?_
              refine evc_i 33 ((↑l.length : Int) != (↑l'.length : Int)) true ?_
              refine evc_g 5 ?_
              exact evc_endS (Val.bool Bool.false) (by kernel_rfl) (by kernel_rfl) (by first | with_reducible rfl | assumption | (simp_all; done) | omega | (simp_all; omega)) (by first | rfl | simp [low_enc])
    · by_cases hl : l.length = l'.length
      · have L := L27h k n k' n' s s' l l' q' S b ex hc hh hr hl hb hcall l.length 0 (by omega)
        generalize sameL (l.drop 0) (l'.drop 0) = r at *
        refine call_cfg (by kernel_rfl) ?_
        refine evc_g 15 ?_
        refine evc_s 11 (k != k') (fun h12 => ?_) (fun h12 => ?_)
        · refine evc_g 28 ?_
          exact evc_endS (Val.bool Bool.false) (by kernel_rfl) (by kernel_rfl) (by first | with_reducible rfl | assumption | (simp_all; done) | omega | (simp_all; omega)) (by first | rfl | simp [low_enc])
        · refine evc_g 7 ?_
          refine evc_s 18 (n != n') (fun h11 => ?_) (fun h11 => ?_)
          · refine evc_g 21 ?_
            exact evc_endS (Val.bool Bool.false) (by kernel_rfl) (by kernel_rfl) (by first | with_reducible rfl | assumption | (simp_all; done) | omega | (simp_all; omega)) (by first | rfl | simp [low_enc])
          · refine evc_g 7 ?_
            refine evc_s 25 (!s == s') (fun h10 => ?_) (fun h10 => ?_)
            · refine evc_g 14 ?_
              exact evc_endS (Val.bool Bool.false) (by kernel_rfl) (by kernel_rfl) (by first | with_reducible rfl | assumption | (simp_all; done) | omega | (simp_all; omega)) (by first | rfl | simp [low_enc])
            · refine evc_g 9 ?_
              refine evc_i 33 ((↑l.length : Int) != (↑l'.length : Int)) false ?_
              refine evc_g 12 ?_
              exact evc_a (L)
      · generalize sameL (l.drop 0) (l'.drop 0) = r at *
        refine call_cfg (by kernel_rfl) ?_
        refine evc_g 15 ?_
        refine evc_s 11 (k != k') (fun h12 => ?_) (fun h12 => ?_)
        · refine evc_g 28 ?_
          exact evc_endS (Val.bool Bool.false) (by kernel_rfl) (by kernel_rfl) (by first | with_reducible rfl | assumption | (simp_all; done) | omega | (simp_all; omega)) (by first | rfl | simp [low_enc])
        · refine evc_g 7 ?_
          refine evc_s 18 (n != n') (fun h11 => ?_) (fun h11 => ?_)
          · refine evc_g 21 ?_
            exact evc_endS (Val.bool Bool.false) (by kernel_rfl) (by kernel_rfl) (by first | with_reducible rfl | assumption | (simp_all; done) | omega | (simp_all; omega)) (by first | rfl | simp [low_enc])
          · refine evc_g 7 ?_
            refine evc_s 25 (!s == s') (fun h10 => ?_) (fun h10 => ?_)
            · refine evc_g 14 ?_
              exact evc_endS (Val.bool Bool.false) (by kernel_rfl) (by kernel_rfl) (by first | with_reducible rfl | assumption | (simp_all; done) | omega | (simp_all; omega)) (by first | rfl | simp [low_enc])
            · refine evc_g 9 ?_
              refine evc_i 33 ((↑l.length : Int) != (↑l'.length : Int)) true ?_
              refine evc_g 5 ?_
              exact evc_endS (Val.bool Bool.false) (by kernel_rfl) (by kernel_rfl) (by first | with_reducible rfl | assumption | (simp_all; done) | omega | (simp_all; omega)) (by first | rfl | simp [low_enc])
end Go.V.W
