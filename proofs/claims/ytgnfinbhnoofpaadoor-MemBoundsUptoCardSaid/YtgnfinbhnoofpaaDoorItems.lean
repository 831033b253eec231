/- Items (ullageref08): what it hands out, of any item. -/
import Derived.Test.YtgnfinbhnoofpaaDoorE0
import Derived.Test.YtgnfinbhnoofpaaDoorItem
import Derived.Test.YtgnfinbhnoofpaaDoorVH
set_option linter.unusedVariables false
set_option linter.unusedSimpArgs false
set_option linter.unusedSectionVars false
open Go Go.V
set_option maxRecDepth 100000
set_option maxHeartbeats 4000000
namespace Go.V.W
theorem el23 : elemIs E0 23 4 56 = true := by kernel_rfl
theorem el28 : elemIs E0 28 1 8 = true := by kernel_rfl
theorem m19 : E0.mode 19 = .drop := by kernel_rfl
noncomputable def P19 : Pos := (goT E0 1000 (ctxOf E0 19) 22 (entry E0 19 [.agg [.int .i64 0, .int .u64 0, .str [], .sli [] 0 .nil], .int .i64 1] ⟨[], []⟩)).pos
/-- what Items hands out -/
def itemsV (x : It) (d : Int) (q : Q) : Val := .tup [.sli (encL (itemsI x)) (itemsI x).length q, .sli (encZ (deepsI x d)) (itemsI x).length q]
theorem set_two {α : Type} (l : List α) (a b c : α) : (l ++ [a, b]).set l.length c = l ++ [c, b] := by
  rw [List.set_append_right (h := Nat.le_refl _)]; simp
theorem set_two' {α : Type} (l : List α) (a b c : α) : (l ++ [a, b]).set (l.length + 1) c = l ++ [a, c] := by
  rw [List.set_append_right (h := by omega)]; simp
theorem L19 (d : Int) (k n : Int) (s : List UInt8) (q : Q) (l : List It) (S : St) (hlen : l.length ≤ 2 ^ 30)
    (hcall : ∀ y, y ∈ l → ∀ S, Go.V.Call E0 19 [.agg (encI y), .int .i64 (IntKind.wrap .i64 (d + 1))] S (.tup [.sli (encL (itemsI y)) (itemsI y).length (itq y), .sli (encZ (deepsI y (IntKind.wrap .i64 (d + 1)))) (itemsI y).length (itq y)]) S) :
    ∀ (m i : Nat) (cs ds : List Val) (len c4 c1 : Nat), i + m = l.length → cs.length = len * 4 → ds.length = len → cs.length = c4 → ds.length = c1 → len + (itemsL (l.drop i)).length ≤ 2 ^ 30 → (∀ n, Val.lows n cs = true) → (∀ n, Val.lows n ds = true) →
      EvC E0 (ctxOf E0 19) ⟨P19, [(1, .int .i64 d), (2, .lv [.int .i64 k, .int .u64 n, .str s, .sli (encL l) l.length q]), (6, .sl S.H.length 0 len 4 (.flex c4)), (7, .sl (S.H.length + 1) 0 len 1 (.flex c1)), (8, .int .i64 (i : Int))], ⟨S.H ++ [.cells cs true, .cells ds true], S.L⟩⟩
        (Go.V.Fin E0 19 S (.tup [.sli (cs ++ encL (itemsL (l.drop i))) (len + (itemsL (l.drop i)).length) .any, .sli (ds ++ encZ (deepsL (l.drop i) (IntKind.wrap .i64 (d + 1)))) (len + (itemsL (l.drop i)).length) .any]) S)
  | 0, i, cs, ds, len, c4, c1, hi, h1, h2, h3, h4, h5, h6, h7 => by
    have e : l.drop i = [] := List.drop_eq_nil_of_le (by omega)
    rw [e]
    simp only [itemsL, deepsL, encL, encZ, List.map_nil, List.append_nil, List.length_nil, Nat.add_zero]
    subst h3 h4
    have f1 : fz S.H.length ⟨S.H ++ [.cells cs true, .cells ds true], S.L⟩ 63 (.sl S.H.length 0 len 4 (.flex cs.length)) = some (.sli cs len .any) := fz_sl (d := 61) (Nat.le_refl _) (by simp) h1 (h6 _)
    have f2 : fz S.H.length ⟨S.H ++ [.cells cs true, .cells ds true], S.L⟩ 63 (.sl (S.H.length + 1) 0 len 1 (.flex ds.length)) = some (.sli ds len .any) := fz_sl (d := 61) (by omega) (by simp) (by omega) (h7 _)
    have hv : fz S.H.length ⟨S.H ++ [.cells cs true, .cells ds true], S.L⟩ fzDepth (.tup [.sl S.H.length 0 len 4 (.flex cs.length), .sl (S.H.length + 1) 0 len 1 (.flex ds.length)]) = some (.tup [.sli cs len .any, .sli ds len .any]) := by
      show fz _ _ (63 + 1) _ = _
      unfold fz
      rw [if_neg (by simp [Val.low, Val.lows])]
      simp only [mapO, f1, f2, Option.map_some]
    refine evc_g 9 ?_
    refine evc_is 19 (decide ((i : Int) < (l.length : Int))) false (by kernel_rfl) (by simp; omega) ?_
    refine evc_g 9 ?_
    exact evc_endN _ [.cells cs true, .cells ds true] (by kernel_rfl) (by kernel_rfl) m19 hv
  | m + 1, i, cs, ds, len, c4, c1, hi, h1, h2, h3, h4, h5, h6, h7 => by
    have hlt : i < l.length := by omega
    obtain ⟨y, hy⟩ : ∃ y, l[i]? = some y := ⟨l[i], List.getElem?_eq_getElem hlt⟩
    have hc := cut_enc hy
    have hmem : y ∈ l := List.mem_of_getElem? hy
    have hdr : l.drop i = y :: l.drop (i + 1) := by
      obtain ⟨_, rfl⟩ := List.getElem?_eq_some_iff.1 hy
      exact List.drop_eq_getElem_cons hlt
    have hcl := hcall y hmem
    have hpos := itemsI_pos y
    rw [hdr] at h5
    simp only [itemsL, List.length_append] at h5
    subst h3 h4
    have l1 : (encL (itemsI y)).length = (itemsI y).length * 4 := encL_len _
    have l2 : (encZ (deepsI y (IntKind.wrap .i64 (d + 1)))).length = (itemsI y).length := by rw [encZ_len, deepsI_len]
    have e1 : appendOp E0 ⟨S.H ++ [.cells cs true, .cells ds true], S.L⟩ 23 (.sl S.H.length 0 len 4 (.flex cs.length)) (.sli (encL (itemsI y)) (itemsI y).length (itq y)) = some (.sl S.H.length 0 (len + (itemsI y).length) 4 (.flex (cs ++ encL (itemsI y)).length), .eh, ⟨S.H ++ [.cells (cs ++ encL (itemsI y)) true, .cells ds true], S.L⟩) := by
      rw [app_flex (nb := 56) el23 (by simp) h1 l1 (by omega) (by omega) (by omega) (by omega), set_two]
    have e2 : appendOp E0 ⟨S.H ++ [.cells (cs ++ encL (itemsI y)) true, .cells ds true], S.L⟩ 28 (.sl (S.H.length + 1) 0 len 1 (.flex ds.length)) (.sli (encZ (deepsI y (IntKind.wrap .i64 (d + 1)))) (itemsI y).length (itq y)) = some (.sl (S.H.length + 1) 0 (len + (itemsI y).length) 1 (.flex (ds ++ encZ (deepsI y (IntKind.wrap .i64 (d + 1)))).length), .eh, ⟨S.H ++ [.cells (cs ++ encL (itemsI y)) true, .cells (ds ++ encZ (deepsI y (IntKind.wrap .i64 (d + 1)))) true], S.L⟩) := by
      rw [app_flex (nb := 8) el28 (by simp) (by omega) (by omega) (by omega) (by omega) (by omega) (by omega), set_two']
    have low_app : ∀ {n : Nat} {a b : List Val}, Val.lows n a = true → Val.lows n b = true → Val.lows n (a ++ b) = true := by
      intro n a b ha hb
      induction a with
      | nil => exact hb
      | cons v a ih => simp only [Val.lows, Bool.and_eq_true, List.cons_append] at ha ⊢; exact ⟨ha.1, ih ha.2⟩
    have ih := L19 d k n s q l S hlen hcall m (i + 1) (cs ++ encL (itemsI y)) (ds ++ encZ (deepsI y (IntKind.wrap .i64 (d + 1)))) (len + (itemsI y).length) (cs ++ encL (itemsI y)).length (ds ++ encZ (deepsI y (IntKind.wrap .i64 (d + 1)))).length (by omega) (by simp only [List.length_append]; omega) (by simp only [List.length_append]; omega) rfl rfl (by omega) (fun n => low_app (h6 n) (low_encL n _)) (fun n => low_app (h7 n) (low_encZ n _))
    rw [hdr]
    have e3 : (itemsI y ++ itemsL (l.drop (i + 1))).length = (itemsI y).length + (itemsL (l.drop (i + 1))).length := by simp
    simp only [itemsL, deepsL, encL_app, encZ_app, e3, ← List.append_assoc, ← Nat.add_assoc]
    refine evc_g 9 ?_
    refine evc_i 19 (decide ((↑i : Int) < (↑l.length : Int))) true ?_
    refine evc_g 9 ?_
    refine evc_idx (i) (l.length) (encL l) 4 (by kernel_rfl) (by first | with_reducible rfl | assumption | (simp_all; done) | omega | (simp_all; omega)) (by kernel_rfl) ?_
    refine evc_cut (encL l) (i * 4) 4 (encI y) .pure (by kernel_rfl) hc (by kernel_rfl) ?_
    refine evc_g 2 ?_
    refine evc_c (hcl ({ H := S.1 ++ [Go.V.Block.cells cs Bool.true, Go.V.Block.cells ds Bool.true], L := S.2 })) ?_
    refine evc_g 9 ?_
    refine evc_app ({ H := S.H ++ [Go.V.Block.cells cs Bool.true, Go.V.Block.cells ds Bool.true], L := S.L }) 23 (Val.sl S.H.length 0 len 4 (Go.V.Cap.flex cs.length)) (Val.sli (encL (Go.V.itemsI y)) (Go.V.itemsI y).length (Go.V.itq y)) (Val.sl S.H.length 0 (len + (Go.V.itemsI y).length) 4 (Go.V.Cap.flex (cs ++ encL (Go.V.itemsI y)).length)) (Go.V.Cls.eh) ({ H := S.H ++ [Go.V.Block.cells (cs ++ encL (Go.V.itemsI y)) Bool.true, Go.V.Block.cells ds Bool.true], L := S.L }) (by kernel_rfl) (by kernel_rfl) e1 (by kernel_rfl) ?_
    refine evc_g 2 ?_
    refine evc_app ({ H := S.H ++ [Go.V.Block.cells (cs ++ encL (Go.V.itemsI y)) Bool.true, Go.V.Block.cells ds Bool.true], L := S.L }) 28 (Val.sl (S.H.length + 1) 0 len 1 (Go.V.Cap.flex ds.length)) (Val.sli (encZ (Go.V.deepsI y (IntKind.i64.wrap (d + 1)))) (Go.V.itemsI y).length (Go.V.itq y)) (Val.sl (S.H.length + 1) 0 (len + (Go.V.itemsI y).length) 1 (Go.V.Cap.flex (ds ++ encZ (Go.V.deepsI y (IntKind.i64.wrap (d + 1)))).length)) (Go.V.Cls.eh) ({ H := S.H ++ [Go.V.Block.cells (cs ++ encL (Go.V.itemsI y)) Bool.true, Go.V.Block.cells (ds ++ encZ (Go.V.deepsI y (IntKind.i64.wrap (d + 1)))) Bool.true], L := S.L }) (by kernel_rfl) (by kernel_rfl) e2 (by kernel_rfl) ?_
    refine evc_g 10 ?_
    refine evc_set 8 (Val.int IntKind.i64 (IntKind.i64.wrap ((↑i : Int) + 1))) (Val.int IntKind.i64 (↑(i + 1) : Int)) (by kernel_rfl) (congrArg (Val.int IntKind.i64) (wrap_nat (i := i) (m := 1) (by omega))) ?_
    exact evc_a (ih)
/-- ITEMS: of an item of no more than so many in it -/
theorem c19 : ∀ (N : Nat) (x : It), (itemsI x).length ≤ N → N ≤ 2 ^ 30 → ∀ (d : Int) (S : St), Go.V.Call E0 19 [.agg (encI x), .int .i64 d] S (.tup [.sli (encL (itemsI x)) (itemsI x).length (itq x), .sli (encZ (deepsI x d)) (itemsI x).length (itq x)]) S
  | 0, x, h, _, _, _ => by have := itemsI_pos x; omega
  | N + 1, .mk k n s q [], h, hN, d, S => by
    show Go.V.Call E0 19 [.agg [.int .i64 k, .int .u64 n, .str s, .sli [] 0 q], .int .i64 d] S (.tup [.sli [.int .i64 k, .int .u64 n, .str s, .sli [] 0 q] 1 .exact, .sli [.int .i64 d] 1 .exact]) S
    refine call_cfg (by kernel_rfl) ?_
    refine evc_g 40 ?_
    exact evc_endS (Val.tup [Val.sli [Val.int IntKind.i64 k, Val.int IntKind.u64 n, Val.str s, Val.sli [] 0 q] 1 Go.V.Q.exact, Val.sli [Val.int IntKind.i64 d] 1 Go.V.Q.exact]) (by kernel_rfl) (by kernel_rfl) (by first | with_reducible rfl | assumption | (simp_all; done) | omega | (simp_all; omega)) (by first | rfl | simp [low_enc])
  | N + 1, .mk k n s q (y :: r), h, hN, d, S => by
    simp only [itemsI, List.length_cons] at h
    have hcall : ∀ z, z ∈ y :: r → ∀ S, Go.V.Call E0 19 [.agg (encI z), .int .i64 (IntKind.wrap .i64 (d + 1))] S (.tup [.sli (encL (itemsI z)) (itemsI z).length (itq z), .sli (encZ (deepsI z (IntKind.wrap .i64 (d + 1)))) (itemsI z).length (itq z)]) S := fun z hz S => c19 N z (by have := itemsL_mem hz; omega) (by omega) _ S
    have hcl := hcall y (by simp)
    have hpos := itemsI_pos y
    have l1 : (encL (itemsI y)).length = (itemsI y).length * 4 := encL_len _
    have l2 : (encZ (deepsI y (IntKind.wrap .i64 (d + 1)))).length = (itemsI y).length := by rw [encZ_len, deepsI_len]
    have lr : (itemsL (y :: r)).length = (itemsI y).length + (itemsL r).length := by simp [itemsL]
    obtain ⟨l, hl⟩ : ∃ l, l = y :: r := ⟨_, rfl⟩
    have hc : cut (encL l) 0 4 = some (encI y) := by
      have := cut_enc (l := l) (i := 0) (y := y) (by rw [hl]; rfl)
      simpa using this
    have h0 : 0 < l.length := by rw [hl]; simp
    have hN' : (itemsL l).length ≤ N := by rw [hl]; omega
    have hdr : l.drop 1 = r := by rw [hl]; rfl
    have e1 : appendOp E0 S 23 (.sli [.int .i64 k, .int .u64 n, .str s, .sli (encL l) l.length q] 1 .exact) (.sli (encL (itemsI y)) (itemsI y).length (itq y)) = some (.sl S.H.length 0 (1 + (itemsI y).length) 4 (.flex (i4 k n s l q ++ encL (itemsI y)).length), .eh, ⟨S.H ++ [.cells (i4 k n s l q ++ encL (itemsI y)) true], S.L⟩) :=
      app_exact (nb := 56) (.inr rfl) el23 rfl l1 (by omega) (by omega) (by omega) (by omega)
    have e2 : appendOp E0 ⟨S.H ++ [.cells (i4 k n s l q ++ encL (itemsI y)) true], S.L⟩ 28 (.sli [.int .i64 d] 1 .exact) (.sli (encZ (deepsI y (IntKind.wrap .i64 (d + 1)))) (itemsI y).length (itq y)) = some (.sl (S.H.length + 1) 0 (1 + (itemsI y).length) 1 (.flex (z1 d ++ encZ (deepsI y (IntKind.wrap .i64 (d + 1)))).length), .eh, ⟨S.H ++ [.cells (i4 k n s l q ++ encL (itemsI y)) true, .cells (z1 d ++ encZ (deepsI y (IntKind.wrap .i64 (d + 1)))) true], S.L⟩) := by
      rw [app_exact (nb := 8) (.inr rfl) el28 rfl (by omega) (by omega) (by omega) (by omega) (by omega)]
      simp
    have L := L19 d k n s q l S (by have := length_itemsL l; omega) (by rw [hl]; exact hcall) r.length 1 (i4 k n s l q ++ encL (itemsI y)) (z1 d ++ encZ (deepsI y (IntKind.wrap .i64 (d + 1)))) (1 + (itemsI y).length) (i4 k n s l q ++ encL (itemsI y)).length (z1 d ++ encZ (deepsI y (IntKind.wrap .i64 (d + 1)))).length
      (by rw [hl]; simp; omega) (by simp only [List.length_append, List.length_cons, List.length_nil]; omega) (by simp only [List.length_append, List.length_cons, List.length_nil]; omega) rfl rfl (by rw [hdr]; omega) (fun n => by simp [Val.lows, Val.low, low_encL]) (fun n => by simp [Val.lows, Val.low, low_encZ])
    have q1 : itq (.mk k n s q (y :: r)) = .any := by simp [itq, It.l]
    have q2 : encL (itemsI (.mk k n s q (y :: r))) = i4 k n s l q ++ encL (itemsI y) ++ encL (itemsL (l.drop 1)) := by
      rw [hdr, hl]; simp [itemsI, encL, encI, itemsL, encL_app]
    have q3 : (itemsI (.mk k n s q (y :: r))).length = 1 + (itemsI y).length + (itemsL (l.drop 1)).length := by
      rw [hdr]; simp [itemsI, itemsL]; omega
    have q4 : encZ (deepsI (.mk k n s q (y :: r)) d) = z1 d ++ encZ (deepsI y (IntKind.wrap .i64 (d + 1))) ++ encZ (deepsL (l.drop 1) (IntKind.wrap .i64 (d + 1))) := by
      rw [hdr]; simp [deepsI, deepsL, encZ]
    have q5 : encI (.mk k n s q (y :: r)) = [.int .i64 k, .int .u64 n, .str s, .sli (encL l) l.length q] := by rw [hl]; simp [encI]
    rw [q1, q2, q3, q4, q5]
    refine call_cfg (by kernel_rfl) ?_
    refine evc_g 31 ?_
    refine evc_i 19 (decide (0 < (↑l.length : Int))) true ?_
    refine evc_g 9 ?_
    refine evc_idx (0) (l.length) (encL l) 4 (by kernel_rfl) (by first | with_reducible rfl | assumption | (simp_all; done) | omega | (simp_all; omega)) (by kernel_rfl) ?_
    refine evc_cut (encL l) (0) 4 (encI y) .pure (by kernel_rfl) hc (by kernel_rfl) ?_
    refine evc_g 2 ?_
    refine evc_c (hcl (S)) ?_
    refine evc_g 9 ?_
    refine evc_app (S) 23 (Val.sli [Val.int IntKind.i64 k, Val.int IntKind.u64 n, Val.str s, Val.sli (encL l) l.length q] 1 Go.V.Q.exact) (Val.sli (encL (Go.V.itemsI y)) (Go.V.itemsI y).length (Go.V.itq y)) (Val.sl S.H.length 0 (1 + (Go.V.itemsI y).length) 4 (Go.V.Cap.flex (Go.V.i4 k n s l q ++ encL (Go.V.itemsI y)).length)) (Go.V.Cls.eh) ({ H := S.H ++ [Go.V.Block.cells (Go.V.i4 k n s l q ++ encL (Go.V.itemsI y)) Bool.true], L := S.L }) (by kernel_rfl) (by kernel_rfl) e1 (by kernel_rfl) ?_
    refine evc_g 2 ?_
    refine evc_app ({ H := S.H ++ [Go.V.Block.cells (Go.V.i4 k n s l q ++ encL (Go.V.itemsI y)) Bool.true], L := S.L }) 28 (Val.sli [Val.int IntKind.i64 d] 1 Go.V.Q.exact) (Val.sli (encZ (Go.V.deepsI y (IntKind.i64.wrap (d + 1)))) (Go.V.itemsI y).length (Go.V.itq y)) (Val.sl (S.H.length + 1) 0 (1 + (Go.V.itemsI y).length) 1 (Go.V.Cap.flex (Go.V.z1 d ++ encZ (Go.V.deepsI y (IntKind.i64.wrap (d + 1)))).length)) (Go.V.Cls.eh) ({ H := S.H ++ [Go.V.Block.cells (Go.V.i4 k n s l q ++ encL (Go.V.itemsI y)) Bool.true, Go.V.Block.cells (Go.V.z1 d ++ encZ (Go.V.deepsI y (IntKind.i64.wrap (d + 1)))) Bool.true], L := S.L }) (by kernel_rfl) (by kernel_rfl) e2 (by kernel_rfl) ?_
    refine evc_g 10 ?_
    exact evc_a (L)
end Go.V.W
