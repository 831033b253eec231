/- Alike (ullageref08): what it answers of any items. -/
import Derived.Test.YtgnfinbhnoofpaaDoorAlike
set_option linter.unusedVariables false
set_option linter.unusedSimpArgs false
set_option linter.unusedSectionVars false
open Go Go.V
set_option maxRecDepth 100000
set_option maxHeartbeats 4000000
namespace Go.V.W
noncomputable def PL115 : Pos := (goT E0 1 (ctxOf E0 115) 62 (entry E0 115 [.agg z4, .agg z4] ⟨[], []⟩)).pos
noncomputable def PO115 : Pos := (goT E0 1 (ctxOf E0 115) 71 (entry E0 115 [.agg [.int .i64 5, .int .u64 0, .str [], .sli (z4 ++ z4) 2 .exact], .agg [.int .i64 5, .int .u64 0, .str [], .sli (z4 ++ z4) 2 .exact]] ⟨[], []⟩)).pos
noncomputable def PI115 : Pos := (goT E0 1 (ctxOf E0 115) 95 (entry E0 115 [.agg [.int .i64 5, .int .u64 0, .str [], .sli (z4 ++ z4) 2 .exact], .agg [.int .i64 5, .int .u64 0, .str [], .sli (z4 ++ z4) 2 .exact]] ⟨[], []⟩)).pos
section
variable (k n : Int) (s : List UInt8) (q q' : Q) (l l' : List It) (k' n' : Int) (s' : List UInt8)
theorem LL115 (hl : l.length ≤ 2 ^ 30) (hll : l'.length = l.length) (S : St) (hcall : ∀ x ∈ l, ∀ y S, Go.V.Call E0 115 [.agg (encI x), .agg (encI y)] S (.bool (alikeI x y)) S) : ∀ (m i : Nat), i + m = l.length →
    EvC E0 (ctxOf E0 115) ⟨PL115, [(2, .lv (i4 k n s l q)), (3, .lv (i4 k' n' s' l' q')), (5, .int .i64 (i : Int))], S⟩ (Go.V.Fin E0 115 S (.bool (alikeL (l.drop i) (l'.drop i))) S) := by
  intro m
  induction m with
  | zero =>
    intro i hi
    have e : l.drop i = [] := List.drop_eq_nil_of_le (by omega)
    rw [e]
    simp only [alikeL]
    have g5 : ¬ (i : Int) < (l.length : Int) := by omega
    refine evc_g 9 ?_
    refine evc_i 52 (decide ((↑i : Int) < (↑l.length : Int))) false ?_
    refine evc_g 6 ?_
    exact evc_t (Val.bool Bool.true)
  | succ m ihm =>
    intro i hi
    have hlt : i < l.length := by omega
    obtain ⟨x, hx⟩ : ∃ x, l[i]? = some x := ⟨l[i], List.getElem?_eq_getElem hlt⟩
    obtain ⟨y, hy⟩ : ∃ y, l'[i]? = some y := ⟨l'[i], List.getElem?_eq_getElem (by omega)⟩
    have g5 : (i : Int) < (l.length : Int) := by omega
    have hcx := cut_enc hx
    have hcy := cut_enc hy
    have hdx : l.drop i = x :: l.drop (i + 1) := by
      obtain ⟨_, rfl⟩ := List.getElem?_eq_some_iff.1 hx
      exact List.drop_eq_getElem_cons hlt
    have hdy : l'.drop i = y :: l'.drop (i + 1) := by
      obtain ⟨hl', rfl⟩ := List.getElem?_eq_some_iff.1 hy
      exact List.drop_eq_getElem_cons hl'
    have c := hcall x (List.mem_of_getElem? hx) y S
    have ih := ihm (i + 1) (by omega)
    rw [hdx, hdy]
    simp only [alikeL]
    generalize alikeL (l.drop (i + 1)) (l'.drop (i + 1)) = r at *
    generalize alikeI x y = a at *
    clear ihm hdx hdy hcall
    cases x with
    | mk kx nx sx qx lx =>
      cases y with
      | mk ky ny sy qy ly =>
        rw [encI_mk] at hcx hcy c
        rw [encI_mk] at c
        refine evc_g 9 ?_
        refine evc_i 52 (decide ((↑i : Int) < (↑l.length : Int))) true ?_
        refine evc_g 9 ?_
        refine evc_idx (i) (l.length) (encL l) 4 (by kernel_rfl) (by first | with_reducible rfl | assumption | (simp_all; done) | omega | (simp_all; omega)) (by kernel_rfl) ?_
        refine evc_cut (encL l) (i * 4) 4 (Go.V.i4 kx nx sx lx qx) .pure (by kernel_rfl) hcx (by kernel_rfl) ?_
        refine evc_g 3 ?_
        refine evc_idx (i) (l'.length) (encL l') 4 (by kernel_rfl) (by first | with_reducible rfl | assumption | (simp_all; done) | omega | (simp_all; omega)) (by kernel_rfl) ?_
        refine evc_cut (encL l') (i * 4) 4 (Go.V.i4 ky ny sy ly qy) .pure (by kernel_rfl) hcy (by kernel_rfl) ?_
        refine evc_c (c) ?_
        refine evc_g 2 ?_
        refine evc_s 66 (!a) (fun h12 => ?_) (fun h12 => ?_)
        · refine evc_g 5 ?_
          exact evc_t (Val.bool Bool.false)
        · -- HEAD 37 frame [(2, Val.lv [Val.int IntKind.i64 k, Val.int IntKind.u64 n, Val.str s, Val.sli (encL l) l.length q]), (3, Val.lv [Val.int IntKind.i64 k', Val.int IntKind.u64 n', Val.str s', Val.sli (encL l') l'.length q']), (5, Val.int IntKind.i64 (IntKind.i64.wrap ((↑i : Int) + 1)))]
          refine evc_g 9 ?_
          refine evc_set 5 (Val.int IntKind.i64 (IntKind.i64.wrap ((↑i : Int) + 1))) (Val.int IntKind.i64 (↑(i + 1) : Int)) (by kernel_rfl) (congrArg (Val.int IntKind.i64) (wrap_nat (i := i) (m := 1) (by omega))) ?_
          exact evc_a (ih)
theorem LI115 (m : Nat) (hm : l.length = 2 * m) (hl : m ≤ 2 ^ 29) (hll : l'.length = l.length) (S : St) (hcall : ∀ x ∈ l, ∀ y S, Go.V.Call E0 115 [.agg (encI x), .agg (encI y)] S (.bool (alikeI x y)) S)
    (i : Nat) (hi : i < m) (x y : It) (hx : l[2 * i]? = some x) (hy : l[2 * i + 1]? = some y)
    (ihO : ∀ U : List Bool, U.length = m → EvC E0 (ctxOf E0 115) ⟨PO115, [(2, .lv (i4 k n s l q)), (3, .lv (i4 k' n' s' l' q')), (6, .sl S.H.length 0 (2 * m) 1 (.fix (2 * m))), (7, .int .i64 ((2 * (i + 1) : Nat) : Int))], ⟨S.H ++ [.cells (encB (dbl U)) false], S.L⟩⟩ (Go.V.Fin E0 115 S (.bool (alikeP (l.drop (2 * (i + 1))) (U.zip (pairsL l')))) S))
    (U : List Bool) (hU : U.length = m) (R : Bool) : ∀ (r j : Nat), j + r = m → Rel (fun p => alikeI x p.1 && alikeI y p.2) (l.drop (2 * (i + 1))) (U.zip (pairsL l')) j R →
    EvC E0 (ctxOf E0 115) ⟨PI115, [(2, .lv (i4 k n s l q)), (3, .lv (i4 k' n' s' l' q')), (6, .sl S.H.length 0 (2 * m) 1 (.fix (2 * m))), (7, .int .i64 ((2 * i : Nat) : Int)), (8, .bool false), (9, .int .i64 ((2 * j : Nat) : Int))], ⟨S.H ++ [.cells (encB (dbl U)) false], S.L⟩⟩ (Go.V.Fin E0 115 S (.bool R) S) := by
  intro r
  induction r with
  | zero =>
    intro j hj hr
    have hz : j = (U.zip (pairsL l')).length := by rw [List.length_zip, pairsL_len]; omega
    rw [hz] at hr
    have := rel_end hr
    subst this
    have g5 : ¬ ((2 * j : Nat) : Int) < (l'.length : Int) := by omega
    clear hr hz ihO hcall
    refine evc_g 9 ?_
    refine evc_i 83 (decide ((↑(2 * j) : Int) < (↑l'.length : Int))) false ?_
    refine evc_g 16 ?_
    exact evc_endX (Val.bool Bool.false) ([Go.V.Block.cells (List.map (fun x => Val.bool x) (Go.V.dbl U)) Bool.false]) (by kernel_rfl) (by kernel_rfl) (by kernel_rfl) (by first | with_reducible rfl | assumption | (simp_all; done) | omega | (simp_all; omega)) (by first | rfl | simp [Val.low, Val.lows, low_encL, low_encI])
  | succ r ihr =>
    intro j hj hr
    have hjl : j < m := by omega
    obtain ⟨u, hu⟩ : ∃ u, U[j]? = some u := ⟨U[j], List.getElem?_eq_getElem (by omega)⟩
    obtain ⟨z, hz⟩ : ∃ z, l'[2 * j]? = some z := ⟨l'[2 * j], List.getElem?_eq_getElem (by omega)⟩
    obtain ⟨w, hw⟩ : ∃ w, l'[2 * j + 1]? = some w := ⟨l'[2 * j + 1], List.getElem?_eq_getElem (by omega)⟩
    have hP := pairsL_get hz hw
    have hzip := zip_get hu hP
    have g1 : IntKind.wrap .i64 (((2 * i : Nat) : Int) + 1) = ((2 * i + 1 : Nat) : Int) := wrap_nat (m := 1) (by omega)
    have g2 : IntKind.wrap .i64 (((2 * j : Nat) : Int) + 1) = ((2 * j + 1 : Nat) : Int) := wrap_nat (m := 1) (by omega)
    have g3 : IntKind.wrap .i64 (((2 * i : Nat) : Int) + 2) = ((2 * (i + 1) : Nat) : Int) := wrap_nat (i := 2 * i) (m := 2) (by omega)
    have g4 : IntKind.wrap .i64 (((2 * j : Nat) : Int) + 2) = ((2 * (j + 1) : Nat) : Int) := wrap_nat (i := 2 * j) (m := 2) (by omega)
    have g5 : ((2 * j : Nat) : Int) < (l'.length : Int) := by omega
    have hd : (dbl U).length = 2 * m := by rw [dbl_len, hU]
    have hcx := cut_enc hx
    have hcy := cut_enc hy
    have hcz := cut_enc hz
    have hcw := cut_enc hw
    have hget := encB_get (dbl_get hu)
    have hover := encB_over (l := dbl U) (i := 2 * j) (by omega)
    rw [dbl_set] at hover
    have cx := hcall x (List.mem_of_getElem? hx) z ⟨S.H ++ [.cells (encB (dbl U)) false], S.L⟩
    have cy := hcall y (List.mem_of_getElem? hy) w ⟨S.H ++ [.cells (encB (dbl U)) false], S.L⟩
    have hit : u = false → (alikeI x z && alikeI y w) = true → R = alikeP (l.drop (2 * (i + 1))) ((U.set j true).zip (pairsL l')) := fun h1 h2 => by
      subst h1
      rw [← zip_set hu hP]; exact rel_hit hzip h2 hr
    have miss : (!u && (alikeI x z && alikeI y w)) = false → _ := fun h => ihr (j + 1) (by omega) (rel_miss hzip h hr)
    have gO := ihO (U.set j true) (by simpa using hU)
    generalize alikeP (l.drop (2 * (i + 1))) ((U.set j true).zip (pairsL l')) = RO at *
    generalize alikeI x z = a at *
    generalize alikeI y w = b at *
    clear ihO ihr hcall hr hzip hP
    cases x with
    | mk kx nx sx qx lx =>
    cases y with
    | mk ky ny sy qy ly =>
    cases z with
    | mk kz nz sz qz lz =>
    cases w with
    | mk kw nw sw qw lw =>
    simp only [encI_mk] at hcx hcy hcz hcw cx cy
    cases u with
    | true =>
      have ih := miss rfl
      clear miss hit
      refine evc_g 9 ?_
      refine evc_i 83 (decide ((↑(2 * j) : Int) < (↑l'.length : Int))) true ?_
      refine evc_g 12 ?_
      refine evc_idxG ({ H := S.H ++ [Go.V.Block.cells (List.map (fun x => Val.bool x) (Go.V.dbl U)) Bool.false], L := S.L }) (2 * j) (2 * m) (S.H.length) (0) (Option.none) 1 (List.map (fun x => Val.bool x) (Go.V.dbl U)) (by kernel_rfl) (by kernel_rfl) (by first | with_reducible rfl | assumption | (simp_all; done) | omega | (simp_all; omega)) (hc_top (i := 0) rfl (by kernel_rfl)) (by kernel_rfl) ?_
      refine evc_getG ({ H := S.H ++ [Go.V.Block.cells (List.map (fun x => Val.bool x) (Go.V.dbl U)) Bool.false], L := S.L }) (S.H.length) (Option.none) (List.map (fun x => Val.bool x) (Go.V.dbl U)) (0 + 2 * j * 1) (Val.bool Bool.true) (by kernel_rfl) (by kernel_rfl) (hc_top (i := 0) rfl (by kernel_rfl)) hget (by kernel_rfl) ?_
      refine evc_g 39 ?_
      refine evc_set 9 (Val.int IntKind.i64 (IntKind.i64.wrap ((↑(2 * j) : Int) + 2))) (Val.int IntKind.i64 (↑(2 * (j + 1)) : Int)) (by kernel_rfl) (congrArg (Val.int IntKind.i64) g4) ?_
      exact evc_a (ih)
    | false =>
      cases a with
      | false =>
        have ih := miss rfl
        clear miss hit
        refine evc_g 9 ?_
        refine evc_i 83 (decide ((↑(2 * j) : Int) < (↑l'.length : Int))) true ?_
        refine evc_g 12 ?_
        refine evc_idxG ({ H := S.H ++ [Go.V.Block.cells (List.map (fun x => Val.bool x) (Go.V.dbl U)) Bool.false], L := S.L }) (2 * j) (2 * m) (S.H.length) (0) (Option.none) 1 (List.map (fun x => Val.bool x) (Go.V.dbl U)) (by kernel_rfl) (by kernel_rfl) (by first | with_reducible rfl | assumption | (simp_all; done) | omega | (simp_all; omega)) (hc_top (i := 0) rfl (by kernel_rfl)) (by kernel_rfl) ?_
        refine evc_getG ({ H := S.H ++ [Go.V.Block.cells (List.map (fun x => Val.bool x) (Go.V.dbl U)) Bool.false], L := S.L }) (S.H.length) (Option.none) (List.map (fun x => Val.bool x) (Go.V.dbl U)) (0 + 2 * j * 1) (Val.bool Bool.false) (by kernel_rfl) (by kernel_rfl) (hc_top (i := 0) rfl (by kernel_rfl)) hget (by kernel_rfl) ?_
        refine evc_g 5 ?_
        refine evc_idx (2 * i) (l.length) (encL l) 4 (by kernel_rfl) (by first | with_reducible rfl | assumption | (simp_all; done) | omega | (simp_all; omega)) (by kernel_rfl) ?_
        refine evc_cut (encL l) (2 * i * 4) 4 (Go.V.i4 kx nx sx lx qx) .pure (by kernel_rfl) hcx (by kernel_rfl) ?_
        refine evc_g 3 ?_
        refine evc_idx (2 * j) (l'.length) (encL l') 4 (by kernel_rfl) (by first | with_reducible rfl | assumption | (simp_all; done) | omega | (simp_all; omega)) (by kernel_rfl) ?_
        refine evc_cut (encL l') (2 * j * 4) 4 (Go.V.i4 kz nz sz lz qz) .pure (by kernel_rfl) hcz (by kernel_rfl) ?_
        refine evc_c (cx) ?_
        refine evc_g 26 ?_
        refine evc_set 9 (Val.int IntKind.i64 (IntKind.i64.wrap ((↑(2 * j) : Int) + 2))) (Val.int IntKind.i64 (↑(2 * (j + 1)) : Int)) (by kernel_rfl) (congrArg (Val.int IntKind.i64) g4) ?_
        exact evc_a (ih)
      | true =>
        cases b with
        | false =>
          have ih := miss rfl
          clear miss hit
          refine evc_g 9 ?_
          refine evc_i 83 (decide ((↑(2 * j) : Int) < (↑l'.length : Int))) true ?_
          refine evc_g 12 ?_
          refine evc_idxG ({ H := S.H ++ [Go.V.Block.cells (List.map (fun x => Val.bool x) (Go.V.dbl U)) Bool.false], L := S.L }) (2 * j) (2 * m) (S.H.length) (0) (Option.none) 1 (List.map (fun x => Val.bool x) (Go.V.dbl U)) (by kernel_rfl) (by kernel_rfl) (by first | with_reducible rfl | assumption | (simp_all; done) | omega | (simp_all; omega)) (hc_top (i := 0) rfl (by kernel_rfl)) (by kernel_rfl) ?_
          refine evc_getG ({ H := S.H ++ [Go.V.Block.cells (List.map (fun x => Val.bool x) (Go.V.dbl U)) Bool.false], L := S.L }) (S.H.length) (Option.none) (List.map (fun x => Val.bool x) (Go.V.dbl U)) (0 + 2 * j * 1) (Val.bool Bool.false) (by kernel_rfl) (by kernel_rfl) (hc_top (i := 0) rfl (by kernel_rfl)) hget (by kernel_rfl) ?_
          refine evc_g 5 ?_
          refine evc_idx (2 * i) (l.length) (encL l) 4 (by kernel_rfl) (by first | with_reducible rfl | assumption | (simp_all; done) | omega | (simp_all; omega)) (by kernel_rfl) ?_
          refine evc_cut (encL l) (2 * i * 4) 4 (Go.V.i4 kx nx sx lx qx) .pure (by kernel_rfl) hcx (by kernel_rfl) ?_
          refine evc_g 3 ?_
          refine evc_idx (2 * j) (l'.length) (encL l') 4 (by kernel_rfl) (by first | with_reducible rfl | assumption | (simp_all; done) | omega | (simp_all; omega)) (by kernel_rfl) ?_
          refine evc_cut (encL l') (2 * j * 4) 4 (Go.V.i4 kz nz sz lz qz) .pure (by kernel_rfl) hcz (by kernel_rfl) ?_
          refine evc_c (cx) ?_
          refine evc_g 6 ?_
          refine evc_set 111 (Val.int IntKind.i64 (IntKind.i64.wrap ((↑(2 * i) : Int) + 1))) (Val.int IntKind.i64 (↑(2 * i + 1) : Int)) (by kernel_rfl) (congrArg (Val.int IntKind.i64) g1) ?_
          refine evc_idx (2 * i + 1) (l.length) (encL l) 4 (by kernel_rfl) (by first | with_reducible rfl | assumption | (simp_all; done) | omega | (simp_all; omega)) (by kernel_rfl) ?_
          refine evc_cut (encL l) ((2 * i + 1) * 4) 4 (Go.V.i4 ky ny sy ly qy) .pure (by kernel_rfl) hcy (by kernel_rfl) ?_
          refine evc_g 4 ?_
          refine evc_set 117 (Val.int IntKind.i64 (IntKind.i64.wrap ((↑(2 * j) : Int) + 1))) (Val.int IntKind.i64 (↑(2 * j + 1) : Int)) (by kernel_rfl) (congrArg (Val.int IntKind.i64) g2) ?_
          refine evc_idx (2 * j + 1) (l'.length) (encL l') 4 (by kernel_rfl) (by first | with_reducible rfl | assumption | (simp_all; done) | omega | (simp_all; omega)) (by kernel_rfl) ?_
          refine evc_cut (encL l') ((2 * j + 1) * 4) 4 (Go.V.i4 kw nw sw lw qw) .pure (by kernel_rfl) hcw (by kernel_rfl) ?_
          refine evc_c (cy) ?_
          refine evc_g 11 ?_
          refine evc_set 9 (Val.int IntKind.i64 (IntKind.i64.wrap ((↑(2 * j) : Int) + 2))) (Val.int IntKind.i64 (↑(2 * (j + 1)) : Int)) (by kernel_rfl) (congrArg (Val.int IntKind.i64) g4) ?_
          exact evc_a (ih)
        | true =>
          have := hit rfl rfl
          subst this
          clear miss hit
          refine evc_g 9 ?_
          refine evc_i 83 (decide ((↑(2 * j) : Int) < (↑l'.length : Int))) true ?_
          refine evc_g 12 ?_
          refine evc_idxG ({ H := S.H ++ [Go.V.Block.cells (List.map (fun x => Val.bool x) (Go.V.dbl U)) Bool.false], L := S.L }) (2 * j) (2 * m) (S.H.length) (0) (Option.none) 1 (List.map (fun x => Val.bool x) (Go.V.dbl U)) (by kernel_rfl) (by kernel_rfl) (by first | with_reducible rfl | assumption | (simp_all; done) | omega | (simp_all; omega)) (hc_top (i := 0) rfl (by kernel_rfl)) (by kernel_rfl) ?_
          refine evc_getG ({ H := S.H ++ [Go.V.Block.cells (List.map (fun x => Val.bool x) (Go.V.dbl U)) Bool.false], L := S.L }) (S.H.length) (Option.none) (List.map (fun x => Val.bool x) (Go.V.dbl U)) (0 + 2 * j * 1) (Val.bool Bool.false) (by kernel_rfl) (by kernel_rfl) (hc_top (i := 0) rfl (by kernel_rfl)) hget (by kernel_rfl) ?_
          refine evc_g 5 ?_
          refine evc_idx (2 * i) (l.length) (encL l) 4 (by kernel_rfl) (by first | with_reducible rfl | assumption | (simp_all; done) | omega | (simp_all; omega)) (by kernel_rfl) ?_
          refine evc_cut (encL l) (2 * i * 4) 4 (Go.V.i4 kx nx sx lx qx) .pure (by kernel_rfl) hcx (by kernel_rfl) ?_
          refine evc_g 3 ?_
          refine evc_idx (2 * j) (l'.length) (encL l') 4 (by kernel_rfl) (by first | with_reducible rfl | assumption | (simp_all; done) | omega | (simp_all; omega)) (by kernel_rfl) ?_
          refine evc_cut (encL l') (2 * j * 4) 4 (Go.V.i4 kz nz sz lz qz) .pure (by kernel_rfl) hcz (by kernel_rfl) ?_
          refine evc_c (cx) ?_
          refine evc_g 6 ?_
          refine evc_set 111 (Val.int IntKind.i64 (IntKind.i64.wrap ((↑(2 * i) : Int) + 1))) (Val.int IntKind.i64 (↑(2 * i + 1) : Int)) (by kernel_rfl) (congrArg (Val.int IntKind.i64) g1) ?_
          refine evc_idx (2 * i + 1) (l.length) (encL l) 4 (by kernel_rfl) (by first | with_reducible rfl | assumption | (simp_all; done) | omega | (simp_all; omega)) (by kernel_rfl) ?_
          refine evc_cut (encL l) ((2 * i + 1) * 4) 4 (Go.V.i4 ky ny sy ly qy) .pure (by kernel_rfl) hcy (by kernel_rfl) ?_
          refine evc_g 4 ?_
          refine evc_set 117 (Val.int IntKind.i64 (IntKind.i64.wrap ((↑(2 * j) : Int) + 1))) (Val.int IntKind.i64 (↑(2 * j + 1) : Int)) (by kernel_rfl) (congrArg (Val.int IntKind.i64) g2) ?_
          refine evc_idx (2 * j + 1) (l'.length) (encL l') 4 (by kernel_rfl) (by first | with_reducible rfl | assumption | (simp_all; done) | omega | (simp_all; omega)) (by kernel_rfl) ?_
          refine evc_cut (encL l') ((2 * j + 1) * 4) 4 (Go.V.i4 kw nw sw lw qw) .pure (by kernel_rfl) hcw (by kernel_rfl) ?_
          refine evc_c (cy) ?_
          refine evc_g 7 ?_
          refine evc_idxG ({ H := S.H ++ [Go.V.Block.cells (List.map (fun x => Val.bool x) (Go.V.dbl U)) Bool.false], L := S.L }) (2 * j) (2 * m) (S.H.length) (0) (Option.none) 1 (List.map (fun x => Val.bool x) (Go.V.dbl U)) (by kernel_rfl) (by kernel_rfl) (by first | with_reducible rfl | assumption | (simp_all; done) | omega | (simp_all; omega)) (hc_top (i := 0) rfl (by kernel_rfl)) (by kernel_rfl) ?_
          refine evc_stG ({ H := S.H ++ [Go.V.Block.cells (List.map (fun x => Val.bool x) (Go.V.dbl U)) Bool.false], L := S.L }) ({ H := S.H ++ [Go.V.Block.cells (List.map (fun x => Val.bool x) (Go.V.dbl (U.set j Bool.true))) Bool.false], L := S.L }) (S.H.length) (Option.none) (List.map (fun x => Val.bool x) (Go.V.dbl U)) (0 + 2 * j * 1) ([Val.bool Bool.true]) (Go.V.encB (Go.V.dbl (U.set j Bool.true))) (by kernel_rfl) (by kernel_rfl) (hc_top (i := 0) rfl (by kernel_rfl)) hover (set_top (i := 0) rfl) (by kernel_rfl) ?_
          refine evc_g 20 ?_
          refine evc_s 83 (decide (IntKind.i64.wrap ((↑(2 * j) : Int) + 2) < (↑l'.length : Int))) (fun h12 => ?_) (fun h12 => ?_)
          · -- HEAD 100 frame [(2, Val.lv [Val.int IntKind.i64 k, Val.int IntKind.u64 n, Val.str s, Val.sli (encL l) l.length q]), (3, Val.lv [Val.int IntKind.i64 k', Val.int IntKind.u64 n', Val.str s', Val.sli (encL l') l'.length q']), (6, Val.sl S.H.length 0 (2 * m) 1 (Go.V.Cap.fix (2 * m))), (7, Val.int IntKind.i64 (IntKind.i64.wrap ((↑(2 * i) : Int) + 2)))]
            refine evc_g 20 ?_
            refine evc_set 7 (Val.int IntKind.i64 (IntKind.i64.wrap ((↑(2 * i) : Int) + 2))) (Val.int IntKind.i64 (↑(2 * (i + 1)) : Int)) (by kernel_rfl) (congrArg (Val.int IntKind.i64) g3) ?_
            exact evc_a (gO)
          · -- HEAD 100 frame [(2, Val.lv [Val.int IntKind.i64 k, Val.int IntKind.u64 n, Val.str s, Val.sli (encL l) l.length q]), (3, Val.lv [Val.int IntKind.i64 k', Val.int IntKind.u64 n', Val.str s', Val.sli (encL l') l'.length q']), (6, Val.sl S.H.length 0 (2 * m) 1 (Go.V.Cap.fix (2 * m))), (7, Val.int IntKind.i64 (IntKind.i64.wrap ((↑(2 * i) : Int) + 2)))]
            refine evc_g 20 ?_
            refine evc_set 7 (Val.int IntKind.i64 (IntKind.i64.wrap ((↑(2 * i) : Int) + 2))) (Val.int IntKind.i64 (↑(2 * (i + 1)) : Int)) (by kernel_rfl) (congrArg (Val.int IntKind.i64) g3) ?_
            exact evc_a (gO)
theorem LO115 (m : Nat) (hm : l.length = 2 * m) (hl : m ≤ 2 ^ 29) (hll : l'.length = l.length) (S : St) (hcall : ∀ x ∈ l, ∀ y S, Go.V.Call E0 115 [.agg (encI x), .agg (encI y)] S (.bool (alikeI x y)) S) : ∀ (r i : Nat), i + r = m → ∀ U : List Bool, U.length = m →
    EvC E0 (ctxOf E0 115) ⟨PO115, [(2, .lv (i4 k n s l q)), (3, .lv (i4 k' n' s' l' q')), (6, .sl S.H.length 0 (2 * m) 1 (.fix (2 * m))), (7, .int .i64 ((2 * i : Nat) : Int))], ⟨S.H ++ [.cells (encB (dbl U)) false], S.L⟩⟩ (Go.V.Fin E0 115 S (.bool (alikeP (l.drop (2 * i)) (U.zip (pairsL l')))) S) := by
  intro r
  induction r with
  | zero =>
    intro i hi U hU
    have e : l.drop (2 * i) = [] := List.drop_eq_nil_of_le (by omega)
    rw [e]
    simp only [alikeP]
    have g5 : ¬ ((2 * i : Nat) : Int) < (l.length : Int) := by omega
    clear hcall
    refine evc_g 9 ?_
    refine evc_i 75 (decide ((↑(2 * i) : Int) < (↑l.length : Int))) false ?_
    refine evc_g 6 ?_
    exact evc_endX (Val.bool Bool.true) ([Go.V.Block.cells (List.map (fun x => Val.bool x) (Go.V.dbl U)) Bool.false]) (by kernel_rfl) (by kernel_rfl) (by kernel_rfl) (by first | with_reducible rfl | assumption | (simp_all; done) | omega | (simp_all; omega)) (by first | rfl | simp [Val.low, Val.lows, low_encL, low_encI])
  | succ r ihr =>
    intro i hi U hU
    have him : i < m := by omega
    obtain ⟨x, hx⟩ : ∃ x, l[2 * i]? = some x := ⟨l[2 * i], List.getElem?_eq_getElem (by omega)⟩
    obtain ⟨y, hy⟩ : ∃ y, l[2 * i + 1]? = some y := ⟨l[2 * i + 1], List.getElem?_eq_getElem (by omega)⟩
    have hd := drop_two hx hy
    have L := LI115 k n s q q' l l' k' n' s' m hm hl hll S hcall i him x y hx hy (ihr (i + 1) (by omega)) U hU (alikeP (l.drop (2 * i)) (U.zip (pairsL l'))) m 0 (by omega) (by rw [hd]; exact rel_start _ _ _ _)
    generalize alikeP (l.drop (2 * i)) (U.zip (pairsL l')) = R at *
    have g5 : ((2 * i : Nat) : Int) < (l.length : Int) := by omega
    clear ihr hcall hx hy hd
    refine evc_g 9 ?_
    refine evc_i 75 (decide ((↑(2 * i) : Int) < (↑l.length : Int))) true ?_
    refine evc_g 15 ?_
    exact evc_a (L)
end
theorem c115 : ∀ (N : Nat) (x y : It), (itemsI x).length ≤ N → N ≤ 2 ^ 30 → ∀ S, Go.V.Call E0 115 [.agg (encI x), .agg (encI y)] S (.bool (alikeI x y)) S
  | 0, x, _, h, _, _ => by have := itemsI_pos x; omega
  | N + 1, .mk k n s q l, .mk k' n' s' q' l', h, hN, S => by
    simp only [itemsI, List.length_cons] at h
    have hcall : ∀ x ∈ l, ∀ y S, Go.V.Call E0 115 [.agg (encI x), .agg (encI y)] S (.bool (alikeI x y)) S := fun x hm y S => c115 N x y (by have := itemsL_mem hm; omega) (by omega) S
    have hl30 : l.length ≤ 2 ^ 30 := by have := length_itemsL l; omega
    rw [encI_mk, encI_mk]
    simp only [alikeI, It.k, It.n, It.s, It.l]
    by_cases hk : k = k'
    · by_cases hn : n = n'
      · by_cases hs : s = s'
        · by_cases hll : l.length = l'.length
          · subst hk hn hs
            simp only [beq_self_eq_true, Bool.true_and, hll]
            have e3 : (((l.length : Int).tmod 2) = 0) = (l.length % 2 = 0) := by
              have : (l.length : Int).tmod 2 = ((l.length % 2 : Nat) : Int) := (Int.ofNat_tmod l.length 2).symm
              rw [this]; simp; omega
            by_cases h5 : k = 5 ∧ l.length % 2 = 0
            · have hmap : (k == 5 && l'.length % 2 == 0) = true := by rw [← hll]; simp [h5.1, h5.2]
              rw [if_pos hmap]
              obtain ⟨m, hm⟩ : ∃ m, l.length = 2 * m := ⟨l.length / 2, by omega⟩
              have L := LO115 k n s q q' l l' k n s m hm (by omega) hll.symm S hcall m 0 (by omega) (List.replicate m false) (by simp)
              rw [← fresh_zip l' m (by omega)] at L
              simp only [Nat.mul_zero, List.drop_zero] at L
              have hmk := mk73 S (2 * m) (by omega)
              rw [← dbl_rep] at hmk
              have hl2 : ((2 * m : Nat) : Int) = (l'.length : Int) := by omega
              rw [hl2] at hmk
              have t1 : ¬ (((l.length : Int).tmod 2) ≠ 0) := by rw [Ne, e3]; simp [h5.2]
              generalize alikeP l (freshL l') = R at *
              clear hcall
              obtain ⟨rfl, _⟩ := h5
              refine call_cfg (by kernel_rfl) ?_
              refine evc_g 22 ?_
              refine evc_i 22 (n != n) false ?_
              refine evc_g 7 ?_
              refine evc_i 29 (!s == s) false ?_
              refine evc_g 9 ?_
              refine evc_i 37 ((↑l.length : Int) != (↑l'.length : Int)) false ?_
              refine evc_g 16 ?_
              refine evc_i 47 ((↑l.length : Int).tmod 2 != 0) false ?_
              refine evc_g 7 ?_
              refine evc_mk (S) 73 (Val.int IntKind.i64 (↑l'.length : Int)) (Val.int IntKind.i64 (↑l'.length : Int)) (Val.sl S.H.length 0 (2 * m) 1 (Go.V.Cap.fix (2 * m))) ({ H := S.H ++ [Go.V.Block.cells (Go.V.encB (Go.V.dbl (List.replicate m Bool.false))) Bool.false], L := S.L }) (by kernel_rfl) (by kernel_rfl) hmk (by kernel_rfl) ?_
              refine evc_g 9 ?_
              exact evc_a (L)
            · have hmap : (k == 5 && l'.length % 2 == 0) = false := by rw [← hll]; simp; omega
              rw [hmap]
              simp only [Bool.false_eq_true, if_false]
              have L := LL115 k n s q q' l l' k n s hl30 hll.symm S hcall l.length 0 (by omega)
              simp only [List.drop_zero] at L
              generalize alikeL l l' = R at *
              clear hcall
              by_cases hk5 : k = 5
              · have t1 : (((l.length : Int).tmod 2) ≠ 0) := by rw [Ne, e3]; omega
                refine call_cfg (by kernel_rfl) ?_
                refine evc_g 15 ?_
                refine evc_i 15 (k != k) false ?_
                refine evc_g 7 ?_
                refine evc_i 22 (n != n) false ?_
                refine evc_g 7 ?_
                refine evc_i 29 (!s == s) false ?_
                refine evc_g 9 ?_
                refine evc_i 37 ((↑l.length : Int) != (↑l'.length : Int)) false ?_
                refine evc_g 9 ?_
                refine evc_i 41 (k != 5) false ?_
                refine evc_g 7 ?_
                refine evc_i 47 ((↑l.length : Int).tmod 2 != 0) true ?_
                refine evc_g 8 ?_
                exact evc_a (L)
              refine call_cfg (by kernel_rfl) ?_
              refine evc_g 15 ?_
              refine evc_i 15 (k != k) false ?_
              refine evc_g 7 ?_
              refine evc_i 22 (n != n) false ?_
              refine evc_g 7 ?_
              refine evc_i 29 (!s == s) false ?_
              refine evc_g 9 ?_
              refine evc_i 37 ((↑l.length : Int) != (↑l'.length : Int)) false ?_
              refine evc_g 9 ?_
              refine evc_i 41 (k != 5) true ?_
              refine evc_g 15 ?_
              exact evc_a (L)
          · have e : (l.length == l'.length) = false := by simpa using hll
            simp only [e, Bool.false_and, Bool.and_false]
            clear hcall
            refine call_cfg (by kernel_rfl) ?_
            refine evc_g 15 ?_
            refine evc_i 15 (k != k') false ?_
            refine evc_g 7 ?_
            refine evc_i 22 (n != n') false ?_
            refine evc_g 7 ?_
            refine evc_i 29 (!s == s') false ?_
            refine evc_g 9 ?_
            refine evc_i 37 ((↑l.length : Int) != (↑l'.length : Int)) true ?_
            refine evc_g 5 ?_
            exact evc_t (Val.bool Bool.false)
        · have e : (s == s') = false := by simpa using hs
          simp only [e, Bool.false_and, Bool.and_false]
          clear hcall
          refine call_cfg (by kernel_rfl) ?_
          refine evc_g 15 ?_
          refine evc_i 15 (k != k') false ?_
          refine evc_g 7 ?_
          refine evc_i 22 (n != n') false ?_
          refine evc_g 7 ?_
          refine evc_i 29 (!s == s') true ?_
          refine evc_g 14 ?_
          exact evc_t (Val.bool Bool.false)
      · have e : (n == n') = false := by simpa using hn
        simp only [e, Bool.false_and, Bool.and_false]
        clear hcall
        refine call_cfg (by kernel_rfl) ?_
        refine evc_g 15 ?_
        refine evc_i 15 (k != k') false ?_
        refine evc_g 7 ?_
        refine evc_i 22 (n != n') true ?_
        refine evc_g 21 ?_
        exact evc_t (Val.bool Bool.false)
    · have e : (k == k') = false := by simpa using hk
      simp only [e, Bool.false_and]
      clear hcall
      refine call_cfg (by kernel_rfl) ?_
      refine evc_g 15 ?_
      refine evc_i 15 (k != k') true ?_
      refine evc_g 28 ?_
      exact evc_t (Val.bool Bool.false)
end Go.V.W
