/- keys (schema): what is wrong with keys. -/
import Derived.Test.YtgnfinbhnoofpaaDoorVH
import Derived.Test.YtgnfinbhnoofpaaDoorE0
import Derived.Test.YtgnfinbhnoofpaaDoorSch
import Derived.Test.YtgnfinbhnoofpaaDoorValid
set_option linter.unusedVariables false
set_option linter.unusedSimpArgs false
set_option linter.unusedSectionVars false
open Go Go.V
set_option maxRecDepth 100000
set_option maxHeartbeats 4000000
namespace Go.V.W
/-- what is wrong with keys, behind those that were seen -/
def keysI : List (List UInt8) → List Fd → Int
  | _, [] => 0
  | pre, f :: l => if validU f.key then (if 1021 < f.key.length then 4 else if pre.contains f.key then 14 else keysI (pre ++ [f.key]) l) else 6
def entsK (pre : List (List UInt8)) : List (Val × Val) := pre.map fun k => (.str k, .bool true)
theorem find_ents (k : List UInt8) : ∀ (pre : List (List UInt8)) (i : Nat), (pre.contains k = true → ∃ j, findKey (.str k) (entsK pre) i = some (some (j, .bool true))) ∧ (pre.contains k = false → findKey (.str k) (entsK pre) i = some none)
  | [], i => ⟨fun h => by simp at h, fun _ => rfl⟩
  | a :: pre, i => by
    have ih := find_ents k pre (i + 1)
    have e : findKey (.str k) (entsK (a :: pre)) i = (match some (k == a) with
      | some true => some (some (i, Val.bool true))
      | some false => findKey (.str k) (entsK pre) (i + 1)
      | none => none) := rfl
    rw [e]
    by_cases h : k = a
    · subst h
      simp
    · have h1 : (k == a) = false := by simpa using h
      simp only [h1]
      refine ⟨fun hc => ih.1 (by simpa [h] using hc), fun hc => ih.2 (by simpa [h] using hc)⟩
theorem look165 (S : St) (pre : List (List UInt8)) (k : List UInt8) : lookupOp E0 165 ⟨S.H ++ [.map (entsK pre)], S.L⟩ (.map S.H.length) (.str k) false = some (.bool (pre.contains k), .rh) := by
  have e : lookupOp E0 165 ⟨S.H ++ [.map (entsK pre)], S.L⟩ (.map S.H.length) (.str k) false = (match mapEnts ⟨S.H ++ [.map (entsK pre)], S.L⟩ (.map S.H.length) with
      | some (es, c) => (match findKey (.str k) es 0 with
        | some (some (_, v)) => some (v, c)
        | some none => some (.bool false, c)
        | none => none)
      | none => none) := by kernel_rfl
  have e2 : mapEnts ⟨S.H ++ [.map (entsK pre)], S.L⟩ (.map S.H.length) = some (entsK pre, .rh) := by
    unfold mapEnts
    simp
  rw [e, e2]
  simp only
  cases h : pre.contains k with
  | true => obtain ⟨j, hj⟩ := (find_ents k pre 0).1 h; rw [hj]
  | false => rw [(find_ents k pre 0).2 h]
theorem upd165 (S : St) (pre : List (List UInt8)) (k : List UInt8) (h : pre.contains k = false) : updateOp E0 165 ⟨S.H ++ [.map (entsK pre)], S.L⟩ (.map S.H.length) (.str k) (.bool true) = some ⟨S.H ++ [.map (entsK (pre ++ [k]))], S.L⟩ := by
  have e : updateOp E0 165 ⟨S.H ++ [.map (entsK pre)], S.L⟩ (.map S.H.length) (.str k) (.bool true) = (match (S.H ++ [Block.map (entsK pre)])[S.H.length]? with
      | some (Block.map es) => (match findKey (.str k) es 0 with
        | some (some (i, _)) => some (⟨(S.H ++ [Block.map (entsK pre)]).set S.H.length (Block.map (es.set i (.str k, .bool true))), S.L⟩ : St)
        | some none => some ⟨(S.H ++ [Block.map (entsK pre)]).set S.H.length (Block.map (es ++ [(.str k, .bool true)])), S.L⟩
        | none => none)
      | _ => none) := by kernel_rfl
  have e2 : (S.H ++ [Block.map (entsK pre)])[S.H.length]? = some (.map (entsK pre)) := by simp
  rw [e, e2]
  simp only
  rw [(find_ents k pre 0).2 h]
  simp only
  congr 2
  rw [List.set_append_right (h := Nat.le_refl _)]
  simp [entsK]
noncomputable def P118 : Pos := (goT E0 1 (ctxOf E0 118) 18 (entry E0 118 [.sli [] 0 .nil] ⟨[], []⟩)).pos
theorem L118 (f : List Fd) (q : Q) (S : St) (hf : f.length ≤ 2 ^ 40) (hk : ∀ x ∈ f, x.key.length ≤ 2 ^ 60) : ∀ (m i : Nat), i + m = f.length →
    EvC E0 (ctxOf E0 118) ⟨P118, [(3, .map S.H.length), (7, .sli (encFs f) f.length q), (8, .int .i64 (f.length : Int)), (9, .int .i64 (i : Int))], ⟨S.H ++ [.map (entsK ((f.take i).map (·.key)))], S.L⟩⟩ (Go.V.Fin E0 118 S (.int .i64 (keysI ((f.take i).map (·.key)) (f.drop i))) S) := by
  intro m
  induction m with
  | zero =>
    intro i hi
    have e : f.drop i = [] := List.drop_eq_nil_of_le (by omega)
    have g : ¬ (i : Int) < (f.length : Int) := by omega
    rw [e]
    simp only [keysI]
    generalize (f.take i).map (·.key) = pre
    clear hk
    refine evc_g 5 ?_
    refine evc_i 10 (decide ((↑i : Int) < (↑f.length : Int))) false ?_
    refine evc_g 6 ?_
    exact evc_endX (Val.int IntKind.i64 0) ([Go.V.Block.map (Go.V.W.entsK pre)]) (by kernel_rfl) (by kernel_rfl) (by kernel_rfl) (by first | with_reducible rfl | assumption | (simp_all; done) | omega | (simp_all; omega)) (by first | rfl | (simp [Val.low, Val.lows, low_encL, low_encI]; done) | (simp [Val.low, Val.lows, low_encL, low_encI, low_encZ, low_encFs, low_encNs, low_encN]; done))
  | succ m ihm =>
    intro i hi
    have hlt : i < f.length := by omega
    have g : (i : Int) < (f.length : Int) := by omega
    obtain ⟨x, hx⟩ : ∃ x, f[i]? = some x := ⟨f[i], List.getElem?_eq_getElem hlt⟩
    have hcx := cut_F hx
    have hdx : f.drop i = x :: f.drop (i + 1) := by
      obtain ⟨_, rfl⟩ := List.getElem?_eq_some_iff.1 hx
      exact List.drop_eq_getElem_cons hlt
    have htk : (f.take (i + 1)).map (·.key) = (f.take i).map (·.key) ++ [x.key] := by rw [List.take_add_one, hx]; simp
    have ih := ihm (i + 1) (by omega)
    rw [htk] at ih
    rw [hdx]
    simp only [keysI]
    generalize (f.take i).map (·.key) = pre at *
    have h112 := c112 x.key (hk x (List.mem_of_getElem? hx)) ⟨S.H ++ [.map (entsK pre)], S.L⟩
    have hlk := look165 S pre x.key
    have hup := upd165 S pre x.key
    generalize keysI (pre ++ [x.key]) (f.drop (i + 1)) = r at *
    clear ihm hdx htk hk
    obtain ⟨key, node, opt⟩ := x
    simp only [encF] at *
    generalize validU key = val at *
    cases val with
    | false =>
      simp only [Bool.false_eq_true, if_false]
      clear ih hup hlk
      refine evc_g 5 ?_
      refine evc_i 10 (decide ((↑i : Int) < (↑f.length : Int))) true ?_
      refine evc_g 6 ?_
      refine evc_idx (i) (f.length) (encFs f) 3 (by kernel_rfl) (by first | with_reducible rfl | assumption | (simp_all; done) | omega | (simp_all; omega)) (by kernel_rfl) ?_
      refine evc_cut (encFs f) (i * 3) 3 ([Val.str key, Val.int IntKind.i64 node, Val.bool opt]) .pure (by kernel_rfl) hcx (by kernel_rfl) ?_
      refine evc_g 9 ?_
      refine evc_c (h112) ?_
      refine evc_g 8 ?_
      exact evc_endX (Val.int IntKind.i64 6) ([Go.V.Block.map (Go.V.W.entsK pre)]) (by kernel_rfl) (by kernel_rfl) (by kernel_rfl) (by first | with_reducible rfl | assumption | (simp_all; done) | omega | (simp_all; omega)) (by first | rfl | (simp [Val.low, Val.lows, low_encL, low_encI]; done) | (simp [Val.low, Val.lows, low_encL, low_encI, low_encZ, low_encFs, low_encNs, low_encN]; done))
    | true =>
      simp only [if_true]
      by_cases h4 : 1021 < key.length
      · rw [if_pos h4]
        have g4 : (key.length : Int) > 1021 := by omega
        clear ih hup hlk
        refine evc_g 5 ?_
        refine evc_i 10 (decide ((↑i : Int) < (↑f.length : Int))) true ?_
        refine evc_g 6 ?_
        refine evc_idx (i) (f.length) (encFs f) 3 (by kernel_rfl) (by first | with_reducible rfl | assumption | (simp_all; done) | omega | (simp_all; omega)) (by kernel_rfl) ?_
        refine evc_cut (encFs f) (i * 3) 3 ([Val.str key, Val.int IntKind.i64 node, Val.bool opt]) .pure (by kernel_rfl) hcx (by kernel_rfl) ?_
        refine evc_g 9 ?_
        refine evc_c (h112) ?_
        refine evc_g 12 ?_
        refine evc_i 18 (decide ((↑key.length : Int) > 1021)) true ?_
        refine evc_g 5 ?_
        exact evc_endX (Val.int IntKind.i64 4) ([Go.V.Block.map (Go.V.W.entsK pre)]) (by kernel_rfl) (by kernel_rfl) (by kernel_rfl) (by first | with_reducible rfl | assumption | (simp_all; done) | omega | (simp_all; omega)) (by first | rfl | (simp [Val.low, Val.lows, low_encL, low_encI]; done) | (simp [Val.low, Val.lows, low_encL, low_encI, low_encZ, low_encFs, low_encNs, low_encN]; done))
      · rw [if_neg h4]
        have g4 : ¬ (key.length : Int) > 1021 := by omega
        cases hc : pre.contains key with
        | true =>
          rw [hc] at hlk
          simp only [if_true]
          clear ih hup hc
          refine evc_g 5 ?_
          refine evc_i 10 (decide ((↑i : Int) < (↑f.length : Int))) true ?_
          refine evc_g 6 ?_
          refine evc_idx (i) (f.length) (encFs f) 3 (by kernel_rfl) (by first | with_reducible rfl | assumption | (simp_all; done) | omega | (simp_all; omega)) (by kernel_rfl) ?_
          refine evc_cut (encFs f) (i * 3) 3 ([Val.str key, Val.int IntKind.i64 node, Val.bool opt]) .pure (by kernel_rfl) hcx (by kernel_rfl) ?_
          refine evc_g 9 ?_
          refine evc_c (h112) ?_
          refine evc_g 12 ?_
          refine evc_i 18 (decide ((↑key.length : Int) > 1021)) false ?_
          refine evc_g 6 ?_
          refine evc_look ({ H := S.H ++ [Go.V.Block.map (Go.V.W.entsK pre)], L := S.L }) 165 (Val.map S.H.length) (Val.str key) Bool.false (Val.bool Bool.true) (Go.V.Cls.rh) (by kernel_rfl) (by kernel_rfl) hlk (by kernel_rfl) ?_
          refine evc_g 7 ?_
          exact evc_endX (Val.int IntKind.i64 14) ([Go.V.Block.map (Go.V.W.entsK pre)]) (by kernel_rfl) (by kernel_rfl) (by kernel_rfl) (by first | with_reducible rfl | assumption | (simp_all; done) | omega | (simp_all; omega)) (by first | rfl | (simp [Val.low, Val.lows, low_encL, low_encI]; done) | (simp [Val.low, Val.lows, low_encL, low_encI, low_encZ, low_encFs, low_encNs, low_encN]; done))
        | false =>
          have hup' := hup hc
          rw [hc] at hlk
          simp only [Bool.false_eq_true, if_false]
          clear hup hc
          refine evc_g 5 ?_
          refine evc_i 10 (decide ((↑i : Int) < (↑f.length : Int))) true ?_
          refine evc_g 6 ?_
          refine evc_idx (i) (f.length) (encFs f) 3 (by kernel_rfl) (by first | with_reducible rfl | assumption | (simp_all; done) | omega | (simp_all; omega)) (by kernel_rfl) ?_
          refine evc_cut (encFs f) (i * 3) 3 ([Val.str key, Val.int IntKind.i64 node, Val.bool opt]) .pure (by kernel_rfl) hcx (by kernel_rfl) ?_
          refine evc_g 9 ?_
          refine evc_c (h112) ?_
          refine evc_g 12 ?_
          refine evc_i 18 (decide ((↑key.length : Int) > 1021)) false ?_
          refine evc_g 6 ?_
          refine evc_look ({ H := S.H ++ [Go.V.Block.map (Go.V.W.entsK pre)], L := S.L }) 165 (Val.map S.H.length) (Val.str key) Bool.false (Val.bool Bool.false) (Go.V.Cls.rh) (by kernel_rfl) (by kernel_rfl) hlk (by kernel_rfl) ?_
          refine evc_g 9 ?_
          refine evc_upd ({ H := S.H ++ [Go.V.Block.map (Go.V.W.entsK pre)], L := S.L }) 165 (Val.map S.H.length) (Val.str key) (Val.bool Bool.true) ({ H := S.H ++ [Go.V.Block.map (Go.V.W.entsK (pre ++ [key]))], L := S.L }) (by kernel_rfl) (by kernel_rfl) hup' (by kernel_rfl) ?_
          refine evc_g 7 ?_
          refine evc_set 9 (Val.int IntKind.i64 (IntKind.i64.wrap ((↑i : Int) + 1))) (Val.int IntKind.i64 (↑(i + 1) : Int)) (by kernel_rfl) (congrArg (Val.int IntKind.i64) (wrap_nat (i := i) (m := 1) (by omega))) ?_
          exact evc_a (ih)
theorem c118 (f : List Fd) (q : Q) (S : St) (hf : f.length ≤ 2 ^ 40) (hk : ∀ x ∈ f, x.key.length ≤ 2 ^ 60) : Go.V.Call E0 118 [.sli (encFs f) f.length q] S (.int .i64 (keysI [] f)) S := by
  have L := L118 f q S hf hk f.length 0 (by omega)
  simp only [List.drop_zero, List.take_zero, List.map_nil] at L
  generalize keysI [] f = r at *
  clear hk
  refine call_cfg (by kernel_rfl) ?_
  refine evc_g 18 ?_
  exact evc_a (L)
end Go.V.W
