/- Named (schema, ullageref16): the nodes that a node names; is one of them out of bounds? -/
import Derived.Test.YtgnfinbhnoofpaaDoorVH
import Derived.Test.YtgnfinbhnoofpaaDoorE0
import Derived.Test.YtgnfinbhnoofpaaDoorSch
set_option linter.unusedVariables false
set_option linter.unusedSimpArgs false
set_option linter.unusedSectionVars false
open Go Go.V
set_option maxRecDepth 100000
set_option maxHeartbeats 4000000
namespace Go.V.W
/-- the nodes that a node names -/
def namesN (n : Nd) : List Int := n.l ++ n.f.map (·.node)
theorem el28' : elemIs E0 28 1 8 = true := by kernel_rfl
theorem set_1 {H : List Block} {o o' : Block} : (H ++ [o]).set H.length o' = H ++ [o'] := by
  rw [List.set_append_right (h := Nat.le_refl _)]; simp
/-- onto nothing -/
theorem app28_new (S : St) (l : List Int) (q q' : Q) (hq : q = .nil ∨ q = .exact) (hne : l.length ≠ 0) (hl : l.length ≤ 2 ^ 41) : appendOp E0 S 28 (.sli [] 0 q) (.sli (encZ l) l.length q') = some (.sl S.H.length 0 l.length 1 (.flex l.length), .eh, ⟨S.H ++ [.cells (encZ l) true], S.L⟩) := by
  have := app_exact (E := E0) (S := S) (t := 28) (sz := 1) (nb := 8) (old := []) (new := encZ l) (len := 0) (n := l.length) (q' := q) (q2 := q') hq el28' rfl (by rw [encZ_len]; omega) hne (by omega) (by omega) (by omega)
  rw [this]
  simp only [List.nil_append, Nat.zero_add, encZ_len]
/-- onto what grew -/
theorem app28_one (S : St) (l : List Int) (z : Int) (hl : l.length ≤ 2 ^ 42) : appendOp E0 ⟨S.H ++ [.cells (encZ l) true], S.L⟩ 28 (.sl S.H.length 0 l.length 1 (.flex l.length)) (.sli [.int .i64 z] 1 .exact) = some (.sl S.H.length 0 (l ++ [z]).length 1 (.flex (l ++ [z]).length), .eh, ⟨S.H ++ [.cells (encZ (l ++ [z])) true], S.L⟩) := by
  have := app_flex (E := E0) (S := ⟨S.H ++ [.cells (encZ l) true], S.L⟩) (t := 28) (sz := 1) (nb := 8) (old := encZ l) (new := [.int .i64 z]) (b := S.H.length) (len := l.length) (n := 1) (q2 := .exact) el28' (by simp) (by rw [encZ_len]; omega) rfl (by omega) (by omega) (by omega) (by omega)
  rw [encZ_len] at this
  rw [this]
  have e : encZ l ++ [.int .i64 z] = encZ (l ++ [z]) := by simp [encZ]
  rw [e]
  simp only [set_1, encZ_len, List.length_append, List.length_cons, List.length_nil]
theorem c88_nil (S : St) : Go.V.Call E0 88 [.sli [] 0 .nil] S (.sli [] 0 .nil) S := by
  refine call_cfg (by kernel_rfl) ?_
  refine evc_g 15 ?_
  exact evc_e (Val.sli [] 0 Go.V.Q.nil) (S)
theorem c88_exact (S : St) : Go.V.Call E0 88 [.sli [] 0 .exact] S (.sli [] 0 .exact) S := by
  refine call_cfg (by kernel_rfl) ?_
  refine evc_g 19 ?_
  exact evc_e (Val.sli [] 0 Go.V.Q.exact) (S)
theorem c88_any0 (S : St) : Go.V.Call E0 88 [.sli [] 0 .any] S (.sli [] 0 .exact) S := by
  refine call_cfg (by kernel_rfl) ?_
  refine evc_g 19 ?_
  exact evc_e (Val.sli [] 0 Go.V.Q.exact) (S)
theorem c88_any (l : List Int) (q : Q) (hq : q ≠ .nil) (hne : l.length ≠ 0) (hl : l.length ≤ 2 ^ 40) (S : St) : Go.V.Call E0 88 [.sli (encZ l) l.length q] S (.sl S.H.length 0 l.length 1 (.flex l.length)) ⟨S.H ++ [.cells (encZ l) true], S.L⟩ := by
  have ha := app28_new S l .exact q (.inr rfl) hne (by omega)
  cases q with
  | nil => exact absurd rfl hq
  | exact =>
    refine call_cfg (by kernel_rfl) ?_
    refine evc_g 16 ?_
    refine evc_app (S) 28 (Val.sli [] 0 Go.V.Q.exact) (Val.sli (encZ l) l.length Go.V.Q.exact) (Val.sl S.H.length 0 l.length 1 (Go.V.Cap.flex l.length)) (Go.V.Cls.eh) ({ H := S.H ++ [Go.V.Block.cells (encZ l) Bool.true], L := S.L }) (by kernel_rfl) (by kernel_rfl) ha (by kernel_rfl) ?_
    refine evc_g 2 ?_
    exact evc_e (Val.sl S.H.length 0 l.length 1 (Go.V.Cap.flex l.length)) ({ H := S.H ++ [Go.V.Block.cells (encZ l) Bool.true], L := S.L })
  | any =>
    refine call_cfg (by kernel_rfl) ?_
    refine evc_g 16 ?_
    refine evc_app (S) 28 (Val.sli [] 0 Go.V.Q.exact) (Val.sli (encZ l) l.length Go.V.Q.any) (Val.sl S.H.length 0 l.length 1 (Go.V.Cap.flex l.length)) (Go.V.Cls.eh) ({ H := S.H ++ [Go.V.Block.cells (encZ l) Bool.true], L := S.L }) (by kernel_rfl) (by kernel_rfl) ha (by kernel_rfl) ?_
    refine evc_g 2 ?_
    exact evc_e (Val.sl S.H.length 0 l.length 1 (Go.V.Cap.flex l.length)) ({ H := S.H ++ [Go.V.Block.cells (encZ l) Bool.true], L := S.L })
abbrev z9 : List Val := [.int .i64 0, .int .i64 0, .int .i64 0, .int .i64 0, .int .u64 0, .str [], .sli [] 0 .nil, .sli [.int .i64 1] 1 .exact, .sli [.str [], .int .i64 1, .bool true] 1 .exact]
noncomputable def P37 : Pos := (goT E0 1000 (ctxOf E0 37) 22 (entry E0 37 [.agg z9] ⟨[], []⟩)).pos
noncomputable def P38 : Pos := (goT E0 1000 (ctxOf E0 38) 20 (entry E0 38 [.agg z9] ⟨[], []⟩)).pos
section
variable (f : List Fd) (qf : Q) (hf : f.length ≤ 2 ^ 40)
include hf
theorem L37 (S0 S : St) : ∀ (m i : Nat) (nm : List Int), i + m = f.length → nm.length ≤ 2 ^ 41 - m →
    EvC E0 (ctxOf E0 37) ⟨P37, [(3, .sl S.H.length 0 nm.length 1 (.flex nm.length)), (10, .sli (encFs f) f.length qf), (11, .int .i64 (f.length : Int)), (12, .int .i64 (i : Int))], ⟨S.H ++ [.cells (encZ nm) true], S.L⟩⟩
      (Go.V.Fin E0 37 S0 (.sl S.H.length 0 (nm ++ (f.drop i).map (·.node)).length 1 (.flex (nm ++ (f.drop i).map (·.node)).length)) ⟨S.H ++ [.cells (encZ (nm ++ (f.drop i).map (·.node))) true], S.L⟩) := by
  intro m
  induction m with
  | zero =>
    intro i nm hi hn
    have e : f.drop i = [] := List.drop_eq_nil_of_le (by omega)
    have g : ¬ (i : Int) < (f.length : Int) := by omega
    rw [e]
    simp only [List.map_nil, List.append_nil]
    refine evc_g 5 ?_
    refine evc_i 13 (decide ((↑i : Int) < (↑f.length : Int))) false ?_
    refine evc_g 7 ?_
    exact evc_e (Val.sl S.H.length 0 nm.length 1 (Go.V.Cap.flex nm.length)) ({ H := S.H ++ [Go.V.Block.cells (encZ nm) Bool.true], L := S.L })
  | succ m ihm =>
    intro i nm hi hn
    have hlt : i < f.length := by omega
    have g : (i : Int) < (f.length : Int) := by omega
    obtain ⟨x, hx⟩ : ∃ x, f[i]? = some x := ⟨f[i], List.getElem?_eq_getElem hlt⟩
    have hcx := cut_F hx
    have hdx : f.drop i = x :: f.drop (i + 1) := by
      obtain ⟨_, rfl⟩ := List.getElem?_eq_some_iff.1 hx
      exact List.drop_eq_getElem_cons hlt
    have ha := app28_one S nm x.node (by omega)
    have ih := ihm (i + 1) (nm ++ [x.node]) (by omega) (by simp only [List.length_append, List.length_cons, List.length_nil]; omega)
    rw [hdx]
    simp only [List.map_cons]
    rw [show nm ++ x.node :: (f.drop (i + 1)).map (·.node) = nm ++ [x.node] ++ (f.drop (i + 1)).map (·.node) by simp]
    generalize nm ++ [x.node] ++ (f.drop (i + 1)).map (·.node) = R at *
    generalize nm ++ [x.node] = nm' at *
    clear ihm hdx hn
    obtain ⟨key, node, opt⟩ := x
    simp only [encF] at *
    refine evc_g 5 ?_
    refine evc_i 13 (decide ((↑i : Int) < (↑f.length : Int))) true ?_
    refine evc_g 6 ?_
    refine evc_idx (i) (f.length) (encFs f) 3 (by kernel_rfl) (by first | with_reducible rfl | assumption | (simp_all; done) | omega | (simp_all; omega)) (by kernel_rfl) ?_
    refine evc_cut (encFs f) (i * 3) 3 ([Val.str key, Val.int IntKind.i64 node, Val.bool opt]) .pure (by kernel_rfl) hcx (by kernel_rfl) ?_
    refine evc_g 8 ?_
    refine evc_app ({ H := S.H ++ [Go.V.Block.cells (encZ nm) Bool.true], L := S.L }) 28 (Val.sl S.H.length 0 nm.length 1 (Go.V.Cap.flex nm.length)) (Val.sli [Val.int IntKind.i64 node] 1 Go.V.Q.exact) (Val.sl S.H.length 0 nm'.length 1 (Go.V.Cap.flex nm'.length)) (Go.V.Cls.eh) ({ H := S.H ++ [Go.V.Block.cells (encZ nm') Bool.true], L := S.L }) (by kernel_rfl) (by kernel_rfl) ha (by kernel_rfl) ?_
    refine evc_g 8 ?_
    refine evc_set 12 (Val.int IntKind.i64 (IntKind.i64.wrap ((↑i : Int) + 1))) (Val.int IntKind.i64 (↑(i + 1) : Int)) (by kernel_rfl) (congrArg (Val.int IntKind.i64) (wrap_nat (i := i) (m := 1) (by omega))) ?_
    exact evc_a (ih)
theorem L38 (k lo hi vk vn : Int) (vs : List UInt8) (vl : List It) (vq : Q) (l : List Int) (ql : Q) (S : St) : ∀ (m i : Nat) (nm : List Int), i + m = f.length → nm.length ≤ 2 ^ 41 - m →
    EvC E0 (ctxOf E0 38) ⟨P38, [(1, .lv (n9 k lo hi vk vn vs vl vq l ql f qf)), (3, .sl S.H.length 0 nm.length 1 (.flex nm.length)), (4, .int .i64 (i : Int))], ⟨S.H ++ [.cells (encZ nm) true], S.L⟩⟩
      (Go.V.Fin E0 38 S (.sli (encZ (nm ++ (f.drop i).map (·.node))) (nm ++ (f.drop i).map (·.node)).length .any) S) := by
  intro m
  induction m with
  | zero =>
    intro i nm hi hn
    have e : f.drop i = [] := List.drop_eq_nil_of_le (by omega)
    have g : ¬ (i : Int) < (f.length : Int) := by omega
    rw [e]
    simp only [List.map_nil, List.append_nil]
    have hv : fz S.H.length ⟨S.H ++ [.cells (encZ nm) true], S.L⟩ fzDepth (.sl S.H.length 0 nm.length 1 (.flex nm.length)) = some (.sli (encZ nm) nm.length .any) := by
      have := fz_sl (n := S.H.length) (S := ⟨S.H ++ [.cells (encZ nm) true], S.L⟩) (d := 62) (b := S.H.length) (len := nm.length) (esz := 1) (cs := encZ nm) (Nat.le_refl _) (by simp) (by rw [encZ_len]; omega) (low_encZ _ _)
      rw [encZ_len] at this
      exact this
    refine evc_g 9 ?_
    refine evc_i 13 (decide ((↑i : Int) < (↑f.length : Int))) false ?_
    refine evc_g 7 ?_
    exact evc_endN (Val.sl S.H.length 0 nm.length 1 (Go.V.Cap.flex nm.length)) ([Go.V.Block.cells (encZ nm) Bool.true]) (by kernel_rfl) (by kernel_rfl) (by kernel_rfl) hv
  | succ m ihm =>
    intro i nm hi hn
    have hlt : i < f.length := by omega
    have g : (i : Int) < (f.length : Int) := by omega
    obtain ⟨x, hx⟩ : ∃ x, f[i]? = some x := ⟨f[i], List.getElem?_eq_getElem hlt⟩
    have hcx := get_F1 hx
    have hdx : f.drop i = x :: f.drop (i + 1) := by
      obtain ⟨_, rfl⟩ := List.getElem?_eq_some_iff.1 hx
      exact List.drop_eq_getElem_cons hlt
    have ha := app28_one S nm x.node (by omega)
    have ih := ihm (i + 1) (nm ++ [x.node]) (by omega) (by simp only [List.length_append, List.length_cons, List.length_nil]; omega)
    rw [hdx]
    simp only [List.map_cons]
    rw [show nm ++ x.node :: (f.drop (i + 1)).map (·.node) = nm ++ [x.node] ++ (f.drop (i + 1)).map (·.node) by simp]
    generalize nm ++ [x.node] ++ (f.drop (i + 1)).map (·.node) = R at *
    generalize nm ++ [x.node] = nm' at *
    clear ihm hdx hn
    obtain ⟨key, node, opt⟩ := x
    simp only at *
    refine evc_g 9 ?_
    refine evc_i 13 (decide ((↑i : Int) < (↑f.length : Int))) true ?_
    refine evc_g 9 ?_
    refine evc_idx (i) (f.length) (encFs f) 3 (by kernel_rfl) (by first | with_reducible rfl | assumption | (simp_all; done) | omega | (simp_all; omega)) (by kernel_rfl) ?_
    refine evc_g 1 ?_
    refine evc_get (encFs f) (i * 3 + 1) (Val.int IntKind.i64 node) .pure (by kernel_rfl) hcx (by kernel_rfl) ?_
    refine evc_g 1 ?_
    refine evc_app ({ H := S.H ++ [Go.V.Block.cells (encZ nm) Bool.true], L := S.L }) 28 (Val.sl S.H.length 0 nm.length 1 (Go.V.Cap.flex nm.length)) (Val.sli [Val.int IntKind.i64 node] 1 Go.V.Q.exact) (Val.sl S.H.length 0 nm'.length 1 (Go.V.Cap.flex nm'.length)) (Go.V.Cls.eh) ({ H := S.H ++ [Go.V.Block.cells (encZ nm') Bool.true], L := S.L }) (by kernel_rfl) (by kernel_rfl) ha (by kernel_rfl) ?_
    refine evc_g 9 ?_
    refine evc_set 4 (Val.int IntKind.i64 (IntKind.i64.wrap ((↑i : Int) + 1))) (Val.int IntKind.i64 (↑(i + 1) : Int)) (by kernel_rfl) (congrArg (Val.int IntKind.i64) (wrap_nat (i := i) (m := 1) (by omega))) ?_
    exact evc_a (ih)
end
/-- NAMED (schema): nothing, or a new block -/
theorem c37 (n : Nd) (hl : n.l.length ≤ 2 ^ 40) (hf : n.f.length ≤ 2 ^ 40) (hq : n.ql = .nil → n.l = []) (S : St) :
    (namesN n = [] ∧ ∃ q, (q = .nil ∨ q = .exact) ∧ Go.V.Call E0 37 [.agg (encN n)] S (.sli [] 0 q) S) ∨
    (namesN n ≠ [] ∧ Go.V.Call E0 37 [.agg (encN n)] S (.sl S.H.length 0 (namesN n).length 1 (.flex (namesN n).length)) ⟨S.H ++ [.cells (encZ (namesN n)) true], S.L⟩) := by
  obtain ⟨k, lo, hi, v, l, ql, f, qf⟩ := n
  simp only [namesN] at *
  cases v with
  | mk vk vn vs vq vl =>
  rw [encN_mk]
  by_cases hl0 : l = []
  · subst hl0
    obtain ⟨q2, hq2, h88⟩ : ∃ q2, (q2 = .nil ∨ q2 = .exact) ∧ Go.V.Call E0 88 [.sli [] 0 ql] S (.sli [] 0 q2) S := by
      cases ql with
      | nil => exact ⟨_, .inl rfl, c88_nil S⟩
      | exact => exact ⟨_, .inr rfl, c88_exact S⟩
      | any => exact ⟨_, .inr rfl, c88_any0 S⟩
    cases f with
    | nil =>
      refine .inl ⟨rfl, q2, hq2, ?_⟩
      refine call_cfg (by kernel_rfl) ?_
      refine evc_g 9 ?_
      refine evc_c (h88) ?_
      refine evc_g 24 ?_
      exact evc_e (Val.sli [] 0 q2) (S)
    | cons x f =>
      refine .inr ⟨by simp, ?_⟩
      have ha := app28_new S [x.node] q2 .exact hq2 (by simp) (by simp)
      have hcx := cut_F (l := x :: f) (i := 0) (y := x) rfl
      have L := L37 (x :: f) qf hf S S f.length 1 [x.node] (by simp only [List.length_cons]; omega) (by simp only [List.length_cons, List.length_nil] at *; omega)
      have g : (0 : Int) < ((x :: f).length : Int) := by simp only [List.length_cons]; omega
      have e : [x.node] ++ ((x :: f).drop 1).map (·.node) = [] ++ (x :: f).map (·.node) := by simp
      rw [e] at L
      generalize [] ++ (x :: f).map (·.node) = R at *
      have hd : encZ [x.node] = [.int .i64 x.node] := rfl
      generalize hF : x :: f = F at *
      obtain ⟨key, node, opt⟩ := x
      simp only [encF, Nat.zero_mul, List.length_cons, List.length_nil, Nat.zero_add] at *
      rw [hd] at ha L
      clear hd e hF
      refine call_cfg (by kernel_rfl) ?_
      refine evc_g 9 ?_
      refine evc_c (h88) ?_
      refine evc_g 17 ?_
      refine evc_i 13 (decide (0 < (↑F.length : Int))) true ?_
      refine evc_g 6 ?_
      refine evc_idx (0) (F.length) (encFs F) 3 (by kernel_rfl) (by first | with_reducible rfl | assumption | (simp_all; done) | omega | (simp_all; omega)) (by kernel_rfl) ?_
      refine evc_cut (encFs F) (0) 3 ([Val.str key, Val.int IntKind.i64 node, Val.bool opt]) .pure (by kernel_rfl) hcx (by kernel_rfl) ?_
      refine evc_g 8 ?_
      refine evc_app (S) 28 (Val.sli [] 0 q2) (Val.sli [Val.int IntKind.i64 node] 1 Go.V.Q.exact) (Val.sl S.H.length 0 1 1 (Go.V.Cap.flex 1)) (Go.V.Cls.eh) ({ H := S.H ++ [Go.V.Block.cells [Val.int IntKind.i64 node] Bool.true], L := S.L }) (by kernel_rfl) (by kernel_rfl) ha (by kernel_rfl) ?_
      refine evc_g 8 ?_
      exact evc_a (L)
  · have hne : l.length ≠ 0 := by simpa using hl0
    have hqn : ql ≠ .nil := fun h => hl0 (hq h)
    have h88 := c88_any l ql hqn hne hl S
    have L := L37 f qf hf S S f.length 0 l (by omega) (by omega)
    simp only [List.drop_zero] at L
    refine .inr ⟨by simp [hl0], ?_⟩
    generalize l ++ f.map (·.node) = R at *
    clear hq
    refine call_cfg (by kernel_rfl) ?_
    refine evc_g 9 ?_
    refine evc_c (h88) ?_
    refine evc_g 12 ?_
    exact evc_a (L)
def nq : List Int → Q
  | [] => .exact
  | _ :: _ => .any
theorem nq_ne {l : List Int} (h : l ≠ []) : nq l = .any := by cases l <;> simp_all [nq]
/-- NAMED (ullageref16) -/
theorem c38 (n : Nd) (hl : n.l.length ≤ 2 ^ 40) (hf : n.f.length ≤ 2 ^ 40) (hq : n.ql = .nil → n.l = []) (S : St) :
    Go.V.Call E0 38 [.agg (encN n)] S (.sli (encZ (namesN n)) (namesN n).length (nq (namesN n))) S := by
  obtain ⟨k, lo, hi, v, l, ql, f, qf⟩ := n
  simp only [namesN] at *
  cases v with
  | mk vk vn vs vq vl =>
  rw [encN_mk]
  by_cases hl0 : l = []
  · subst hl0
    have h0 : appendOp E0 S 28 (.sli [] 0 .exact) (.sli [] 0 ql) = some (.sli [] 0 .exact, .eh, S) := by kernel_rfl
    cases f with
    | nil =>
      show Go.V.Call E0 38 _ S (.sli [] 0 .exact) S
      refine call_cfg (by kernel_rfl) ?_
      refine evc_g 36 ?_
      exact evc_t (Val.sli [] 0 Go.V.Q.exact) (hl := (by first | rfl | (simp [Val.low, Val.lows, low_encL, low_encI]; done) | (simp [Val.low, Val.lows, low_encL, low_encI, low_encZ, low_encFs, low_encNs, low_encN]; done)))
    | cons x f =>
      rw [nq_ne (by simp)]
      have ha := app28_new S [x.node] .exact .exact (.inr rfl) (by simp) (by simp)
      have hcx := get_F1 (l := x :: f) (i := 0) (y := x) rfl
      have L := L38 (x :: f) qf hf k lo hi vk vn vs vl vq [] ql S f.length 1 [x.node] (by simp only [List.length_cons]; omega) (by simp only [List.length_cons, List.length_nil] at *; omega)
      have g : (0 : Int) < ((x :: f).length : Int) := by simp only [List.length_cons]; omega
      have e : [x.node] ++ ((x :: f).drop 1).map (·.node) = [] ++ (x :: f).map (·.node) := by simp
      rw [e] at L
      generalize [] ++ (x :: f).map (·.node) = R at *
      have hd : encZ [x.node] = [.int .i64 x.node] := rfl
      generalize hF : x :: f = F at *
      obtain ⟨key, node, opt⟩ := x
      simp only [encF, Nat.zero_mul, List.length_cons, List.length_nil, Nat.zero_add] at *
      rw [hd] at ha L
      clear hd e hF
      refine call_cfg (by kernel_rfl) ?_
      refine evc_g 29 ?_
      refine evc_i 13 (decide (0 < (↑F.length : Int))) true ?_
      refine evc_g 9 ?_
      refine evc_idx (0) (F.length) (encFs F) 3 (by kernel_rfl) (by first | with_reducible rfl | assumption | (simp_all; done) | omega | (simp_all; omega)) (by kernel_rfl) ?_
      refine evc_g 1 ?_
      refine evc_get (encFs F) (1) (Val.int IntKind.i64 node) .pure (by kernel_rfl) hcx (by kernel_rfl) ?_
      refine evc_g 11 ?_
      exact evc_a (L)
  · have hne : l.length ≠ 0 := by simpa using hl0
    rw [nq_ne (by simp [hl0])]
    have ha := app28_new S l .exact ql (.inr rfl) hne (by omega)
    have L := L38 f qf hf k lo hi vk vn vs vl vq l ql S f.length 0 l (by omega) (by omega)
    simp only [List.drop_zero] at L
    generalize l ++ f.map (·.node) = R at *
    clear hq
    refine call_cfg (by kernel_rfl) ?_
    refine evc_g 10 ?_
    refine evc_app (S) 28 (Val.sli [] 0 Go.V.Q.exact) (Val.sli (encZ l) l.length ql) (Val.sl S.H.length 0 l.length 1 (Go.V.Cap.flex l.length)) (Go.V.Cls.eh) ({ H := S.H ++ [Go.V.Block.cells (encZ l) Bool.true], L := S.L }) (by kernel_rfl) (by kernel_rfl) ha (by kernel_rfl) ?_
    refine evc_g 9 ?_
    exact evc_a (L)
/-- closures of 'wrong': is a number out of bounds? -/
def outB (i len : Int) (z : Int) : Bool := decide (z ≤ i) || decide (z ≥ len)
theorem c120 (i z : Int) (cs : List Val) (len : Nat) (q : Q) (S : St) : Go.V.Call E0 120 [.int .i64 z, .pin [.int .i64 i] 0, .pin [.sli cs len q] 0] S (.bool (outB i len z)) S := by
  unfold outB
  refine call_cfg (by kernel_rfl) ?_
  refine evc_g 10 ?_
  refine evc_s 8 (decide (z ≤ i)) (fun h12 => ?_) (fun h12 => ?_)
  · refine evc_g 8 ?_
    exact evc_t (Val.bool Bool.true)
  · refine evc_g 8 ?_
    exact evc_t (Val.bool (decide (z ≥ (↑len : Int)))) (hl := (by first | rfl | (simp [Val.low, Val.lows, low_encL, low_encI]; done) | (simp [Val.low, Val.lows, low_encL, low_encI, low_encZ, low_encFs, low_encNs, low_encN]; done)))
def firstIdx (p : Int → Bool) : List Int → Nat → Int
  | [], _ => -1
  | z :: l, i => if p z then (i : Int) else firstIdx p l (i + 1)
theorem firstIdx_ge (p : Int → Bool) : ∀ (l : List Int) (i : Nat), decide (firstIdx p l i ≥ 0) = l.any p
  | [], _ => rfl
  | z :: l, i => by
    simp only [firstIdx, List.any_cons]
    by_cases h : p z = true
    · simp [h]
    · have hf : p z = false := by simpa using h
      simp only [hf, Bool.false_eq_true, if_false, Bool.false_or]; exact firstIdx_ge p l (i + 1)
noncomputable def P147 : Pos := (goT E0 1 (ctxOf E0 147) 13 (entry E0 147 [.sli [] 0 .nil, .fn 120 []] ⟨[], []⟩)).pos
theorem L147 (l : List Int) (b : Nat) (i0 : Int) (cs : List Val) (len : Nat) (q : Q) (S : St) (hh : hcells S b (some l.length) = some (encZ l)) (hl : l.length ≤ 2 ^ 42) : ∀ (m i : Nat), i + m = l.length →
    EvC E0 (ctxOf E0 147) ⟨P147, [(0, .sl b 0 l.length 1 (.flex l.length)), (1, .fn 120 [.pin [.int .i64 i0] 0, .pin [.sli cs len q] 0]), (7, .int .i64 (l.length : Int)), (8, .int .i64 (i : Int))], S⟩ (Go.V.Fin E0 147 S (.int .i64 (firstIdx (outB i0 len) (l.drop i) i)) S) := by
  intro m
  induction m with
  | zero =>
    intro i hi
    have e : l.drop i = [] := List.drop_eq_nil_of_le (by omega)
    have g : ¬ (i : Int) < (l.length : Int) := by omega
    rw [e]
    simp only [firstIdx]
    refine evc_g 5 ?_
    refine evc_i 9 (decide ((↑i : Int) < (↑l.length : Int))) false ?_
    refine evc_g 6 ?_
    exact evc_t (Val.int IntKind.i64 (-1))
  | succ m ihm =>
    intro i hi
    have hlt : i < l.length := by omega
    have g : (i : Int) < (l.length : Int) := by omega
    obtain ⟨z, hz⟩ : ∃ z, l[i]? = some z := ⟨l[i], List.getElem?_eq_getElem hlt⟩
    have hcz : (encZ l)[0 + i * 1]? = some (.int .i64 z) := by rw [Nat.zero_add]; exact get_Z hz
    have hdz : l.drop i = z :: l.drop (i + 1) := by
      obtain ⟨_, rfl⟩ := List.getElem?_eq_some_iff.1 hz
      exact List.drop_eq_getElem_cons hlt
    have ih := ihm (i + 1) (by omega)
    have h120 := c120 i0 z cs len q S
    rw [hdz]
    simp only [firstIdx]
    generalize firstIdx (outB i0 len) (l.drop (i + 1)) (i + 1) = r at *
    generalize outB i0 len z = o at *
    clear ihm hdz
    cases o with
    | true =>
      simp only [if_true]
      clear ih
      refine evc_g 5 ?_
      refine evc_i 9 (decide ((↑i : Int) < (↑l.length : Int))) true ?_
      refine evc_g 14 ?_
      refine evc_idxG (S) (i) (l.length) (b) (0) (Option.some l.length) 1 (encZ l) (by kernel_rfl) (by kernel_rfl) (by first | with_reducible rfl | assumption | (simp_all; done) | omega | (simp_all; omega)) hh (by kernel_rfl) ?_
      refine evc_getG (S) (b) (Option.some l.length) (encZ l) (0 + i * 1) (Val.int IntKind.i64 z) (by kernel_rfl) (by kernel_rfl) hh hcz (by kernel_rfl) ?_
      refine evc_c (h120) ?_
      refine evc_g 7 ?_
      exact evc_t (Val.int IntKind.i64 (↑i : Int)) (hl := (by first | rfl | (simp [Val.low, Val.lows, low_encL, low_encI]; done) | (simp [Val.low, Val.lows, low_encL, low_encI, low_encZ, low_encFs, low_encNs, low_encN]; done)))
    | false =>
      simp only [Bool.false_eq_true, if_false]
      refine evc_g 5 ?_
      refine evc_i 9 (decide ((↑i : Int) < (↑l.length : Int))) true ?_
      refine evc_g 14 ?_
      refine evc_idxG (S) (i) (l.length) (b) (0) (Option.some l.length) 1 (encZ l) (by kernel_rfl) (by kernel_rfl) (by first | with_reducible rfl | assumption | (simp_all; done) | omega | (simp_all; omega)) hh (by kernel_rfl) ?_
      refine evc_getG (S) (b) (Option.some l.length) (encZ l) (0 + i * 1) (Val.int IntKind.i64 z) (by kernel_rfl) (by kernel_rfl) hh hcz (by kernel_rfl) ?_
      refine evc_c (h120) ?_
      refine evc_g 9 ?_
      refine evc_set 8 (Val.int IntKind.i64 (IntKind.i64.wrap ((↑i : Int) + 1))) (Val.int IntKind.i64 (↑(i + 1) : Int)) (by kernel_rfl) (congrArg (Val.int IntKind.i64) (wrap_nat (i := i) (m := 1) (by omega))) ?_
      exact evc_a (ih)
theorem c119 (l : List Int) (b : Nat) (i0 : Int) (cs : List Val) (len : Nat) (q : Q) (S : St) (hh : hcells S b (some l.length) = some (encZ l)) (hl : l.length ≤ 2 ^ 42) :
    Go.V.Call E0 119 [.sl b 0 l.length 1 (.flex l.length), .fn 120 [.pin [.int .i64 i0] 0, .pin [.sli cs len q] 0]] S (.bool (l.any (outB i0 len))) S := by
  have L := L147 l b i0 cs len q S hh hl l.length 0 (by omega)
  simp only [List.drop_zero] at L
  have h147 : Go.V.Call E0 147 [.sl b 0 l.length 1 (.flex l.length), .fn 120 [.pin [.int .i64 i0] 0, .pin [.sli cs len q] 0]] S (.int .i64 (firstIdx (outB i0 len) l 0)) S := by
    generalize firstIdx (outB i0 len) l 0 = r at *
    refine call_cfg (by kernel_rfl) ?_
    refine evc_g 13 ?_
    exact evc_a (L)
  rw [← firstIdx_ge _ l 0]
  generalize firstIdx (outB i0 len) l 0 = r at *
  clear L
  refine call_cfg (by kernel_rfl) ?_
  refine evc_g 8 ?_
  refine evc_c (h147) ?_
  refine evc_g 3 ?_
  exact evc_t (Val.bool (decide (r ≥ 0)))
theorem c119_0 (i0 : Int) (cs : List Val) (len : Nat) (q q' : Q) (S : St) : Go.V.Call E0 119 [.sli [] 0 q', .fn 120 [.pin [.int .i64 i0] 0, .pin [.sli cs len q] 0]] S (.bool false) S := by
  have h147 : Go.V.Call E0 147 [.sli [] 0 q', .fn 120 [.pin [.int .i64 i0] 0, .pin [.sli cs len q] 0]] S (.int .i64 (-1)) S := by
    refine call_cfg (by kernel_rfl) ?_
    refine evc_g 24 ?_
    exact evc_t (Val.int IntKind.i64 (-1))
  refine call_cfg (by kernel_rfl) ?_
  refine evc_g 8 ?_
  refine evc_c (h147) ?_
  refine evc_g 3 ?_
  exact evc_t (Val.bool Bool.false)
end Go.V.W
