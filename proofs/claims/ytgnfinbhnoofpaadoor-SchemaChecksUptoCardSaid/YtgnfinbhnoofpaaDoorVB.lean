/- Operands, places, what an operation has to show. -/
import Derived.Test.YtgnfinbhnoofpaaDoorVA
import Derived.Deep.MidRow
import Derived.Laws.StructEq
set_option linter.unusedVariables false
set_option linter.unusedSimpArgs false
set_option linter.unusedSectionVars false
namespace Go.V

def evT (tmps : Array Value) : Operand → Value
  | .tmp t => tmps.getD t undef
  | .const v => v
  | .global g => .pointer (some ⟨g, 0, none⟩)
  | .func f => .func (.func f) #[] #[]

theorem ofConst1_rep {k : K} {c : Value} {v : Val} (h : ofConst1 c = some v) : Rep k v c ∧ c.oneCell' = true := by
  unfold ofConst1 at h
  split at h <;> simp at h <;> subst h <;> simp [Rep, Value.oneCell']

theorem ofConsts_rep {k : K} : ∀ {l : List Value} {vs : List Val}, ofConsts l = some vs → RepAll k vs l ∧ ∀ x ∈ l, x.oneCell' = true
  | [], vs, h => by simp only [ofConsts, Option.some.injEq] at h; subst h; simp [RepAll]
  | c :: l, vs, h => by
    simp only [ofConsts] at h
    split at h
    · rename_i a b ha hb
      simp only [Option.some.injEq] at h; subst h
      obtain ⟨h1, h2⟩ := ofConst1_rep (k := k) ha
      obtain ⟨h3, h4⟩ := ofConsts_rep hb
      simp only [RepAll]
      exact ⟨⟨h1, h3⟩, by simpa using ⟨h2, h4⟩⟩
    · simp at h

theorem ofConst_rep {k : K} {c : Value} {v : Val} (h : ofConst c = some v) : Rep k v c := by
  unfold ofConst at h
  split at h
  · rename_i cs
    simp only [Option.map_eq_some_iff] at h
    obtain ⟨vs, h, rfl⟩ := h
    obtain ⟨h1, h2⟩ := ofConsts_rep (k := k) h
    simp only [Rep]
    exact ⟨cs, rfl, h1, h2⟩
  · exact (ofConst1_rep h).1

theorem ofConst_sto {c : Value} {v : Val} (h : ofConst c = some v) : v.sto = true := by
  unfold ofConst at h
  split at h
  · simp only [Option.map_eq_some_iff] at h; obtain ⟨vs, h, rfl⟩ := h; rfl
  · unfold ofConst1 at h; split at h <;> simp at h <;> subst h <;> rfl

section
variable {E : Env} {k : K} {S : St} {f : Nat} {g : G} {tmps : Array Value}

theorem FRep.first (hF : FRep k f g tmps) {t : Nat} {v : Val} (h : g t = some v) (hv : v.first = true) : Rep k v (tmps.getD t undef) := by
  have := hF t v h
  cases v <;> simp_all [SlotRep, Val.first]

theorem raw_rep (hS : Sim E k S) (hF : FRep k f g tmps) {o : Operand} {v : Val} (h : raw E g o = some v) (hv : v.first = true) : Rep k v (evT tmps o) := by
  cases o with
  | tmp t => exact hF.first h hv
  | const c => exact ofConst_rep h
  | global x =>
    simp only [raw, Option.map_eq_some_iff] at h
    obtain ⟨cs, h, rfl⟩ := h
    simp only [Rep, evT]
    exact ⟨x, 0, rfl, hS.glob x cs h⟩
  | func x =>
    simp only [raw, Option.some.injEq] at h; subst h
    simp only [Rep, evT]
    exact ⟨#[], rfl, by simp [RepAll]⟩

theorem ev_rep (hS : Sim E k S) (hF : FRep k f g tmps) {o : Operand} {v : Val} (h : ev E g o = some v) : Rep k v (evT tmps o) ∧ v.first = true := by
  unfold ev at h
  split at h
  · rename_i x hx
    split at h
    · rename_i hf
      simp only [Option.some.injEq] at h; subst h
      exact ⟨raw_rep hS hF hx hf, hf⟩
    · simp at h
  · simp at h

theorem evs_rep (hS : Sim E k S) (hF : FRep k f g tmps) : ∀ {l : List Operand} {vs : List Val}, evs E g l = some vs → RepAll k vs (l.map (evT tmps))
  | [], vs, h => by simp only [evs, Option.some.injEq] at h; subst h; simp [RepAll]
  | o :: l, vs, h => by
    simp only [evs] at h
    split at h
    · rename_i a b ha hb
      simp only [Option.some.injEq] at h; subst h
      simp only [List.map_cons, RepAll]
      exact ⟨(ev_rep hS hF ha).1, evs_rep hS hF hb⟩
    · simp at h

/-- a place, as a value of the model -/
def PlaceRep (k : K) (g : G) (tmps : Array Value) : Place → Value → Prop
  | .inl cs off, v => ∃ c o, v = .pointer (some ⟨c, o + off, none⟩) ∧ RepMem k c o cs
  | .lcl t off, v => ∀ cs, g t = some (.lv cs) → ∃ c, tmps.getD t undef = .pointer (some ⟨c, 0, none⟩) ∧ v = .pointer (some ⟨c, off, none⟩)
  | .hp b off e, v => Rep k (.ptr b off e) v

theorem place_rep (hS : Sim E k S) (hF : FRep k f g tmps) {o : Operand} {p : Place} (h : place E g o = some p) : PlaceRep k g tmps p (evT tmps o) := by
  unfold place at h
  split at h
  · rename_i t
    split at h <;> simp at h <;> subst h
    · rename_i cs hg
      intro cs' hcs
      obtain ⟨c, h1, h2, h3⟩ := hF t _ hg
      exact ⟨c, h1, h1⟩
    · rename_i s off hg
      exact hF t _ hg
    · rename_i cs off hg
      have := hF t _ hg
      simpa only [SlotRep, Rep, PlaceRep, evT] using this
    · rename_i b off e hg
      exact hF t _ hg
  · rename_i x
    simp only [Option.map_eq_some_iff] at h
    obtain ⟨cs, h, rfl⟩ := h
    exact ⟨x, 0, rfl, hS.glob x cs h⟩
  · simp at h

/-- cells that can be read -/
def CellsRep (k : K) (c o : Nat) (cs : List Val) : Prop :=
  ∀ (i : Nat) (x : Val), cs[i]? = some x → ∃ v, k.w.cell? ⟨c, o + i, none⟩ = some v ∧ v.oneCell' = true ∧ Rep k x v

theorem RepOwn.reads {c o : Nat} {cs : List Val} (h : RepOwn k c o cs) : CellsRep k c o cs := fun i x hi => by
  obtain ⟨v, h1, _, h2⟩ := h.get hi
  exact ⟨v, h1, h2⟩
theorem RepMem.reads {c o : Nat} {cs : List Val} (h : RepMem k c o cs) : CellsRep k c o cs := fun i x hi => (h.get hi).2

theorem CellsRep.sub {c o : Nat} {cs : List Val} (h : CellsRep k c o cs) {off n : Nat} {l : List Val} (hl : cut cs off n = some l) :
    CellsRep k c (o + off) l ∧ l.length = n := by
  unfold cut at hl
  split at hl
  · simp only [Option.some.injEq] at hl; subst hl
    refine ⟨fun i x hi => ?_, by simp; omega⟩
    rw [List.getElem?_take] at hi
    split at hi
    · rw [List.getElem?_drop] at hi
      rw [show o + off + i = o + (off + i) by omega]
      exact h _ x hi
    · simp at hi
  · simp at hl

theorem CellsRep.vals : ∀ {cs : List Val} {c o : Nat}, CellsRep k c o cs → ∃ vs : List Value, RepAll k cs vs ∧ k.w.rangeAt c o vs ∧ ∀ x ∈ vs, x.oneCell' = true
  | [], c, o, _ => ⟨[], by simp [RepAll], fun j v h => by simp at h, by simp⟩
  | x :: l, c, o, h => by
    obtain ⟨v, h1, h2, h3⟩ := h 0 x rfl
    obtain ⟨vs, h4, h5, h6⟩ := CellsRep.vals (cs := l) (c := c) (o := o + 1) fun i y hi => by
      rw [show o + 1 + i = o + (i + 1) by omega]
      exact h (i + 1) y (by simpa using hi)
    refine ⟨v :: vs, by simp only [RepAll]; exact ⟨h3, h4⟩, ?_, by simpa using ⟨h2, h6⟩⟩
    intro j u hj
    cases j with
    | zero => simp only [List.getElem?_cons_zero, Option.some.injEq] at hj; subst hj; simpa using h1
    | succ j =>
      have := h5 j u (by simpa using hj)
      rwa [show o + 1 + j = o + (j + 1) by omega] at this

theorem hcells_some {b : Nat} {e : Option Nat} {cs : List Val} (h : hcells S b e = some cs) :
    S.H[b]? = some (.cells cs e.isSome) ∧ ∀ n, e = some n → cs.length = n := by
  unfold hcells at h
  split at h
  · rename_i hb; simp only [Option.some.injEq] at h; subst h; exact ⟨by simpa using hb, by simp⟩
  · rename_i cs' n hb
    split at h
    · rename_i hn; simp only [Option.some.injEq] at h; subst h; exact ⟨by simpa using hb, by simpa using hn⟩
    · simp at h
  · simp at h

/-- a pointer into the clean heap that is known to hold still -/
theorem ptr_rep (hS : Sim E k S) {b off : Nat} {e : Option Nat} {v : Value} {cs : List Val} (hr : Rep k (.ptr b off e) v) (hc : hcells S b e = some cs) :
    v = .pointer (some ⟨(k.σ b).1, (k.σ b).2 + off, none⟩) ∧ RepOwn k (k.σ b).1 (k.σ b).2 cs ∧ k.own (k.σ b).1 = some (.h b) := by
  obtain ⟨hb, hn⟩ := hcells_some hc
  have hB := hS.blk b _ hb
  refine ⟨?_, hB.2.1, hB.1⟩
  cases e with
  | none => simp only [Rep] at hr; exact hr.2
  | some e =>
    simp only [Rep] at hr
    obtain ⟨n, p, h1, h2, rfl, h4⟩ := hr
    rw [hS.sh, hb] at h1
    simp only [Option.map_some, Block.shape, Option.isSome_some, Option.some.injEq, Shape.cells.injEq, true_and] at h1
    rw [h4 (by rw [← h1, hn e rfl])]

theorem cellsAt_rep (hS : Sim E k S) (hF : FRep k f g tmps) {p : Place} {v : Value} {cs : List Val} (hp : PlaceRep k g tmps p v) (hc : cellsAt g S p = some cs) :
    ∃ c o, v = .pointer (some ⟨c, o + p.off, none⟩) ∧ CellsRep k c o cs := by
  cases p with
  | inl l off =>
    simp only [cellsAt, Option.some.injEq] at hc; subst hc
    obtain ⟨c, o, rfl, h⟩ := hp
    exact ⟨c, o, rfl, h.reads⟩
  | lcl t off =>
    simp only [cellsAt] at hc
    split at hc
    · rename_i l hl
      simp only [Option.some.injEq] at hc; subst hc
      obtain ⟨c, h1, rfl⟩ := hp _ hl
      obtain ⟨c', h2, h3, h4⟩ := hF t _ hl
      rw [h1] at h2
      simp only [Value.pointer.injEq, Option.some.injEq, Addr.mk.injEq, and_true] at h2; subst h2
      exact ⟨c, 0, by simp [Place.off], h4.reads⟩
    · simp at hc
  | hp b off e =>
    obtain ⟨h1, h2, _⟩ := ptr_rep hS hp hc
    exact ⟨_, _, h1, h2.reads⟩
end

/-- what an operation hands to its temporary -/
def ValRep (k : K) (g : G) (tmps : Array Value) : Val → Value → Prop
  | .lv _, _ => False
  | .loc s off, v => ∀ cs, g s = some (.lv cs) → ∃ c, tmps.getD s undef = .pointer (some ⟨c, 0, none⟩) ∧ v = .pointer (some ⟨c, off, none⟩)
  | x, v => Rep k x v

theorem ValRep.of {k : K} {g : G} {tmps : Array Value} {x : Val} {v : Value} (h : Rep k x v) : ValRep k g tmps x v := by
  cases x <;> first | exact h | (simp [Rep] at h)

theorem Place.val_rep {k : K} {g : G} {tmps : Array Value} {p : Place} {v : Value} (h : PlaceRep k g tmps p v) : ValRep k g tmps p.val v := by
  cases p with
  | inl cs o => simpa only [ValRep, Place.val, Rep, PlaceRep] using h
  | lcl t o => exact h
  | hp b o e => exact h

def upsG (g : G) : List (Nat × Val) → G
  | [] => g
  | (t, v) :: l => upsG (fun x => if x = t then some v else g x) l

theorem Fr.get_put (fr : Fr) (t : Nat) (v : Val) : (fr.put t v).get = fun x => if x = t then some v else fr.get x := by
  funext x; simp only [Fr.put, Fr.get]; by_cases h : t = x <;> simp [h, eq_comm]
theorem Fr.get_puts : ∀ (ups : List (Nat × Val)) (fr : Fr), (fr.puts ups).get = upsG fr.get ups
  | [], _ => rfl
  | (t, v) :: l, fr => by rw [Fr.puts, Fr.get_puts l, Fr.get_put, upsG]

/-- WHAT AN OPERATION HAS TO SHOW. -/
structure OpOk (E : Env) (k : K) (S : St) (f : Nat) (g : G) (tmps : Array Value) (s : Sem Next) (v : Option Val) (ups : List (Nat × Val)) (S' : St) (k' : K) (nx : Next) : Prop where
  run : s.run E.P k.w = .ok nx k'.w
  val : match v with
    | some x => ∃ cv, nx = .value cv ∧ ValRep k' (upsG g ups) tmps x cv
    | none => nx = .skip
  sim : Sim E k' S'
  evo : Evo k k' (touchF k S.L f)
  fr : FRep k' f (upsG g ups) tmps
  L : S'.L = S.L
  bound : ∀ d, f < d → Bound k d → Bound k' d

/-- an operation that only computes or reads -/
theorem OpOk.pure {E : Env} {k : K} {S : St} {f : Nat} {g : G} {tmps : Array Value} {s : Sem Next} {x : Val} {cv : Value} (hS : Sim E k S) (hF : FRep k f g tmps)
    (hr : s.run E.P k.w = .ok (.value cv) k.w) (hv : ValRep k g tmps x cv) : OpOk E k S f g tmps s (some x) [] S k (.value cv) :=
  ⟨hr, ⟨cv, rfl, hv⟩, hS, .refl _ _, hF, rfl, fun _ _ h => h⟩
end Go.V

/- Operations that compute. -/
namespace Go.V
section
variable {E : Env} {k : K} {S : St} {f : Nat} {g : G} {tmps : Array Value} {w : World}

theorem rep_int {q : IntKind} {n : Int} : Rep k (.int q n) (.int q n) := by simp only [Rep]
theorem rep_bool {b : Bool} : Rep k (.bool b) (.bool b) := by simp only [Rep]

theorem intOp_run {op : BinOp} {q : IntKind} {x y : Int} {v : Val} {t : TypeId} (h : intOp op q x y = some v) (P : Program) :
    ∃ cv, (Go.binOp op t (.int q x) (.int q y)).run P w = .ok cv w ∧ Rep k v cv := by
  cases op <;> simp only [intOp, Option.some.injEq, reduceCtorEq] at h
  case quo =>
    split at h <;> simp at h
    subst h
    exact ⟨.int q (q.wrap (x.tdiv y)), by simp [Go.binOp, Op.intDiv, *], by simp [Rep]⟩
  case rem =>
    split at h <;> simp at h
    subst h
    exact ⟨.int q (x.tmod y), by simp [Go.binOp, Op.intDiv, *], by simp [Rep]⟩
  all_goals
    subst h
    refine ⟨_, ?_, by first | exact rep_int | exact rep_bool⟩
    simp only [Go.binOp, ne_eq, not_true_eq_false, if_false, Op.intArith, Op.intBits, Op.intCmp, Sem.run_pure]

theorem shiftOp_run {op : BinOp} {q q' : IntKind} {x y : Int} {v : Val} {t : TypeId} (hop : op = .shl ∨ op = .shr) (h : shiftOp op q x y = some v) (P : Program) :
    ∃ cv, (Go.binOp op t (.int q x) (.int q' y)).run P w = .ok cv w ∧ Rep k v cv := by
  unfold shiftOp at h
  split at h
  · simp at h
  · rename_i hy
    rcases hop with rfl | rfl <;> simp only [Option.some.injEq] at h <;> subst h
    · exact ⟨.int q (q.wrap (x * 2 ^ (min y.toNat q.bits))), by simp [Go.binOp, Op.shift, hy], by simp [Rep]⟩
    · exact ⟨.int q (x.fdiv (2 ^ (min y.toNat q.bits))), by simp [Go.binOp, Op.shift, hy], by simp [Rep]⟩

theorem bytesLess_eq : ∀ (x y : List UInt8), Op.bytesLess x y = strLess x y
  | _, [] => by cases ‹List UInt8› <;> rfl
  | [], _ :: _ => rfl
  | a :: x, b :: y => by simp [Op.bytesLess, strLess, bytesLess_eq x y]

theorem toList_loop (a : ByteArray) (n i : Nat) (r : List UInt8) (h : a.size - i = n) : ByteArray.toList.loop a i r = r.reverse ++ a.data.toList.drop i := by
  induction n generalizing i r with
  | zero =>
    unfold ByteArray.toList.loop
    have e : a.data.toList.length = a.size := by rw [Array.length_toList]; rfl
    rw [if_neg (by omega), List.drop_of_length_le (by omega)]; simp
  | succ n ih =>
    unfold ByteArray.toList.loop
    have e : a.data.toList.length = a.size := by rw [Array.length_toList]; rfl
    rw [if_pos (by omega), ih (i + 1) _ (by omega)]
    rw [List.drop_eq_getElem_cons (i := i) (by omega)]
    simp only [List.reverse_cons, List.append_assoc, List.singleton_append, List.cons.injEq, and_true, List.append_cancel_left_eq]
    have hi : i < a.data.size := by have : a.data.size = a.size := rfl; omega
    show a.data[i]! = _
    rw [getElem!_pos a.data i hi]; simp
theorem toList_eq (a : ByteArray) : a.toList = a.data.toList := by
  unfold ByteArray.toList
  rw [toList_loop a a.size 0 [] (by omega)]; simp

theorem strOp_run {op : BinOp} {x y : ByteArray} {v : Val} {t : TypeId} (h : strOp op x.data.toList y.data.toList = some v) (P : Program) :
    ∃ cv, (Go.binOp op t (.string x) (.string y)).run P w = .ok cv w ∧ Rep k v cv := by
  have hb : Go.binOp op t (.string x) (.string y) = Op.stringOp op x y := by cases op <;> rfl
  rw [hb]
  cases op <;> simp only [strOp, Option.some.injEq, reduceCtorEq] at h
  case add =>
    split at h <;> simp at h
    subst h
    rename_i hlen
    refine ⟨.string (x ++ y), ?_, ?_⟩
    · have : ¬ (((x.size + y.size : Nat) : Int) > IntKind.i64.max) := by
        simp only [Array.length_toList] at hlen
        have e1 : x.data.size = x.size := rfl
        have e2 : y.data.size = y.size := rfl
        rw [e1, e2] at hlen
        unfold maxStr at hlen
        simp [IntKind.max, IntKind.signed, IntKind.bits]
        omega
      simp only [Op.stringOp, this, if_false]; rfl
    · simp [Rep]
  all_goals
    subst h
    refine ⟨_, ?_, rep_bool⟩
    simp only [Op.stringOp, Sem.run_pure, toList_eq, bytesLess_eq]
end
end Go.V

/- Parts of values; '=='. -/
namespace Go.V
section
variable {E : Env} {k : K} {S : St} {f : Nat} {g : G} {tmps : Array Value} {w : World}

theorem size_info {t : TypeId} {n : Nat} (h : E.size t = some n) : ∃ i, E.P.info? t = some i ∧ i.size = n := by
  simpa [Env.size] using h

theorem run_size {t : TypeId} {n : Nat} (h : E.size t = some n) (w : World) : (sizeOf t).run E.P w = .ok n w := by
  obtain ⟨i, h1, h2⟩ := size_info h
  simp [sizeOf, typeInfo, h1, h2]

theorem run_agg {t : TypeId} {d : TypeDesc} (h : E.und t = some d) (w : World) : (isAgg t).run E.P w = .ok (isAggT d) w := by
  unfold isAgg
  rw [Sem.run_bind, run_underlying h w]
  cases d <;> rfl

theorem part_run {t : TypeId} {d : TypeDesc} {n off : Nat} {cs : List Val} {a : Array Value} {v : Val} (hd : E.und t = some d) (hn : E.size t = some n)
    (hr : RepAll k cs a.toList) (h1 : ∀ x ∈ a.toList, x.oneCell' = true) (h : ofCells d cs off n = some v) :
    ∃ cv, (part t a off).run E.P w = .ok cv w ∧ Rep k v cv := by
  unfold ofCells at h
  split at h
  · rename_i hag
    simp only [Option.map_eq_some_iff] at h
    obtain ⟨l, hl, rfl⟩ := h
    unfold cut at hl
    split at hl
    · simp only [Option.some.injEq] at hl; subst hl
      refine ⟨.agg (a.extract off (off + n)), ?_, ?_⟩
      · simp [part, Sem.run_bind, run_agg hd, hag, run_size hn]
      · simp only [Rep]
        refine ⟨_, rfl, ?_, ?_⟩
        · rw [Array.toList_extract]
          simp only [List.extract_eq_drop_take', List.drop_take, Nat.add_sub_cancel_left]
          exact (hr.drop off).take n
        · intro x hx
          rw [Array.toList_extract] at hx
          simp only [List.extract_eq_drop_take', List.drop_take, Nat.add_sub_cancel_left] at hx
          exact h1 x (List.mem_of_mem_drop (List.mem_of_mem_take hx))
    · simp at hl
  · rename_i hag
    obtain ⟨cv, h2, h3⟩ := hr.get h
    refine ⟨cv, ?_, h3⟩
    have h2' : a[off]? = some cv := by rw [← Array.getElem?_toList]; exact h2
    simp [part, Sem.run_bind, run_agg hd, hag, h2']

/-- what '==' does field by field -/
theorem fields_run {eq : TypeId → Val → Val → Option Bool} {d' : Nat}
    (heq : ∀ t x y r cx cy w, eq t x y = some r → Rep k x cx → Rep k y cy → (Op.equalIn d' t cx cy).run E.P w = .ok r w)
    {xs ys : List Val} {a b : Array Value} (hx : RepAll k xs a.toList) (hx1 : ∀ x ∈ a.toList, x.oneCell' = true) (hy : RepAll k ys b.toList) (hy1 : ∀ x ∈ b.toList, x.oneCell' = true) :
    ∀ (fs : List Field) (r : Bool), eqFields eq E fs xs ys = some r →
      ((forIn fs (none, ()) fun f __s =>
        if f.name ≠ "_" then do
          let __do_lift ← part f.type a f.offset
          let __do_lift_1 ← part f.type b f.offset
          let __do_lift ← Op.equalIn d' f.type __do_lift __do_lift_1
          if (!__do_lift) = true then pure (ForInStep.done (some false, ())) else pure (ForInStep.yield (none, ()))
        else pure (ForInStep.yield (none, ())) : Sem (Option Bool × Unit))).run E.P w = .ok (if r then none else some false, ()) w
  | [], r, h => by
    simp only [eqFields, Option.some.injEq] at h; subst h
    simp
  | fd :: l, r, h => by
    simp only [eqFields] at h
    rw [List.forIn_cons]
    split at h
    · rename_i hn
      simp only [hn, ne_eq, not_true_eq_false, if_false, pure_bind]
      exact fields_run heq hx hx1 hy hy1 l r h
    · rename_i hn
      split at h
      · rename_i d n hd hsz
        split at h
        · rename_i x y hxx hyy
          obtain ⟨cx, p1, p2⟩ := part_run (w := w) hd hsz hx hx1 hxx
          obtain ⟨cy, p3, p4⟩ := part_run (w := w) hd hsz hy hy1 hyy
          simp only [ne_eq, hn, not_false_eq_true, if_true, Sem.run_bind, p1, p3, Result.andThen_ok]
          split at h
          · rename_i he
            simp only [heq _ _ _ _ _ _ w he p2 p4, Result.andThen_ok, Bool.not_true, Bool.false_eq_true, if_false, Sem.run_pure]
            exact fields_run heq hx hx1 hy hy1 l r h
          · rename_i he
            have : eq fd.type x y = some r := h
            cases r with
            | true => exact (he this).elim
            | false => simp [heq _ _ _ _ _ _ w this p2 p4]
        · simp at h
      · simp at h

theorem elems_run {eq : Val → Val → Option Bool} {d' : Nat} {e : TypeId} {de : TypeDesc} {sz : Nat} (hde : E.und e = some de) (hsz : E.size e = some sz)
    (heq : ∀ x y r cx cy w, eq x y = some r → Rep k x cx → Rep k y cy → (Op.equalIn d' e cx cy).run E.P w = .ok r w)
    {xs ys : List Val} {a b : Array Value} (hx : RepAll k xs a.toList) (hx1 : ∀ x ∈ a.toList, x.oneCell' = true) (hy : RepAll k ys b.toList) (hy1 : ∀ x ∈ b.toList, x.oneCell' = true) :
    ∀ (n i : Nat) (r : Bool), eqElems eq de sz xs ys n i = some r →
      ((forIn (List.range' i n) (none, ()) fun i __s => do
          let __do_lift ← part e a (i * sz)
          let __do_lift_1 ← part e b (i * sz)
          let __do_lift ← Op.equalIn d' e __do_lift __do_lift_1
          if (!__do_lift) = true then pure (ForInStep.done (some false, ())) else pure (ForInStep.yield (none, ())) : Sem (Option Bool × Unit))).run E.P w = .ok (if r then none else some false, ()) w
  | 0, _, r, h => by
    simp only [eqElems, Option.some.injEq] at h; subst h
    simp
  | n + 1, i, r, h => by
    simp only [eqElems] at h
    rw [List.range'_succ, List.forIn_cons]
    split at h
    · rename_i x y hxx hyy
      obtain ⟨cx, p1, p2⟩ := part_run (w := w) hde hsz hx hx1 hxx
      obtain ⟨cy, p3, p4⟩ := part_run (w := w) hde hsz hy hy1 hyy
      simp only [Sem.run_bind, p1, p3, Result.andThen_ok]
      split at h
      · rename_i he
        simp only [heq _ _ _ _ _ w he p2 p4, Result.andThen_ok, Bool.not_true, Bool.false_eq_true, if_false, Sem.run_pure]
        exact elems_run hde hsz heq hx hx1 hy hy1 n (i + 1) r h
      · rename_i he
        have : eq x y = some r := h
        cases r with
        | true => exact (he this).elim
        | false => simp [heq _ _ _ _ _ w this p2 p4]
    · simp at h

theorem eqT_run : ∀ (d d' : Nat), d ≤ d' → ∀ (t : TypeId) (x y : Val) (r : Bool) (cx cy : Value) (w : World), eqT E d t x y = some r → Rep k x cx → Rep k y cy →
    (Op.equalIn d' t cx cy).run E.P w = .ok r w
  | 0, _, _, _, _, _, _, _, _, _, h, _, _ => by simp [eqT] at h
  | d + 1, 0, hd, _, _, _, _, _, _, _, _, _, _ => by omega
  | d + 1, d' + 1, hd, t, x, y, r, cx, cy, w, h, hx, hy => by
    have ih := eqT_run d d' (by omega)
    simp only [eqT] at h
    split at h
    · rename_i hu
      simp only [Rep] at hx hy
      subst hx hy
      simp only [Option.some.injEq] at h; subst h
      simp only [Op.equalIn, Sem.run_bind, run_underlying hu, Result.andThen_ok, Sem.run_pure]
    · rename_i hu
      simp only [Rep] at hx hy
      subst hx hy
      split at h
      · rename_i e
        simp only [Option.some.injEq] at h; subst h
        simp only [Op.equalIn, Sem.run_bind, run_underlying hu, Result.andThen_ok, e, if_true, Sem.run_pure]
      · simp at h
    · rename_i hu
      simp only [Rep] at hx hy
      obtain ⟨a, rfl, rfl⟩ := hx
      obtain ⟨b, rfl, rfl⟩ := hy
      simp only [Option.some.injEq] at h; subst h
      rw [run_equalIn_string w d' t a b hu, toList_eq, toList_eq]
    · rename_i hu
      simp only [Rep] at hx hy
      obtain ⟨a, rfl, hx, hx1⟩ := hx
      obtain ⟨b, rfl, hy, hy1⟩ := hy
      split at h
      · simp at h
      · rename_i hs
        simp only [Op.equalIn, Sem.run_bind, run_underlying hu, Result.andThen_ok, run_program, hs, Bool.false_eq_true, if_false]
        rw [← Array.forIn_toList, fields_run (d' := d') (fun t x y r cx cy w h hx hy => ih t x y r cx cy w h hx hy) hx hx1 hy hy1 _ _ h]
        cases r <;> rfl
    · rename_i hu
      simp only [Rep] at hx hy
      obtain ⟨a, rfl, hx, hx1⟩ := hx
      obtain ⟨b, rfl, hy, hy1⟩ := hy
      split at h
      · rename_i n e _ _ de sz hde hsz
        simp only [Op.equalIn, Sem.run_bind, run_underlying hu, Result.andThen_ok, run_size hsz, Std.Legacy.Range.forIn_eq_forIn_range', Std.Legacy.Range.size, Nat.sub_zero, Nat.add_sub_cancel, Nat.div_one]
        rw [elems_run (d' := d') hde hsz (fun x y r cx cy w h hx hy => ih _ x y r cx cy w h hx hy) hx hx1 hy hy1 _ _ _ h]
        cases r <;> rfl
      · simp at h
    · simp at h
end
end Go.V

/- Binary and unary operations, conversions of numbers: the whole. -/
namespace Go.V
section
variable {E : Env} {k : K} {S : St} {f : Nat} {g : G} {tmps : Array Value} {w : World}

set_option maxHeartbeats 2000000 in
/-- '==' and what stands ahead of it -/
theorem eqOp_run {op : BinOp} (hop : op = .eql ∨ op = .neq) {t : TypeId} {x y : Val} {r : Bool} {cx cy : Value} {ox oy : Operand}
    (h : eqOp E t x y = some r) (hx : Rep k x cx) (hy : Rep k y cy) (hii : ∀ q q' a b, x = .int q a → y ≠ .int q' b) (hss : ∀ a b, x = .str a → y ≠ .str b) :
    (do eqGuard op t ox oy cx cy; Go.binOp op t cx cy : Sem Value).run E.P w = .ok (.bool (if op = .eql then r else !r)) w := by
  obtain ⟨dd, hdd⟩ : ∃ d, ∀ t x y, Op.equal t x y = Op.equalIn (d + 1) t x y := ⟨9999, fun _ _ _ => rfl⟩
  have key : ∀ (hg : (eqGuard op t ox oy cx cy).run E.P w = .ok () w) (hb : Go.binOp .eql t cx cy = (do pure (.bool (← Op.equal t cx cy))))
      (hn : Go.binOp .neq t cx cy = (do pure (.bool (!(← Op.equal t cx cy))))) (he : (Op.equal t cx cy).run E.P w = .ok r w),
      (do eqGuard op t ox oy cx cy; Go.binOp op t cx cy : Sem Value).run E.P w = .ok (.bool (if op = .eql then r else !r)) w := by
    intro hg hb hn he
    rcases hop with rfl | rfl
    · simp [Sem.run_bind, hg, hb, he]
    · simp [Sem.run_bind, hg, hn, he]
  have guard0 : (∀ cs ds, cx = .agg cs → cy ≠ .agg ds) → (cx = .nilIface → cy ≠ .nilIface) → (eqGuard op t ox oy cx cy).run E.P w = .ok () w := by
    intro h1 h2
    rcases hop with rfl | rfl
    all_goals
      unfold eqGuard
      simp only [Bool.not_true, Bool.false_eq_true, if_false]
      first
        | rfl
        | (cases cx <;> cases cy <;> first | rfl | (exact absurd rfl (h1 _ _ rfl)) | (exact absurd rfl (h2 rfl)))
  unfold eqOp at h
  split at h
  · -- bool
    rename_i hu
    simp only [Option.some.injEq] at h; subst h
    simp only [Rep] at hx hy; subst hx hy
    exact key (guard0 (by simp) (by simp)) rfl rfl (by rw [hdd]; simp [Op.equalIn, run_underlying hu])
  · rename_i hu
    simp only [Option.some.injEq] at h; subst h
    simp only [Rep] at hx hy; subst hx hy
    exact key (guard0 (by simp) (by simp)) rfl rfl (by rw [hdd]; simp [Op.equalIn, run_underlying hu])
  · rename_i hu
    simp only [Option.some.injEq] at h; subst h
    simp only [Rep] at hx hy; subst hx; obtain ⟨_, rfl⟩ := hy
    exact key (guard0 (by simp) (by simp)) rfl rfl (by rw [hdd]; simp [Op.equalIn, run_underlying hu])
  · rename_i hu
    simp only [Option.some.injEq] at h; subst h
    simp only [Rep] at hx hy; subst hy; obtain ⟨_, rfl⟩ := hx
    exact key (guard0 (by simp) (by simp)) rfl rfl (by rw [hdd]; simp [Op.equalIn, run_underlying hu])
  · rename_i hu
    simp only [Option.some.injEq] at h; subst h
    simp only [Rep] at hx hy; subst hx; obtain ⟨_, _, rfl, _⟩ := hy
    exact key (guard0 (by simp) (by simp)) rfl rfl (by rw [hdd]; simp [Op.equalIn, run_underlying hu])
  · rename_i hu
    simp only [Option.some.injEq] at h; subst h
    simp only [Rep] at hx hy; subst hy; obtain ⟨_, _, rfl, _⟩ := hx
    exact key (guard0 (by simp) (by simp)) rfl rfl (by rw [hdd]; simp [Op.equalIn, run_underlying hu])
  · -- nil slices
    rename_i q hu
    simp only [Rep] at hx hy
    obtain ⟨a, cp, rfl, _, h1, _⟩ := hx
    obtain ⟨b, cq, rfl, hcq, h2, h2', h3⟩ := hy
    obtain ⟨rfl, rfl⟩ := h1 trivial
    split at h
    · rename_i hq
      simp only [Option.some.injEq] at h; subst h
      obtain ⟨rfl, rfl⟩ := h2 hq
      exact key (guard0 (by simp) (by simp)) rfl rfl (by rw [hdd]; simp [Op.equalIn, run_underlying hu])
    · rename_i hne
      simp only [Option.some.injEq] at h; subst h
      obtain ⟨x, rfl⟩ : ∃ x, b = some x := Option.isSome_iff_exists.1 (h2'.2 hne)
      exact key (guard0 (by simp) (by simp)) rfl rfl (by rw [hdd]; simp [Op.equalIn, run_underlying hu])
  · rename_i q hu
    simp only [Rep] at hx hy
    obtain ⟨a, cp, rfl, _, h1, _⟩ := hy
    obtain ⟨b, cq, rfl, hcq, h2, h2', h3⟩ := hx
    obtain ⟨rfl, rfl⟩ := h1 trivial
    split at h
    · rename_i hq
      simp only [Option.some.injEq] at h; subst h
      obtain ⟨rfl, rfl⟩ := h2 hq
      exact key (guard0 (by simp) (by simp)) rfl rfl (by rw [hdd]; simp [Op.equalIn, run_underlying hu])
    · rename_i hne
      simp only [Option.some.injEq] at h; subst h
      obtain ⟨x, rfl⟩ : ∃ x, b = some x := Option.isSome_iff_exists.1 (h2'.2 hne)
      exact key (guard0 (by simp) (by simp)) rfl rfl (by rw [hdd]; simp [Op.equalIn, run_underlying hu])
  · rename_i hu
    simp only [Option.some.injEq] at h; subst h
    simp only [Rep] at hx hy
    obtain ⟨a, cp, rfl, _, h1, _⟩ := hx
    obtain ⟨rfl, rfl⟩ := h1 trivial
    obtain ⟨_, rfl, _⟩ := hy
    exact key (guard0 (by simp) (by simp)) rfl rfl (by rw [hdd]; simp [Op.equalIn, run_underlying hu])
  · rename_i hu
    simp only [Option.some.injEq] at h; subst h
    simp only [Rep] at hx hy
    obtain ⟨a, cp, rfl, _, h1, _⟩ := hy
    obtain ⟨rfl, rfl⟩ := h1 trivial
    obtain ⟨_, rfl, _⟩ := hx
    exact key (guard0 (by simp) (by simp)) rfl rfl (by rw [hdd]; simp [Op.equalIn, run_underlying hu])
  · rename_i hu
    simp only [Option.some.injEq] at h; subst h
    simp only [Rep] at hx hy; subst hx hy
    exact key (guard0 (by simp) (by simp)) rfl rfl (by rw [hdd]; simp [Op.equalIn, run_underlying hu])
  · rename_i hu
    simp only [Option.some.injEq] at h; subst h
    simp only [Rep] at hx hy; subst hx; obtain ⟨_, rfl⟩ := hy
    exact key (guard0 (by simp) (by simp)) rfl rfl (by rw [hdd]; simp [Op.equalIn, run_underlying hu])
  · rename_i hu
    simp only [Option.some.injEq] at h; subst h
    simp only [Rep] at hx hy; subst hy; obtain ⟨_, rfl⟩ := hx
    exact key (guard0 (by simp) (by simp)) rfl rfl (by rw [hdd]; simp [Op.equalIn, run_underlying hu])
  · rename_i hu
    simp only [Option.some.injEq] at h; subst h
    simp only [Rep] at hx hy; subst hx hy
    exact key (guard0 (by simp) (by simp)) rfl rfl (by rw [hdd]; simp [Op.equalIn, run_underlying hu])
  · rename_i hu
    simp only [Option.some.injEq] at h; subst h
    simp only [Rep] at hx hy; subst hx; obtain ⟨_, rfl, _⟩ := hy
    exact key (guard0 (by simp) (by simp)) rfl rfl (by rw [hdd]; simp [Op.equalIn, run_underlying hu])
  · rename_i hu
    simp only [Option.some.injEq] at h; subst h
    simp only [Rep] at hx hy; subst hy; obtain ⟨_, rfl, _⟩ := hx
    exact key (guard0 (by simp) (by simp)) rfl rfl (by rw [hdd]; simp [Op.equalIn, run_underlying hu])
  · rename_i hu
    simp only [Option.some.injEq] at h; subst h
    simp only [Rep] at hx hy; subst hx; obtain ⟨_, rfl⟩ := hy
    exact key (guard0 (by simp) (by simp)) rfl rfl (by rw [hdd]; simp [Op.equalIn, run_underlying hu])
  · rename_i hu
    simp only [Option.some.injEq] at h; subst h
    simp only [Rep] at hx hy; subst hy; obtain ⟨_, rfl⟩ := hx
    exact key (guard0 (by simp) (by simp)) rfl rfl (by rw [hdd]; simp [Op.equalIn, run_underlying hu])
  · rename_i hu
    simp only [Option.some.injEq] at h; subst h
    simp only [Rep] at hx hy; subst hx; obtain ⟨_, rfl, _⟩ := hy
    exact key (guard0 (by simp) (by simp)) rfl rfl (by rw [hdd]; simp [Op.equalIn, run_underlying hu])
  · rename_i hu
    simp only [Option.some.injEq] at h; subst h
    simp only [Rep] at hx hy; subst hy; obtain ⟨_, rfl, _⟩ := hx
    exact key (guard0 (by simp) (by simp)) rfl rfl (by rw [hdd]; simp [Op.equalIn, run_underlying hu])
  all_goals first
    | (simp at h; done)
    | skip
  all_goals
    split at h
    · simp at h
    · rename_i hgt
      have he := eqT_run (E := E) (k := k) 20 10000 (by decide) _ _ _ _ cx cy w h hx hy
      have hx' := hx
      have hy' := hy
      simp only [Rep] at hx' hy'
      obtain ⟨a, rfl, _⟩ := hx'
      obtain ⟨b, rfl, _⟩ := hy'
      refine key ?_ rfl rfl he
      rcases hop with rfl | rfl <;> simp [eqGuard, hgt]

theorem binOp_run {op : BinOp} {t : TypeId} {x y v : Val} {cx cy : Value} {ox oy : Operand} (h : binOp E op t x y = some v) (hx : Rep k x cx) (hy : Rep k y cy) :
    ∃ cv, (do eqGuard op t ox oy cx cy; Go.binOp op t cx cy : Sem Value).run E.P w = .ok cv w ∧ Rep k v cv := by
  unfold binOp at h
  split at h
  · rename_i q a q' b
    simp only [Rep] at hx hy; subst hx hy
    have hg : (eqGuard op t ox oy (.int q a) (.int q' b)).run E.P w = .ok () w := by cases op <;> rfl
    split at h
    · obtain ⟨cv, h1, h2⟩ := shiftOp_run (k := k) (w := w) (t := t) (q' := q') (.inl rfl) h E.P
      exact ⟨cv, by simp [Sem.run_bind, hg, h1], h2⟩
    · obtain ⟨cv, h1, h2⟩ := shiftOp_run (k := k) (w := w) (t := t) (q' := q') (.inr rfl) h E.P
      exact ⟨cv, by simp [Sem.run_bind, hg, h1], h2⟩
    · split at h
      · rename_i e; subst e
        obtain ⟨cv, h1, h2⟩ := intOp_run (k := k) (w := w) (t := t) h E.P
        exact ⟨cv, by simp [Sem.run_bind, hg, h1], h2⟩
      · simp at h
  · rename_i a b
    simp only [Rep] at hx hy
    obtain ⟨a, rfl, rfl⟩ := hx
    obtain ⟨b, rfl, rfl⟩ := hy
    have hg : (eqGuard op t ox oy (.string a) (.string b)).run E.P w = .ok () w := by cases op <;> rfl
    obtain ⟨cv, h1, h2⟩ := strOp_run (k := k) (w := w) (t := t) h E.P
    exact ⟨cv, by simp [Sem.run_bind, hg, h1], h2⟩
  · rename_i h1 h2
    split at h
    · simp only [Option.map_eq_some_iff] at h
      obtain ⟨r, h, rfl⟩ := h
      exact ⟨_, eqOp_run (.inl rfl) h hx hy (fun q q' a b e e' => h1 q a q' b e e') (fun a b e e' => h2 a b e e'), by simp [Rep]⟩
    · simp only [Option.map_eq_some_iff] at h
      obtain ⟨r, h, rfl⟩ := h
      exact ⟨_, eqOp_run (.inr rfl) h hx hy (fun q q' a b e e' => h1 q a q' b e e') (fun a b e e' => h2 a b e e'), by simp [Rep]⟩
    · simp at h

theorem unOp_run {op : UnOp} {x v : Val} {cx : Value} (h : unOp op x = some v) (hx : Rep k x cx) : ∃ cv, (Op.unary op cx).run E.P w = .ok cv w ∧ Rep k v cv := by
  unfold unOp at h
  split at h <;> simp only [Option.some.injEq, reduceCtorEq] at h <;> subst h <;> simp only [Rep] at hx <;> subst hx
  · exact ⟨_, rfl, rep_bool⟩
  · exact ⟨_, rfl, rep_int⟩
  · exact ⟨_, rfl, rep_int⟩

theorem minMax_run {mx : Bool} : ∀ {l : List Val} {vs : List Value} {x v : Val} {cx : Value}, l.foldlM (fun a v => match a, v with
    | .int k x, .int k' y => if k = k' then some (.int k (if mx then (if y > x then y else x) else (if y < x then y else x))) else none
    | _, _ => none) x = some v → Rep k x cx → RepAll k l vs → ∃ cv, (vs.foldlM (if mx then Builtin.max2 else Builtin.min2) cx).run E.P w = .ok cv w ∧ Rep k v cv
  | [], [], x, v, cx, h, hx, _ => by
    simp only [List.foldlM_nil, Option.pure_def, Option.some.injEq] at h; subst h
    exact ⟨cx, by simp, hx⟩
  | y :: l, c :: vs, x, v, cx, h, hx, hl => by
    simp only [RepAll] at hl
    rw [List.foldlM_cons] at h
    simp only [Option.bind_eq_bind, Option.bind_eq_some_iff] at h
    obtain ⟨z, hz, h⟩ := h
    split at hz
    · rename_i q a q' b
      split at hz
      · rename_i e; subst e
        simp only [Option.some.injEq] at hz; subst hz
        have h1 := hl.1
        simp only [Rep] at hx h1; subst hx h1
        rw [List.foldlM_cons]
        cases mx with
        | true =>
          obtain ⟨cv, h2, h3⟩ := minMax_run (mx := true) (vs := vs) (cx := .int q (if b > a then b else a)) h (by simp [Rep]) hl.2
          exact ⟨cv, by simpa [Sem.run_bind, Builtin.max2] using h2, h3⟩
        | false =>
          obtain ⟨cv, h2, h3⟩ := minMax_run (mx := false) (vs := vs) (cx := .int q (if b < a then b else a)) h (by simp [Rep]) hl.2
          exact ⟨cv, by simpa [Sem.run_bind, Builtin.min2] using h2, h3⟩
      · simp at hz
    · simp at hz
  | [], _ :: _, _, _, _, _, _, hl => by simp [RepAll] at hl
  | _ :: _, [], _, _, _, _, _, hl => by simp [RepAll] at hl
end
end Go.V

/- Operations that read memory. -/
namespace Go.V
section
variable {E : Env} {k : K} {S : St} {f : Nat} {g : G} {tmps : Array Value} {w : World}

theorem sl_rep (hS : Sim E k S) {b off len esz : Nat} {cp : Cap} {v : Value} {cs : List Val} (hr : Rep k (.sl b off len esz cp) v) (hc : hcells S b cp.ext = some cs) :
    ∃ cap, v = .slice (some ⟨(k.σ b).1, (k.σ b).2 + off, none⟩) len cap ∧ len ≤ cap ∧ (∀ c, cp = .fix c → cap = c) ∧ RepOwn k (k.σ b).1 (k.σ b).2 cs ∧ k.own (k.σ b).1 = some (.h b) := by
  obtain ⟨hb, hn⟩ := hcells_some hc
  have hB := hS.blk b _ hb
  cases cp with
  | fix c =>
    simp only [Rep] at hr
    exact ⟨c, hr.2.1, hr.2.2, fun c' e => by simpa using e, hB.2.1, hB.1⟩
  | flex e =>
    simp only [Rep] at hr
    obtain ⟨n, p, cap, h1, h2, rfl, h4⟩ := hr
    rw [hS.sh, hb] at h1
    simp only [Option.map_some, Block.shape, Cap.ext, Option.isSome_some, Option.some.injEq, Shape.cells.injEq, true_and] at h1
    obtain ⟨rfl, h5, _⟩ := h4 (by rw [← h1, hn e rfl])
    exact ⟨cap, rfl, h5, fun c' e => by simp at e, hB.2.1, hB.1⟩

theorem loadCells_run {c o : Nat} {l : List Val} (h : CellsRep k c o l) :
    ∃ vs : Array Value, (loadCells ⟨c, o, none⟩ l.length).run E.P k.w = .ok vs k.w ∧ RepAll k l vs.toList ∧ ∀ y ∈ vs.toList, y.oneCell' = true := by
  obtain ⟨vs, h1, h2, h3⟩ := h.vals
  refine ⟨vs.toArray, ?_, by simpa using h1, by simpa using h3⟩
  rw [h1.length]
  exact run_loadCells_list (P := E.P) k.w ⟨c, o, none⟩ vs (fun j v hv => by rw [Addr.add_mid]; exact h2 j v hv)

theorem CellsRep.take {c o : Nat} {l : List Val} (h : CellsRep k c o l) (n : Nat) : CellsRep k c o (l.take n) := fun i x hi => by
  rw [List.getElem?_take] at hi
  split at hi
  · exact h i x hi
  · simp at hi

theorem u8s_rep (k : K) (s : List UInt8) : RepAll k (u8s s) (s.map fun b => .int .u8 b.toNat) := by
  induction s with
  | nil => simp [u8s, RepAll]
  | cons a l ih => simp only [u8s, List.map_cons, RepAll] at ih ⊢; exact ⟨rep_int, ih⟩

theorem slice_read (hS : Sim E k S) {sz n : Nat} {x : Val} {l : List Val} {c : Cls} {cx : Value} (h : cellsOfSlice S sz x = some (n, l, c)) (hx : Rep k x cx) :
    (∀ w', (Builtin.lenOf cx).run E.P w' = .ok n w') ∧ l.length = n * sz ∧
      ∀ m, m ≤ n → ∃ vs : Array Value, (Builtin.firstCells sz m cx).run E.P k.w = .ok vs k.w ∧ RepAll k (l.take (m * sz)) vs.toList ∧ ∀ y ∈ vs.toList, y.oneCell' = true := by
  unfold cellsOfSlice at h
  split at h
  · -- inline
    rename_i cs len q
    simp only [Option.map_eq_some_iff, Prod.mk.injEq] at h
    obtain ⟨l', hl, rfl, rfl, _⟩ := h
    simp only [Rep] at hx
    obtain ⟨a, cp, rfl, hcp, _, _, hm⟩ := hx
    have hlen : l'.length = len * sz := by
      unfold cut at hl
      split at hl
      · simp only [Option.some.injEq] at hl; subst hl; simp; omega
      · simp at hl
    refine ⟨fun _ => rfl, hlen, fun m hmn => ?_⟩
    have hle : m * sz ≤ len * sz := Nat.mul_le_mul_right _ hmn
    rcases hm with rfl | ⟨c, o, rfl, hm⟩
    · have h0 : m * sz = 0 := by omega
      have : l' = [] := List.eq_nil_of_length_eq_zero (by simpa using hlen)
      subst this
      refine ⟨#[], ?_, by simp [RepAll], by simp⟩
      cases a with
      | none => rfl
      | some a => simp only [Builtin.firstCells, h0]; rfl
    · have hs := ((hm.reads.sub hl).1.take (m * sz))
      obtain ⟨vs, h1, h2, h3⟩ := loadCells_run (E := E) hs
      refine ⟨vs, ?_, h2, h3⟩
      simp only [List.length_take, hlen, Nat.min_eq_left hle, Nat.add_zero] at h1
      exact h1
  · rename_i b off len esz cp
    split at h
    · rename_i cs hcs
      simp only [Option.map_eq_some_iff, Prod.mk.injEq] at h
      obtain ⟨l', hl, rfl, rfl, _⟩ := h
      obtain ⟨cap, rfl, h1, h2, h3, _⟩ := sl_rep hS hx hcs
      have hlen := (h3.reads.sub hl).2
      refine ⟨fun _ => rfl, hlen, fun m hmn => ?_⟩
      have hle : m * sz ≤ len * sz := Nat.mul_le_mul_right _ hmn
      have hs := ((h3.reads.sub hl).1.take (m * sz))
      obtain ⟨vs, h1, h2, h3⟩ := loadCells_run (E := E) hs
      refine ⟨vs, ?_, h2, h3⟩
      simp only [List.length_take, hlen, Nat.min_eq_left hle] at h1
      exact h1
    · simp at h
  · rename_i s
    split at h
    · rename_i hsz; subst hsz
      simp only [Option.some.injEq, Prod.mk.injEq] at h
      obtain ⟨rfl, rfl, _⟩ := h
      simp only [Rep] at hx
      obtain ⟨a, rfl, rfl⟩ := hx
      have e : a.data.toList.length = a.size := by rw [Array.length_toList]; rfl
      refine ⟨fun _ => by rw [e]; rfl, by simp [u8s], fun m hmn => ?_⟩
      refine ⟨(a.extract 0 m).data.map fun b => .int .u8 b.toNat, rfl, ?_, ?_⟩
      · have := (u8s_rep k a.data.toList).take (m * 1)
        have e2 : ((a.extract 0 m).data.map fun b => Value.int .u8 b.toNat).toList = (a.data.toList.map fun b => Value.int .u8 b.toNat).take m := by
          rw [Array.toList_map, List.map_take.symm]
          congr 1
          simp [ByteArray.extract, ByteArray.copySlice]
        rw [e2]
        simpa using this
      · intro y hy
        simp only [Array.toList_map, List.mem_map] at hy
        obtain ⟨b, _, rfl⟩ := hy
        rfl
    · simp at h
  · simp at h

/-- what an operation comes to -/
def OpRes (E : Env) (k : K) (S : St) (f : Nat) (g : G) (tmps : Array Value) (o : Oper) : Res → Prop
  | .val v _ ups S' => ∃ k' nx, OpOk E k S f g tmps (execOp (evT tmps) o) v ups S' k' nx
  | .laid cs => ∃ T vs, (execOp (evT tmps) o).run E.P k.w = .ok (.value (.pointer (some ⟨k.w.heap.size, 0, none⟩))) (k.w.alloc (.cells vs T)) ∧
      RepAll k cs vs.toList ∧ ∀ y ∈ vs.toList, y.oneCell' = true
  | .call fn args => ∃ cargs : Array Value, (execOp (evT tmps) o).run E.P k.w = (callFunc fn cargs).run E.P k.w ∧ RepAll k args cargs.toList
  | .yld l args => ∃ cargs : Array Value, (execOp (evT tmps) o).run E.P k.w = (Instr.yield (k.lo l) cargs).run E.P k.w ∧ k.own (k.lo l) = some (.loop l) ∧ RepAll k args cargs.toList

theorem OpRes.pureVal (hS : Sim E k S) (hF : FRep k f g tmps) {o : Oper} {r : Option Val} {res : Res} (h : pureVal r S = some res)
    (hr : ∀ v, r = some v → ∃ cv, (execOp (evT tmps) o).run E.P k.w = .ok (.value cv) k.w ∧ ValRep k g tmps v cv) : OpRes E k S f g tmps o res := by
  simp only [V.pureVal, Option.map_eq_some_iff] at h
  obtain ⟨v, h, rfl⟩ := h
  obtain ⟨cv, h1, h2⟩ := hr v h
  exact ⟨k, _, .pure hS hF h1 h2⟩

theorem OpRes.one (hS : Sim E k S) (hF : FRep k f g tmps) {o : Oper} {r : Option (Val × Cls)} {res : Res} (h : one r S = some res)
    (hr : ∀ v c, r = some (v, c) → ∃ cv, (execOp (evT tmps) o).run E.P k.w = .ok (.value cv) k.w ∧ ValRep k g tmps v cv) : OpRes E k S f g tmps o res := by
  simp only [V.one, Option.map_eq_some_iff] at h
  obtain ⟨⟨v, c⟩, h, rfl⟩ := h
  obtain ⟨cv, h1, h2⟩ := hr v c h
  exact ⟨k, _, .pure hS hF h1 h2⟩

theorem loadVar_run {t : TypeId} {d : TypeDesc} {n c o off : Nat} {cs : List Val} {v : Val} (hd : E.und t = some d) (hn : E.size t = some n)
    (hc : CellsRep k c o cs) (h : ofCells d cs off n = some v) : ∃ cv, (loadVar t ⟨c, o + off, none⟩).run E.P k.w = .ok cv k.w ∧ Rep k v cv := by
  unfold ofCells at h
  split at h
  · rename_i hag
    simp only [Option.map_eq_some_iff] at h
    obtain ⟨l, hl, rfl⟩ := h
    obtain ⟨h1, h2⟩ := hc.sub hl
    obtain ⟨vs, h3, h4, h5⟩ := loadCells_run (E := E) h1
    refine ⟨.agg vs, ?_, by simp only [Rep]; exact ⟨vs, rfl, h4, h5⟩⟩
    rw [h2] at h3
    simp [loadVar, run_agg hd, hag, run_size hn, h3]
  · rename_i hag
    obtain ⟨cv, h1, h2, h3⟩ := hc _ _ h
    refine ⟨cv, ?_, h3⟩
    simp [loadVar, run_agg hd, hag, h1]

theorem op_load (hS : Sim E k S) (hF : FRep k f g tmps) {c : Ctx} {o : Oper} {t : TypeId} {a : Operand} (ho : o.op = .load t a) {r : Res} (h : opV E c g S o = some r) :
    OpRes E k S f g tmps o r := by
  simp only [opV, ho] at h
  split at h
  · rename_i d n p hd hn hp
    split at h
    · rename_i cs hcs
      refine .one hS hF h fun v cl hv => ?_
      simp only [Option.map_eq_some_iff, Prod.mk.injEq] at hv
      obtain ⟨v', hv, rfl, _⟩ := hv
      have hp' := place_rep hS hF hp
      obtain ⟨cc, co, h1, h2⟩ := cellsAt_rep hS hF hp' hcs
      obtain ⟨cv, h3, h4⟩ := loadVar_run hd hn h2 hv
      refine ⟨cv, ?_, .of h4⟩
      simp [execOp, ho, Instr.loadAt, Instr.sureAddr, h1, h3]
    · simp at h
  · simp at h

theorem PlaceRep.add {p : Place} {c x : Nat} (h : PlaceRep k g tmps p (.pointer (some ⟨c, x, none⟩))) (n : Nat) :
    PlaceRep k g tmps (p.add n) (.pointer (some ⟨c, x + n, none⟩)) := by
  cases p with
  | inl cs off =>
    obtain ⟨c', o, e, h⟩ := h
    simp only [Value.pointer.injEq, Option.some.injEq, Addr.mk.injEq, and_true] at e
    obtain ⟨rfl, rfl⟩ := e
    exact ⟨c, o, by simp [Nat.add_assoc], h⟩
  | lcl t off =>
    intro cs hcs
    obtain ⟨c', h1, e⟩ := h cs hcs
    simp only [Value.pointer.injEq, Option.some.injEq, Addr.mk.injEq, and_true] at e
    obtain ⟨rfl, rfl⟩ := e
    exact ⟨c, h1, rfl⟩
  | hp b off e =>
    cases e with
    | none =>
      simp only [PlaceRep, Rep, Place.add, Value.pointer.injEq, Option.some.injEq, Addr.mk.injEq, and_true] at h ⊢
      exact ⟨h.1, h.2.1, by omega⟩
    | some e =>
      simp only [PlaceRep, Rep, Place.add] at h ⊢
      obtain ⟨n', q, h1, h2, h3, h4⟩ := h
      simp only [Value.pointer.injEq] at h3; subst h3
      refine ⟨n', _, h1, h2, rfl, fun e => ?_⟩
      have := h4 e
      simp only [Option.some.injEq, Addr.mk.injEq, and_true] at this ⊢
      exact ⟨this.1, by omega⟩

theorem add_addr {a : Addr} (h : a.spot = none) (n : Nat) : a.add n = ⟨a.block, a.off + n, none⟩ := by
  unfold Addr.add
  split
  · rename_i e; subst e; cases a; simp_all
  · rfl

theorem op_fieldAddr (hS : Sim E k S) (hF : FRep k f g tmps) {c : Ctx} {o : Oper} {t : TypeId} {x : Operand} {i : Nat} (ho : o.op = .fieldAddr t x i) {r : Res} (h : opV E c g S o = some r) :
    OpRes E k S f g tmps o r := by
  simp only [opV, ho] at h
  split at h
  · rename_i fd p hfd hp
    split at h
    · rename_i m cs hsz hcs
      refine .one hS hF h fun v cl hv => ?_
      simp only [Option.some.injEq, Prod.mk.injEq] at hv; obtain ⟨rfl, _⟩ := hv
      have hp' := place_rep hS hF hp
      obtain ⟨cc, co, h1, _⟩ := cellsAt_rep hS hF hp' hcs
      rw [h1] at hp'
      refine ⟨_, ?_, Place.val_rep (hp'.add fd.offset)⟩
      unfold fieldOf at hfd
      split at hfd
      · rename_i fs hu
        simp [execOp, ho, Instr.fieldAt, run_underlying hu, hfd, Instr.sureAddr, h1, fieldPlace, run_size hsz, Addr.add_mid]
      · simp at hfd
    · simp at h
  · simp at h

theorem op_indexAddr (hS : Sim E k S) (hF : FRep k f g tmps) {c : Ctx} {o : Oper} {t : TypeId} {x i : Operand} (ho : o.op = .indexAddr t x i) {r : Res} (h : opV E c g S o = some r) :
    OpRes E k S f g tmps o r := by
  simp only [opV, ho] at h
  split at h
  · rename_i q n hi
    have hi' := (ev_rep hS hF hi).1
    simp only [Rep] at hi'
    split at h
    · rename_i e hu
      split at h
      · rename_i sz cs len q' hsz hx
        split at h
        · rename_i hn
          refine .pureVal hS hF h fun v hv => ?_
          simp only [Option.some.injEq] at hv; subst hv
          have hx' := (ev_rep hS hF hx).1
          simp only [Rep] at hx'
          obtain ⟨a, cp, h1, h2, h3, h4, h5⟩ := hx'
          obtain ⟨cc, co, rfl, hm⟩ := h5.resolve_left (by omega)
          refine ⟨.pointer (some ⟨cc, co + n.toNat * sz, none⟩), ?_, .of (by simp only [Rep]; exact ⟨cc, co, rfl, hm⟩)⟩
          simp [execOp, ho, Instr.indexAt, asIntOf, hi', h1, run_underlying hu, hn.1, hn.2, run_size hsz, Addr.add_mid]
        · simp at h
      · rename_i sz b off len es cp hsz hx
        split at h
        · rename_i hn
          refine .one hS hF h fun v cl hv => ?_
          simp only [Option.some.injEq, Prod.mk.injEq] at hv; obtain ⟨rfl, _⟩ := hv
          obtain ⟨cs, hcs⟩ := Option.isSome_iff_exists.1 hn.2.2
          have hx' := (ev_rep hS hF hx).1
          obtain ⟨cap, h1, h2, h3, h4, h5⟩ := sl_rep hS hx' hcs
          refine ⟨.pointer (some ⟨(k.σ b).1, (k.σ b).2 + (off + n.toNat * sz), none⟩), ?_, ?_⟩
          · simp [execOp, ho, Instr.indexAt, asIntOf, hi', h1, run_underlying hu, hn.1, hn.2.1, run_size hsz, Addr.add_mid, Nat.add_assoc]
          · apply ValRep.of
            obtain ⟨hb, hlen⟩ := hcells_some hcs
            have hsh : k.sh b = some (.cells cp.ext.isSome cs.length) := by rw [hS.sh, hb]; rfl
            cases cp with
            | fix c => simp only [Cap.ext, Rep]; exact ⟨⟨_, hsh⟩, trivial⟩
            | flex e' => simp only [Cap.ext, Rep]; exact ⟨_, _, hsh, by rw [hlen e' rfl]; exact Nat.le_refl _, rfl, fun _ => rfl⟩
        · simp at h
      · simp at h
    · rename_i len e hu
      split at h
      · rename_i sz p hsz hp
        split at h
        · rename_i hn
          refine .one hS hF h fun v cl hv => ?_
          simp only [Option.some.injEq, Prod.mk.injEq] at hv; obtain ⟨rfl, _⟩ := hv
          obtain ⟨cs, hcs⟩ := Option.isSome_iff_exists.1 hn.2.2
          have hp' := place_rep hS hF hp
          obtain ⟨cc, co, h1, _⟩ := cellsAt_rep hS hF hp' hcs
          rw [h1] at hp'
          refine ⟨_, ?_, Place.val_rep (hp'.add (n.toNat * sz))⟩
          simp [execOp, ho, Instr.indexAt, asIntOf, hi', h1, run_underlying hu, Instr.sureAddr, hn.1, hn.2.1, run_size hsz, Addr.add_mid]
        · simp at h
      · simp at h
    · simp at h
  · simp at h
end
end Go.V

/- More operations that read. -/
namespace Go.V
section
variable {E : Env} {k : K} {S : St} {f : Nat} {g : G} {tmps : Array Value} {w : World}

theorem op_move (hS : Sim E k S) (hF : FRep k f g tmps) {c : Ctx} {o : Oper} {x : Operand} (ho : o.op = .move x ∨ o.op = .assign x) {r : Res} (h : opV E c g S o = some r) :
    OpRes E k S f g tmps o r := by
  have h' : pureVal (ev E g x) S = some r := by rcases ho with ho | ho <;> simpa only [opV, ho] using h
  refine .pureVal hS hF h' fun v hv => ⟨evT tmps x, ?_, .of (ev_rep hS hF hv).1⟩
  rcases ho with ho | ho <;> simp [execOp, ho]

theorem op_pick (hS : Sim E k S) (hF : FRep k f g tmps) {c : Ctx} {o : Oper} {q a b : Operand} (ho : o.op = .pick q a b) {r : Res} (h : opV E c g S o = some r) :
    OpRes E k S f g tmps o r := by
  simp only [opV, ho] at h
  split at h
  · rename_i t ht
    have ht' := (ev_rep hS hF ht).1
    simp only [Rep] at ht'
    refine .pureVal hS hF h fun v hv => ⟨evT tmps (if t then a else b), ?_, .of (ev_rep hS hF hv).1⟩
    cases t <;> simp [execOp, ho, ht', asBool]
  · simp at h

theorem op_nilCheck (hS : Sim E k S) (hF : FRep k f g tmps) {c : Ctx} {o : Oper} {x : Operand} (ho : o.op = .nilCheck x) {r : Res} (h : opV E c g S o = some r) :
    OpRes E k S f g tmps o r := by
  simp only [opV, ho] at h
  split at h
  · rename_i p hp
    split at h
    · rename_i hc
      obtain ⟨cs, hcs⟩ := Option.isSome_iff_exists.1 hc
      refine .one hS hF h fun v cl hv => ?_
      simp only [Option.some.injEq, Prod.mk.injEq] at hv; obtain ⟨rfl, _⟩ := hv
      have hp' := place_rep hS hF hp
      obtain ⟨cc, co, h1, _⟩ := cellsAt_rep hS hF hp' hcs
      refine ⟨_, ?_, Place.val_rep hp'⟩
      simp [execOp, ho, h1]
    · simp at h
  · split at h
    · rename_i hv
      refine .pureVal hS hF h fun v hv' => ?_
      simp only [Option.some.injEq] at hv'; subst hv'
      have hx := (ev_rep hS hF hv).1
      have hx' := hx
      simp only [Rep] at hx'
      obtain ⟨a, h1, _⟩ := hx'
      exact ⟨evT tmps x, by simp [execOp, ho, h1], .of hx⟩
    · rename_i hv
      refine .pureVal hS hF h fun v hv' => ?_
      simp only [Option.some.injEq] at hv'; subst hv'
      have hx := (ev_rep hS hF hv).1
      have hx' := hx
      simp only [Rep] at hx'
      exact ⟨evT tmps x, by simp [execOp, ho, hx'.2], .of hx⟩
    · simp at h

theorem op_binOp (hS : Sim E k S) (hF : FRep k f g tmps) {c : Ctx} {o : Oper} {op : BinOp} {t u : TypeId} {x y : Operand} (ho : o.op = .binOp op t x y u) {r : Res} (h : opV E c g S o = some r) :
    OpRes E k S f g tmps o r := by
  simp only [opV, ho] at h
  split at h
  · rename_i a b ha hb
    refine .pureVal hS hF h fun v hv => ?_
    obtain ⟨cv, h1, h2⟩ := binOp_run (w := k.w) (ox := x) (oy := y) hv (ev_rep hS hF ha).1 (ev_rep hS hF hb).1
    refine ⟨cv, ?_, .of h2⟩
    simp only [execOp, ho, Sem.run_bind] at h1 ⊢
    rw [h1]; rfl
  · simp at h

theorem op_unOp (hS : Sim E k S) (hF : FRep k f g tmps) {c : Ctx} {o : Oper} {op : UnOp} {t : TypeId} {x : Operand} (ho : o.op = .unOp op t x) {r : Res} (h : opV E c g S o = some r) :
    OpRes E k S f g tmps o r := by
  simp only [opV, ho] at h
  split at h
  · rename_i a ha
    refine .pureVal hS hF h fun v hv => ?_
    obtain ⟨cv, h1, h2⟩ := unOp_run (E := E) (w := k.w) hv (ev_rep hS hF ha).1
    exact ⟨cv, by simp [execOp, ho, h1], .of h2⟩
  · simp at h

theorem op_field (hS : Sim E k S) (hF : FRep k f g tmps) {c : Ctx} {o : Oper} {t : TypeId} {x : Operand} {i : Nat} (ho : o.op = .field t x i) {r : Res} (h : opV E c g S o = some r) :
    OpRes E k S f g tmps o r := by
  simp only [opV, ho] at h
  split at h
  · rename_i fd cs hfd hx
    split at h
    · rename_i d n hd hn
      refine .pureVal hS hF h fun v hv => ?_
      have hx' := (ev_rep hS hF hx).1
      simp only [Rep] at hx'
      obtain ⟨a, h1, h2, h3⟩ := hx'
      obtain ⟨cv, h4, h5⟩ := part_run (w := k.w) hd hn h2 h3 hv
      refine ⟨cv, ?_, .of h5⟩
      unfold fieldOf at hfd
      split at hfd
      · rename_i fs hu
        simp [execOp, ho, Instr.field, run_underlying hu, hfd, h1, asAgg, h4]
      · simp at hfd
    · simp at h
  · simp at h

theorem op_extract (hS : Sim E k S) (hF : FRep k f g tmps) {c : Ctx} {o : Oper} {x : Operand} {i : Nat} (ho : o.op = .extract x i) {r : Res} (h : opV E c g S o = some r) :
    OpRes E k S f g tmps o r := by
  simp only [opV, ho] at h
  split at h
  · rename_i vs hx
    refine .pureVal hS hF h fun v hv => ?_
    have hx' := (ev_rep hS hF hx).1
    simp only [Rep] at hx'
    obtain ⟨a, h1, h2⟩ := hx'
    obtain ⟨cv, h3, h4⟩ := h2.get hv
    refine ⟨cv, ?_, .of h4⟩
    have h3' : a[i]? = some cv := by rw [← Array.getElem?_toList]; exact h3
    simp [execOp, ho, Instr.extract, h1, h3']
  · simp at h

theorem op_index (hS : Sim E k S) (hF : FRep k f g tmps) {c : Ctx} {o : Oper} {t : TypeId} {x i : Operand} (ho : o.op = .index t x i) {r : Res} (h : opV E c g S o = some r) :
    OpRes E k S f g tmps o r := by
  simp only [opV, ho] at h
  split at h
  · rename_i q n hi
    have hi' := (ev_rep hS hF hi).1
    simp only [Rep] at hi'
    split at h
    · rename_i s hu hx
      have hx' := (ev_rep hS hF hx).1
      simp only [Rep] at hx'
      obtain ⟨a, h1, h2⟩ := hx'
      split at h
      · rename_i hn
        refine .pureVal hS hF h fun v hv => ?_
        simp only [Option.map_eq_some_iff] at hv
        obtain ⟨b, hb, rfl⟩ := hv
        refine ⟨.int .u8 b.toNat, ?_, .of rep_int⟩
        have hb' : a[n.toNat]? = some b := by
          rw [← h2] at hb
          obtain ⟨hlt, hb⟩ := List.getElem?_eq_some_iff.1 hb
          have e : a.data.toList.length = a.size := by rw [Array.length_toList]; rfl
          rw [e] at hlt
          rw [getElem?_pos a n.toNat hlt, ← hb]
          simp [ByteArray.getElem_eq_getElem_data]
        simp [execOp, ho, Instr.index, asIntOf, hi', h1, run_underlying hu, hn, hb']
      · simp at h
    · rename_i len e cs hu hx
      split at h
      · rename_i d sz hd hsz
        split at h
        · rename_i hn
          refine .pureVal hS hF h fun v hv => ?_
          have hx' := (ev_rep hS hF hx).1
          simp only [Rep] at hx'
          obtain ⟨a, h1, h2, h3⟩ := hx'
          obtain ⟨cv, h4, h5⟩ := part_run (w := k.w) hd hsz h2 h3 hv
          exact ⟨cv, by simp [execOp, ho, Instr.index, asIntOf, hi', h1, run_underlying hu, hn.1, hn.2, run_size hsz, h4], .of h5⟩
        · simp at h
      · simp at h
    · simp at h
  · simp at h

theorem bound_run (hS : Sim E k S) (hF : FRep k f g tmps) {o : Option Operand} {r : Option Nat} (h : bound E g o = some r) :
    (r = none ∧ o = none) ∨ ∃ x q n, o = some x ∧ r = some n ∧ evT tmps x = .int q (n : Int) := by
  unfold bound at h
  split at h
  · simp only [Option.some.injEq] at h; subst h; exact .inl ⟨rfl, rfl⟩
  · rename_i x
    split at h
    · rename_i q n hx
      split at h
      · rename_i hn
        simp only [Option.some.injEq] at h; subst h
        have hx' := (ev_rep hS hF hx).1
        simp only [Rep] at hx'
        exact .inr ⟨x, q, n.toNat, rfl, rfl, by rw [hx', Int.toNat_of_nonneg hn]⟩
      · simp at h
    · simp at h

theorem sliceBounds_run (hS : Sim E k S) (hF : FRep k f g tmps) {lo hi mx : Option Operand} {l h m : Option Nat} (hl : bound E g lo = some l) (hh : bound E g hi = some h) (hm : bound E g mx = some m)
    (isS : Bool) {len cap : Nat} (h1 : l.getD 0 ≤ h.getD len) (h2 : h.getD len ≤ m.getD cap) (h3 : m.getD cap ≤ cap) (h4 : m = none ∨ h.isSome = true) (w : World) :
    (Instr.sliceBounds isS len cap (lo.map (evT tmps)) (hi.map (evT tmps)) (mx.map (evT tmps))).run E.P w = .ok (l.getD 0, h.getD len, m.getD cap) w := by
  have hb : ∀ {q : IntKind} {n y : Nat} {code : BoundsCode}, n ≤ y → (Instr.sliceBound (.int q (n : Int)) y code).run E.P w = .ok n w := by
    intro q n y code hn
    have : (n : Int) ≤ (y : Int) := by omega
    simp [Instr.sliceBound, asIntOf, this]
  rcases bound_run hS hF hl with ⟨rfl, rfl⟩ | ⟨x, q, n, rfl, rfl, e1⟩ <;>
  rcases bound_run hS hF hh with ⟨rfl, rfl⟩ | ⟨x', q', n', rfl, rfl, e2⟩ <;>
  rcases bound_run hS hF hm with ⟨rfl, rfl⟩ | ⟨x'', q'', n'', rfl, rfl, e3⟩ <;>
  simp only [Option.getD_none, Option.getD_some, Option.map_none, Option.map_some, reduceCtorEq, Option.isSome_none, Option.isSome_some, Bool.false_eq_true, or_self, or_true, true_or] at h1 h2 h3 h4 ⊢ <;>
  simp only [Instr.sliceBounds, Sem.run_bind, Sem.run_pure, Result.andThen_ok, *, hb h1, hb h2, hb h3]
end
end Go.V

/- Slices, conversions, literals. -/
namespace Go.V
section
variable {E : Env} {k : K} {S : St} {f : Nat} {g : G} {tmps : Array Value} {w : World}

theorem RepMem.cut {c o : Nat} {cs l : List Val} {off n : Nat} (h : RepMem k c o cs) (hl : V.cut cs off n = some l) : RepMem k c (o + off) l := by
  unfold V.cut at hl
  split at hl
  · simp only [Option.some.injEq] at hl; subst hl
    refine RepMem.mk fun i x hi => ?_
    rw [List.getElem?_take] at hi
    split at hi
    · rw [List.getElem?_drop] at hi
      rw [show o + off + i = o + (off + i) by omega]
      exact h.get hi
    · simp at hi
  · simp at hl

theorem op_slice (hS : Sim E k S) (hF : FRep k f g tmps) {c : Ctx} {o : Oper} {t : TypeId} {x : Operand} {lo hi mx : Option Operand} (ho : o.op = .slice t x lo hi mx) {r : Res} (h : opV E c g S o = some r) :
    OpRes E k S f g tmps o r := by
  simp only [opV, ho] at h
  refine .one hS hF h fun v cl hv => ?_
  unfold sliceOp at hv
  split at hv
  · -- a string
    rename_i l hh hl hhi hmx hu
    split at hv
    · rename_i s hx
      have hx' := (ev_rep hS hF hx).1
      simp only [Rep] at hx'
      obtain ⟨a, h1, h2⟩ := hx'
      split at hv
      · rename_i hb
        simp only [Option.some.injEq, Prod.mk.injEq] at hv
        obtain ⟨rfl, _⟩ := hv
        have e : s.length = a.size := by rw [← h2, Array.length_toList]; rfl
        have hbr := sliceBounds_run hS hF hl hhi hmx false (len := a.size) (cap := a.size) (by rw [← e]; exact hb.1) (by rw [← e]; exact hb.2) (Nat.le_refl _) (.inl rfl) k.w
        have hmn : mx = none := by
          rcases bound_run hS hF hmx with ⟨_, h⟩ | ⟨_, _, _, _, h, _⟩
          · exact h
          · simp at h
        subst hmn
        refine ⟨.string (a.extract (l.getD 0) (hh.getD a.size)), ?_, .of ?_⟩
        · have hu' : ∀ w, (underlying t).run E.P w = .ok .string w := fun w => run_underlying hu w
          simp only [Option.map_none] at hbr
          simp [execOp, ho, Instr.sliceAt, Instr.slice, hu', h1, hbr]
        · simp only [Rep]
          refine ⟨_, rfl, ?_⟩
          rw [← e, ← h2]
          simp [ByteArray.extract, ByteArray.copySlice]
      · simp at hv
    · simp at hv
  · -- a slice
    rename_i l hh m e hl hhi hmx hu
    have hu' : ∀ w, (underlying t).run E.P w = .ok (.slice e) w := fun w => run_underlying hu w
    split at hv
    · -- in the heap, fixed
      rename_i sz b off len esz cp hsz hx
      have hx' := (ev_rep hS hF hx).1
      simp only [Rep] at hx'
      obtain ⟨h0, h1, h2⟩ := hx'
      split at hv
      · rename_i hb
        simp only [Option.some.injEq, Prod.mk.injEq] at hv
        obtain ⟨rfl, _⟩ := hv
        obtain ⟨hb1, hb2, hb3, hb4, hb5⟩ := hb
        have hbr := sliceBounds_run hS hF hl hhi hmx true (len := len) (cap := cp) hb1 hb2 hb3 hb5 k.w
        have hne : m.getD cp ≠ l.getD 0 := by omega
        refine ⟨.slice (some ⟨(k.σ b).1, (k.σ b).2 + (off + l.getD 0 * sz), none⟩) (hh.getD len - l.getD 0) (m.getD cp - l.getD 0), ?_, .of ?_⟩
        · simp [execOp, ho, Instr.sliceAt, Instr.slice, hu', h1, hbr, run_size hsz, hne, Addr.add_mid, Nat.add_assoc]
        · simp only [Rep]
          exact ⟨h0, trivial, by omega⟩
      · simp at hv
    · rename_i sz b off len esz e' hsz hx
      have hx' := (ev_rep hS hF hx).1
      split at hv
      · rename_i hb
        obtain ⟨rfl, hb1, hb2, hb3, rfl, hb6⟩ := hb
        simp only [Option.some.injEq, Prod.mk.injEq] at hv
        obtain ⟨rfl, _⟩ := hv
        obtain ⟨cs, hcs⟩ := Option.isSome_iff_exists.1 hb6
        obtain ⟨cap, h1, h2, h3, h4, h5⟩ := sl_rep hS hx' hcs
        have hbr := sliceBounds_run hS hF hl hhi hmx true (len := len) (cap := cap) hb1 (by simp; omega) (by simp) (.inl rfl) k.w
        have hne : cap ≠ l.getD 0 ∨ l.getD 0 = 0 := by omega
        refine ⟨.slice (some ⟨(k.σ b).1, (k.σ b).2 + (off + l.getD 0 * esz), none⟩) (hh.getD len - l.getD 0) (cap - l.getD 0), ?_, .of ?_⟩
        · simp only [Option.getD_none] at hbr
          rcases hne with hne | h0
          · simp [execOp, ho, Instr.sliceAt, Instr.slice, hu', h1, hbr, run_size hsz, hne, Addr.add_mid, Nat.add_assoc]
          · simp only [h0, Nat.zero_mul, Nat.add_zero, Nat.sub_zero] at hbr ⊢
            simp [execOp, ho, Instr.sliceAt, Instr.slice, hu', h1, hbr, run_size hsz, Addr.add_mid]
        · simp only [Rep] at hx' ⊢
          obtain ⟨n, p, cap', q1, q2, q3, q4⟩ := hx'
          refine ⟨n, _, _, q1, q2, rfl, fun en => ⟨rfl, ?_⟩⟩
          rw [h1] at q3
          simp only [Value.slice.injEq, true_and] at q3
          obtain ⟨_, rfl⟩ := q3
          obtain ⟨_, q5, q6, q7⟩ := q4 en
          rw [Nat.sub_mul]
          have : l.getD 0 * esz ≤ cap * esz := Nat.mul_le_mul_right _ (by omega)
          omega
      · split at hv
        · rename_i hb
          obtain ⟨hb1, hb2, rfl, hb6⟩ := hb
          simp only [Option.some.injEq, Prod.mk.injEq] at hv
          obtain ⟨rfl, _⟩ := hv
          obtain ⟨cs, hcs⟩ := Option.isSome_iff_exists.1 hb6
          obtain ⟨cap, h1, h2, h3, h4, h5⟩ := sl_rep hS hx' hcs
          have hbr := sliceBounds_run hS hF hl hhi hmx true (len := len) (cap := cap) (by omega) (by simp; omega) (by simp) (.inl rfl) k.w
          simp only [Option.getD_none] at hbr
          refine ⟨.slice (if cap = l.getD 0 then some ⟨(k.σ b).1, (k.σ b).2 + off, none⟩ else some ⟨(k.σ b).1, (k.σ b).2 + (off + l.getD 0 * sz), none⟩) (hh.getD len - l.getD 0) (cap - l.getD 0), ?_, .of ?_⟩
          · by_cases hc : cap = l.getD 0
            · subst hc
              simp [execOp, ho, Instr.sliceAt, Instr.slice, hu', h1, hbr, run_size hsz]
            · simp [execOp, ho, Instr.sliceAt, Instr.slice, hu', h1, hbr, run_size hsz, hc, Addr.add_mid, Nat.add_assoc]
          · simp only [Rep]
            exact ⟨_, _, by rw [hb1, Nat.sub_self], Nat.zero_le _, by simp, ⟨by simp, fun _ => by split <;> rfl⟩, .inl trivial⟩
        · simp at hv
    · -- inline
      rename_i sz cs len q hsz hx
      have hx' := (ev_rep hS hF hx).1
      simp only [Rep] at hx'
      obtain ⟨a, cp, h1, h2, h3, h4, h5⟩ := hx'
      split at hv
      · rename_i hb
        obtain ⟨hb1, hb2, hb3, hb4⟩ := hb
        simp only [Option.map_eq_some_iff, Prod.mk.injEq] at hv
        obtain ⟨cs', hcs', rfl, _⟩ := hv
        have hm3 : hh.getD len ≤ m.getD cp ∧ m.getD cp ≤ cp := by
          cases m with
          | none => simp; omega
          | some m' =>
            obtain rfl : hh = some m' := by simpa using hb3
            simp only [Option.getD_some] at hb2 ⊢
            exact ⟨Nat.le_refl _, by omega⟩
        have hbr := sliceBounds_run hS hF hl hhi hmx true (len := len) (cap := cp) hb1 hm3.1 hm3.2 hb4 k.w
        refine ⟨.slice (if m.getD cp = l.getD 0 then a else a.map (·.add (l.getD 0 * sz))) (hh.getD len - l.getD 0) (m.getD cp - l.getD 0), ?_, .of ?_⟩
        · simp [execOp, ho, Instr.sliceAt, Instr.slice, hu', h1, hbr, run_size hsz]
        · simp only [Rep]
          refine ⟨_, _, rfl, by omega, ?_, ⟨?_, ?_⟩, ?_⟩
          · intro hq
            split at hq
            · rename_i hq'
              obtain ⟨rfl, rfl⟩ := h3 hq'
              exact ⟨by simp, by omega⟩
            · split at hq <;> simp at hq
          · intro hq
            split at hq
            · simp at hq
            · split at hq
              · rename_i hx
                rcases hx with ⟨rfl, hx0, hx2⟩ | ⟨hx1, hx2⟩
                · obtain ⟨z, hz⟩ := Option.isSome_iff_exists.1 hx0
                  rw [hz]; rfl
                · have this := h4.1 hx1
                  cases m with
                  | none => simp only [Option.getD_none]; omega
                  | some m' =>
                    obtain rfl : hh = some m' := by simpa using hb3
                    rfl
              · simp at hq
          · intro hq
            have hqn : q ≠ .nil := fun e => hq (by rw [if_pos e])
            have hsome := h4.2 hqn
            split
            · exact hsome
            · simp [hsome]
          · rcases h5 with h5 | ⟨c, o', rfl, hm⟩
            · left; omega
            · rcases Nat.eq_zero_or_pos (hh.getD len - l.getD 0) with hz | hz
              · exact .inl hz
              · right
                have hne : m.getD cp ≠ l.getD 0 := by omega
                refine ⟨c, o' + l.getD 0 * sz, ?_, hm.cut hcs'⟩
                simp [hne, Addr.add_mid]
      · simp at hv
    · simp at hv
  · -- an array behind an address
    rename_i l hh n e hl hhi hmx hu
    have hu' : ∀ w, (underlying t).run E.P w = .ok (.array n e) w := fun w => run_underlying hu w
    have hmn : mx = none := by
      rcases bound_run hS hF hmx with ⟨_, h⟩ | ⟨_, _, _, _, h, _⟩
      · exact h
      · simp at h
    subst hmn
    split at hv
    · rename_i sz b off hsz hp
      have hp' := place_rep hS hF hp
      simp only [PlaceRep, Rep] at hp'
      obtain ⟨h0, h1⟩ := hp'
      split at hv
      · rename_i hb
        simp only [Option.some.injEq, Prod.mk.injEq] at hv
        obtain ⟨rfl, _⟩ := hv
        have hbr := sliceBounds_run hS hF hl hhi hmx false (len := n) (cap := n) hb.1 (by simpa using hb.2.1) (by simp) (.inl rfl) k.w
        have hne : n ≠ l.getD 0 := by omega
        refine ⟨.slice (some ⟨(k.σ b).1, (k.σ b).2 + (off + l.getD 0 * sz), none⟩) (hh.getD n - l.getD 0) (n - l.getD 0), ?_, .of ?_⟩
        · simp only [Option.map_none, Option.getD_none] at hbr
          simp [execOp, ho, Instr.sliceAt, hu', h1, Instr.sureAddr, hbr, run_size hsz, hne, Addr.add_mid, Nat.add_assoc]
        · simp only [Rep]
          exact ⟨h0, trivial, by omega⟩
      · simp at hv
    · rename_i sz cs off hsz hp
      have hp' := place_rep hS hF hp
      obtain ⟨c, o', h1, hm⟩ := hp'
      split at hv
      · rename_i hb
        simp only [Option.map_eq_some_iff, Prod.mk.injEq] at hv
        obtain ⟨cs', hcs', rfl, _⟩ := hv
        have hbr := sliceBounds_run hS hF hl hhi hmx false (len := n) (cap := n) hb.1 (by simpa using hb.2.1) (by simp) (.inl rfl) k.w
        have hne : n ≠ l.getD 0 := by omega
        refine ⟨.slice (some ⟨c, o' + (off + l.getD 0 * sz), none⟩) (hh.getD n - l.getD 0) (n - l.getD 0), ?_, .of ?_⟩
        · simp only [Option.map_none, Option.getD_none] at hbr
          simp [execOp, ho, Instr.sliceAt, hu', h1, Instr.sureAddr, hbr, run_size hsz, hne, Addr.add_mid, Nat.add_assoc]
        · simp only [Rep]
          exact ⟨_, _, rfl, by omega, by simp, by simp, .inr ⟨c, _, rfl, hm.cut hcs'⟩⟩
      · simp at hv
    · simp at hv
  · simp at hv
end
end Go.V

/- Literals of structs, arrays and slices. -/
namespace Go.V
section
variable {E : Env} {k : K} {S : St} {f : Nat} {g : G} {tmps : Array Value} {w : World}

theorem foldl_set (off : Nat) : ∀ (l : List Value) (j : Nat) (a : Array Value), off + j + l.length ≤ a.size →
    ((l.zipIdx j).foldl (fun (cs : Array Value) (x : Value × Nat) => cs.setIfInBounds (off + x.2) x.1) a).toList = a.toList.take (off + j) ++ l ++ a.toList.drop (off + j + l.length)
  | [], j, a, _ => by simp
  | v :: l, j, a, h => by
    simp only [List.length_cons] at h
    rw [List.zipIdx_cons, List.foldl_cons, foldl_set off l (j + 1) _ (by simp; omega)]
    simp only [Array.toList_setIfInBounds, List.length_cons]
    rw [List.drop_set_of_lt (by omega), show off + (j + 1) = off + j + 1 by omega]
    rw [List.take_succ_eq_append_getElem (by simp; omega)]
    rw [List.take_set_of_le (by omega)]
    simp
    congr 1; omega

theorem over_rep {cs new cs' : List Val} {off : Nat} {a b : List Value} (h : RepAll k cs a) (h' : RepAll k new b) (ho : over cs off new = some cs') :
    RepAll k cs' (a.take off ++ b ++ a.drop (off + b.length)) ∧ off + b.length ≤ a.length := by
  unfold over at ho
  split at ho
  · rename_i hl
    simp only [Option.some.injEq] at ho; subst ho
    have e1 := h.length
    have e2 := h'.length
    rw [e2]
    exact ⟨((h.take off).append h').append (h.drop _), by omega⟩
  · simp at ho

theorem fill_run {place : Nat → Option (Nat × Nat)} : ∀ {parts : List (Nat × Val)} {cparts : List (Nat × Value)} {cs cs' : List Val} {a : Array Value},
    fillAt place cs parts = some cs' → RepAll k cs a.toList → (∀ x ∈ a.toList, x.oneCell' = true) →
    parts.map (·.1) = cparts.map (·.1) → RepAll k (parts.map (·.2)) (cparts.map (·.2)) →
    ∃ a', Instr.fill place a cparts = some a' ∧ RepAll k cs' a'.toList ∧ ∀ x ∈ a'.toList, x.oneCell' = true
  | [], [], cs, cs', a, h, hr, h1, _, _ => by
    simp only [fillAt, Option.some.injEq] at h; subst h
    exact ⟨a, rfl, hr, h1⟩
  | (i, v) :: parts, (j, c) :: cparts, cs, cs', a, h, hr, h1, hi, hp => by
    simp only [List.map_cons, List.cons.injEq, RepAll] at hi hp
    obtain ⟨rfl, hi⟩ := hi
    simp only [fillAt] at h
    split at h
    · rename_i off size hpl
      split at h
      · rename_i hs
        split at h
        · rename_i cs1 hov
          obtain ⟨hc, hc1⟩ := hp.1.cells hs.2
          obtain ⟨h2, h3⟩ := over_rep hr hc hov
          have e := hc.length
          have hsz : c.cells.size = size := by rw [← hs.1, e]; simp
          have hfit : ¬ (off + c.cells.size > a.size) := by simp at h3; omega
          let a2 := c.cells.zipIdx.foldl (fun (cs : Array Value) (x : Value × Nat) => cs.setIfInBounds (off + x.2) x.1) a
          have ha2 : a2.toList = a.toList.take off ++ c.cells.toList ++ a.toList.drop (off + c.cells.toList.length) := by
            have := foldl_set off c.cells.toList 0 a (by simp at h3 ⊢; omega)
            simp only [Nat.add_zero] at this
            rw [← this]
            show (c.cells.zipIdx.foldl _ a).toList = _
            rw [← Array.foldl_toList, Array.toList_zipIdx]
          obtain ⟨a', h4, h5, h6⟩ := fill_run (a := a2) h (by rw [ha2]; exact h2) (by
            rw [ha2]
            intro x hx
            simp only [List.mem_append] at hx
            rcases hx with (hx | hx) | hx
            · exact h1 x (List.mem_of_mem_take hx)
            · exact hc1 x hx
            · exact h1 x (List.mem_of_mem_drop hx)) hi hp.2
          refine ⟨a', ?_, h5, h6⟩
          simp only [Instr.fill, hpl, hsz, ne_eq, not_true_eq_false, decide_false, Bool.false_or, decide_eq_true_eq]
          rw [if_neg (by rw [← hsz]; exact hfit)]
          exact h4
        · simp at h
      · simp at h
    · simp at h
  | [], _ :: _, _, _, _, _, _, _, hi, _ => by simp at hi
  | _ :: _, [], _, _, _, _, _, _, hi, _ => by simp at hi

theorem evParts_rep (hS : Sim E k S) (hF : FRep k f g tmps) : ∀ {l : List (Nat × Operand)} {ps : List (Nat × Val)}, evParts E g l = some ps →
    ps.map (·.1) = (l.map fun x => (x.1, evT tmps x.2)).map (·.1) ∧ RepAll k (ps.map (·.2)) ((l.map fun x => (x.1, evT tmps x.2)).map (·.2))
  | [], ps, h => by simp only [evParts, Option.some.injEq] at h; subst h; simp [RepAll]
  | (i, o) :: l, ps, h => by
    simp only [evParts] at h
    split at h
    · rename_i v r hv hr
      simp only [Option.some.injEq] at h; subst h
      obtain ⟨h1, h2⟩ := evParts_rep hS hF hr
      simp only [List.map_cons, List.cons.injEq, true_and, RepAll]
      exact ⟨h1, (ev_rep hS hF hv).1, h2⟩
    · simp at h

theorem zero_run {t : TypeId} {z : List Val} (h : zeroCells E t = some z) (k : K) : ∃ zv : Value, (∀ w, (zeroValue t).run E.P w = .ok zv w) ∧ RepAll k z zv.cells.toList ∧ ∀ x ∈ zv.cells.toList, x.oneCell' = true := by
  unfold zeroCells at h
  split at h
  · rename_i i hi
    split at h
    · rename_i zv hz
      simp only [Option.map_eq_some_iff] at h
      obtain ⟨v, hv, rfl⟩ := h
      obtain ⟨h1, h2⟩ := (ofConst_rep (k := k) hv).cells (ofConst_sto hv)
      exact ⟨zv, fun w => by simp [zeroValue, typeInfo, hi, hz], h1, h2⟩
    · simp at h
  · simp at h

theorem places_run : ∀ {fs : List Field} {pl : List (Nat × Nat)}, placesOf E fs = some pl → ∀ w, (fs.mapM fun f => do pure (f.offset, ← sizeOf f.type) : Sem (List (Nat × Nat))).run E.P w = .ok pl w
  | [], pl, h, w => by simp only [placesOf, Option.some.injEq] at h; subst h; simp
  | fd :: l, pl, h, w => by
    simp only [placesOf] at h
    split at h
    · rename_i n r hn hr
      simp only [Option.some.injEq] at h; subst h
      rw [List.mapM_cons]
      simp only [Sem.run_bind, run_size hn, Result.andThen_ok, Sem.run_pure, places_run hr w]
    · simp at h

theorem op_build (hS : Sim E k S) (hF : FRep k f g tmps) {c : Ctx} {o : Oper} {t : TypeId} {parts : Array (Nat × Operand)} (ho : o.op = .build t parts) {r : Res} (h : opV E c g S o = some r) :
    OpRes E k S f g tmps o r := by
  simp only [opV, ho] at h
  split at h
  · rename_i z ps hz hps
    obtain ⟨zv, hz1, hz2, hz3⟩ := zero_run hz k
    obtain ⟨hp1, hp2⟩ := evParts_rep hS hF hps
    have hpt : (parts.map fun (i, x) => (i, evT tmps x)).toList = parts.toList.map fun x => (x.1, evT tmps x.2) := by simp
    split at h
    · rename_i fs hu
      split at h
      · rename_i pl hpl
        refine .pureVal hS hF h fun v hv => ?_
        simp only [Option.map_eq_some_iff] at hv
        obtain ⟨cs, hcs, rfl⟩ := hv
        obtain ⟨a', h1, h2, h3⟩ := fill_run hcs hz2 hz3 hp1 hp2
        refine ⟨.agg a', ?_, .of (by simp only [Rep]; exact ⟨a', rfl, h2, h3⟩)⟩
        have hm : (fs.mapM fun f => do pure (f.offset, ← sizeOf f.type) : Sem (Array (Nat × Nat))).run E.P k.w = .ok pl.toArray k.w := by
          rw [Array.mapM_eq_mapM_toList, Sem.run_map, places_run hpl k.w]
          rfl
        have hfn : (fun i : Nat => pl.toArray[i]?) = fun i : Nat => pl[i]? := by funext i; simp
        simp only [execOp, ho, Instr.build, Sem.run_bind, hz1, Result.andThen_ok, run_underlying hu, hm, hpt, hfn, h1]
        rfl
      · simp at h
    · rename_i n e hu
      split at h
      · rename_i sz hsz
        refine .pureVal hS hF h fun v hv => ?_
        simp only [Option.map_eq_some_iff] at hv
        obtain ⟨cs, hcs, rfl⟩ := hv
        obtain ⟨a', h1, h2, h3⟩ := fill_run hcs hz2 hz3 hp1 hp2
        refine ⟨.agg a', ?_, .of (by simp only [Rep]; exact ⟨a', rfl, h2, h3⟩)⟩
        simp only [execOp, ho, Instr.build, Sem.run_bind, hz1, Result.andThen_ok, run_underlying hu, run_size hsz, hpt, h1]
        rfl
      · simp at h
    · simp at h
  · simp at h

theorem repeat_length (z : List Val) : ∀ n, (repeatCells z n).length = n * z.length
  | 0 => by simp [repeatCells]
  | n + 1 => by simp [repeatCells, repeat_length z n, Nat.add_mul]; omega

/-- zero cells, so many times -/
theorem repeat_rep {z : List Val} {zs : Array Value} (h : RepAll k z zs.toList) : ∀ n, RepAll k (repeatCells z n) ((List.range (n * zs.size)).map fun i => zs[i % zs.size]!)
  | 0 => by simp [repeatCells, RepAll]
  | n + 1 => by
    have e : (List.range ((n + 1) * zs.size)).map (fun i => zs[i % zs.size]!) = zs.toList ++ (List.range (n * zs.size)).map fun i => zs[i % zs.size]! := by
      rw [show (n + 1) * zs.size = zs.size + n * zs.size by rw [Nat.add_mul]; omega, List.range_add, List.map_append]
      congr 1
      · apply List.ext_getElem
        · simp
        · intro i h1 h2
          simp only [List.length_map, List.length_range] at h1
          simp [Nat.mod_eq_of_lt h1, h1]
      · rw [List.map_map]
        apply List.map_congr_left
        intro i _
        simp
    rw [e, repeatCells]
    exact h.append (repeat_rep h n)
theorem repeat_one {zs : Array Value} (h : ∀ x ∈ zs.toList, x.oneCell' = true) (n : Nat) : ∀ x ∈ (List.range (n * zs.size)).map (fun i => zs[i % zs.size]!), x.oneCell' = true := by
  intro x hx
  simp only [List.mem_map, List.mem_range] at hx
  obtain ⟨i, hi, rfl⟩ := hx
  have hpos : 0 < zs.size := by
    rcases Nat.eq_zero_or_pos zs.size with e | e
    · rw [e] at hi; omega
    · exact e
  have hlt : i % zs.size < zs.size := Nat.mod_lt _ hpos
  rw [getElem!_pos zs _ hlt]
  exact h _ (by simp)

/-- a block of the world that nobody owns -/
theorem Sim.alloc (hS : Sim E k S) (hF : FRep k f g tmps) (ob : Obj) :
    New k { k with w := k.w.alloc ob } none ∧ Sim E { k with w := k.w.alloc ob } S ∧ Evo k { k with w := k.w.alloc ob } (touchF k S.L f) ∧ FRep { k with w := k.w.alloc ob } f g tmps := by
  have hnone : k.own k.w.heap.size = none := by
    cases h : k.own k.w.heap.size with
    | none => rfl
    | some o => have := hS.ownlt _ _ h; omega
  have hN : New k { k with w := k.w.alloc ob } none := {
    lo := rfl
    own := by funext c; by_cases e : c = k.w.heap.size <;> simp [e, hnone]
    lp := rfl
    size := by simp
    os := rfl
    tape := rfl
    output := rfl
    heap := fun c hc => by simp only [World.alloc]; rw [Array.getElem?_push, if_neg (by omega)] }
  have hE := hN.evo hS (fun b s h => ⟨h, rfl, rfl⟩) (touchF k S.L f)
  exact ⟨hN, hS.new hN rfl rfl rfl, hE, hF.mono hE.le fun c t hc => ⟨rfl, hN.heap c (hS.ownlt _ _ hc)⟩⟩

theorem Bound.new {k k' : K} {o : Option Own} (h : New k k' o) {d : Nat} (hd : ∀ f t, o = some (.lv f t) → f < d) (hd' : ∀ f, o = some (.mark f) → f < d) (hB : Bound k d) : Bound k' d := by
  intro c
  rw [h.own]
  by_cases e : c = k.w.heap.size
  · simp only [e, if_true]; exact ⟨hd, hd'⟩
  · simp only [e, if_false]; exact hB c

/-- new cells at the end of memory, frozen -/
theorem fresh_mem {T : TypeId} {vs : Array Value} {cs : List Val} (hr : RepAll k cs vs.toList) (h1 : ∀ x ∈ vs.toList, x.oneCell' = true) (hS : Sim E k S) (hF : FRep k f g tmps) :
    RepMem { k with w := k.w.alloc (.cells vs T) } k.w.heap.size 0 cs := by
  obtain ⟨hN, _, hE, _⟩ := hS.alloc hF (.cells vs T)
  refine RepMem.mk fun i x hi => ?_
  obtain ⟨v, hv, hx⟩ := hr.get hi
  refine ⟨?_, v, ?_, h1 v (List.mem_of_getElem? hv), hx.mono hE.le⟩
  · have := hN.own; rw [this]; simp
  · simp only [Nat.zero_add, World.cell?_alloc_new]
    rw [← Array.getElem?_toList]; exact hv

theorem op_buildSlice (hS : Sim E k S) (hF : FRep k f g tmps) {c : Ctx} {o : Oper} {t : TypeId} {len : Nat} {parts : Array (Nat × Operand)} (ho : o.op = .buildSlice t len parts) {r : Res} (h : opV E c g S o = some r) :
    OpRes E k S f g tmps o r := by
  simp only [opV, ho] at h
  split at h
  · rename_i e ps hu hps
    split at h
    · rename_i z sz hz hsz
      split at h
      · rename_i hb
        obtain ⟨hb1, hb2, hb3⟩ := hb
        simp only [V.pureVal, Option.map_eq_some_iff] at h
        obtain ⟨v, ⟨cs, hcs, rfl⟩, rfl⟩ := h
        obtain ⟨zv, hz1, hz2, hz3⟩ := zero_run hz k
        obtain ⟨hp1, hp2⟩ := evParts_rep hS hF hps
        have hpt : (parts.map fun (i, x) => (i, evT tmps x)).toList = parts.toList.map fun x => (x.1, evT tmps x.2) := by simp
        have hzs : zv.cells.size = sz := by have := hz2.length; simp at this; omega
        have hrz := repeat_rep hz2 len
        rw [hzs] at hrz
        have h1z := repeat_one hz3 len
        rw [hzs] at h1z
        obtain ⟨a', h1, h2, h3⟩ := fill_run (a := ((Array.range (len * sz)).map fun i => zv.cells[i % sz]!)) hcs (by simpa using hrz) (by simpa using h1z) hp1 hp2
        obtain ⟨hN, hS', hE, hF'⟩ := hS.alloc hF (.cells a' e)
        have hmem := fresh_mem (T := e) h2 h3 hS hF
        refine ⟨_, _, ⟨?_, ⟨.slice (some ⟨k.w.heap.size, 0, none⟩) len len, rfl, .of ?_⟩, hS', hE, hF', rfl, fun d hd hB => hB.new hN (by simp) (by simp)⟩⟩
        · have hlim : ¬ (len * sz > 2 ^ 24) := by omega
          simp only [execOp, ho, Instr.buildSlice, Sem.run_bind, run_underlying hu, Result.andThen_ok, run_size hsz, hlim, if_false, hpt]
          by_cases h0 : len * sz = 0
          · have : len = 0 := by
              rcases Nat.mul_eq_zero.1 h0 with h | h <;> omega
            subst this
            have hr0 : Array.range 0 = #[] := rfl
            simp only [Nat.zero_mul, if_true, pure_bind, hr0, Array.map_empty] at h1 ⊢
            rw [h1]
            simp [newRow]
          · simp only [h0, if_false, Sem.run_bind, hz1, Result.andThen_ok, Sem.run_pure, hzs, h1]
            simp [newRow]
        · simp only [Rep]
          exact ⟨_, _, rfl, Nat.le_refl _, by simp, by simp, .inr ⟨_, 0, rfl, hmem⟩⟩
      · simp at h
    · simp at h
  · simp at h
end
end Go.V
