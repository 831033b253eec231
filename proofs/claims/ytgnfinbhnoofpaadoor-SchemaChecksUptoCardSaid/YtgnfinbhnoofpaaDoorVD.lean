/- The machine's steps, frame by frame, rounds of loops over functions among them. -/
import Derived.Test.YtgnfinbhnoofpaaDoorVC
import Derived.Orders
set_option linter.unusedVariables false
set_option linter.unusedSimpArgs false
set_option linter.unusedSectionVars false
namespace Go.V

/-- a running frame -/
def frm (fn : FuncId) (ro : Option Nat) (tmps : Array Value) (todo : List Item) (defers : List Deferred) : Frame :=
  { fn, tmps, todo, defers, mode := .run, kind := .normal, roundOf := ro }

theorem frm_eval (fn : FuncId) (ro : Option Nat) (tmps : Array Value) (todo : List Item) (defers : List Deferred) : (frm fn ro tmps todo defers).eval = evT tmps := by
  funext o; cases o <;> rfl

/-- m is about to take up what s comes to, in frame F -/
def Applies (P : Program) (m : Machine) (F : Frame) (cs : List Frame) (s : Sem Next) (w : World) : Prop :=
  ∀ fr' cs' w', (stepG.apply P true F cs none s w).bare = .go { frame := fr', callers := cs', status := .running, dying := none } w' → step P m = .next (lone fr' cs' w')

/-- a frame that waits for a value -/
def Waits (F : Frame) : Prop := F.kind = .normal ∧ ((∃ ops l k, F.todo = .inRegion ops l :: k) ∨ (∃ l k, F.todo = .inRangeFunc l :: k))

section
variable {P : Program} {m : Machine} {F : Frame} {cs : List Frame} {s : Sem Next} {w w' : World}

theorem Applies.value (h : Applies P m F cs s w) {v : Value} (hr : s.run P w = .ok (.value v) w') : step P m = .next (lone (F.finish v) cs w') :=
  h _ _ _ (by simp [stepG.apply, hr])
theorem Applies.skip (h : Applies P m F cs s w) (hr : s.run P w = .ok .skip w') : step P m = .next (lone (F.finish undef) cs w') :=
  h _ _ _ (by simp [stepG.apply, hr])
theorem Applies.enter (h : Applies P m F cs s w) (hF : Waits F) {f : FuncId} {args : Array Value} (hr : s.run P w = .ok (.enter f args) w') :
    step P m = .next (lone (Frame.enter P f args .normal) (F :: cs) w') := by
  obtain ⟨_, ⟨ops, l, k, ht⟩ | ⟨l, k, ht⟩⟩ := hF
  · exact h _ _ _ (by simp [stepG.apply, hr, ht])
  · exact h _ _ _ (by simp [stepG.apply, hr, ht])
theorem Applies.round (h : Applies P m F cs s w) {l : Nat} {f : FuncId} {tmps : Array Value} {a b : Code} (hr : s.run P w = .ok (.round l f tmps a b) w') :
    step P m = .next (lone (Frame.round l f tmps a b .normal) (F :: cs) w') :=
  h _ _ _ (by simp [stepG.apply, hr])
theorem Applies.congr (h : Applies P m F cs s w) {s' : Sem Next} (hr : s.run P w = s'.run P w) : Applies P m F cs s' w := by
  intro fr' cs' w' hb
  refine h fr' cs' w' ?_
  rw [← hb]
  simp only [stepG.apply, Sem.runT_eq, if_true, hr, GStep.bare_after]
end

section
variable {P : Program} {fn : FuncId} {ro : Option Nat} {tmps : Array Value} {k : List Item} {de : List Deferred} {cs : List Frame} {w : World} {ops : Array Oper}

theorem st_skip : step P (lone (frm fn ro tmps (.code .skip :: k) de) cs w) = .next (lone (frm fn ro tmps k de) cs w) :=
  step_lone_go (by simp [stepG, stepG.exec, frm])
theorem st_inBlock {id : Nat} : step P (lone (frm fn ro tmps (.inBlock id :: k) de) cs w) = .next (lone (frm fn ro tmps k de) cs w) :=
  step_lone_go (by simp [stepG, stepG.exec, frm])
theorem st_seq {x y : Code} : step P (lone (frm fn ro tmps (.code (.seq x y) :: k) de) cs w) = .next (lone (frm fn ro tmps (.code x :: .code y :: k) de) cs w) :=
  step_lone_go (by simp [stepG, stepG.exec, frm])
theorem st_cond {c : Operand} {x y : Code} {t : Bool} (h : evT tmps c = .bool t) :
    step P (lone (frm fn ro tmps (.code (.cond c x y) :: k) de) cs w) = .next (lone (frm fn ro tmps (.code (if t then x else y) :: k) de) cs w) :=
  step_lone_go (by
    have := congrFun (frm_eval fn ro tmps (.code (.cond c x y) :: k) de) c
    rw [h] at this
    simp only [frm] at this
    simp [stepG, stepG.exec, frm, this])
theorem st_block {id : Nat} {c : Code} : step P (lone (frm fn ro tmps (.code (.block id c) :: k) de) cs w) = .next (lone (frm fn ro tmps (.code c :: .inBlock id :: k) de) cs w) :=
  step_lone_go (by simp [stepG, stepG.exec, frm])
theorem st_loop {c : Code} : step P (lone (frm fn ro tmps (.code (.loop c) :: k) de) cs w) = .next (lone (frm fn ro tmps (.code c :: .inLoop c :: k) de) cs w) :=
  step_lone_go (by simp [stepG, stepG.exec, frm])
theorem st_inLoop {c : Code} : step P (lone (frm fn ro tmps (.inLoop c :: k) de) cs w) = .next (lone (frm fn ro tmps (.code c :: .inLoop c :: k) de) cs w) :=
  step_lone_go (by simp [stepG, stepG.exec, frm])
theorem st_exit {id : Nat} {k' : List Item} (h : exitTo id k = some k') : step P (lone (frm fn ro tmps (.code (.exit id) :: k) de) cs w) = .next (lone (frm fn ro tmps k' de) cs w) :=
  step_lone_go (by simp [stepG, stepG.exec, frm, h])
theorem st_region {id : Nat} : step P (lone (frm fn ro tmps (.code (.region id ops false) :: k) de) cs w) = .next (lone (frm fn ro tmps (.inRegion ops (List.range ops.size) :: k) de) cs w) :=
  step_lone_go (by simp [stepG, stepG.exec, frm])
theorem st_region_draw {id : Nat} : step P (lone (frm fn ro tmps (.code (.region id ops true) :: k) de) cs w) =
    .next (lone (frm fn ro tmps (.inRegion ops (Region.schedule (P.follows .mixedOrders) ops (w.tape w.drawn (.order fn id))) :: k) de) cs w.drew) :=
  step_lone_go (by simp [stepG, stepG.exec, frm, choose, Sem.run, Question.forced, Question.cut])
theorem st_region_end : step P (lone (frm fn ro tmps (.inRegion ops [] :: k) de) cs w) = .next (lone (frm fn ro tmps k de) cs w) :=
  step_lone_go (by simp [stepG, stepG.exec, frm])

theorem finish_frm {i : Nat} {rest : List Nat} {o : Oper} (ho : ops[i]? = some o) (v : Value) : (frm fn ro tmps (.inRegion ops (i :: rest) :: k) de).finish v =
    frm fn ro (match o.dst with | some d => tmps.setIfInBounds d v | none => tmps) (.inRegion ops rest :: k) de := by
  simp only [Frame.finish, frm, ho, Option.bind_some]
  cases o.dst <;> rfl

theorem st_unwanted {i : Nat} {rest : List Nat} {o : Oper} (ho : ops[i]? = some o) (h : Region.wanted o (yielded ops tmps) = false) :
    step P (lone (frm fn ro tmps (.inRegion ops (i :: rest) :: k) de) cs w) =
      .next (lone (frm fn ro (match o.dst with | some d => tmps.setIfInBounds d undef | none => tmps) (.inRegion ops rest :: k) de) cs w) := by
  rw [← finish_frm ho]
  exact step_lone_go (by
    have h' := h
    simp only [frm] at *
    simp [stepG, stepG.exec, ho, h'])

theorem applies_op {i : Nat} {rest : List Nat} {o : Oper} (ho : ops[i]? = some o) (h : Region.wanted o (yielded ops tmps) = true) (hd : ∀ c, o.op ≠ .defer c) :
    Applies P (lone (frm fn ro tmps (.inRegion ops (i :: rest) :: k) de) cs w) (frm fn ro tmps (.inRegion ops (i :: rest) :: k) de) cs (execOp (evT tmps) o) w := by
  intro fr' cs' w' hb
  refine step_lone_go ?_
  rw [← hb]
  have he := frm_eval fn ro tmps (.inRegion ops (i :: rest) :: k) de
  simp only [frm] at *
  simp only [stepG, stepG.exec, stepG.oper, Frame.oper?, ho, h, he, Option.map_some, Option.getD_some, if_true]
  split
  · rename_i e2; exact absurd e2 (hd _)
  · rfl

/-- the end of a round -/
theorem st_end_round {l : Nat} {F : Frame} {r : Loop} {todo : List Item} {j : Option Code} (ht : (j = none ∧ todo = []) ∨ (∃ t, j = some .ret ∧ todo = .code .ret :: t) ∨ (∃ id t, j = some (.exit id) ∧ todo = .code (.exit id) :: t ∧ exitTo id t = none))
    (hl : w.heap[l]? = some (.loop r)) :
    step P (lone (frm fn (some l) tmps todo de) (F :: cs) w) =
      .next (lone (F.finish (.bool j.isNone)) cs { w with heap := w.heap.setIfInBounds l (.loop { r with state := if j.isNone then .ready else .done, pending := j }) }) := by
  have he : (Instr.endRound l j).run P w = .ok (.bool j.isNone) { w with heap := w.heap.setIfInBounds l (.loop { r with state := if j.isNone then .ready else .done, pending := j }) } := by
    simp [Instr.endRound, Instr.getLoop, getObj, setObj, Sem.run, hl, Sem.run_bind]
  rcases ht with ⟨rfl, rfl⟩ | ⟨t, rfl, rfl⟩ | ⟨id, t, rfl, rfl, ht⟩
  · exact step_lone_go (by simp [stepG, stepG.exec, frm, he, doReturn])
  · exact step_lone_go (by simp [stepG, stepG.exec, frm, he, doReturn])
  · exact step_lone_go (by simp [stepG, stepG.exec, frm, he, doReturn, ht])

/-- the end of a function's body -/
theorem st_leave {todo : List Item} (ht : todo = [] ∨ ∃ t, todo = .code .ret :: t) :
    step P (lone (frm fn none tmps todo de) cs w) = .next (lone { frm fn none tmps todo de with mode := .returning } cs w) := by
  rcases ht with rfl | ⟨t, rfl⟩
  · exact step_lone_go (by simp [stepG, stepG.exec, frm])
  · exact step_lone_go (by simp [stepG, stepG.exec, frm])

/-- a mark among the deferred calls is taken -/
theorem st_mark {todo : List Item} {b : Nat} {ds : List Deferred} (hb : w.heap[b]? = some (.deferred (some []))) :
    step P (lone { frm fn none tmps todo ({ target := .collected b, args := #[] } :: ds) with mode := .returning } cs w) =
      .next (lone { frm fn none tmps todo ds with mode := .returning } cs { w with heap := w.heap.setIfInBounds b (.deferred none) }) := by
  have he : (Instr.takeDeferred b).run P w = .ok [] { w with heap := w.heap.setIfInBounds b (.deferred none) } := by
    simp [Instr.takeDeferred, getObj, setObj, Sem.run, hb, Sem.run_bind]
  exact step_lone_go (by simp [stepG, frm, unwind, he])
end
end Go.V

/- What stays true of a frame; one operation of the interpreter, one step of the machine (or a call). -/
namespace Go.V

def markD (b : Nat) : Deferred := { target := .collected b, args := #[] }
def Marks (k : K) (f : Nat) (de : List Deferred) : Prop :=
  ∃ ms : List Nat, de = ms.map markD ∧ ms.Nodup ∧ ∀ m ∈ ms, k.own m = some (.mark f) ∧ k.w.heap[m]? = some (.deferred (some []))
def Busy (k : K) (S : St) (f : Nat) : Prop := ∀ (l : Nat) (r : LoopRec), S.L[l]? = some r → k.fid l = f → r.busy = true
/-- loops stand in frames below d; of those in one frame only one may be free -/
def Below (k : K) (S : St) (d : Nat) : Prop := (∀ (l : Nat) (r : LoopRec), S.L[l]? = some r → k.fid l < d) ∧
  ∀ (l l' : Nat) (r r' : LoopRec), S.L[l]? = some r → S.L[l']? = some r' → r.busy = false → r'.busy = false → k.fid l = k.fid l' → l = l'

structure LK (L L' : List LoopRec) : Prop where
  eq : LoopEq L L'
  busy : ∀ (l : Nat) (r : LoopRec), L[l]? = some r → r.busy = true → L'[l]? = some r
theorem LK.refl (L : List LoopRec) : LK L L := ⟨.refl L, fun _ _ h _ => h⟩
theorem LK.trans {a b c : List LoopRec} (h : LK a b) (h' : LK b c) : LK a c := ⟨h.eq.trans h'.eq, fun l r hr hb => h'.busy l r (h.busy l r hr hb) hb⟩
theorem LK.of_eq {a b : List LoopRec} (h : b = a) : LK a b := h ▸ .refl a
theorem LoopEq.back {a b : List LoopRec} (h : LoopEq a b) {l : Nat} {r : LoopRec} (hr : b[l]? = some r) : ∃ q, a[l]? = some q ∧ r.busy = q.busy := by
  have hl : l < a.length := by rw [← h.1]; exact (List.getElem?_eq_some_iff.1 hr).1
  exact ⟨a[l], List.getElem?_eq_getElem hl, h.2 l _ r (List.getElem?_eq_getElem hl) hr⟩

/-- what holds of a running frame: frame number f, numbers from d on are free -/
structure FrOk (E : Env) (k : K) (S : St) (f d n : Nat) (ro : Option Nat) (g : G) (tmps : Array Value) (de : List Deferred) : Prop where
  sim : Sim E k S
  fr : FRep k f g tmps
  size : tmps.size = n
  marks : Marks k f de
  busy : Busy k S f
  lt : f < d
  bound : Bound k d
  below : Below k S d
  ro : ∀ a, ro = some a → ∃ (l : Nat) (r : LoopRec), a = k.lo l ∧ S.L[l]? = some r

section
variable {E : Env} {k k' k'' : K} {S S' S'' : St} {f d n : Nat} {ro : Option Nat} {g g' : G} {tmps tmps' : Array Value} {de : List Deferred} {T : Nat → Prop}

theorem fid_kept (hS : Sim E k S) (he : Evo k k' T) {l : Nat} {r : LoopRec} (hr : S.L[l]? = some r) : k'.lo l = k.lo l ∧ k'.fid l = k.fid l ∧ k'.tm l = k.tm l := by
  obtain ⟨h1, _, h3⟩ := he.le.loop l (hS.loop l r hr).own
  exact ⟨h1, by unfold K.fid; rw [h3], by unfold K.tm; rw [h3]⟩

theorem touch_back (hS : Sim E k S) (he : Evo k k' T) (lk : LoopEq S.L S'.L) {c : Nat} (ho : k'.own c = k.own c) (h : touch k' S'.L c) : touch k S.L c :=
  touch.eq lk (fun _ _ hr => (fid_kept hS he hr).2.1) ho h
theorem Evo.transF (hS : Sim E k S) (h : Evo k k' (touchF k S.L f)) (lk : LoopEq S.L S'.L) (h' : Evo k' k'' (touchF k' S'.L f)) : Evo k k'' (touchF k S.L f) :=
  h.trans h' fun x _ ho ht => by
    rcases ht with ht | ⟨t, ht⟩
    · exact .inl (touch_back hS h lk ho ht)
    · exact .inr ⟨t, by rw [← ho]; exact ht⟩
theorem Evo.transT (hS : Sim E k S) (h : Evo k k' (touch k S.L)) (lk : LoopEq S.L S'.L) (h' : Evo k' k'' (touch k' S'.L)) : Evo k k'' (touch k S.L) :=
  h.trans h' fun _ _ ho ht => touch_back hS h lk ho ht

theorem Below.after (h : Below k S d) (hS : Sim E k S) (he : Evo k k' T) (lk : LoopEq S.L S'.L) : Below k' S' d := by
  constructor
  · intro l r hr
    obtain ⟨q, hq, _⟩ := lk.back hr
    rw [(fid_kept hS he hq).2.1]
    exact h.1 l q hq
  · intro l l' r r' hr hr' hb hb' hf
    obtain ⟨q, hq, e⟩ := lk.back hr
    obtain ⟨q', hq', e'⟩ := lk.back hr'
    rw [(fid_kept hS he hq).2.1, (fid_kept hS he hq').2.1] at hf
    exact h.2 l l' q q' hq hq' (by rw [← e]; exact hb) (by rw [← e']; exact hb') hf
theorem Busy.after (h : Busy k S f) (hS : Sim E k S) (he : Evo k k' T) (lk : LoopEq S.L S'.L) : Busy k' S' f := by
  intro l r hr hf
  obtain ⟨q, hq, e⟩ := lk.back hr
  rw [(fid_kept hS he hq).2.1] at hf
  rw [e]
  exact h l q hq hf
theorem Marks.after (h : Marks k f de) (hS : Sim E k S) (he : Evo k k' T) (hT : ∀ c, T c → touchF k S.L f c) : Marks k' f de := by
  obtain ⟨ms, h1, h2, h3⟩ := h
  refine ⟨ms, h1, h2, fun m hm => ?_⟩
  obtain ⟨p1, p2⟩ := h3 m hm
  have hn : ¬ T m := fun ht => by
    rcases hT m ht with ht | ⟨t, ht⟩
    · unfold touch at ht; rw [p1] at ht; exact ht
    · rw [p1] at ht; simp at ht
  obtain ⟨q1, q2⟩ := he.keep m (hS.ownlt _ _ p1) hn
  exact ⟨q1.trans p1, q2.trans p2⟩

theorem FrOk.after (h : FrOk E k S f d n ro g tmps de) (hs : Sim E k' S') (he : Evo k k' (touchF k S.L f)) (lk : LoopEq S.L S'.L) (hF : FRep k' f g' tmps') (hn : tmps'.size = n) (hB : Bound k' d) :
    FrOk E k' S' f d n ro g' tmps' de where
  sim := hs
  fr := hF
  size := hn
  marks := h.marks.after h.sim he fun _ h => h
  busy := h.busy.after h.sim he lk
  lt := h.lt
  bound := hB
  below := h.below.after h.sim he lk
  ro := fun a ha => by
    obtain ⟨l, r, e, hr⟩ := h.ro a ha
    have hl : l < S'.L.length := by rw [lk.1]; exact (List.getElem?_eq_some_iff.1 hr).1
    exact ⟨l, _, by rw [(fid_kept h.sim he hr).1]; exact e, List.getElem?_eq_getElem hl⟩

/-- a call leaves the locals of a running frame alone -/
theorem FRep.call (hF : FRep k f g tmps) (hS : Sim E k S) (hb : Busy k S f) (he : Evo k k' (touch k S.L)) : FRep k' f g tmps := by
  refine hF.mono he.le fun c t hc => ?_
  refine he.keep c (hS.ownlt _ _ hc) fun ht => ?_
  unfold touch at ht
  rw [hc] at ht
  obtain ⟨l, r, h1, h2, h3⟩ := ht
  rw [hb l r h1 h3] at h2
  simp at h2

/-- a temporary is set -/
theorem FRep.put (hF : FRep k f g tmps) {t : Nat} {v : Val} {cv : Value} (ht : t < tmps.size) (hv : ValRep k g tmps v cv) :
    FRep k f (fun x => if x = t then some v else g x) (tmps.setIfInBounds t cv) := by
  have same : ∀ s, s ≠ t → (tmps.setIfInBounds t cv).getD s undef = tmps.getD s undef := fun s hs => by
    simp [Array.getD_eq_getD_getElem?, Array.getElem?_setIfInBounds_ne (Ne.symm hs)]
  have here : (tmps.setIfInBounds t cv).getD t undef = cv := by simp [Array.getD_eq_getD_getElem?, ht]
  have hnl : ∀ cs, v ≠ .lv cs := by rintro cs rfl; exact hv
  intro s u hu
  by_cases e : s = t
  · subst e
    simp only [if_true, Option.some.injEq] at hu; subst hu
    cases v with
    | lv cs => exact hv.elim
    | loc s' off =>
      intro cs hcs
      by_cases e2 : s' = s
      · subst e2; simp at hcs
      · simp only [e2, if_false] at hcs
        obtain ⟨c, h1, h2⟩ := hv cs hcs
        exact ⟨c, by rw [same _ e2]; exact h1, by rw [here]; exact h2⟩
    | _ => simpa only [SlotRep, ValRep, here] using hv
  · simp only [e, if_false] at hu
    have := hF s u hu
    cases u with
    | lv cs => obtain ⟨c, h1, h2⟩ := this; exact ⟨c, by rw [same _ e]; exact h1, h2⟩
    | loc s' off =>
      intro cs hcs
      by_cases e2 : s' = t
      · subst e2
        simp only [if_true, Option.some.injEq] at hcs
        exact absurd hcs (hnl cs)
      · simp only [e2, if_false] at hcs
        obtain ⟨c, h1, h2⟩ := this cs hcs
        exact ⟨c, by rw [same _ e2]; exact h1, by rw [same _ e]; exact h2⟩
    | _ => simpa only [SlotRep, same _ e] using this

/-- less is known of a frame -/
theorem FRep.weak (hF : FRep k f g tmps) (hg : ∀ t v, g' t = some v → g t = some v ∨ v = .unk) : FRep k f g' tmps := by
  intro t v hv
  rcases hg t v hv with h | rfl
  · have := hF t v h
    cases v with
    | loc s off =>
      intro cs hcs
      rcases hg s _ hcs with h | h
      · exact this cs h
      · simp at h
    | _ => exact this
  · trivial

/-- a local is laid -/
theorem laid_rep (hS : Sim E k S) (hF : FRep k f g tmps) {t : Nat} (ht : t < tmps.size) {cs : List Val} {vs : Array Value} {e : TypeId} (hr : RepAll k cs vs.toList) (h1 : ∀ x ∈ vs.toList, x.oneCell' = true)
    (hno : ∀ u off, g u ≠ some (.loc t off)) :
    ∃ k', k'.w = k.w.alloc (.cells vs e) ∧ Sim E k' S ∧ Evo k k' T ∧ FRep k' f (fun x => if x = t then some (.lv cs) else g x) (tmps.setIfInBounds t (.pointer (some ⟨k.w.heap.size, 0, none⟩))) ∧ ∀ d, f < d → Bound k d → Bound k' d := by
  let k' : K := { k with own := fun c => if c = k.w.heap.size then some (.lv f t) else k.own c, w := k.w.alloc (.cells vs e) }
  have hN : New k k' (some (.lv f t)) := {
    lo := rfl
    own := rfl
    lp := rfl
    size := by simp [k']
    os := rfl
    tape := rfl
    output := rfl
    heap := fun c hc => by
      show (k.w.heap.push _)[c]? = _
      rw [Array.getElem?_push, if_neg (by omega)] }
  have hold : ∀ b s, k.sh b = some s → k'.sh b = some s ∧ k'.σ b = k.σ b ∧ k'.room b = k.room b := fun b s hb => ⟨hb, rfl, rfl⟩
  have hle := hN.le hS hold
  have hF' : FRep k' f g tmps := hF.mono hle fun c t hc => ⟨hN.own_old (hS.ownlt _ _ hc), hN.heap c (hS.ownlt _ _ hc)⟩
  refine ⟨k', rfl, hS.new hN rfl rfl rfl, hN.evo hS hold T, ?_, fun d hd hB => hB.new hN (by rintro f' t' h; simp only [Option.some.injEq, Own.lv.injEq] at h; omega) (by simp)⟩
  have same : ∀ s, s ≠ t → (tmps.setIfInBounds t (.pointer (some ⟨k.w.heap.size, 0, none⟩))).getD s undef = tmps.getD s undef := fun s hs => by
    simp [Array.getD_eq_getD_getElem?, Array.getElem?_setIfInBounds_ne (Ne.symm hs)]
  have here : (tmps.setIfInBounds t (.pointer (some ⟨k.w.heap.size, 0, none⟩))).getD t undef = .pointer (some ⟨k.w.heap.size, 0, none⟩) := by simp [Array.getD_eq_getD_getElem?, ht]
  intro s u hu
  by_cases e : s = t
  · subst e
    simp only [if_true, Option.some.injEq] at hu; subst hu
    refine ⟨k.w.heap.size, here, by simp [k'], RepOwn.mk fun i x hi => ?_⟩
    obtain ⟨v, hv, hx⟩ := hr.get hi
    refine ⟨v, ?_, ?_, h1 v (List.mem_of_getElem? hv), hx.mono hle⟩
    · show (k.w.alloc _).cell? _ = _
      rw [Nat.zero_add, World.cell?_alloc_new, ← Array.getElem?_toList]; exact hv
    · show (k.w.alloc _).frozen? _ = _
      rw [World.frozen?_alloc_new]
  · simp only [e, if_false] at hu
    have := hF' s u hu
    cases u with
    | lv cs' => obtain ⟨c, h1, h2⟩ := this; exact ⟨c, by rw [same _ e]; exact h1, h2⟩
    | loc s' off =>
      have hne : s' ≠ t := by rintro rfl; exact hno s off hu
      intro cs' hcs
      simp only [hne, if_false] at hcs
      obtain ⟨c, h1, h2⟩ := this cs' hcs
      exact ⟨c, by rw [same _ hne]; exact h1, by rw [same _ e]; exact h2⟩
    | _ => simpa only [SlotRep, same _ e] using this

/-- a guard -/
theorem wanted_ok (hF : FRep k f g tmps) {all : Array Oper} {o : Oper} {b : Bool} (h : wantedV all g o = some b) : Region.wanted o (yielded all tmps) = b := by
  unfold wantedV at h
  unfold Region.wanted
  split at h
  · simp only [Option.some.injEq] at h
    rename_i hg; rw [hg]; exact h
  · rename_i j q hg
    rw [hg]
    simp only
    split at h
    · rename_i p hp
      split at h
      · rename_i t ht
        split at h
        · rename_i x hx
          simp only [Option.some.injEq] at h; subst h
          have hr := hF.first hx rfl
          simp only [Rep] at hr
          have : tmps[t]? = some (.bool x) := by
            rw [Array.getD_eq_getD_getElem?] at hr
            cases e : tmps[t]? with
            | none => rw [e] at hr; simp [undef] at hr
            | some y => rw [e] at hr; simpa using hr
          simp [yielded, hp, ht, this]
        · rename_i hx
          simp only [Option.some.injEq] at h; subst h
          have hr := hF.first hx rfl
          simp only [Rep] at hr
          obtain ⟨a, hr, ha⟩ := hr
          have : yielded all tmps j = none := by
            simp only [yielded, hp, ht, Option.bind_some]
            rw [Array.getD_eq_getD_getElem?] at hr
            cases e : tmps[t]? with
            | none => rfl
            | some y => rw [e] at hr; simp only [Option.getD_some] at hr; rw [hr]
          rw [this]; rfl
        · simp at h
      · simp at h
    · simp at h
end

/-- what a call comes to -/
def CallOk (E : Env) (fn : FuncId) (args : List Val) (S : St) (v : Val) (S' : St) : Prop :=
  ∀ (k : K) (d : Nat) (vs : Array Value), Sim E k S → Bound k d → Below k S d → RepAll k args vs.toList →
    ∀ (m : Machine) (F : Frame) (cs : List Frame), Waits F → Applies E.P m F cs (callFunc fn vs) k.w →
      ∃ k' cv, Steps E.P m (lone (F.finish cv) cs k'.w) ∧ Rep k' v cv ∧ Sim E k' S' ∧ Evo k k' (touch k S.L) ∧ Bound k' d ∧ LK S.L S'.L
def YieldOk (E : Env) (l : Nat) (args : List Val) (S : St) (v : Val) (S' : St) : Prop :=
  ∀ (k : K) (d : Nat) (vs : Array Value), Sim E k S → Bound k d → Below k S d → RepAll k args vs.toList →
    ∀ (m : Machine) (F : Frame) (cs : List Frame), Waits F → Applies E.P m F cs (Instr.yield (k.lo l) vs) k.w →
      ∃ k' cv, Steps E.P m (lone (F.finish cv) cs k'.w) ∧ Rep k' v cv ∧ Sim E k' S' ∧ Evo k k' (touch k S.L) ∧ Bound k' d ∧ LK S.L S'.L
end Go.V

/- One operation in a region: the interpreter's step is the machine's. -/
namespace Go.V

def putG (g : G) (dst : Option Nat) (v : Val) : G :=
  match dst with
  | some d => fun x => if x = d then some v else g x
  | none => g
def dstOk (c : Ctx) (dst : Option Nat) : Prop := ∀ d, dst = some d → d < c.n ∧ c.fixed.contains d = false
/-- less is known -/
def Weak (g' g : G) : Prop := ∀ t v, g' t = some v → g t = some v ∨ v = .unk

/-- a step of the interpreter, the frame a function -/
def StepR (rec : Rec) (E : Env) (c : Ctx) (g : G) (S : St) (o : Oper) (g' : G) (S' : St) : Prop :=
  ∃ r, opV E c g S o = some r ∧ match r with
    | .val v _ ups S1 => S' = S1 ∧ g' = putG (upsG g ups) o.dst (v.getD (.tup [])) ∧ dstOk c o.dst
    | .laid cs => ∃ t g2, o.dst = some t ∧ t < c.n ∧ c.fixed.contains t = false ∧ Weak g2 g ∧ (∀ u off, g2 u ≠ some (.loc t off)) ∧ g' = putG g2 (some t) (.lv cs) ∧ S' = S
    | .call h args => ∃ v, callV rec E h args S = some (v, S') ∧ g' = putG g o.dst v ∧ dstOk c o.dst
    | .yld l args => ∃ v, yieldV rec E l args S = some (v, S') ∧ g' = putG g o.dst v ∧ dstOk c o.dst

/-- what a frame's steps may change -/
structure Went (c : Ctx) (f : Nat) (k : K) (S : St) (tmps : Array Value) (k' : K) (S' : St) (tmps' : Array Value) : Prop where
  evo : Evo k k' (touchF k S.L f)
  lk : LK S.L S'.L
  fixed : ∀ t, c.fixed.contains t = true → tmps'.getD t undef = tmps.getD t undef

section
variable {E : Env} {k k' k'' : K} {S S' S'' : St} {f d n : Nat} {ro : Option Nat} {g g' : G} {tmps tmps' tmps'' : Array Value} {de : List Deferred} {c : Ctx} {rec : Rec}

theorem Went.refl : Went c f k S tmps k S tmps := ⟨.refl _ _, .refl _, fun _ _ => rfl⟩
theorem Went.trans (hS : Sim E k S) (h : Went c f k S tmps k' S' tmps') (h' : Went c f k' S' tmps' k'' S'' tmps'') : Went c f k S tmps k'' S'' tmps'' :=
  ⟨h.evo.transF hS h.lk.eq h'.evo, h.lk.trans h'.lk, fun t ht => (h'.fixed t ht).trans (h.fixed t ht)⟩

def setDst (tmps : Array Value) (dst : Option Nat) (v : Value) : Array Value := match dst with | some d => tmps.setIfInBounds d v | none => tmps

theorem setDst_size (dst : Option Nat) (v : Value) : (setDst tmps dst v).size = tmps.size := by cases dst <;> simp [setDst]
theorem setDst_fixed {dst : Option Nat} (h : dstOk c dst) (v : Value) {t : Nat} (ht : c.fixed.contains t = true) : (setDst tmps dst v).getD t undef = tmps.getD t undef := by
  cases dst with
  | none => rfl
  | some e =>
    have hne : e ≠ t := by rintro rfl; rw [(h e rfl).2] at ht; simp at ht
    simp [setDst, Array.getD_eq_getD_getElem?, Array.getElem?_setIfInBounds_ne hne]

theorem FRep.dst (hF : FRep k f g tmps) {dst : Option Nat} (hd : ∀ d, dst = some d → d < tmps.size) {v : Val} {cv : Value} (hv : ValRep k g tmps v cv) :
    FRep k f (putG g dst v) (setDst tmps dst cv) := by
  cases dst with
  | none => exact hF
  | some e => exact hF.put (hd e rfl) hv

/-- ONE OPERATION. -/
theorem step_sound (hcall : ∀ h args S v S', callV rec E h args S = some (v, S') → CallOk E h args S v S') (hyield : ∀ l args S v S', yieldV rec E l args S = some (v, S') → YieldOk E l args S v S')
    (hO : FrOk E k S f d c.n ro g tmps de) {o : Oper} (h : StepR rec E c g S o g' S') {all : Array Oper} {i : Nat} (ho : all[i]? = some o) (hw : Region.wanted o (yielded all tmps) = true) (rest : List Nat) (items : List Item) (cs : List Frame) :
    ∃ k' tmps', Steps E.P (lone (frm c.f ro tmps (.inRegion all (i :: rest) :: items) de) cs k.w) (lone (frm c.f ro tmps' (.inRegion all rest :: items) de) cs k'.w) ∧
      FrOk E k' S' f d c.n ro g' tmps' de ∧ Went c f k S tmps k' S' tmps' := by
  obtain ⟨r, hr, hm⟩ := h
  have hnd : ∀ q, o.op ≠ .defer q := by
    intro q e
    simp [opV, e] at hr
  have hA := applies_op (P := E.P) (fn := c.f) (ro := ro) (k := items) (de := de) (cs := cs) (w := k.w) (rest := rest) ho hw hnd
  have hres := op_sound hO.sim hO.fr hO.busy hr
  have hfin : ∀ v, (frm c.f ro tmps (.inRegion all (i :: rest) :: items) de).finish v = frm c.f ro (setDst tmps o.dst v) (.inRegion all rest :: items) de := fun v => finish_frm ho v
  have hwaits : Waits (frm c.f ro tmps (.inRegion all (i :: rest) :: items) de) := ⟨rfl, .inl ⟨_, _, _, rfl⟩⟩
  have done : ∀ {v : Val} {S1 : St}, dstOk c o.dst → (∃ k' cv, Steps E.P (lone (frm c.f ro tmps (.inRegion all (i :: rest) :: items) de) cs k.w) (lone ((frm c.f ro tmps (.inRegion all (i :: rest) :: items) de).finish cv) cs k'.w) ∧
      Rep k' v cv ∧ Sim E k' S1 ∧ Evo k k' (touch k S.L) ∧ Bound k' d ∧ LK S.L S1.L) →
      ∃ k' tmps', Steps E.P (lone (frm c.f ro tmps (.inRegion all (i :: rest) :: items) de) cs k.w) (lone (frm c.f ro tmps' (.inRegion all rest :: items) de) cs k'.w) ∧
        FrOk E k' S1 f d c.n ro (putG g o.dst v) tmps' de ∧ Went c f k S tmps k' S1 tmps' := by
    rintro v S1 hd ⟨k', cv, h1, h2, h3, h4, h5, h6⟩
    rw [hfin] at h1
    have he : Evo k k' (touchF k S.L f) := h4.weak fun _ h => .inl h
    have hF' : FRep k' f g tmps := hO.fr.call hO.sim hO.busy h4
    refine ⟨k', _, h1, hO.after h3 he h6.eq (hF'.dst (fun t ht => by rw [hO.size]; exact (hd t ht).1) (.of h2)) (by rw [setDst_size]; exact hO.size) h5, ⟨he, h6, fun t ht => setDst_fixed hd _ ht⟩⟩
  cases r with
  | val v kc ups S1 =>
    obtain ⟨rfl, rfl, hd⟩ := hm
    obtain ⟨k', nx, hok⟩ := hres
    have hlk : LK S.L S'.L := .of_eq hok.L
    cases v with
    | none =>
      have hv := hok.val
      simp only at hv; subst hv
      refine ⟨k', setDst tmps o.dst undef, .one (by rw [← hfin]; exact hA.skip hok.run), hO.after hok.sim hok.evo hlk.eq (hok.fr.dst (fun t ht => by rw [hO.size]; exact (hd t ht).1) ?_) (by rw [setDst_size]; exact hO.size) (hok.bound d hO.lt hO.bound),
        ⟨hok.evo, hlk, fun t ht => setDst_fixed hd _ ht⟩⟩
      exact .of (by simp only [Option.getD_none, Rep]; exact ⟨#[], rfl, by simp [RepAll]⟩)
    | some x =>
      obtain ⟨cv, rfl, hx⟩ := hok.val
      exact ⟨k', setDst tmps o.dst cv, .one (by rw [← hfin]; exact hA.value hok.run), hO.after hok.sim hok.evo hlk.eq (hok.fr.dst (fun t ht => by rw [hO.size]; exact (hd t ht).1) hx) (by rw [setDst_size]; exact hO.size) (hok.bound d hO.lt hO.bound),
        ⟨hok.evo, hlk, fun t ht => setDst_fixed hd _ ht⟩⟩
  | laid cs' =>
    obtain ⟨t, g2, hdst, htn, htf, hweak, hno, rfl, rfl⟩ := hm
    obtain ⟨T, vs, h1, h2, h3⟩ := hres
    obtain ⟨k', hk', q1, q2, q3, q4⟩ := laid_rep (T := touchF k S'.L f) (e := T) hO.sim (hO.fr.weak hweak) (by rw [hO.size]; exact htn) h2 h3 hno
    have hd : dstOk c o.dst := fun t' ht' => by rw [hdst] at ht'; simp only [Option.some.injEq] at ht'; subst ht'; exact ⟨htn, htf⟩
    refine ⟨k', setDst tmps o.dst (.pointer (some ⟨k.w.heap.size, 0, none⟩)), .one (by rw [← hfin, hk']; exact hA.value h1), hO.after q1 q2 (.refl _) ?_ (by rw [setDst_size]; exact hO.size) (q4 d hO.lt hO.bound), ⟨q2, .refl _, fun t ht => setDst_fixed hd _ ht⟩⟩
    rw [hdst]; exact q3
  | call h args =>
    obtain ⟨v, hv, rfl, hd⟩ := hm
    obtain ⟨cargs, h1, h2⟩ := hres
    exact done hd (hcall _ _ _ _ _ hv k d cargs hO.sim hO.bound hO.below h2 _ _ cs hwaits (hA.congr h1))
  | yld l args =>
    obtain ⟨v, hv, rfl, hd⟩ := hm
    obtain ⟨cargs, h1, _, h2⟩ := hres
    exact done hd (hyield _ _ _ _ _ hv k d cargs hO.sim hO.bound hO.below h2 _ _ cs hwaits (hA.congr h1))

/-- an operation that is not wanted -/
theorem step_unwanted (hO : FrOk E k S f d c.n ro g tmps de) {o : Oper} (hd : dstOk c o.dst) {all : Array Oper} {i : Nat} (ho : all[i]? = some o) (hw : Region.wanted o (yielded all tmps) = false) (rest : List Nat) (items : List Item) (cs : List Frame) :
    ∃ tmps', Steps E.P (lone (frm c.f ro tmps (.inRegion all (i :: rest) :: items) de) cs k.w) (lone (frm c.f ro tmps' (.inRegion all rest :: items) de) cs k.w) ∧
      FrOk E k S f d c.n ro (putG g o.dst (.tup [])) tmps' de ∧ Went c f k S tmps k S tmps' := by
  refine ⟨setDst tmps o.dst undef, .one (st_unwanted ho hw), hO.after hO.sim (.refl _ _) (.refl _) (hO.fr.dst (fun t ht => by rw [hO.size]; exact (hd t ht).1) (.of ?_)) (by rw [setDst_size]; exact hO.size) hO.bound, ⟨.refl _ _, .refl _, fun t ht => setDst_fixed hd _ ht⟩⟩
  simp only [Rep]; exact ⟨#[], rfl, by simp [RepAll]⟩

theorem get_puts (fr : Fr) (ups : List (Nat × Val)) : (fr.puts ups).get = upsG fr.get ups := Fr.get_puts ups fr
theorem putO_get {fr fr' : Fr} {dst : Option Nat} {v : Val} (h : putO c fr dst v = some fr') : fr'.get = putG fr.get dst v ∧ dstOk c dst := by
  unfold putO at h
  cases dst with
  | none => simp only [Option.some.injEq] at h; subst h; exact ⟨rfl, fun d hd => by simp at hd⟩
  | some e =>
    simp only at h
    split at h
    · rename_i hc
      simp only [Option.some.injEq] at h; subst h
      exact ⟨Fr.get_put fr e v, fun d hd => by simp only [Option.some.injEq] at hd; subst hd; exact hc⟩
    · simp at h

theorem unloc_get (t : Nat) : ∀ (fr : Fr) (u : Nat), (fr.unloc t).get u = (fr.get u).map (unlocV t)
  | [], _ => rfl
  | (s, v) :: r, u => by
    simp only [Fr.unloc, Fr.get]
    split
    · rfl
    · exact unloc_get t r u

theorem stepOp_R {fr fr' : Fr} {o : Oper} (h : stepOp rec E c fr S o = some (fr', S')) : StepR rec E c fr.get S o fr'.get S' := by
  unfold stepOp at h
  split at h
  · rename_i v kc ups S1 hr
    split at h
    · rename_i fr1 hp
      simp only [Option.some.injEq, Prod.mk.injEq] at h
      obtain ⟨rfl, rfl⟩ := h
      obtain ⟨h1, h2⟩ := putO_get hp
      exact ⟨_, hr, rfl, by rw [h1, get_puts], h2⟩
    · simp at h
  · rename_i cs hr
    split at h
    · rename_i t ht
      split at h
      · rename_i hc
        simp only [Option.some.injEq, Prod.mk.injEq] at h
        obtain ⟨rfl, rfl⟩ := h
        refine ⟨_, hr, t, (fr.unloc t).get, ht, hc.1, hc.2, ?_, ?_, Fr.get_put _ _ _, rfl⟩
        · intro u v hv
          rw [unloc_get] at hv
          cases e : fr.get u with
          | none => rw [e] at hv; simp at hv
          | some x =>
            rw [e] at hv
            simp only [Option.map_some, Option.some.injEq] at hv
            by_cases hx : ∃ s q, x = .loc s q
            · obtain ⟨s, q, rfl⟩ := hx
              simp only [unlocV] at hv
              split at hv
              · exact .inr hv.symm
              · exact .inl (by rw [← hv])
            · have : unlocV t x = x := by
                cases x <;> first | rfl | (exact absurd ⟨_, _, rfl⟩ hx)
              rw [this] at hv
              exact .inl (by rw [hv])
        · intro u off hu
          rw [unloc_get] at hu
          cases e : fr.get u with
          | none => rw [e] at hu; simp at hu
          | some x =>
            rw [e] at hu
            simp only [Option.map_some, Option.some.injEq] at hu
            cases x <;> simp only [unlocV, reduceCtorEq] at hu
            split at hu
            · simp at hu
            · rename_i hne; simp only [Val.loc.injEq] at hu; exact hne hu.1
      · simp at h
    · simp at h
  · rename_i q args hr
    split at h
    · rename_i v S1 hv
      split at h
      · rename_i fr1 hp
        simp only [Option.some.injEq, Prod.mk.injEq] at h
        obtain ⟨rfl, rfl⟩ := h
        obtain ⟨h1, h2⟩ := putO_get hp
        exact ⟨_, hr, v, hv, h1, h2⟩
      · simp at h
    · simp at h
  · rename_i l args hr
    split at h
    · rename_i v S1 hv
      split at h
      · rename_i fr1 hp
        simp only [Option.some.injEq, Prod.mk.injEq] at h
        obtain ⟨rfl, rfl⟩ := h
        obtain ⟨h1, h2⟩ := putO_get hp
        exact ⟨_, hr, v, hv, h1, h2⟩
      · simp at h
    · simp at h
  · simp at h
end
end Go.V

/- Lists of operations; a region in the order of the text. -/
namespace Go.V

def RunL (rec : Rec) (E : Env) (c : Ctx) (all : Array Oper) : List Nat → G → St → G → St → Prop
  | [], g, S, g', S' => g' = g ∧ S' = S
  | i :: l, g, S, g', S' => ∃ o, all[i]? = some o ∧
      ((wantedV all g o = some true ∧ ∃ g1 S1, StepR rec E c g S o g1 S1 ∧ RunL rec E c all l g1 S1 g' S') ∨
       (wantedV all g o = some false ∧ dstOk c o.dst ∧ RunL rec E c all l (putG g o.dst (.tup [])) S g' S'))

section
variable {E : Env} {k k' k'' : K} {S S' S'' : St} {f d n : Nat} {ro : Option Nat} {g g' : G} {tmps tmps' tmps'' : Array Value} {de : List Deferred} {c : Ctx} {rec : Rec}

theorem runL_sound (hcall : ∀ h args S v S', callV rec E h args S = some (v, S') → CallOk E h args S v S') (hyield : ∀ l args S v S', yieldV rec E l args S = some (v, S') → YieldOk E l args S v S')
    {all : Array Oper} (items : List Item) (cs : List Frame) : ∀ (l : List Nat) {k : K} {S : St} {g : G} {tmps : Array Value}, FrOk E k S f d c.n ro g tmps de → RunL rec E c all l g S g' S' →
    ∃ k' tmps', Steps E.P (lone (frm c.f ro tmps (.inRegion all l :: items) de) cs k.w) (lone (frm c.f ro tmps' items de) cs k'.w) ∧
      FrOk E k' S' f d c.n ro g' tmps' de ∧ Went c f k S tmps k' S' tmps'
  | [], k, S, g, tmps, hO, h => by
    obtain ⟨rfl, rfl⟩ := h
    exact ⟨k, tmps, .one st_region_end, hO, .refl⟩
  | i :: l, k, S, g, tmps, hO, h => by
    obtain ⟨o, ho, h⟩ := h
    rcases h with ⟨hw, g1, S1, hs, hl⟩ | ⟨hw, hd, hl⟩
    · obtain ⟨k1, t1, s1, hO1, w1⟩ := step_sound hcall hyield hO hs ho (wanted_ok hO.fr hw) l items cs
      obtain ⟨k2, t2, s2, hO2, w2⟩ := runL_sound hcall hyield items cs l hO1 hl
      exact ⟨k2, t2, s1.trans s2, hO2, w1.trans hO.sim w2⟩
    · obtain ⟨t1, s1, hO1, w1⟩ := step_unwanted hO hd ho (wanted_ok hO.fr hw) l items cs
      obtain ⟨k2, t2, s2, hO2, w2⟩ := runL_sound hcall hyield items cs l hO1 hl
      exact ⟨k2, t2, s1.trans s2, hO2, w1.trans hO.sim w2⟩

theorem opsV_R {all : Array Oper} : ∀ (l : List Oper) (p : Nat) {fr fr' : Fr} {S S' : St}, all.toList.drop p = l → opsV rec E c all l fr S = some (fr', S') →
    RunL rec E c all (List.range' p l.length) fr.get S fr'.get S'
  | [], p, fr, fr', S, S', _, h => by
    simp only [opsV, Option.some.injEq, Prod.mk.injEq] at h
    obtain ⟨rfl, rfl⟩ := h
    exact ⟨rfl, rfl⟩
  | o :: l, p, fr, fr', S, S', hp, h => by
    have ho : all[p]? = some o := by
      rw [← Array.getElem?_toList]
      have := congrArg (·[0]?) hp
      simpa using this
    have hp' : all.toList.drop (p + 1) = l := by
      rw [← List.tail_drop, hp]; rfl
    rw [List.length_cons, List.range'_succ]
    refine ⟨o, ho, ?_⟩
    simp only [opsV] at h
    split at h
    · rename_i hw
      split at h
      · rename_i fr1 S1 hs
        exact .inl ⟨hw, _, _, stepOp_R hs, opsV_R l (p + 1) hp' h⟩
      · simp at h
    · rename_i hw
      split at h
      · rename_i fr1 hput
        obtain ⟨h1, h2⟩ := putO_get hput
        refine .inr ⟨hw, h2, ?_⟩
        rw [← h1]
        exact opsV_R l (p + 1) hp' h
      · simp at h
    · simp at h

theorem keep_get : ∀ (l : List Nat) (fr : Fr) {t : Nat} {v : Val}, (fr.keep l).get t = some v → fr.get t = some v
  | [], _, _, _, h => by simp [Fr.keep, Fr.get] at h
  | s :: l, fr, t, v, h => by
    simp only [Fr.keep] at h
    split at h
    · rename_i u hu
      simp only [Fr.get] at h
      split at h
      · rename_i e; subst e; rw [hu]; exact h
      · exact keep_get l fr h
    · exact keep_get l fr h

theorem FrOk.weak (h : FrOk E k S f d n ro g tmps de) (hw : Weak g' g) : FrOk E k S f d n ro g' tmps de := { h with fr := h.fr.weak hw }
theorem FrOk.keep {fr : Fr} (h : FrOk E k S f d n ro fr.get tmps de) (l : List Nat) : FrOk E k S f d n ro (fr.keep l).get tmps de :=
  h.weak fun _ _ hv => .inl (keep_get l fr hv)
end

/-- where a stack of items has been left -/
def Ends (j : Option Code) (tail todo : List Item) : Prop :=
  match j with
  | none => todo = tail
  | some .ret => ∃ r, todo = .code .ret :: r
  | some (.exit id) => ∃ r, todo = .code (.exit id) :: r ∧ exitTo id r = exitTo id tail
  | _ => False

def CtxOk (E : Env) (c : Ctx) : Prop := ∃ fn : Func, E.P.funcs[c.f]? = some fn ∧ fn.ntmps = c.n

/-- what is shown of the interpreter -/
def RecOk (E : Env) (rec : Rec) : Prop :=
  ∀ (c : Ctx) (items : List Item) (fr : Fr) (S : St) (j : Option Code) (fr' : Fr) (S' : St), rec c items fr S = some (j, fr', S') → CtxOk E c →
    ∀ (k : K) (f d : Nat) (ro : Option Nat) (tmps : Array Value) (de : List Deferred) (tail : List Item) (cs : List Frame), FrOk E k S f d c.n ro fr.get tmps de →
      ∃ k' tmps' de' todo', Steps E.P (lone (frm c.f ro tmps (items ++ tail) de) cs k.w) (lone (frm c.f ro tmps' todo' de') cs k'.w) ∧ Ends j tail todo' ∧
        FrOk E k' S' f d c.n ro fr'.get tmps' de' ∧ Went c f k S tmps k' S' tmps' ∧ (ro ≠ none → de' = de)

theorem exitTo_append (id : Nat) : ∀ (a b : List Item), exitTo id (a ++ b) = match exitTo id a with | some k => some (k ++ b) | none => exitTo id b
  | [], b => rfl
  | x :: a, b => by
    cases x <;> simp only [List.cons_append, exitTo, exitTo_append id a b]
    split <;> rfl
end Go.V

/- What stays when blocks or a loop are given up. -/
namespace Go.V

mutual
/-- refers to blocks in B and loops in Y alone -/
def Val.Fine (B Y : Nat → Prop) : Val → Prop
  | .ptr b _ _ | .sl b _ _ _ _ | .map b => B b
  | .yield l => Y l
  | .sli cs len _ => len = 0 ∨ Val.Fines B Y cs
  | .pin cs _ | .lv cs | .fn _ cs | .agg cs | .tup cs => Val.Fines B Y cs
  | .ifc _ v => v.Fine B Y
  | _ => True
def Val.Fines (B Y : Nat → Prop) : List Val → Prop
  | [] => True
  | v :: l => v.Fine B Y ∧ Val.Fines B Y l
end

theorem Val.Fines.get {B Y : Nat → Prop} : ∀ {l : List Val} {i : Nat} {v : Val}, Val.Fines B Y l → l[i]? = some v → v.Fine B Y
  | v :: l, 0, _, h, hi => by simp only [List.getElem?_cons_zero, Option.some.injEq] at hi; subst hi; simp only [Val.Fines] at h; exact h.1
  | _ :: l, i + 1, _, h, hi => by simp only [Val.Fines] at h; exact h.2.get (by simpa using hi)
  | [], _, _, _, hi => by simp at hi

mutual
theorem Val.low_fine (n : Nat) : ∀ v : Val, v.low n = true → v.Fine (· < n) (fun _ => True)
  | .ptr .., h | .sl .., h | .map _, h => by simpa only [Val.low, Val.Fine, decide_eq_true_eq] using h
  | .sli cs _ _, h => by simp only [Val.low] at h; simp only [Val.Fine]; exact .inr (Val.lows_fine n cs h)
  | .pin cs _, h | .lv cs, h | .fn _ cs, h | .agg cs, h | .tup cs, h => by
    simp only [Val.low] at h; simp only [Val.Fine]; exact Val.lows_fine n cs h
  | .ifc _ v, h => by simp only [Val.low] at h; simp only [Val.Fine]; exact Val.low_fine n v h
  | .yield _, _ => by simp [Val.Fine]
  | .unk, _ | .bool _, _ | .int .., _ | .str _, _ | .nilp, _ | .loc .., _ | .nilf, _ | .nilm, _ | .nili, _ => by simp [Val.Fine]
theorem Val.lows_fine (n : Nat) : ∀ l : List Val, Val.lows n l = true → Val.Fines (· < n) (fun _ => True) l
  | [], _ => by simp [Val.Fines]
  | v :: l, h => by
    simp only [Val.lows, Bool.and_eq_true] at h
    simp only [Val.Fines]
    exact ⟨Val.low_fine n v h.1, Val.lows_fine n l h.2⟩
end
mutual
theorem Val.noY_fine (m : Nat) : ∀ v : Val, v.noY m = true → v.Fine (fun _ => True) (· < m)
  | .ptr .., _ | .sl .., _ | .map _, _ => by simp [Val.Fine]
  | .sli cs _ _, h => by simp only [Val.noY] at h; simp only [Val.Fine]; exact .inr (Val.noYs_fine m cs h)
  | .pin cs _, h | .lv cs, h | .fn _ cs, h | .agg cs, h | .tup cs, h => by
    simp only [Val.noY] at h; simp only [Val.Fine]; exact Val.noYs_fine m cs h
  | .ifc _ v, h => by simp only [Val.noY] at h; simp only [Val.Fine]; exact Val.noY_fine m v h
  | .yield _, h => by simpa only [Val.noY, Val.Fine, decide_eq_true_eq] using h
  | .unk, _ | .bool _, _ | .int .., _ | .str _, _ | .nilp, _ | .loc .., _ | .nilf, _ | .nilm, _ | .nili, _ => by simp [Val.Fine]
theorem Val.noYs_fine (m : Nat) : ∀ l : List Val, Val.noYs m l = true → Val.Fines (fun _ => True) (· < m) l
  | [], _ => by simp [Val.Fines]
  | v :: l, h => by
    simp only [Val.noYs, Bool.and_eq_true] at h
    simp only [Val.Fines]
    exact ⟨Val.noY_fine m v h.1, Val.noYs_fine m l h.2⟩
end

mutual
theorem Val.Fine.mono {B Y B' Y' : Nat → Prop} (hB : ∀ b, B b → B' b) (hY : ∀ l, Y l → Y' l) : ∀ v : Val, v.Fine B Y → v.Fine B' Y'
  | .ptr .., h | .sl .., h | .map _, h => by simp only [Val.Fine] at h ⊢; exact hB _ h
  | .sli cs _ _, h => by simp only [Val.Fine] at h ⊢; exact h.imp id (Val.Fines.mono hB hY cs)
  | .pin cs _, h | .lv cs, h | .fn _ cs, h | .agg cs, h | .tup cs, h => by
    simp only [Val.Fine] at h ⊢; exact Val.Fines.mono hB hY cs h
  | .ifc _ v, h => by simp only [Val.Fine] at h ⊢; exact Val.Fine.mono hB hY v h
  | .yield _, h => by simp only [Val.Fine] at h ⊢; exact hY _ h
  | .unk, _ | .bool _, _ | .int .., _ | .str _, _ | .nilp, _ | .loc .., _ | .nilf, _ | .nilm, _ | .nili, _ => by simp [Val.Fine]
theorem Val.Fines.mono {B Y B' Y' : Nat → Prop} (hB : ∀ b, B b → B' b) (hY : ∀ l, Y l → Y' l) : ∀ l : List Val, Val.Fines B Y l → Val.Fines B' Y' l
  | [], _ => by simp [Val.Fines]
  | v :: l, h => by simp only [Val.Fines] at h ⊢; exact ⟨Val.Fine.mono hB hY v h.1, Val.Fines.mono hB hY l h.2⟩
end

section
variable {E : Env} {k k' : K} {S : St}
mutual
/-- what stands for something refers to what there is -/
theorem Rep.fine (hS : Sim E k S) : ∀ (x : Val) (v : Value), Rep k x v → x.Fine (· < S.H.length) (· < S.L.length)
  | .ptr b _ none, _, h => by
    simp only [Rep] at h; simp only [Val.Fine]
    obtain ⟨⟨n, h⟩, _⟩ := h
    rw [hS.sh] at h
    simp only [Option.map_eq_some_iff] at h
    obtain ⟨_, h, _⟩ := h
    exact (List.getElem?_eq_some_iff.1 h).1
  | .ptr b _ (some _), _, h => by
    simp only [Rep] at h; simp only [Val.Fine]
    obtain ⟨n, _, h, _⟩ := h
    rw [hS.sh] at h
    simp only [Option.map_eq_some_iff] at h
    obtain ⟨_, h, _⟩ := h
    exact (List.getElem?_eq_some_iff.1 h).1
  | .sl b _ _ _ (.fix _), _, h => by
    simp only [Rep] at h; simp only [Val.Fine]
    obtain ⟨⟨n, h⟩, _⟩ := h
    rw [hS.sh] at h
    simp only [Option.map_eq_some_iff] at h
    obtain ⟨_, h, _⟩ := h
    exact (List.getElem?_eq_some_iff.1 h).1
  | .sl b _ _ _ (.flex _), _, h => by
    simp only [Rep] at h; simp only [Val.Fine]
    obtain ⟨n, _, _, h, _⟩ := h
    rw [hS.sh] at h
    simp only [Option.map_eq_some_iff] at h
    obtain ⟨_, h, _⟩ := h
    exact (List.getElem?_eq_some_iff.1 h).1
  | .map b, _, h => by
    simp only [Rep] at h; simp only [Val.Fine]
    have h := h.1
    rw [hS.sh] at h
    simp only [Option.map_eq_some_iff] at h
    obtain ⟨_, h, _⟩ := h
    exact (List.getElem?_eq_some_iff.1 h).1
  | .yield l, _, h => by simp only [Rep] at h; simp only [Val.Fine]; exact hS.dead _ _ h.1
  | .pin cs _, _, h => by
    simp only [Rep] at h; simp only [Val.Fine]
    obtain ⟨c, o, _, h⟩ := h
    exact RepMem.fine hS c o cs h
  | .lv _, _, h => by simp [Rep] at h
  | .loc _ _, _, h => by simp [Rep] at h
  | .sli cs len q, _, h => by
    simp only [Rep] at h; simp only [Val.Fine]
    obtain ⟨a, cp, _, _, _, _, h⟩ := h
    rcases h with h | ⟨c, o, _, h⟩
    · exact .inl h
    · exact .inr (RepMem.fine hS c o cs h)
  | .fn _ cs, _, h => by
    simp only [Rep] at h; simp only [Val.Fine]
    obtain ⟨a, _, h⟩ := h
    exact RepAll.fine hS cs _ h
  | .agg cs, _, h => by
    simp only [Rep] at h; simp only [Val.Fine]
    obtain ⟨a, _, h, _⟩ := h
    exact RepAll.fine hS cs _ h
  | .tup cs, _, h => by
    simp only [Rep] at h; simp only [Val.Fine]
    obtain ⟨a, _, h⟩ := h
    exact RepAll.fine hS cs _ h
  | .ifc _ x, _, h => by
    simp only [Rep] at h; simp only [Val.Fine]
    obtain ⟨y, _, h⟩ := h
    exact Rep.fine hS x y h
  | .unk, _, _ | .bool _, _, _ | .int .., _, _ | .str _, _, _ | .nilp, _, _ | .nilf, _, _ | .nilm, _, _ | .nili, _, _ => by simp [Val.Fine]
theorem RepMem.fine (hS : Sim E k S) (c o : Nat) : ∀ (l : List Val), RepMem k c o l → Val.Fines (· < S.H.length) (· < S.L.length) l
  | [], _ => by simp [Val.Fines]
  | x :: l, h => by
    simp only [RepMem] at h; simp only [Val.Fines]
    obtain ⟨⟨_, v, _, _, hx⟩, hl⟩ := h
    exact ⟨Rep.fine hS x v hx, RepMem.fine hS c (o + 1) l hl⟩
theorem RepAll.fine (hS : Sim E k S) : ∀ (l : List Val) (vs : List Value), RepAll k l vs → Val.Fines (· < S.H.length) (· < S.L.length) l
  | [], [], _ => by simp [Val.Fines]
  | x :: l, v :: m, h => by
    simp only [RepAll] at h; simp only [Val.Fines]
    exact ⟨Rep.fine hS x v h.1, RepAll.fine hS l m h.2⟩
  | [], _ :: _, h => by simp [RepAll] at h
  | _ :: _, [], h => by simp [RepAll] at h
end
end

/-- some blocks and loops are given up -/
structure Cut (k k' : K) (B Y : Nat → Prop) : Prop where
  sh : ∀ b, B b → k'.sh b = k.sh b ∧ k'.σ b = k.σ b ∧ k'.room b = k.room b
  lp : ∀ l, Y l → k.own (k.lo l) = some (.loop l) → k'.lo l = k.lo l ∧ k'.own (k.lo l) = some (.loop l) ∧ k'.lp l = k.lp l
  inl : ∀ c, k.own c = none → k'.own c = none ∧ k'.w.heap[c]? = k.w.heap[c]?

section
variable {E : Env} {k k' : K} {S : St} {B Y : Nat → Prop}
mutual
theorem Rep.cutTo (hc : Cut k k' B Y) : ∀ (x : Val) (v : Value), x.Fine B Y → Rep k x v → Rep k' x v
  | .unk, _, _, _ => by simp [Rep]
  | .bool _, _, _, r => by simpa [Rep] using r
  | .int _ _, _, _, r => by simpa [Rep] using r
  | .str _, _, _, r => by simpa [Rep] using r
  | .nilp, _, _, r => by simpa [Rep] using r
  | .ptr b off none, _, hf, r => by
    simp only [Val.Fine] at hf
    simp only [Rep] at r ⊢
    obtain ⟨h1, h2, _⟩ := hc.sh b hf
    rw [h1, h2]; exact r
  | .ptr b off (some e), _, hf, r => by
    simp only [Val.Fine] at hf
    simp only [Rep] at r ⊢
    obtain ⟨h1, h2, _⟩ := hc.sh b hf
    rw [h1, h2]; exact r
  | .pin cs off, _, hf, r => by
    simp only [Val.Fine] at hf
    simp only [Rep] at r ⊢
    obtain ⟨c, o, hv, hm⟩ := r
    exact ⟨c, o, hv, RepMem.cutTo hc c o cs hf hm⟩
  | .lv _, _, _, r => by simp [Rep] at r
  | .loc _ _, _, _, r => by simp [Rep] at r
  | .sl b off len _ (.fix cp), _, hf, r => by
    simp only [Val.Fine] at hf
    simp only [Rep] at r ⊢
    obtain ⟨h1, h2, _⟩ := hc.sh b hf
    rw [h1, h2]; exact r
  | .sl b off len _ (.flex e), _, hf, r => by
    simp only [Val.Fine] at hf
    simp only [Rep] at r ⊢
    obtain ⟨h1, h2, h3⟩ := hc.sh b hf
    rw [h1, h2, h3]; exact r
  | .sli cs len q, _, hf, r => by
    simp only [Val.Fine] at hf
    simp only [Rep] at r ⊢
    obtain ⟨a, cp, hv, h1, h2, h3, h4⟩ := r
    refine ⟨a, cp, hv, h1, h2, h3, ?_⟩
    rcases h4 with h4 | ⟨c, o, ha, hm⟩
    · exact .inl h4
    · rcases hf with hf | hf
      · exact .inl hf
      · exact .inr ⟨c, o, ha, RepMem.cutTo hc c o cs hf hm⟩
  | .fn f cs, _, hf, r => by
    simp only [Val.Fine] at hf
    simp only [Rep] at r ⊢
    obtain ⟨a, hv, hm⟩ := r
    exact ⟨a, hv, RepAll.cutTo hc cs _ hf hm⟩
  | .yield l, _, hf, r => by
    simp only [Val.Fine] at hf
    simp only [Rep] at r ⊢
    obtain ⟨h1, h2, _⟩ := hc.lp l hf r.1
    rw [h1]
    exact ⟨h2, r.2⟩
  | .nilf, _, _, r => by simpa [Rep] using r
  | .map b, _, hf, r => by
    simp only [Val.Fine] at hf
    simp only [Rep] at r ⊢
    obtain ⟨h1, h2, _⟩ := hc.sh b hf
    rw [h1, h2]; exact r
  | .nilm, _, _, r => by simpa [Rep] using r
  | .ifc t x, _, hf, r => by
    simp only [Val.Fine] at hf
    simp only [Rep] at r ⊢
    obtain ⟨y, hv, hm⟩ := r
    exact ⟨y, hv, Rep.cutTo hc x y hf hm⟩
  | .nili, _, _, r => by simpa [Rep] using r
  | .agg cs, _, hf, r => by
    simp only [Val.Fine] at hf
    simp only [Rep] at r ⊢
    obtain ⟨a, hv, hm, h1⟩ := r
    exact ⟨a, hv, RepAll.cutTo hc cs _ hf hm, h1⟩
  | .tup cs, _, hf, r => by
    simp only [Val.Fine] at hf
    simp only [Rep] at r ⊢
    obtain ⟨a, hv, hm⟩ := r
    exact ⟨a, hv, RepAll.cutTo hc cs _ hf hm⟩
theorem RepMem.cutTo (hc : Cut k k' B Y) (c o : Nat) : ∀ (cs : List Val), Val.Fines B Y cs → RepMem k c o cs → RepMem k' c o cs
  | [], _, _ => by simp [RepMem]
  | x :: l, hf, r => by
    simp only [Val.Fines] at hf
    simp only [RepMem] at r ⊢
    obtain ⟨⟨hn, v, hv, h0, hr⟩, hl⟩ := r
    obtain ⟨h1, h2⟩ := hc.inl c hn
    exact ⟨⟨h1, v, by rw [cell?_heap h2]; exact hv, h0, Rep.cutTo hc x v hf.1 hr⟩, RepMem.cutTo hc c (o + 1) l hf.2 hl⟩
theorem RepAll.cutTo (hc : Cut k k' B Y) : ∀ (cs : List Val) (vs : List Value), Val.Fines B Y cs → RepAll k cs vs → RepAll k' cs vs
  | [], [], _, _ => by simp [RepAll]
  | x :: l, v :: m, hf, r => by
    simp only [Val.Fines] at hf
    simp only [RepAll] at r ⊢
    exact ⟨Rep.cutTo hc x v hf.1 r.1, RepAll.cutTo hc l m hf.2 r.2⟩
  | [], _ :: _, _, r => by simp [RepAll] at r
  | _ :: _, [], _, r => by simp [RepAll] at r
end

theorem RepOwn.cutTo (hc : Cut k k' B Y) {c o : Nat} {cs : List Val} (hw : k'.w.heap[c]? = k.w.heap[c]?) (hf : Val.Fines B Y cs) (r : RepOwn k c o cs) : RepOwn k' c o cs :=
  RepOwn.mk fun i x hi => by
    obtain ⟨v, h1, h2, h3, h4⟩ := r.get hi
    exact ⟨v, by rw [cell?_heap hw]; exact h1, by rw [frozen?_heap hw]; exact h2, h3, h4.cutTo hc _ _ (hf.get hi)⟩

def Fines2 (B Y : Nat → Prop) (es : List (Val × Val)) : Prop := ∀ e ∈ es, e.1.Fine B Y ∧ e.2.Fine B Y
def Block.Fine (B Y : Nat → Prop) : Block → Prop
  | .cells cs _ => Val.Fines B Y cs
  | .map es => Fines2 B Y es

theorem RepEnts.cutTo (hc : Cut k k' B Y) : ∀ {l : List (Val × Val)} {m : List MapEntry}, Fines2 B Y l → RepEnts k l m → RepEnts k' l m
  | [], [], _, _ => by simp [RepEnts]
  | (a, b) :: l, e :: m, hf, r => by
    simp only [RepEnts] at r ⊢
    have h := hf (a, b) (by simp)
    exact ⟨r.1.cutTo hc _ _ h.1, r.2.1.cutTo hc _ _ h.2, RepEnts.cutTo hc (fun e he => hf e (by simp [he])) r.2.2⟩
  | [], _ :: _, _, r => by simp [RepEnts] at r
  | _ :: _, [], _, r => by simp [RepEnts] at r

theorem BRep.cutTo (hc : Cut k k' B Y) {b : Nat} {blk : Block} (hB : B b) (ho : k'.own (k.σ b).1 = k.own (k.σ b).1) (hw : k'.w.heap[(k.σ b).1]? = k.w.heap[(k.σ b).1]?) (hf : blk.Fine B Y) (r : BRep k b blk) : BRep k' b blk := by
  obtain ⟨h1, h2, h3⟩ := hc.sh b hB
  cases blk with
  | cells cs fx =>
    simp only [BRep] at r ⊢
    rw [h2, h3]
    refine ⟨ho.trans r.1, r.2.1.cutTo hc hw hf, fun e j hj => ?_⟩
    rw [cell?_heap hw, frozen?_heap hw]
    exact r.2.2 e j hj
  | map es =>
    simp only [BRep] at r ⊢
    rw [h2]
    obtain ⟨r1, ents, clock, r2, r3⟩ := r
    exact ⟨ho.trans r1, ents, clock, hw.trans r2, r3.cutTo hc hf⟩

theorem BRep.fine (hS : Sim E k S) {b : Nat} {blk : Block} (r : BRep k b blk) : blk.Fine (· < S.H.length) (· < S.L.length) := by
  cases blk with
  | cells cs fx =>
    simp only [Block.Fine]
    have h := r.2.1
    clear r
    generalize (k.σ b).2 = o at h
    induction cs generalizing o with
    | nil => simp [Val.Fines]
    | cons x l ih =>
      simp only [RepOwn] at h
      obtain ⟨⟨v, _, _, _, hx⟩, hl⟩ := h
      simp only [Val.Fines]
      exact ⟨Rep.fine hS x v hx, ih _ hl⟩
  | map es =>
    obtain ⟨_, ents, clock, _, h⟩ := r
    simp only [Block.Fine]
    generalize ents.toList = m at h
    induction es generalizing m with
    | nil => intro e he; simp at he
    | cons a es ih =>
      cases m with
      | nil => simp [RepEnts] at h
      | cons e m =>
        obtain ⟨a1, a2⟩ := a
        simp only [RepEnts] at h
        intro x hx
        rcases List.mem_cons.1 hx with rfl | hx
        · exact ⟨Rep.fine hS _ _ h.1, Rep.fine hS _ _ h.2.1⟩
        · exact ih m h.2.2 x hx

theorem Block.low_fine {n : Nat} {b : Block} (h : b.low n = true) : b.Fine (· < n) (fun _ => True) := by
  cases b with
  | cells cs fx => exact Val.lows_fine n cs h
  | map es =>
    simp only [Block.low, List.all_eq_true, Bool.and_eq_true] at h
    exact fun e he => ⟨Val.low_fine n _ (h e he).1, Val.low_fine n _ (h e he).2⟩
theorem Block.noY_fine {m : Nat} {b : Block} (h : b.noY m = true) : b.Fine (fun _ => True) (· < m) := by
  cases b with
  | cells cs fx => exact Val.noYs_fine m cs h
  | map es =>
    simp only [Block.noY, List.all_eq_true, Bool.and_eq_true] at h
    exact fun e he => ⟨Val.noY_fine m _ (h e he).1, Val.noY_fine m _ (h e he).2⟩
theorem Block.Fine.mono {B Y B' Y' : Nat → Prop} (hB : ∀ b, B b → B' b) (hY : ∀ l, Y l → Y' l) {b : Block} (h : b.Fine B Y) : b.Fine B' Y' := by
  cases b with
  | cells cs fx => exact Val.Fines.mono hB hY cs h
  | map es => exact fun e he => ⟨(h e he).1.mono hB hY, (h e he).2.mono hB hY⟩

/-- a frame's slots that are fine -/
theorem FRep.cutTo (hc : Cut k k' B Y) {f : Nat} {g : G} {tmps : Array Value} (hl : ∀ c t, k.own c = some (.lv f t) → k'.own c = k.own c ∧ k'.w.heap[c]? = k.w.heap[c]?)
    (hf : ∀ t v, g t = some v → v.Fine B Y) (r : FRep k f g tmps) : FRep k' f g tmps := by
  intro t v hv
  have h := r t v hv
  have hfv := hf t v hv
  cases v with
  | lv cs =>
    obtain ⟨c, h1, h2, h3⟩ := h
    obtain ⟨h4, h5⟩ := hl c t h2
    simp only [Val.Fine] at hfv
    exact ⟨c, h1, h4.trans h2, h3.cutTo hc h5 hfv⟩
  | loc s off => exact h
  | _ => exact Rep.cutTo hc _ _ hfv h

theorem SlotRep.fine (hS : Sim E k S) {f : Nat} {g : G} {tmps : Array Value} {t : Nat} {v : Val} (h : SlotRep k f g tmps t v) : v.Fine (· < S.H.length) (· < S.L.length) := by
  cases v with
  | lv cs =>
    obtain ⟨c, _, _, h⟩ := h
    simp only [Val.Fine]
    generalize 0 = o at h
    induction cs generalizing o with
    | nil => simp [Val.Fines]
    | cons x l ih =>
      simp only [RepOwn] at h
      obtain ⟨⟨v, _, _, _, hx⟩, hl⟩ := h
      simp only [Val.Fines]
      exact ⟨Rep.fine hS x v hx, ih _ hl⟩
  | loc s off => simp [Val.Fine]
  | _ => exact Rep.fine hS _ (tmps.getD t undef) h
end

mutual
theorem Val.beq_eq : ∀ a b : Val, a.beq b = true → a = b
  | .unk, b, h => by cases b <;> simp_all [Val.beq]
  | .bool _, b, h => by cases b <;> simp_all [Val.beq]
  | .int _ _, b, h => by cases b <;> simp_all [Val.beq]
  | .str _, b, h => by cases b <;> simp_all [Val.beq]
  | .nilp, b, h => by cases b <;> simp_all [Val.beq]
  | .ptr _ _ _, b, h => by cases b <;> simp_all [Val.beq]
  | .pin cs _, b, h => by
    cases b <;> simp only [Val.beq, Bool.false_eq_true, Bool.and_eq_true, beq_iff_eq] at h
    rw [Val.beqs_eq cs _ h.1, h.2]
  | .lv cs, b, h => by
    cases b <;> simp only [Val.beq, Bool.false_eq_true] at h
    rw [Val.beqs_eq cs _ h]
  | .loc _ _, b, h => by cases b <;> simp_all [Val.beq]
  | .sl _ _ _ _ _, b, h => by cases b <;> simp_all [Val.beq]
  | .sli cs _ _, b, h => by
    cases b <;> simp only [Val.beq, Bool.false_eq_true, Bool.and_eq_true, beq_iff_eq, decide_eq_true_eq] at h
    rw [Val.beqs_eq cs _ h.1.1, h.1.2, h.2]
  | .fn _ cs, b, h => by
    cases b <;> simp only [Val.beq, Bool.false_eq_true, Bool.and_eq_true, beq_iff_eq] at h
    rw [Val.beqs_eq cs _ h.2, h.1]
  | .yield _, b, h => by cases b <;> simp_all [Val.beq]
  | .nilf, b, h => by cases b <;> simp_all [Val.beq]
  | .map _, b, h => by cases b <;> simp_all [Val.beq]
  | .nilm, b, h => by cases b <;> simp_all [Val.beq]
  | .ifc _ v, b, h => by
    cases b <;> simp only [Val.beq, Bool.false_eq_true, Bool.and_eq_true, beq_iff_eq] at h
    rw [Val.beq_eq v _ h.2, h.1]
  | .nili, b, h => by cases b <;> simp_all [Val.beq]
  | .agg cs, b, h => by
    cases b <;> simp only [Val.beq, Bool.false_eq_true] at h
    rw [Val.beqs_eq cs _ h]
  | .tup cs, b, h => by
    cases b <;> simp only [Val.beq, Bool.false_eq_true] at h
    rw [Val.beqs_eq cs _ h]
theorem Val.beqs_eq : ∀ a b : List Val, Val.beqs a b = true → a = b
  | [], [], _ => rfl
  | x :: l, y :: m, h => by
    simp only [Val.beqs, Bool.and_eq_true] at h
    rw [Val.beq_eq x y h.1, Val.beqs_eq l m h.2]
  | [], _ :: _, h => by simp [Val.beqs] at h
  | _ :: _, [], h => by simp [Val.beqs] at h
end
theorem entriesBeq_eq : ∀ a b : List (Val × Val), entriesBeq a b = true → a = b
  | [], [], _ => rfl
  | (x, x') :: l, (y, y') :: m, h => by
    simp only [entriesBeq, Bool.and_eq_true] at h
    rw [Val.beq_eq x y h.1.1, Val.beq_eq x' y' h.1.2, entriesBeq_eq l m h.2]
  | [], _ :: _, h => by simp [entriesBeq] at h
  | _ :: _, [], h => by simp [entriesBeq] at h
theorem Block.beq_eq {a b : Block} (h : a.beq b = true) : a = b := by
  cases a <;> cases b <;> simp only [Block.beq, Bool.false_eq_true, Bool.and_eq_true, beq_iff_eq] at h
  · rw [Val.beqs_eq _ _ h.1, h.2]
  · rw [entriesBeq_eq _ _ h]
theorem frBeq_eq : ∀ {a b : Fr}, frBeq a b = true → a = b
  | [], [], _ => rfl
  | (x, x') :: l, (y, y') :: m, h => by
    simp only [frBeq, Bool.and_eq_true, beq_iff_eq] at h
    rw [h.1.1, Val.beq_eq x' y' h.1.2, frBeq_eq h.2]
  | [], _ :: _, h => by simp [frBeq] at h
  | _ :: _, [], h => by simp [frBeq] at h
end Go.V

/- The end of a call: what it made is kept, or what it handed out is frozen and the rest given up. -/
namespace Go.V

def release (k : K) (n d : Nat) : K :=
  { k with own := fun c => match k.own c with
             | some (.h b) => if b < n then some (.h b) else none
             | some (.lv f t) => if f = d then none else some (.lv f t)
             | some (.mark f) => if f = d then none else some (.mark f)
             | x => x,
           sh := fun b => if b < n then k.sh b else none }

section
variable {E : Env} {k k0 k1 : K} {S S0 S1 : St} {n d : Nat} {T : Nat → Prop}

theorem release_loop {c l : Nat} (h : k.own c = some (.loop l)) : (release k n d).own c = some (.loop l) := by simp only [release, h]
theorem release_none {c : Nat} (h : k.own c = none) : (release k n d).own c = none := by simp only [release, h]
theorem release_h {c b : Nat} (h : k.own c = some (.h b)) (hb : b < n) : (release k n d).own c = some (.h b) := by simp only [release, h, hb, if_true]
theorem release_lv {c f t : Nat} (h : k.own c = some (.lv f t)) (hb : f ≠ d) : (release k n d).own c = some (.lv f t) := by simp only [release, h, hb, if_false]

theorem release_cut (k : K) (n d : Nat) : Cut k (release k n d) (· < n) (fun _ => True) where
  sh := fun b hb => ⟨by simp only [release, hb, if_true], rfl, rfl⟩
  lp := fun l _ h => ⟨rfl, release_loop h, rfl⟩
  inl := fun c h => ⟨release_none h, rfl⟩

theorem release_le (hS : Sim E k0 S0) (h : k0.Le k1) (hn : S0.H.length ≤ n) : k0.Le (release k1 n d) where
  sh := fun b s hb => by
    have hlt : b < n := by
      rw [hS.sh] at hb
      simp only [Option.map_eq_some_iff] at hb
      obtain ⟨_, hb, _⟩ := hb
      have := (List.getElem?_eq_some_iff.1 hb).1
      omega
    have e : (release k1 n d).sh b = k1.sh b := by simp only [release, hlt, if_true]
    rw [e]
    exact h.sh b s hb
  loop := fun l hl => by
    obtain ⟨h1, h2, h3⟩ := h.loop l hl
    exact ⟨h1, release_loop h2, h3⟩
  inl := fun c hc hn => by
    obtain ⟨h1, h2⟩ := h.inl c hc hn
    exact ⟨release_none h1, h2⟩

theorem release_evo (hS : Sim E k0 S0) (h : Evo k0 k1 (touch k0 S0.L)) (hn : S0.H.length ≤ n) (hB : Bound k0 d) : Evo k0 (release k1 n d) (touch k0 S0.L) where
  le := release_le hS h.le hn
  os := h.os
  tape := h.tape
  output := h.output
  size := h.size
  keep := fun c hc ht => by
    obtain ⟨h1, h2⟩ := h.keep c hc ht
    refine ⟨?_, h2⟩
    rw [← h1]
    cases e : k1.own c with
    | none => exact release_none e
    | some o =>
      have e0 := e
      rw [h1] at e0
      cases o with
      | h b => exfalso; apply ht; unfold touch; rw [e0]; trivial
      | loop l => exact release_loop e
      | lv f t =>
        refine release_lv e ?_
        rintro rfl
        have := (hB c).1 _ _ e0; omega
      | mark f =>
        have hne : f ≠ d := by rintro rfl; have := (hB c).2 _ e0; omega
        simp only [release, e, hne, if_false]

theorem release_bound (hB : Bound k (d + 1)) : Bound (release k n d) d := by
  intro c
  constructor
  · intro f t h
    simp only [release] at h
    cases e : k.own c with
    | none => rw [e] at h; simp at h
    | some o =>
      rw [e] at h
      cases o with
      | lv f' t' =>
        simp only at h
        split at h
        · simp at h
        · simp only [Option.some.injEq, Own.lv.injEq] at h
          have := (hB c).1 _ _ e; omega
      | h b => simp only at h; split at h <;> simp at h
      | mark _ => simp only at h; split at h <;> simp at h
      | loop _ => simp at h
  · intro f h
    simp only [release] at h
    cases e : k.own c with
    | none => rw [e] at h; simp at h
    | some o =>
      rw [e] at h
      cases o with
      | mark f' =>
        simp only at h
        split at h
        · simp at h
        · simp only [Option.some.injEq, Own.mark.injEq] at h
          have := (hB c).2 _ e; omega
      | h b => simp only at h; split at h <;> simp at h
      | lv _ _ => simp only at h; split at h <;> simp at h
      | loop _ => simp at h

theorem release_own_some {c : Nat} {o : Own} (h : (release k n d).own c = some o) : k.own c = some o := by
  simp only [release] at h
  cases e : k.own c with
  | none => rw [e] at h; simp at h
  | some x =>
    rw [e] at h
    cases x <;> simp only at h <;> first | exact h | (split at h <;> first | exact h | simp at h)

theorem release_sim (hS : Sim E k S) (hblk : ∀ (b : Nat) (blk : Block), b < n → S.H[b]? = some blk → blk.Fine (· < n) (fun _ => True))
    (hloop : ∀ (l : Nat) (r : LoopRec), S.L[l]? = some r → r.busy = false → ∀ t v, r.fr.get t = some v → v.Fine (· < n) (fun _ => True))
    (hfid : ∀ (l : Nat) (r : LoopRec), S.L[l]? = some r → k.fid l ≠ d) (hglob : ∀ g cs, E.glob g = some cs → RepMem (release k n d) g 0 cs) :
    Sim E (release k n d) { S with H := S.H.take n } where
  sh := fun b => by
    simp only [release, List.getElem?_take]
    split
    · exact hS.sh b
    · rfl
  blk := fun b blk hb => by
    simp only [List.getElem?_take] at hb
    split at hb
    · rename_i hlt
      have r := hS.blk b blk hb
      exact r.cutTo (release_cut k n d) hlt (by rw [r.own]; exact release_h r.own hlt) rfl (hblk b blk hlt hb)
    · simp at hb
  loop := fun l r hr => by
    have q := hS.loop l r hr
    obtain ⟨tm, de, q1, q2, q3, q4⟩ := q.rep
    exact ⟨release_loop q.own, ⟨tm, de, q1, fun hb => (q2 hb).cutTo (release_cut k n d) (fun c t hc => ⟨by rw [hc]; exact release_lv hc (hfid l r hr), rfl⟩) (hloop l r hr hb), q3, q4⟩, q.pend⟩
  ownlt := fun c o h => hS.ownlt c o (release_own_some h)
  glob := hglob
  dead := fun c l h => hS.dead c l (release_own_some h)

theorem mapO_get {fn : Val → Option Val} : ∀ {l l' : List Val}, mapO fn l = some l' → l'.length = l.length ∧ ∀ (i : Nat) (y : Val), l'[i]? = some y → ∃ x, l[i]? = some x ∧ fn x = some y
  | [], l', h => by simp only [mapO, Option.some.injEq] at h; subst h; simp
  | v :: l, l', h => by
    simp only [mapO] at h
    split at h
    · rename_i a b ha hb
      simp only [Option.some.injEq] at h; subst h
      obtain ⟨h1, h2⟩ := mapO_get hb
      refine ⟨by simp [h1], fun i y hi => ?_⟩
      cases i with
      | zero => simp only [List.getElem?_cons_zero, Option.some.injEq] at hi; subst hi; exact ⟨v, rfl, ha⟩
      | succ i => simpa using h2 i y (by simpa using hi)
    · simp at h

/-- what is handed out, frozen -/
theorem fz_rep (hS : Sim E k S) : ∀ (D : Nat) {v v' : Val} {cv : Value}, fz n S D v = some v' → Rep k v cv → Rep (release k n d) v' cv
  | 0, _, _, _, h, _ => by simp [fz] at h
  | D + 1, v, v', cv, h, hr => by
    simp only [fz] at h
    split at h
    · rename_i hl
      simp only [Option.some.injEq] at h; subst h
      exact hr.cutTo (release_cut k n d) _ _ (Val.low_fine n v hl)
    · rename_i hnl
      have mem : ∀ {c o : Nat} {l l' : List Val}, mapO (fz n S D) l = some l' → (release k n d).own c = none → CellsRep k c o l → RepMem (release k n d) c o l' := by
        intro c o l l' hm hc hr
        obtain ⟨_, h2⟩ := mapO_get hm
        refine RepMem.mk fun i y hi => ?_
        obtain ⟨x, hx, hxy⟩ := h2 i y hi
        obtain ⟨u, p1, p2, p3⟩ := hr i x hx
        exact ⟨hc, u, p1, p2, fz_rep hS D hxy p3⟩
      have all : ∀ {l l' : List Val} {vs : List Value}, mapO (fz n S D) l = some l' → RepAll k l vs → RepAll (release k n d) l' vs := by
        intro l l' vs hm hr
        obtain ⟨h1, h2⟩ := mapO_get hm
        refine RepAll.mk (by rw [h1]; exact hr.length) fun i y hi => ?_
        obtain ⟨x, hx, hxy⟩ := h2 i y hi
        obtain ⟨u, p1, p2⟩ := hr.get hx
        exact ⟨u, p1, fz_rep hS D hxy p2⟩
      have gone : ∀ {b : Nat}, ¬ b < n → k.own (k.σ b).1 = some (.h b) → (release k n d).own (k.σ b).1 = none := by
        intro b hb ho
        simp only [release, ho, hb, if_false]
      cases v with
      | ptr b off e =>
        simp only [Val.low, decide_eq_true_eq] at hnl
        simp only at h
        split at h
        · rename_i cs hcs
          simp only [Option.map_eq_some_iff] at h
          obtain ⟨l, hm, rfl⟩ := h
          obtain ⟨p1, p2, p3⟩ := ptr_rep hS hr hcs
          simp only [Rep]
          exact ⟨_, _, p1, mem hm (gone hnl p3) p2.reads⟩
        · simp at h
      | sl b off len es cp =>
        simp only [Val.low, decide_eq_true_eq] at hnl
        simp only at h
        split at h
        · rename_i cs hcs
          split at h
          · rename_i l hcut
            simp only [Option.map_eq_some_iff] at h
            obtain ⟨l', hm, rfl⟩ := h
            obtain ⟨cap, p1, p2, _, p3, p4⟩ := sl_rep hS hr hcs
            simp only [Rep]
            exact ⟨_, cap, p1, p2, by simp, by simp, .inr ⟨_, _, rfl, mem hm (gone hnl p4) (p3.reads.sub hcut).1⟩⟩
          · simp at h
        · simp at h
      | pin cs o =>
        simp only [Option.map_eq_some_iff] at h
        obtain ⟨l, hm, rfl⟩ := h
        simp only [Rep] at hr ⊢
        obtain ⟨c, o', p1, p2⟩ := hr
        refine ⟨c, o', p1, ?_⟩
        cases cs with
        | nil => simp only [mapO, Option.some.injEq] at hm; subst hm; simp [RepMem]
        | cons x xs =>
          have hn : k.own c = none := by simp only [RepMem] at p2; exact p2.1.1
          exact mem hm (release_none hn) p2.reads
      | sli cs len q =>
        simp only [Option.map_eq_some_iff] at h
        obtain ⟨l, hm, rfl⟩ := h
        simp only [Rep] at hr ⊢
        obtain ⟨a, cp, p1, p2, p3, p4, p5⟩ := hr
        refine ⟨a, cp, p1, p2, p3, p4, ?_⟩
        rcases p5 with p5 | ⟨c, o', p6, p7⟩
        · exact .inl p5
        · refine .inr ⟨c, o', p6, ?_⟩
          cases cs with
          | nil => simp only [mapO, Option.some.injEq] at hm; subst hm; simp [RepMem]
          | cons x xs =>
            have hn : k.own c = none := by simp only [RepMem] at p7; exact p7.1.1
            exact mem hm (release_none hn) p7.reads
      | fn q cs =>
        simp only [Option.map_eq_some_iff] at h
        obtain ⟨l, hm, rfl⟩ := h
        simp only [Rep] at hr ⊢
        obtain ⟨a, p1, p2⟩ := hr
        exact ⟨a, p1, all hm p2⟩
      | agg cs =>
        simp only [Option.map_eq_some_iff] at h
        obtain ⟨l, hm, rfl⟩ := h
        simp only [Rep] at hr ⊢
        obtain ⟨a, p1, p2, p3⟩ := hr
        exact ⟨a, p1, all hm p2, p3⟩
      | tup cs =>
        simp only [Option.map_eq_some_iff] at h
        obtain ⟨l, hm, rfl⟩ := h
        simp only [Rep] at hr ⊢
        obtain ⟨a, p1, p2⟩ := hr
        exact ⟨a, p1, all hm p2⟩
      | ifc t x =>
        simp only [Option.map_eq_some_iff] at h
        obtain ⟨y, hm, rfl⟩ := h
        simp only [Rep] at hr ⊢
        obtain ⟨u, p1, p2⟩ := hr
        exact ⟨u, p1, fz_rep hS D hm p2⟩
      | _ => simp at h

theorem Fr.get_mem {t : Nat} {v : Val} : ∀ {fr : Fr}, fr.get t = some v → (t, v) ∈ fr
  | (s, u) :: r, h => by
    simp only [Fr.get] at h
    split at h
    · rename_i e; subst e; simp only [Option.some.injEq] at h; subst h; simp
    · exact List.mem_cons_of_mem _ (Fr.get_mem h)
  | [], h => by simp [Fr.get] at h

theorem keptH_get : ∀ {a b : List Block} {i : Nat} {x : Block}, keptH n a b = true → i < a.length → b[i]? = some x → a[i]? = some x ∨ x.low n = true
  | a :: l, b :: m, 0, x, h, _, hi => by
    simp only [keptH, Bool.and_eq_true, Bool.or_eq_true] at h
    simp only [List.getElem?_cons_zero, Option.some.injEq] at hi; subst hi
    rcases h.1 with h | h
    · exact .inr h
    · exact .inl (by rw [Block.beq_eq h]; rfl)
  | a :: l, b :: m, i + 1, x, h, hlt, hi => by
    simp only [keptH, Bool.and_eq_true] at h
    simpa using keptH_get (i := i) h.2 (by simpa using hlt) (by simpa using hi)
  | [], _, _, _, _, hlt, _ => by simp at hlt
  | _ :: _, [], _, _, h, _, _ => by simp [keptH] at h
theorem keptL_get : ∀ {a b : List LoopRec} {i : Nat} {x : LoopRec}, keptL n a b = true → b[i]? = some x → x.busy = false → (∃ y, a[i]? = some y ∧ y.fr = x.fr) ∨ ∀ t v, x.fr.get t = some v → v.low n = true
  | a :: l, b :: m, 0, x, h, hi, hb => by
    simp only [keptL, Bool.and_eq_true, Bool.or_eq_true] at h
    simp only [List.getElem?_cons_zero, Option.some.injEq] at hi; subst hi
    rcases h.1 with (h | h) | h
    · rw [hb] at h; simp at h
    · exact .inr fun t v hv => (List.all_eq_true.1 h) (t, v) (Fr.get_mem hv)
    · exact .inl ⟨a, rfl, (frBeq_eq h).symm⟩
  | a :: l, b :: m, i + 1, x, h, hi, hb => by
    simp only [keptL, Bool.and_eq_true] at h
    simpa using keptL_get (i := i) h.2 (by simpa using hi) hb
  | [], [], _, _, _, hi, _ => by simp at hi
  | [], _ :: _, _, _, h, _, _ => by simp [keptL] at h
  | _ :: _, [], _, _, h, _, _ => by simp [keptL] at h

/-- THE END OF A CALL. -/
theorem finish_ok {g : FuncId} (hS0 : Sim E k0 S0) (hS1 : Sim E k1 S1) (he : Evo k0 k1 (touch k0 S0.L)) (lk : LK S0.L S1.L) (hB0 : Bound k0 d) (hBl : Below k0 S0 d) (hB1 : Bound k1 (d + 1))
    {v v' : Val} {S' : St} (h : finish E g S0 v S1 = some (v', S')) {cv : Value} (hv : Rep k1 v cv) :
    ∃ k2, k2.w = k1.w ∧ Rep k2 v' cv ∧ Sim E k2 S' ∧ Evo k0 k2 (touch k0 S0.L) ∧ Bound k2 d ∧ LK S0.L S'.L := by
  have hfid : ∀ (l : Nat) (r : LoopRec), S1.L[l]? = some r → k1.fid l ≠ d := by
    intro l r hr
    obtain ⟨q, hq, _⟩ := lk.eq.back hr
    rw [(fid_kept hS0 he hq).2.1]
    have := hBl.1 l q hq
    omega
  have hlen : S0.H.length ≤ S1.H.length := by
    rcases Nat.lt_or_ge S1.H.length S0.H.length with hlt | hge
    · exfalso
      obtain ⟨x, hx⟩ : ∃ x, S0.H[S1.H.length]? = some x := ⟨_, List.getElem?_eq_getElem hlt⟩
      have h1 : k0.sh S1.H.length = some x.shape := by rw [hS0.sh, hx]; rfl
      have h2 : k1.sh S1.H.length = none := by rw [hS1.sh]; simp
      rcases he.le.sh _ _ h1 with ⟨h, _⟩ | ⟨_, _, _, h, _⟩
      · rw [h2] at h; simp at h
      · rw [h2] at h; simp at h
    · exact hge
  unfold finish at h
  split at h
  · -- kept
    simp only [Option.some.injEq, Prod.mk.injEq] at h
    obtain ⟨rfl, rfl⟩ := h
    have fine : ∀ {x : Val}, x.Fine (· < S1.H.length) (· < S1.L.length) → x.Fine (· < S1.H.length) (fun _ => True) := fun h => h.mono (fun _ h => h) (fun _ _ => trivial)
    have hle := release_le (d := d) hS0 he.le hlen
    refine ⟨release k1 S1.H.length d, rfl, hv.cutTo (release_cut _ _ _) _ _ (fine (Rep.fine hS1 _ _ hv)), ?_, release_evo hS0 he hlen hB0, release_bound hB1, lk⟩
    have := release_sim (n := S1.H.length) (d := d) hS1 (fun b blk _ hb => ((hS1.blk b blk hb).fine hS1).mono (fun _ h => h) (fun _ _ => trivial))
      (fun l r hr hb t v hv => fine (((hS1.loop l r hr).rep.choose_spec.choose_spec.2.1 hb t v hv).fine hS1)) hfid (fun g cs hg => (hS0.glob g cs hg).mono hle)
    rwa [List.take_length] at this
  · -- given up
    split at h
    · rename_i hk
      simp only [Bool.and_eq_true] at hk
      split at h
      · rename_i u hu
        simp only [Option.some.injEq, Prod.mk.injEq] at h
        obtain ⟨rfl, rfl⟩ := h
        have hle := release_le (d := d) hS0 he.le (Nat.le_refl S0.H.length)
        refine ⟨release k1 S0.H.length d, rfl, fz_rep hS1 _ hu hv, release_sim hS1 ?_ ?_ hfid (fun g cs hg => (hS0.glob g cs hg).mono hle), release_evo hS0 he (Nat.le_refl _) hB0, release_bound hB1, lk⟩
        · intro b blk hlt hb
          rcases keptH_get hk.1 hlt hb with h | h
          · exact ((hS0.blk b blk h).fine hS0).mono (fun _ h => h) (fun _ _ => trivial)
          · exact Block.low_fine h
        · intro l r hr hb t v hv
          rcases keptL_get hk.2 hr hb with ⟨y, hy, hfr⟩ | h
          · obtain ⟨tm, de, _, q2, _⟩ := (hS0.loop l y hy).rep
            have hyb : y.busy = false := by rw [← lk.eq.2 l y r hy hr]; exact hb
            have := (q2 hyb t v (by rw [hfr]; exact hv)).fine hS0
            exact this.mono (fun _ h => h) (fun _ _ => trivial)
          · exact Val.low_fine _ _ (h t v hv)
      · simp at h
    · simp at h
end
end Go.V

/- Calls of functions. -/
namespace Go.V

/-- what is asked of a program and of what the interpreter is told of it -/
structure EnvOk (E : Env) : Prop where
  name : ∀ (g : FuncId) (fn : Func), E.P.funcs[g]? = some fn → fn.body.isSome = true → (fn.name == "runtime.NumGoroutine") = false
  native : ∀ (g : FuncId) (nf : List Val → St → Option (Val × St)) (args : List Val) (S : St) (v : Val) (S' : St), E.native g = some nf → nf args S = some (v, S') → CallOk E g args S v S'
  mixed : E.P.follows .mixedOrders = true

section
variable {E : Env} {k k' k0 k1 : K} {S S0 S1 : St} {f n d : Nat} {T : Nat → Prop} {g : G} {tmps : Array Value}

/-- a mark is taken -/
theorem mark_sim {c0 : Nat} (h : Sim E k S) (ho : k.own c0 = some (.mark f)) (hbut : But k k' c0) : Sim E k' S := by
  have hle := hbut.le (by rw [ho]; simp)
  refine ⟨?_, ?_, ?_, ?_, ?_, fun c l hc => h.dead c l (by rw [hbut.own] at hc; exact hc)⟩
  · intro x; rw [hbut.sh]; exact h.sh x
  · intro x y hx
    have r := h.blk x y hx
    have ne : (k.σ x).1 ≠ c0 := by intro e1; have := r.own; rw [e1, ho] at this; simp at this
    exact r.mono hle (by rw [hbut.σ]) (by rw [hbut.room]) (by rw [hbut.own]) (hbut.heap _ ne)
  · intro l r hr
    have q := h.loop l r hr
    obtain ⟨tmps, defers, q1, q2, q3, q4⟩ := q.rep
    have ne : k.lo l ≠ c0 := by intro e1; have := q.own; rw [e1, ho] at this; simp at this
    refine ⟨by rw [hbut.lo, hbut.own]; exact q.own, ⟨tmps, defers, by rw [hbut.lo, hbut.heap _ ne]; exact q1, ?_, by rw [hbut.tm]; exact q3, q4⟩, q.pend⟩
    intro hbz
    rw [hbut.fid]
    refine (q2 hbz).mono hle fun c t' hc => ⟨by rw [hbut.own], hbut.heap c ?_⟩
    intro e1
    rw [e1, ho] at hc
    simp at hc
  · intro c o ho'
    rw [hbut.own] at ho'
    rw [hbut.size]
    exact h.ownlt c o ho'
  · intro g cs hg
    exact (h.glob g cs hg).mono hle

theorem setHeap_but (k : K) (c : Nat) (o : Obj) : But k { k with w := { k.w with heap := k.w.heap.setIfInBounds c o } } c where
  σ := rfl
  lo := rfl
  sh := rfl
  own := rfl
  lp := rfl
  room := rfl
  size := by simp
  os := rfl
  tape := rfl
  output := rfl
  heap := fun x hx => by simp only; rw [Array.getElem?_setIfInBounds, if_neg (Ne.symm hx)]

/-- all marks are taken -/
theorem marks_taken {fn : FuncId} {todo : List Item} {cs : List Frame} : ∀ (ms : List Nat) {k1 : K}, ms.Nodup → (∀ m ∈ ms, k1.own m = some (.mark d) ∧ k1.w.heap[m]? = some (.deferred (some []))) →
    Sim E k1 S1 → FRep k1 f g tmps → Evo k0 k1 T → Bound k0 d → Bound k1 (d + 1) →
    ∃ k2, Steps E.P (lone { frm fn none tmps todo (ms.map markD) with mode := .returning } cs k1.w) (lone { frm fn none tmps todo [] with mode := .returning } cs k2.w) ∧
      Sim E k2 S1 ∧ FRep k2 f g tmps ∧ Evo k0 k2 T ∧ Bound k2 (d + 1)
  | [], k1, _, _, hS, hF, he, _, hB => ⟨k1, .refl _ _, hS, hF, he, hB⟩
  | m :: ms, k1, hn, hm, hS, hF, he, hB0, hB => by
    obtain ⟨h1, h2⟩ := hm m (by simp)
    have hn' := List.nodup_cons.1 hn
    let k2 : K := { k1 with w := { k1.w with heap := k1.w.heap.setIfInBounds m (.deferred none) } }
    have hbut : But k1 k2 m := setHeap_but k1 m _
    have hS2 := mark_sim hS h1 hbut
    have hle := hbut.le (by rw [h1]; simp)
    have hF2 : FRep k2 f g tmps := hF.mono hle fun c t hc => ⟨rfl, hbut.heap c (by rintro rfl; rw [h1] at hc; simp at hc)⟩
    have he2 : Evo k0 k2 T := {
      le := he.le.trans hle he.size
      os := he.os
      tape := he.tape
      output := he.output
      size := by rw [hbut.size]; exact he.size
      keep := fun c hc ht => by
        obtain ⟨p1, p2⟩ := he.keep c hc ht
        have hne : c ≠ m := by
          rintro rfl
          rw [h1] at p1
          have := (hB0 c).2 d p1.symm
          omega
        exact ⟨p1, (hbut.heap c hne).trans p2⟩ }
    obtain ⟨k3, q1, q2⟩ := marks_taken ms (k1 := k2) hn'.2 (fun x hx => by
      obtain ⟨p1, p2⟩ := hm x (by simp [hx])
      exact ⟨p1, (hbut.heap x (by rintro rfl; exact hn'.1 hx)).trans p2⟩) hS2 hF2 he2 hB0 hB
    exact ⟨k3, .head (st_mark h2) q1, q2⟩

def resOne (tmps : Array Value) : ResultVar → Sem Value
  | .tmp t => pure (tmps.getD t undef)
  | .cell a t => do loadVar t (← asAddr (tmps.getD a undef))
theorem results_eq (fn : Func) (tmps : Array Value) : results fn tmps = (do let vs ← fn.results.mapM (resOne tmps); pure (if h : vs.size = 1 then vs[0] else .tuple vs) : Sem Value) := by
  unfold results
  congr

/-- the results of a call -/
theorem results_ok (hS : Sim E k S) (hF : FRep k f g tmps) : ∀ {l : List ResultVar} {vs : List Val}, resultsV E g S l = some vs →
    ∃ cvs : List Value, (l.mapM (resOne tmps)).run E.P k.w = .ok cvs k.w ∧ RepAll k vs cvs
  | [], vs, h => by simp only [resultsV, Option.some.injEq] at h; subst h; exact ⟨[], by simp, by simp [RepAll]⟩
  | r :: l, vs, h => by
    simp only [resultsV] at h
    split at h
    · rename_i v vs' hv hvs
      simp only [Option.some.injEq] at h; subst h
      obtain ⟨cvs, h1, h2⟩ := results_ok hS hF hvs
      have : ∃ cv, (resOne tmps r).run E.P k.w = .ok cv k.w ∧ Rep k v cv := by
        unfold resultV at hv
        split at hv
        · exact ⟨evT tmps (.tmp _), by simp only [resOne, Sem.run_pure]; rfl, (ev_rep hS hF hv).1⟩
        · rename_i a t
          split at hv
          · rename_i dd nn p hd hn hp
            split at hv
            · rename_i cs hcs
              have hp' := place_rep hS hF hp
              obtain ⟨cc, co, p1, p2⟩ := cellsAt_rep hS hF hp' hcs
              obtain ⟨cv, p3, p4⟩ := loadVar_run hd hn p2 hv
              refine ⟨cv, ?_, p4⟩
              have p1' : tmps.getD a undef = .pointer (some ⟨cc, co + p.off, none⟩) := p1
              simp only [resOne, p1']
              simp [asAddr, p3]
            · simp at hv
          · simp at hv
      obtain ⟨cv, h3, h4⟩ := this
      refine ⟨cv :: cvs, ?_, by simp only [RepAll]; exact ⟨h4, h2⟩⟩
      rw [List.mapM_cons]
      simp only [Sem.run_bind, h3, Result.andThen_ok, h1, Sem.run_pure]
    · simp at h

theorem wrap_ok {vs : List Val} {cvs : List Value} (h : RepAll k vs cvs) : Rep k (wrapV vs) (if h : cvs.toArray.size = 1 then cvs.toArray[0] else .tuple cvs.toArray) := by
  match vs, cvs, h with
  | [], [], _ => simp [wrapV, Rep, RepAll]
  | [v], [c], h => simp only [RepAll] at h; simpa [wrapV] using h.1
  | u :: v :: l, b :: c :: m, h => simpa [wrapV, Rep] using h
  | [], _ :: _, h => simp [RepAll] at h
  | _ :: _, [], h => simp [RepAll] at h
  | [_], _ :: _ :: _, h => simp [RepAll] at h
  | _ :: _ :: _, [_], h => simp [RepAll] at h

theorem argFr_get : ∀ (l : List Val) (i t : Nat), (argFr i l).get t = if i ≤ t then l[t - i]? else none
  | [], i, t => by simp [argFr, Fr.get]
  | v :: l, i, t => by
    simp only [argFr, Fr.get]
    split
    · rename_i e; subst e; simp
    · rename_i e
      rw [argFr_get l (i + 1) t]
      by_cases h : i ≤ t
      · rw [if_pos h, if_pos (by omega), show t - i = (t - (i + 1)) + 1 by omega, List.getElem?_cons_succ]
      · rw [if_neg h, if_neg (by omega)]

theorem args_FRep {args : List Val} {vs : Array Value} (h : RepAll k args vs.toList) (rest : Array Value) : FRep k f (argFr 0 args).get (vs ++ rest) := by
  intro t v hv
  rw [argFr_get] at hv
  simp only [Nat.zero_le, if_true, Nat.sub_zero] at hv
  obtain ⟨cv, h1, h2⟩ := h.get hv
  have hc : (vs ++ rest).getD t undef = cv := by
    have hlt : t < vs.size := by have := (List.getElem?_eq_some_iff.1 h1).1; simpa using this
    rw [Array.getElem?_toList] at h1
    rw [Array.getD_eq_getD_getElem?, Array.getElem?_append_left hlt, h1]; rfl
  cases v with
  | lv cs => simp [Rep] at h2
  | loc s o => simp [Rep] at h2
  | _ => simpa only [SlotRep, hc] using h2

/-- THE BODY OF A FUNCTION, AND ITS END. -/
theorem body_ok {rec : Rec} (hrec : RecOk E rec) {h : FuncId} {args : List Val} {v : Val} {S' : St} (hc : callV rec E h args S = some (v, S')) (hnat : E.native h = none)
    {vs : Array Value} (hS : Sim E k S) (hB : Bound k d) (hBl : Below k S d) (hA : RepAll k args vs.toList) (cs : List Frame) :
    ∃ k' cv F, Steps E.P (lone (Frame.enter E.P h vs .normal) cs k.w) (lone F cs k'.w) ∧ F.leaving E.P k'.w (.returned cv) ∧ F.fn = h ∧
      Rep k' v cv ∧ Sim E k' S' ∧ Evo k k' (touch k S.L) ∧ Bound k' d ∧ LK S.L S'.L ∧ ∃ fn, E.P.funcs[h]? = some fn ∧ fn.body.isSome = true := by
  unfold callV at hc
  rw [hnat] at hc
  simp only at hc
  split at hc
  · rename_i fn hfn
    split at hc
    · rename_i body hbody
      split at hc
      · rename_i hle
        split at hc
        · rename_i j fr S1 hr
          split at hc
          · rename_i hj
            split at hc
            · rename_i rs hrs
              have hsz : vs.size = args.length := by have := hA.length; simp at this; omega
              have henter : Frame.enter E.P h vs .normal = frm h none (vs ++ Array.replicate (fn.ntmps - vs.size) undef) ([.code body] ++ []) [] := by
                simp [Frame.enter, frm, hfn, hbody]
              have hO : FrOk E k S d (d + 1) fn.ntmps none (argFr 0 args).get (vs ++ Array.replicate (fn.ntmps - vs.size) undef) [] := {
                sim := hS
                fr := args_FRep hA _
                size := by simp; omega
                marks := ⟨[], rfl, List.nodup_nil, by simp⟩
                busy := fun l r hr hf => by have := hBl.1 l r hr; omega
                lt := Nat.lt_succ_self d
                bound := fun c => ⟨fun f t hc => Nat.lt_succ_of_lt ((hB c).1 f t hc), fun f hc => Nat.lt_succ_of_lt ((hB c).2 f hc)⟩
                below := ⟨fun l r hr => Nat.lt_succ_of_lt (hBl.1 l r hr), hBl.2⟩
                ro := by simp }
              obtain ⟨k1, t1, de1, todo1, s1, e1, hO1, w1, _⟩ := hrec _ _ _ _ _ _ _ hr ⟨fn, hfn, rfl⟩ k d (d + 1) none _ [] [] cs hO
              have htodo : todo1 = [] ∨ ∃ t, todo1 = .code .ret :: t := by
                cases j with
                | none => exact .inl e1
                | some q => cases q <;> simp [isRet] at hj; exact .inr e1
              have hevo : Evo k k1 (touch k S.L) := {
                le := w1.evo.le
                os := w1.evo.os
                tape := w1.evo.tape
                output := w1.evo.output
                size := w1.evo.size
                keep := fun c hc ht => w1.evo.keep c hc (by
                  rintro (h | ⟨t, h⟩)
                  · exact ht h
                  · have := (hB c).1 d t h; omega) }
              obtain ⟨ms, hms, hnd, hmk⟩ := hO1.marks
              subst hms
              obtain ⟨k2, s2, hS2, hF2, he2, hB2⟩ := marks_taken (fn := h) (todo := todo1) (cs := cs) ms hnd hmk hO1.sim hO1.fr hevo hB hO1.bound
              obtain ⟨cvs, q1, q2⟩ := results_ok hS2 hF2 hrs
              have q3 := wrap_ok q2
              obtain ⟨k3, hk3, r1, r2, r3, r4, r5⟩ := finish_ok hS hS2 he2 w1.lk hB hBl hB2 hc q3
              refine ⟨k3, _, { frm h none t1 todo1 [] with mode := .returning }, ?_, ⟨rfl, rfl, rfl, fn, hfn, ?_⟩, rfl, r1, r2, r3, r4, r5, fn, hfn, by rw [hbody]; rfl⟩
              · rw [henter, hk3]
                exact s1.trans (.head (st_leave htodo) s2)
              · rw [hk3]
                simp only [results_eq, Sem.run_bind]
                rw [Array.mapM_eq_mapM_toList, Sem.run_map]
                simp only [frm]
                rw [q1]
                simp [Result.andThen]
            · simp at hc
          · simp at hc
        · simp at hc
      · simp at hc
    · simp at hc
  · simp at hc

theorem callFunc_run (hE : EnvOk E) {h : FuncId} {fn : Func} (hfn : E.P.funcs[h]? = some fn) (hb : fn.body.isSome = true) (vs : Array Value) (w : World) :
    (callFunc h vs).run E.P w = .ok (.enter h vs) w := by
  have := hE.name h fn hfn hb
  have this : fn.name ≠ "runtime.NumGoroutine" := by simpa using this
  obtain ⟨b, hb⟩ := Option.isSome_iff_exists.1 hb
  simp [callFunc, hfn, this, hb]

/-- CALLS. -/
theorem callOk_of_rec (hE : EnvOk E) {rec : Rec} (hrec : RecOk E rec) {h : FuncId} {args : List Val} {v : Val} {S' : St} (hc : callV rec E h args S = some (v, S')) : CallOk E h args S v S' := by
  cases hnat : E.native h with
  | some nf =>
    unfold callV at hc
    rw [hnat] at hc
    exact hE.native h nf args S v S' hnat hc
  | none =>
    intro k d vs hS hB hBl hA m F cs hw hap
    obtain ⟨k', cv, F', s1, hl, _, r1, r2, r3, r4, r5, fn, hfn, hb⟩ := body_ok hrec hc hnat hS hB hBl hA (F :: cs)
    exact ⟨k', cv, .head (hap.enter hw (callFunc_run hE hfn hb vs k.w)) (s1.trans (.one (step_leave_returned hl))), r1, r2, r3, r4, r5⟩
end
end Go.V
