/- The interpreter is the machine. -/
import Derived.Test.YtgnfinbhnoofpaaDoorVE
import Derived.Calls
import Derived.FnData
import GoSem.ClaimJoined
import Derived.KernelRfl
set_option linter.unusedVariables false
set_option linter.unusedSimpArgs false
set_option linter.unusedSectionVars false
namespace Go.V
section
variable {E : Env}

theorem region_ok {rec : Rec} (hE : EnvOk E) (hcall : ∀ h args S v S', callV rec E h args S = some (v, S') → CallOk E h args S v S') (hyield : ∀ l args S v S', yieldV rec E l args S = some (v, S') → YieldOk E l args S v S')
    {c : Ctx} {id : Nat} {ops : Array Oper} {draw : Bool} {fr fr' : Fr} {S S' : St} (h : regionV rec E c id ops draw fr S = some (fr', S'))
    {k : K} {f d : Nat} {ro : Option Nat} {tmps : Array Value} {de : List Deferred} (hO : FrOk E k S f d c.n ro fr.get tmps de) (items : List Item) (cs : List Frame) :
    ∃ k' tmps', Steps E.P (lone (frm c.f ro tmps (.code (.region id ops draw) :: items) de) cs k.w) (lone (frm c.f ro tmps' items de) cs k'.w) ∧
      FrOk E k' S' f d c.n ro fr'.get tmps' de ∧ Went c f k S tmps k' S' tmps' := by
  unfold regionV at h
  cases draw with
  | true =>
    simp only [if_true] at h
    split at h
    · rename_i l fr1 S1 tr hlo hops
      split at h
      · rename_i hok
        simp only [Option.some.injEq, Prod.mk.injEq] at h
        obtain ⟨rfl, rfl⟩ := h
        simp only [Bool.and_eq_true] at hok
        obtain ⟨hle, hS⟩ := drew_sim hO.sim
        let kd : K := { k with w := k.w.drew }
        have hev : ∀ T, Evo k kd T := fun T => ⟨hle, rfl, rfl, rfl, Nat.le_refl _, fun _ _ _ => ⟨rfl, rfl⟩⟩
        have hOd : FrOk E kd S f d c.n ro fr.get tmps de := hO.after hS (hev _) (.refl _) (hO.fr.mono hle fun _ _ _ => ⟨rfl, rfl⟩) hO.size hO.bound
        obtain ⟨g', hR, hg'⟩ := draw_ok hops hok.1 hok.2 (Region.schedule (E.P.follows .mixedOrders) ops (k.w.tape k.w.drawn (.order c.f id))) ⟨_, by rw [hE.mixed]; rfl⟩
        obtain ⟨k', t', s1, hO1, w1⟩ := runL_sound hcall hyield items cs _ hOd hR
        refine ⟨k', t', .head st_region_draw s1, hO1.weak fun t v hv => .inl ?_, ⟨(hev _).trans w1.evo fun _ _ _ h => h, w1.lk, w1.fixed⟩⟩
        rw [hg']
        exact keep_get l fr1 hv
      · simp at h
    · simp at h
  | false =>
    simp only [Bool.false_eq_true, if_false] at h
    split at h
    · rename_i fr1 S1 hops
      simp only [Option.some.injEq, Prod.mk.injEq] at h
      obtain ⟨rfl, rfl⟩ := h
      have hR := opsV_R ops.toList 0 rfl hops
      obtain ⟨k', t', s1, hO1, w1⟩ := runL_sound hcall hyield items cs _ hO hR
      refine ⟨k', t', .head st_region (by rw [List.range_eq_range']; simpa using s1), ?_, w1⟩
      split
      · exact hO1.keep _
      · exact hO1
    · simp at h

theorem loopFr_ok {c : Ctx} {items : List Item} {fr : Fr} {k : K} {S : St} {f d n : Nat} {ro : Option Nat} {tmps : Array Value} {de : List Deferred} (hO : FrOk E k S f d n ro fr.get tmps de) :
    FrOk E k S f d n ro (loopFr E c items fr).get tmps de := by
  unfold loopFr
  split
  · split
    · exact hO.keep _
    · exact hO
  · exact hO

/-- THE INTERPRETER IS SOUND. -/
theorem run_ok (hE : EnvOk E) : ∀ n, RecOk E (run E n)
  | 0 => fun _ _ _ _ _ _ _ h => by simp [run] at h
  | n + 1 => by
    have ih := run_ok hE n
    have hcall : ∀ h args S v S', callV (run E n) E h args S = some (v, S') → CallOk E h args S v S' := fun h args S v S' hc => callOk_of_rec hE ih hc
    have hyield : ∀ l args S v S', yieldV (run E n) E l args S = some (v, S') → YieldOk E l args S v S' := fun l args S v S' hc => yieldOk_of_rec ih hc
    intro c items fr S j fr' S' h hc k f d ro tmps de tail cs hO
    simp only [run] at h
    -- one step, then the rest
    have next : ∀ {items' : List Item} {fr1 : Fr} {S1 : St} {k1 : K} {tmps1 : Array Value} {de1 : List Deferred}, run E n c items' fr1 S1 = some (j, fr', S') →
        Steps E.P (lone (frm c.f ro tmps (items ++ tail) de) cs k.w) (lone (frm c.f ro tmps1 (items' ++ tail) de1) cs k1.w) → FrOk E k1 S1 f d c.n ro fr1.get tmps1 de1 → Went c f k S tmps k1 S1 tmps1 → (ro ≠ none → de1 = de) →
        ∃ k' tmps' de' todo', Steps E.P (lone (frm c.f ro tmps (items ++ tail) de) cs k.w) (lone (frm c.f ro tmps' todo' de') cs k'.w) ∧ Ends j tail todo' ∧
          FrOk E k' S' f d c.n ro fr'.get tmps' de' ∧ Went c f k S tmps k' S' tmps' ∧ (ro ≠ none → de' = de) := by
      intro items' fr1 S1 k1 tmps1 de1 hr s1 hO1 w1 hd1
      obtain ⟨k', t', de', todo', s2, e2, hO2, w2, hd2⟩ := ih _ _ _ _ _ _ _ hr hc k1 f d ro tmps1 de1 tail cs hO1
      exact ⟨k', t', de', todo', s1.trans s2, e2, hO2, w1.trans hO.sim w2, fun h => (hd2 h).trans (hd1 h)⟩
    have go : ∀ {items' : List Item} {fr1 : Fr}, run E n c items' fr1 S = some (j, fr', S') → step E.P (lone (frm c.f ro tmps (items ++ tail) de) cs k.w) = .next (lone (frm c.f ro tmps (items' ++ tail) de) cs k.w) →
        FrOk E k S f d c.n ro fr1.get tmps de → _ := fun hr hs h1 => next hr (.one hs) h1 .refl fun _ => rfl
    unfold stepV at h
    split at h
    · -- nothing more
      simp only [Option.some.injEq, Prod.mk.injEq] at h
      obtain ⟨rfl, rfl, rfl⟩ := h
      exact ⟨k, tmps, de, tail, .refl _ _, rfl, hO, .refl, fun _ => rfl⟩
    · exact go h st_skip hO
    · exact go h st_inBlock hO
    · exact go h st_seq hO
    · -- a condition
      rename_i o a b kk
      split at h
      · rename_i hv
        have hr := (ev_rep hO.sim hO.fr hv).1
        simp only [Rep] at hr
        exact go h (st_cond hr) hO
      · rename_i hv
        have hr := (ev_rep hO.sim hO.fr hv).1
        simp only [Rep] at hr
        exact go h (st_cond hr) hO
      · simp at h
    · exact go h st_block hO
    · exact go h st_loop (loopFr_ok hO)
    · exact go h st_inLoop (loopFr_ok hO)
    · -- return
      simp only [Option.some.injEq, Prod.mk.injEq] at h
      obtain ⟨rfl, rfl, rfl⟩ := h
      exact ⟨k, tmps, de, _, .refl _ _, ⟨_, rfl⟩, hO, .refl, fun _ => rfl⟩
    · -- exit
      rename_i id kk
      split at h
      · rename_i k' hk
        have hx : exitTo id (kk ++ tail) = some (k' ++ tail) := by rw [exitTo_append, hk]
        exact go h (st_exit hx) hO
      · rename_i hk
        simp only [Option.some.injEq, Prod.mk.injEq] at h
        obtain ⟨rfl, rfl, rfl⟩ := h
        exact ⟨k, tmps, de, _, .refl _ _, ⟨kk ++ tail, rfl, by rw [exitTo_append, hk]⟩, hO, .refl, fun _ => rfl⟩
    · -- a region
      rename_i id ops draw kk
      split at h
      · rename_i fr1 S1 hr
        obtain ⟨k1, t1, s1, hO1, w1⟩ := region_ok hE hcall hyield hr hO (kk ++ tail) cs
        exact next h s1 hO1 w1 fun _ => rfl
      · simp at h
    · -- a loop over a function
      rename_i fo ps a b kk
      split at h
      · rename_i q cap hv
        split at h
        · rename_i v S2 hcv
          split at h
          · rename_i r hr
            split at h
            · rename_i hok
              obtain ⟨_, hrb, h1, h2, h3⟩ := hok
              obtain ⟨fn, hfn, hn⟩ := hc
              obtain ⟨k1, mark, s1, hO1, w1, hm⟩ := loop_ok hcall hO hv hfn hn hcv hr hrb h1 h2 h3 (kk ++ tail) cs
              refine next h ?_ hO1 w1 fun hro => by rw [hm hro]; rfl
              rw [List.append_assoc]
              exact s1
            · simp at h
          · simp at h
        · simp at h
      · simp at h
    · simp at h

theorem call_ok (hE : EnvOk E) {n : Nat} {h : FuncId} {args : List Val} {S S' : St} {v : Val} (hc : call E n h args S = some (v, S')) : CallOk E h args S v S' :=
  callOk_of_rec hE (run_ok hE n) hc
end
end Go.V

/- From the interpreter to the kit's calls. -/
namespace Go.V

/-- nothing in a world is anybody's -/
def bare (w : World) : K := { σ := fun _ => (0, 0), lo := fun _ => 0, sh := fun _ => none, own := fun _ => none, lp := fun _ => (0, #[]), room := fun _ => 0, w }

theorem bare_sim {E : Env} {w : World} (hg : ∀ g cs, E.glob g = some cs → RepMem (bare w) g 0 cs) : Sim E (bare w) ⟨[], []⟩ where
  sh := fun b => by simp [bare]
  blk := fun b blk h => by simp at h
  loop := fun l r h => by simp at h
  ownlt := fun c o h => by simp [bare] at h
  glob := hg
  dead := fun c l h => by simp [bare] at h

/-- A CALL in the interpreter is a call in the model; what there was stays. -/
theorem calls_of_call {E : Env} (hE : EnvOk E) {n : Nat} {f : FuncId} {args : List Val} {v : Val} {S' : St} (h : call E n f args ⟨[], []⟩ = some (v, S')) (hn : E.native f = none)
    {vs : Array Value} {w : World} (hg : ∀ g cs, E.glob g = some cs → RepMem (bare w) g 0 cs) (hA : RepAll (bare w) args vs.toList) :
    Calls E.P f vs w fun e w' => ∃ (k' : K) (cv : Value), e = .returned cv ∧ Rep k' v cv ∧ k'.w = w' ∧ w'.os = w.os ∧ w'.tape = w.tape ∧ w'.output = w.output ∧ w.heap.size ≤ w'.heap.size ∧
      ∀ c, c < w.heap.size → w'.heap[c]? = w.heap[c]? := by
  intro cs
  have hS := bare_sim hg
  have hB : Bound (bare w) 0 := fun c => ⟨fun f t h => by simp [bare] at h, fun f h => by simp [bare] at h⟩
  have hBl : Below (bare w) ⟨[], []⟩ 0 := ⟨fun l r h => by simp at h, fun l l' r r' h => by simp at h⟩
  obtain ⟨k', cv, F, s1, hl, hfn, hr, _, he, _, _, _⟩ := body_ok (run_ok hE n) h hn hS hB hBl hA cs
  refine ⟨.returned cv, k'.w, F, ⟨k', cv, rfl, hr, rfl, he.os, he.tape, he.output, he.size, fun c hc => (he.keep c hc fun ht => ?_).2⟩, s1, hfn, hl⟩
  unfold touch at ht
  exact ht
end Go.V

/- Arguments that are read as data: their reading behind the call; what they are to the interpreter. -/
namespace Go.V

/-- what was there is there -/
def Kept (w w' : World) : Prop := ∀ c, c < w.heap.size → w'.heap[c]? = w.heap[c]?

theorem mapM_imp {α β : Type} {f f' : α → Option β} : ∀ {l : List α} {ys : List β}, l.mapM f = some ys → (∀ x ∈ l, ∀ y, f x = some y → f' x = some y) → l.mapM f' = some ys
  | [], ys, h, _ => by simpa using h
  | x :: l, ys, h, hf => by
    rw [List.mapM_cons] at h ⊢
    simp only [Option.bind_eq_bind, Option.bind_eq_some_iff, Option.pure_def, Option.some.injEq] at h ⊢
    obtain ⟨y, hy, zs, hz, rfl⟩ := h
    exact ⟨y, hf x (by simp) y hy, zs, mapM_imp hz fun a ha => hf a (by simp [ha]), rfl⟩

theorem Kept.heap {w w' : World} (h : Kept w w') {c : Nat} {o : Obj} (hc : w.heap[c]? = some o) : w'.heap[c]? = some o := by
  rw [h c (Array.getElem?_eq_some_iff.1 hc).1]; exact hc
theorem Kept.cell {w w' : World} (h : Kept w w') {a : Addr} {v : Value} (hc : w.cell? a = some v) : w'.cell? a = some v := by
  have := World.block_lt_of_cell? w a hc
  unfold World.cell? at hc ⊢
  rw [h _ this]; exact hc
theorem Kept.cells {w w' : World} (h : Kept w w') {base : Nat} {a : Addr} {n : Nat} {vs : List Value} (hc : w.cells? base a n = some vs) : w'.cells? base a n = some vs := by
  unfold World.cells? at hc ⊢
  split at hc
  · rename_i hb
    rw [if_pos hb]
    exact mapM_imp hc fun x _ y hy => h.cell hy
  · simp at hc

theorem cells_lt {w : World} {base : Nat} {a : Addr} {n : Nat} {vs : List Value} (hc : w.cells? base a n = some vs) (hn : 0 < n) : a.block < w.heap.size := by
  unfold World.cells? at hc
  split at hc
  · cases n with
    | zero => omega
    | succ n =>
      rw [List.range_eq_range', List.range'_succ, List.mapM_cons] at hc
      simp only [Option.bind_eq_bind, Option.bind_eq_some_iff] at hc
      obtain ⟨y, hy, _⟩ := hc
      have := World.block_lt_of_cell? w _ hy
      have e : (a.add 0) = a := by simp [Addr.add]
      rwa [e] at this
  · simp at hc

/-- types of plain data, with all that they hold, no slice of empty elements -/
def closedB (P : Program) (L : List TypeId) : Bool := L.all fun t => match P.underlying t with
  | some (.pointer e) => L.contains e
  | some (.slice e) => L.contains e && decide (0 < P.cellsOf e)
  | some (.array _ e) => L.contains e
  | some (.struct fs) => fs.toList.all fun f => L.contains f.type
  | some (.map _ e) => L.contains e
  | some (.interface _) => false
  | _ => true

theorem trod_keep {H : Type} {enc : TypeId × Value → H} {P : Program} {w w' : World} (hk : Kept w w') {L : List TypeId} (hL : closedB P L = true) {base : Nat} {spare : Nat → Bool} (hsp : ∀ b, b < w.heap.size → spare b = true) {held : Bool} : ∀ (fuel : Nat) (t : TypeId) (cs : List Value) (x : DataW H × List MemPlace), t ∈ L →
    DataW.trod enc P w base (fun _ => true) held fuel t cs = some x → DataW.trod enc P w' base spare held fuel t cs = some x
  | 0, _, _, _, _, h => by simp [DataW.trod] at h
  | fuel + 1, t, cs, x, ht, h => by
    have hT := (List.all_eq_true.1 hL) t ht
    have ih := fun t cs x => trod_keep hk hL hsp (enc := enc) (P := P) (base := base) (held := held) fuel t cs x
    have bnd : ∀ {a : Addr} {n : Nat} {e : TypeId} {y}, e ∈ L → ((w.cells? base a n).bind (DataW.trod enc P w base (fun _ => true) held fuel e)) = some y → ((w'.cells? base a n).bind (DataW.trod enc P w' base spare held fuel e)) = some y := by
      intro a n e y he h
      simp only [Option.bind_eq_some_iff] at h ⊢
      obtain ⟨vs, h1, h2⟩ := h
      exact ⟨vs, hk.cells h1, ih _ _ _ he h2⟩
    unfold DataW.trod at h ⊢
    split at h
    case h_6 =>
      rename_i hu
      simp only [hu, List.contains_eq_mem, decide_eq_true_eq] at hT
      simp only [Option.map_eq_some_iff] at h ⊢
      obtain ⟨y, h1, h2⟩ := h
      exact ⟨y, bnd hT h1, h2⟩
    case h_8 =>
      rename_i e a len cap hu
      simp only [hu, List.contains_eq_mem, decide_eq_true_eq, Bool.and_eq_true] at hT
      simp only [if_true] at h ⊢
      split at h
      · rename_i hc
        rw [if_pos hc]
        simp only [Option.bind_eq_some_iff, Option.map_eq_some_iff] at h ⊢
        obtain ⟨es, h1, rs, h2, h3⟩ := h
        refine ⟨es, mapM_imp h1 fun _ _ _ hy => bnd hT.1 hy, rs, ?_, h3⟩
        split
        · exact mapM_imp h2 fun _ _ _ hy => bnd hT.1 hy
        · rename_i hs
          rcases Nat.eq_zero_or_pos (cap - len) with h0 | h0
          · rw [h0] at h2
            simpa using h2
          · exfalso
            obtain ⟨m, hm⟩ : ∃ m, cap - len = m + 1 := ⟨cap - len - 1, by omega⟩
            rw [hm, List.range_eq_range', List.range'_succ, List.mapM_cons] at h2
            simp only [Option.bind_eq_bind, Option.bind_eq_some_iff] at h2
            obtain ⟨y, ⟨vs, hvs, _⟩, _⟩ := h2
            have := cells_lt hvs hT.2
            have hb : (a.add ((len + 0) * P.cellsOf e)).block = a.block := by unfold Addr.add; split <;> rfl
            rw [hb] at this
            exact hs (hsp _ this)
      · simp at h
    case h_9 =>
      rename_i fs hu
      simp only [hu, List.all_eq_true, List.contains_eq_mem, decide_eq_true_eq] at hT
      split at h
      · rename_i hc
        rw [if_pos hc]
        simp only [Option.map_eq_some_iff] at h ⊢
        obtain ⟨ys, h1, h2⟩ := h
        exact ⟨ys, mapM_imp h1 fun f hf _ hy => ih _ _ _ (hT f hf) hy, h2⟩
      · simp at h
    case h_10 =>
      rename_i hu
      simp only [hu, List.contains_eq_mem, decide_eq_true_eq] at hT
      split at h
      · rename_i hc
        rw [if_pos hc]
        simp only [Option.map_eq_some_iff] at h ⊢
        obtain ⟨ys, h1, h2⟩ := h
        exact ⟨ys, mapM_imp h1 fun _ _ _ hy => ih _ _ _ hT hy, h2⟩
      · simp at h
    case h_12 =>
      rename_i hu
      simp [hu] at hT
    case h_14 =>
      rename_i hu
      simp only [hu, List.contains_eq_mem, decide_eq_true_eq] at hT
      split at h
      · rename_i hb
        rw [hk.heap hb]
        simp only at h ⊢
        split at h
        · rename_i hc
          rw [if_pos hc]
          simp only [Option.bind_eq_some_iff] at h ⊢
          obtain ⟨es, h1, h2⟩ := h
          refine ⟨es, mapM_imp h1 fun x _ y hy => ?_, h2⟩
          simp only [Option.bind_eq_some_iff] at hy ⊢
          obtain ⟨key, g1, g2⟩ := hy
          refine ⟨key, g1, ?_⟩
          split at g2
          · rename_i hf
            rw [if_pos hf]
            simp only [Option.map_eq_some_iff] at g2 ⊢
            obtain ⟨z, z1, z2⟩ := g2
            exact ⟨z, ih _ _ _ hT z1, z2⟩
          · simp at g2
        · simp at h
      · simp at h
    all_goals exact h
end Go.V

/- Data that is read, as the interpreter's values. -/
namespace Go.V

mutual
/-- the cells of a datum of a type -/
def inV {H : Type} (P : Program) : Nat → TypeId → DataW H → Option (List Val)
  | 0, _, _ => none
  | f + 1, t, d => match P.underlying t, d with
    | some .bool, .lit (.bool b) => some [.bool b]
    | some (.int k), .lit (.int k' n) => if k' = k then some [.int k n] else none
    | some .string, .lit (.string s) => some [.str s]
    | some (.pointer _), .nil => some [.nilp]
    | some (.pointer e), .ptr d => if P.cellsOf e = 0 then none else (inV P f e d).map fun cs => [.pin cs 0]
    | some (.slice _), .nil => some [.sli [] 0 .nil]
    | some (.slice e), .slice elems spare => if P.cellsOf e = 0 then none else (inList P f e elems).map fun cs => [.sli cs elems.length (if spare.isEmpty then .exact else .any)]
    | some (.struct fs), .agg parts => match inFields P f fs.toList 0 parts with
      | some (n, cs) => if n = P.cellsOf t then some cs else none
      | none => none
    | _, _ => none
  termination_by f _ _ => (f, 0)
def inList {H : Type} (P : Program) (f : Nat) (e : TypeId) : List (DataW H) → Option (List Val)
  | [] => some []
  | d :: ds => match inV P f e d, inList P f e ds with
    | some a, some b => some (a ++ b)
    | _, _ => none
  termination_by ds => (f, ds.length + 1)
def inFields {H : Type} (P : Program) (f : Nat) : List Field → Nat → List (DataW H) → Option (Nat × List Val)
  | [], off, [] => some (off, [])
  | fd :: fs, off, d :: ds =>
    if fd.offset = off then
      match inV P f fd.type d, inFields P f fs (off + P.cellsOf fd.type) ds with
      | some a, some (n, b) => some (n, a ++ b)
      | _, _ => none
    else none
  | _, _, _ => none
  termination_by fs _ _ => (f, fs.length + 1)
end

theorem RepMem.append {k : K} {c : Nat} : ∀ {a b : List Val} {o : Nat}, RepMem k c o a → RepMem k c (o + a.length) b → RepMem k c o (a ++ b)
  | [], b, o, _, h => by simpa using h
  | x :: a, b, o, h, h' => by
    simp only [List.cons_append, RepMem] at h ⊢
    refine ⟨h.1, RepMem.append h.2 ?_⟩
    simp only [List.length_cons] at h'
    rwa [show o + 1 + a.length = o + (a.length + 1) by omega]

theorem mapM_get {α β : Type} {fn : α → Option β} : ∀ {l : List α} {ys : List β}, l.mapM fn = some ys → ys.length = l.length ∧ ∀ (i : Nat) (x : α) (y : β), l[i]? = some x → ys[i]? = some y → fn x = some y
  | [], ys, h => by simp at h; subst h; simp
  | x :: l, ys, h => by
    rw [List.mapM_cons] at h
    simp only [Option.bind_eq_bind, Option.bind_eq_some_iff, Option.pure_def, Option.some.injEq] at h
    obtain ⟨y, hy, zs, hz, rfl⟩ := h
    obtain ⟨h1, h2⟩ := mapM_get hz
    refine ⟨by simp [h1], fun i a b ha hb => ?_⟩
    cases i with
    | zero => simp only [List.getElem?_cons_zero, Option.some.injEq] at ha hb; subst ha; subst hb; exact hy
    | succ i => exact h2 i a b (by simpa using ha) (by simpa using hb)

theorem spot_none {w : World} {a : Addr} {v : Value} (h : w.cell? a = some v) : a.spot = none := by
  unfold World.cell? at h
  split at h
  · cases hs : a.spot with
    | none => rfl
    | some s => rw [hs] at h; simp at h
  · simp at h

/-- cells of the world, all of them read -/
theorem cells_mem {w : World} {base : Nat} {a : Addr} {n : Nat} {cs : List Value} (h : w.cells? base a n = some cs) (hn : 0 < n) {vs : List Val} (hr : RepAll (bare w) vs cs) (h1 : ∀ x ∈ cs, x.oneCell' = true) :
    a.spot = none ∧ cs.length = n ∧ RepMem (bare w) a.block a.off vs := by
  unfold World.cells? at h
  split at h
  · obtain ⟨hl, hg⟩ := mapM_get h
    simp only [List.length_range] at hl
    have cell : ∀ (i : Nat) (y : Value), cs[i]? = some y → w.cell? (a.add i) = some y := fun i y hy => by
      have hlt : i < cs.length := (List.getElem?_eq_some_iff.1 hy).1
      exact hg i i y (by rw [List.getElem?_range (by omega)]) hy
    have hsp : a.spot = none := by
      have := cell 0 cs[0] (List.getElem?_eq_getElem (by omega))
      have h0 : a.add 0 = a ∨ (a.add 0).spot = a.spot := by
        unfold Addr.add; split <;> simp_all
      rcases h0 with e | e
      · rw [e] at this; exact spot_none this
      · rw [← e]; exact spot_none this
    refine ⟨hsp, hl, RepMem.mk fun i x hx => ⟨rfl, ?_⟩⟩
    obtain ⟨v, hv, hxv⟩ := hr.get hx
    refine ⟨v, ?_, h1 v (List.mem_of_getElem? hv), hxv⟩
    have := cell i v hv
    rwa [add_addr hsp] at this
  · simp at h

section
variable {H : Type} {enc : TypeId × Value → H} {P : Program} {w : World} {base : Nat} {spare : Nat → Bool} {held : Bool}

/-- what is shown of a datum that is read -/
def TrodOk (enc : TypeId × Value → H) (P : Program) (w : World) (base : Nat) (spare : Nat → Bool) (held : Bool) (fuel : Nat) : Prop :=
  ∀ (t : TypeId) (cs : List Value) (d : DataW H) (ps : List MemPlace), DataW.trod enc P w base spare held fuel t cs = some (d, ps) →
    ∀ (f' : Nat) (vs : List Val), inV P f' t d = some vs → RepAll (bare w) vs cs ∧ ∀ x ∈ cs, x.oneCell' = true

/-- a row of elements -/
theorem trod_list {fuel : Nat} (ih : TrodOk enc P w base spare held fuel) {e : TypeId} {a : Addr} (hs : 0 < P.cellsOf e) : ∀ (n p : Nat) (xs : List (DataW H × List MemPlace)) (f' : Nat) (vs : List Val),
    ((List.range' p n).mapM fun i => (w.cells? base (a.add (i * P.cellsOf e)) (P.cellsOf e)).bind (DataW.trod enc P w base spare held fuel e)) = some xs → inList P f' e (xs.map (·.1)) = some vs → (p ≠ 0 → a.spot = none) →
    (n ≠ 0 → a.spot = none) ∧ xs.length = n ∧ RepMem (bare w) a.block (a.off + p * P.cellsOf e) vs
  | 0, p, xs, f', vs, h, hv, _ => by
    simp at h; subst h
    simp only [List.map_nil, inList, Option.some.injEq] at hv; subst hv
    exact ⟨fun h => absurd rfl h, rfl, by simp [RepMem]⟩
  | n + 1, p, xs, f', vs, h, hv, hp0 => by
    rw [List.range'_succ, List.mapM_cons] at h
    simp only [Option.bind_eq_bind, Option.bind_eq_some_iff, Option.pure_def, Option.some.injEq] at h
    obtain ⟨x, ⟨cs, hcs, hx⟩, zs, hz, rfl⟩ := h
    simp only [List.map_cons, inList] at hv
    split at hv
    · rename_i va vb hva hvb
      simp only [Option.some.injEq] at hv; subst hv
      obtain ⟨x1, x2⟩ := x
      obtain ⟨r1, r2⟩ := ih e cs x1 x2 hx f' va hva
      obtain ⟨s1, s2, s3⟩ := cells_mem hcs hs r1 r2
      have hsp : a.spot = none := by
        by_cases e0 : p = 0
        · subst e0
          simpa [Addr.add] using s1
        · exact hp0 e0
      obtain ⟨_, q2, q3⟩ := trod_list ih hs n (p + 1) zs f' vb hz hvb (fun _ => hsp)
      refine ⟨fun _ => hsp, by simp [q2], ?_⟩
      rw [add_addr hsp] at s3
      refine RepMem.append s3 ?_
      rw [r1.length, s2]
      have e2 : a.off + p * P.cellsOf e + P.cellsOf e = a.off + (p + 1) * P.cellsOf e := by rw [Nat.add_mul]; omega
      rw [e2]
      exact q3
    · simp at hv

theorem trod_fields {fuel : Nat} (ih : TrodOk enc P w base spare held fuel) {cs : List Value} : ∀ (fs : List Field) (off : Nat) (xs : List (DataW H × List MemPlace)) (f' n : Nat) (vs : List Val),
    (fs.mapM fun f => DataW.trod enc P w base spare held fuel f.type ((cs.drop f.offset).take (P.cellsOf f.type))) = some xs → inFields P f' fs off (xs.map (·.1)) = some (n, vs) → n ≤ cs.length →
    off ≤ n ∧ RepAll (bare w) vs ((cs.drop off).take (n - off)) ∧ ∀ x ∈ (cs.drop off).take (n - off), x.oneCell' = true
  | [], off, xs, f', n, vs, h, hv, hn => by
    simp at h; subst h
    simp only [List.map_nil, inFields, Option.some.injEq, Prod.mk.injEq] at hv
    obtain ⟨rfl, rfl⟩ := hv
    simp [RepAll]
  | fd :: fs, off, xs, f', n, vs, h, hv, hn => by
    rw [List.mapM_cons] at h
    simp only [Option.bind_eq_bind, Option.bind_eq_some_iff, Option.pure_def, Option.some.injEq] at h
    obtain ⟨⟨x1, x2⟩, hx, zs, hz, rfl⟩ := h
    simp only [List.map_cons, inFields] at hv
    split at hv
    · rename_i ho
      split at hv
      · rename_i va n' vb hva hvb
        simp only [Option.some.injEq, Prod.mk.injEq] at hv
        obtain ⟨rfl, rfl⟩ := hv
        obtain ⟨r1, r2⟩ := ih _ _ _ _ hx f' va hva
        obtain ⟨q1, q2, q3⟩ := trod_fields ih fs _ zs f' _ vb hz hvb hn
        rw [ho] at r1 r2
        have e : (cs.drop off).take (n' - off) = (cs.drop off).take (P.cellsOf fd.type) ++ (cs.drop (off + P.cellsOf fd.type)).take (n' - (off + P.cellsOf fd.type)) := by
          rw [show n' - off = P.cellsOf fd.type + (n' - (off + P.cellsOf fd.type)) by omega, List.take_add, List.drop_drop]
        refine ⟨by omega, ?_, ?_⟩
        · rw [e]; exact r1.append q2
        · rw [e]
          intro x hx
          rcases List.mem_append.1 hx with hx | hx
          · exact r2 x hx
          · exact q3 x hx
      · simp at hv
    · simp at hv

/-- WHAT IS READ, as the interpreter's values. -/
theorem trod_rep (hsp : ∀ b, spare b = true) : ∀ (fuel : Nat), TrodOk enc P w base spare held fuel
  | 0 => fun _ _ _ _ h => by simp [DataW.trod] at h
  | fuel + 1 => by
    have ih := trod_rep hsp fuel
    intro t cs d ps h f' vs hv
    cases f' with
    | zero => simp [inV] at hv
    | succ f' =>
      unfold DataW.trod at h
      unfold inV at hv
      split at h
      case h_1 =>
        rename_i b hu
        simp only [Option.some.injEq, Prod.mk.injEq] at h; obtain ⟨rfl, _⟩ := h
        rw [hu] at hv
        simp only [Option.some.injEq] at hv; subst hv
        simp [RepAll, Rep, Value.oneCell']
      case h_2 =>
        rename_i k k' n hu
        split at h
        · rename_i hc
          obtain ⟨rfl, _⟩ := hc
          simp only [Option.some.injEq, Prod.mk.injEq] at h; obtain ⟨rfl, _⟩ := h
          rw [hu] at hv
          simp only [if_true, Option.some.injEq] at hv; subst hv
          simp [RepAll, Rep, Value.oneCell']
        · simp at h
      case h_3 =>
        rename_i k k' n hu
        split at h
        · simp only [Option.some.injEq, Prod.mk.injEq] at h; obtain ⟨rfl, _⟩ := h
          rw [hu] at hv
          simp at hv
        · simp at h
      case h_4 =>
        rename_i s hu
        split at h
        · simp only [Option.some.injEq, Prod.mk.injEq] at h; obtain ⟨rfl, _⟩ := h
          rw [hu] at hv
          simp only [Option.some.injEq] at hv; subst hv
          simp [RepAll, Rep, Value.oneCell']
        · simp at h
      case h_5 =>
        rename_i e hu
        simp only [Option.some.injEq, Prod.mk.injEq] at h; obtain ⟨rfl, _⟩ := h
        rw [hu] at hv
        simp only [Option.some.injEq] at hv; subst hv
        simp [RepAll, Rep, Value.oneCell']
      case h_6 =>
        rename_i e a hu
        simp only [Option.map_eq_some_iff, Option.bind_eq_some_iff, Prod.mk.injEq] at h
        obtain ⟨⟨x1, x2⟩, ⟨cs, hcs, hx⟩, rfl, _⟩ := h
        rw [hu] at hv
        simp only at hv
        split at hv
        · simp at hv
        · rename_i hsz
          simp only [Option.map_eq_some_iff] at hv
          obtain ⟨vs', hv', rfl⟩ := hv
          obtain ⟨r1, r2⟩ := ih _ _ _ _ hx f' vs' hv'
          obtain ⟨s1, s2, s3⟩ := cells_mem hcs (by omega) r1 r2
          refine ⟨?_, by simp [Value.oneCell']⟩
          simp only [RepAll, Rep, and_true]
          refine ⟨a.block, a.off, ?_, s3⟩
          cases a; simp_all
      case h_7 =>
        rename_i e hu
        simp only [Option.some.injEq, Prod.mk.injEq] at h; obtain ⟨rfl, _⟩ := h
        rw [hu] at hv
        simp only [Option.some.injEq] at hv; subst hv
        refine ⟨?_, by simp [Value.oneCell']⟩
        simp only [RepAll, Rep, and_true]
        exact ⟨none, 0, rfl, Nat.le_refl _, fun _ => ⟨rfl, rfl⟩, ⟨fun h => (nomatch h), fun h => absurd rfl h⟩, .inl trivial⟩
      case h_8 =>
        rename_i e a len cap hu
        simp only at h
        split at h
        · rename_i hc
          simp only [Option.bind_eq_some_iff, Option.map_eq_some_iff, Prod.mk.injEq] at h
          obtain ⟨es, h1, rs, h2, rfl, _⟩ := h
          rw [hu] at hv
          simp only at hv
          split at hv
          · simp at hv
          · rename_i hsz
            simp only [Option.map_eq_some_iff] at hv
            obtain ⟨vs', hv', rfl⟩ := hv
            rw [List.range_eq_range'] at h1
            obtain ⟨q1, q2, q3⟩ := trod_list ih (by omega) len 0 es f' vs' h1 hv' (fun h => absurd rfl h)
            have hrs : (rs.map (·.1)).isEmpty = true → cap = len := by
              intro he
              rw [if_pos (hsp _)] at h2
              have := (mapM_get h2).1
              simp only [List.length_range] at this
              simp only [List.isEmpty_iff, List.map_eq_nil_iff] at he
              rw [he] at this
              simp at this
              omega
            refine ⟨?_, by simp [Value.oneCell']⟩
            simp only [RepAll, Rep, and_true, List.length_map, q2]
            refine ⟨some a, cap, rfl, hc.2.1, ?_, ?_, ?_⟩
            · intro hq; split at hq <;> simp at hq
            · refine ⟨fun hq => ?_, fun _ => rfl⟩
              split at hq
              · rename_i he; exact hrs he
              · simp at hq
            · rcases Nat.eq_zero_or_pos len with h0 | h0
              · exact .inl h0
              · right
                have hspn := q1 (by omega)
                refine ⟨a.block, a.off, by cases a; simp_all, ?_⟩
                simpa using q3
        · simp at h
      case h_9 =>
        rename_i fs hu
        split at h
        · rename_i hl
          simp only [Option.map_eq_some_iff, Prod.mk.injEq] at h
          obtain ⟨xs, h1, rfl, _⟩ := h
          rw [hu] at hv
          simp only at hv
          split at hv
          · rename_i n vs' hf
            split at hv
            · rename_i hn
              simp only [Option.some.injEq] at hv; subst hv
              obtain ⟨_, r1, r2⟩ := trod_fields ih _ _ xs f' n vs' h1 hf (by omega)
              rw [List.drop_zero, Nat.sub_zero, List.take_of_length_le (by omega)] at r1 r2
              exact ⟨r1, r2⟩
            · simp at hv
          · simp at hv
        · simp at h
      all_goals first | (simp at h; done) | skip
      all_goals
        rename_i hu
        rw [hu] at hv
        cases d <;> first | (simp at hv; done) | skip
end
end Go.V

/- Arguments. -/
namespace Go.V
section
variable {H : Type} {enc : TypeId × Value → H} {P : Program} {w : World} {base : Nat} {spare : Nat → Bool} {held : Bool}

/-- a value of a type, of its cells -/
def argOf (P : Program) (t : TypeId) (vs : List Val) : Option Val :=
  match P.underlying t with
  | some (.struct _) | some (.array _ _) => some (.agg vs)
  | _ => match vs with
    | [v] => some v
    | _ => none
def inArgs (P : Program) (f : Nat) : List TypeId → List (DataW H) → Option (List Val)
  | [], [] => some []
  | t :: ts, d :: ds => match (inV P f t d).bind (argOf P t), inArgs P f ts ds with
    | some x, some xs => some (x :: xs)
    | _, _ => none
  | _, _ => none

theorem arg_rep {r : Reach} {t : TypeId} {v : Value} (hok : Value.okWide P w r base t v) {vs : List Val} (hr : RepAll (bare w) vs v.cells.toList) (h1 : ∀ x ∈ v.cells.toList, x.oneCell' = true) {x : Val} (hx : argOf P t vs = some x) :
    Rep (bare w) x v := by
  unfold argOf at hx
  unfold Value.okWide at hok
  split at hx
  · rename_i fs hu
    rw [hu] at hok
    obtain ⟨cs, rfl, _⟩ := hok
    simp only [Option.some.injEq] at hx; subst hx
    simp only [Rep]
    exact ⟨cs, rfl, hr, h1⟩
  · rename_i n e hu
    rw [hu] at hok
    obtain ⟨cs, rfl, _⟩ := hok
    simp only [Option.some.injEq] at hx; subst hx
    simp only [Rep]
    exact ⟨cs, rfl, hr, h1⟩
  · rename_i hn1 hn2
    split at hx
    · simp only [Option.some.injEq] at hx; subst hx
      have hna : ∀ cs, v ≠ .agg cs := by
        rintro cs rfl
        split at hok
        · rename_i fs hu; exact hn1 _ hu
        · rename_i n e hu; exact hn2 _ _ hu
        · unfold Cell.okWide at hok
          split at hok
          all_goals first | (rename_i h; simp at h; done) | skip
          all_goals first | (rename_i heq _; simp at heq; done) | skip
          all_goals
            unfold Cell.ok at hok
            split at hok <;> first | exact hok | (rename_i h; simp at h; done) | (rename_i h _; simp at h; done)
      have : v.cells = #[v] := by cases v <;> first | rfl | exact absurd rfl (hna _)
      rw [this] at hr
      simp only [RepAll, and_true] at hr
      exact hr
    · simp at hx

theorem args_rep (hsp : ∀ b, spare b = true) {r : Reach} {base2 : Nat} : ∀ {ts : List TypeId} {vs : List Value} {ds : List (DataW H)} {ps : List MemPlace} {f : Nat} {xs : List Val}, DataW.TrodAll enc P w base spare held ts vs ds ps →
    (∀ (j : Nat) t v, ts[j]? = some t → vs[j]? = some v → Value.okWide P w r base2 t v) → inArgs P f ts ds = some xs → RepAll (bare w) xs vs
  | [], [], [], ps, f, xs, _, _, h => by simp only [inArgs, Option.some.injEq] at h; subst h; simp [RepAll]
  | t :: ts, v :: vs, d :: ds, ps, f, xs, ht, hok, h => by
    simp only [inArgs] at h
    split at h
    · rename_i x xs' hx hxs
      simp only [Option.some.injEq] at h; subst h
      obtain ⟨p, q, ⟨fuel, h1⟩, h2, _⟩ := ht
      simp only [Option.bind_eq_some_iff] at hx
      obtain ⟨cs, hcs, hx⟩ := hx
      obtain ⟨r1, r2⟩ := trod_rep hsp fuel _ _ _ _ h1 f cs hcs
      simp only [RepAll]
      exact ⟨arg_rep (hok 0 t v rfl rfl) r1 r2 hx, args_rep hsp h2 (fun j t' v' h1 h2 => hok (j + 1) t' v' (by simpa using h1) (by simpa using h2)) hxs⟩
    · simp at h
  | [], [], _ :: _, _, _, _, h, _, _ => by simp [DataW.TrodAll] at h
  | [], _ :: _, _, _, _, _, h, _, _ => by simp [DataW.TrodAll] at h
  | _ :: _, [], _, _, _, _, h, _, _ => by simp [DataW.TrodAll] at h
  | _ :: _, _ :: _, [], _, _, _, h, _, _ => by simp [DataW.TrodAll] at h
end
end Go.V

/- A law that answers true: its statement's post, out of the interpreter's call. -/
namespace Go.V
section
variable {H : Type} {enc : TypeId × Value → H} {P : Program} {w w' : World}

theorem trodAll_keep (hk : Kept w w') {L : List TypeId} (hL : closedB P L = true) {base : Nat} {spare : Nat → Bool} (hsp : ∀ b, b < w.heap.size → spare b = true) {held : Bool} :
    ∀ {ts : List TypeId} {vs : List Value} {ds : List (DataW H)} {ps : List MemPlace}, (∀ t ∈ ts, t ∈ L) → DataW.TrodAll enc P w base (fun _ => true) held ts vs ds ps → DataW.TrodAll enc P w' base spare held ts vs ds ps
  | [], [], [], ps, _, h => h
  | t :: ts, v :: vs, d :: ds, ps, ht, h => by
    obtain ⟨p, q, ⟨fuel, h1⟩, h2, h3⟩ := h
    exact ⟨p, q, ⟨fuel, trod_keep hk hL hsp fuel _ _ _ (ht t (by simp)) h1⟩, trodAll_keep hk hL hsp (fun t h => ht t (by simp [h])) h2, h3⟩
  | [], [], _ :: _, _, _, h => by simp [DataW.TrodAll] at h
  | [], _ :: _, _, _, _, h => by simp [DataW.TrodAll] at h
  | _ :: _, [], _, _, _, h => by simp [DataW.TrodAll] at h
  | _ :: _, _ :: _, [], _, _, h => by simp [DataW.TrodAll] at h

theorem keptBut_of (hk : Kept w w') (ho : w'.os = w.os) (hu : w'.output = w.output) (may : MemPlace → Prop) : w.keptBut w' may := by
  refine ⟨ho, hu, fun i hi => ?_⟩
  rw [hk i hi]
  cases h : w.heap[i]? with
  | none => rfl
  | some o =>
    cases o <;> first | rfl | exact ⟨rfl, rfl, rfl, fun _ _ => rfl⟩ | exact .inr ⟨rfl, rfl⟩

/-- THE LAW ANSWERS TRUE. -/
theorem post_true {E : Env} (hE : EnvOk E) {L : List TypeId} (hL : closedB E.P L = true) {fn : Func} (hpL : ∀ t ∈ fn.params.toList, t ∈ L) {f : FuncId} {s : ChangeSpec} (hvars : s.vars = []) {tb : TypeId} (hrt : fn.resultTypes = #[tb]) (htb : E.P.underlying tb = some .bool)
    {args : Array Value} {ds gs : List (DataW H)} {before : List MemPlace} (hW : DataW.Whole enc E.P fn.params.toList s.vars false w args.toList ds gs before)
    (hspec : s.fn H (ds ++ gs) = { results := [.lit (.bool true)], args := ds }) {r : Reach} {base : Nat}
    (hval : ∀ (j : Nat) t v, fn.params[j]? = some t → args[j]? = some v → Value.okWide E.P w r base t v)
    (hg : ∀ g cs, E.glob g = some cs → RepMem (bare w) g 0 cs) (hn : E.native f = none) {q n : Nat} {xs : List Val} (hin : inArgs E.P q fn.params.toList ds = some xs) {S' : St} (hcall : call E n f xs ⟨[], []⟩ = some (.bool true, S')) :
    Calls E.P f args w fun e w' => ∃ v, e = .returned v ∧ s.post enc E.P fn false true false false w args v w' := by
  have hW' := hW
  obtain ⟨p, q', hA, hV, rfl, _, _⟩ := hW
  have hargs : RepAll (bare w) xs args.toList := by
    have hok : ∀ (j : Nat) t v, fn.params.toList[j]? = some t → args.toList[j]? = some v → Value.okWide E.P w r base t v := fun j t v h1 h2 => hval j t v (by rw [← Array.getElem?_toList]; exact h1) (by rw [← Array.getElem?_toList]; exact h2)
    exact args_rep (fun _ => rfl) hA hok hin
  refine (calls_of_call hE hcall hn hg hargs).mono fun e w' h => ?_
  obtain ⟨k', cv, rfl, hr, hkw, hos, _, hout, hsize, hk⟩ := h
  simp only [Rep] at hr; subst hr
  refine ⟨_, rfl, ds, gs, p ++ q', [], p, [], hW', ?_, ?_, ?_, keptBut_of hk hos hout _, fun h => by simp at h⟩
  · rw [hspec, hrt]
    exact ⟨[], [], ⟨1, by simp [Value.cells, DataW.trod, htb]⟩, rfl, rfl⟩
  · rw [hspec]
    exact trodAll_keep hk hL (fun b hb => by simpa using hb) hpL hA
  · rw [hspec, hvars]
    rfl
end
end Go.V

/- Package-level variables that a row lists, as the interpreter's memory. -/
namespace Go.V

theorem repMem_of {w : World} {g : Nat} {cs : Array Value} (hc : ∀ i : Nat, w.cell? ⟨g, i, none⟩ = cs[i]?) : ∀ (vs : List Val) (l : List Value) (o : Nat), (∀ i : Nat, l[i]? = cs[o + i]?) → RepAll (bare w) vs l → (∀ x ∈ l, x.oneCell' = true) → RepMem (bare w) g o vs
  | [], _, _, _, _, _ => by simp [RepMem]
  | v :: vs, [], _, _, h, _ => by simp [RepAll] at h
  | v :: vs, x :: l, o, hi, h, h1 => by
    simp only [RepAll] at h
    simp only [RepMem]
    refine ⟨⟨rfl, x, ?_, h1 x (by simp), h.1⟩, repMem_of hc vs l (o + 1) (fun i => ?_) h.2 fun y hy => h1 y (by simp [hy])⟩
    · have := hi 0
      simp only [List.getElem?_cons_zero, Nat.add_zero] at this
      exact (hc o).trans this.symm
    · have := hi (i + 1)
      simp only [List.getElem?_cons_succ] at this
      rw [this]; congr 1; omega

theorem laid_glob {P : Program} {w : World} {name : String} {d : DataW Unit} {rest : List (String × DataW Unit)} {g : Nat} {t : TypeId} {f : Nat} {vs : List Val}
    (hg : P.globalNamed name = some g) (hty : (P.globals[g]?).map (·.type) = some t) (h : laidMet P ((name, d) :: rest) w) (hin : inV P f t d = some vs) : RepMem (bare w) g 0 vs := by
  obtain ⟨ps, ⟨g', t', cs, fuel, p, q, hg', ht', hvar, hd, _, _⟩, _⟩ := h
  obtain rfl := Option.some.inj (hg.symm.trans hg')
  obtain rfl := Option.some.inj (hty.symm.trans ht')
  obtain ⟨h1, h2⟩ := trod_rep (fun _ => rfl) fuel _ _ _ _ hd f vs hin
  exact repMem_of (fun i => World.var?_cell hg hvar i) vs cs.toList 0 (fun i => by simp) h1 h2

/-- what an 'EnvOk' asks, reckoned -/
theorem envOk_of {E : Env} (h1 : (E.P.funcs.toList.all fun fn => !(fn.name == "runtime.NumGoroutine")) = true) (h2 : E.native = fun _ => none) (h3 : E.P.follows .mixedOrders = true) : EnvOk E where
  name g fn hf _ := by
    have := (List.all_eq_true.1 h1) fn (Array.mem_toList_iff.2 (Array.mem_of_getElem? hf))
    simpa using this
  native g nf args S v S' h := by rw [h2] at h; simp at h
  mixed := h3

/-- one variable alone is laid -/
theorem glob_one {E : Env} {g : Nat} {vs : List Val} {w : World} (h : ∀ x cs, E.glob x = some cs → x = g ∧ cs = vs) (hr : RepMem (bare w) g 0 vs) : ∀ x cs, E.glob x = some cs → RepMem (bare w) x 0 cs := by
  intro x cs hx
  obtain ⟨rfl, rfl⟩ := h x cs hx
  exact hr
end Go.V

/- What the interpreter comes to with fuel enough: a call has one end; rules by which code is stepped through. -/
namespace Go.V
variable {E : Env}

def RecLe (r r' : Rec) : Prop := ∀ c k fr S o, r c k fr S = some o → r' c k fr S = some o

theorem callV_mono {r r' : Rec} (h : RecLe r r') {g : FuncId} {args : List Val} {S : St} {o : Val × St} : callV r E g args S = some o → callV r' E g args S = some o := by
  unfold callV
  cases hn : E.native g with
  | some nf => exact id
  | none =>
    cases hf : E.P.funcs[g]? with
    | none => exact id
    | some fn =>
      cases hb : fn.body with
      | none => simp [hb]
      | some body =>
        simp only [hb]
        by_cases hl : args.length ≤ fn.ntmps
        · simp only [hl, if_true]
          cases hr : r ⟨g, fn.ntmps, []⟩ [.code body] (argFr 0 args) S with
          | none => simp
          | some q => rw [h _ _ _ _ _ hr]; exact id
        · simp [hl]

theorem yieldV_mono {r r' : Rec} (h : RecLe r r') {l : Nat} {args : List Val} {S : St} {o : Val × St} : yieldV r E l args S = some o → yieldV r' E l args S = some o := by
  unfold yieldV
  cases hl : S.L[l]? with
  | none => exact id
  | some q =>
    simp only []
    intro hc
    split at hc
    · simp at hc
    · rename_i hb
      rw [if_neg hb]
      split at hc
      · rename_i fn fr0 hf hp
        split at hc
        · rename_i hx
          simp only [if_pos hx]
          split at hc
          · rename_i fr1 S1 hr
            rw [h _ _ _ _ _ hr]
            simp only []
            split at hc
            · rename_i j fr2 S2 hr2
              rw [h _ _ _ _ _ hr2]
              exact hc
            · simp at hc
          · simp at hc
        · simp at hc
      · simp at hc

theorem stepOp_mono {r r' : Rec} (h : RecLe r r') {c : Ctx} {fr : Fr} {S : St} {o : Oper} {q : Fr × St} : stepOp r E c fr S o = some q → stepOp r' E c fr S o = some q := by
  unfold stepOp
  intro hc
  split at hc
  · exact hc
  · exact hc
  · split at hc
    · rename_i hv; rw [callV_mono h hv]; exact hc
    · simp at hc
  · split at hc
    · rename_i hv; rw [yieldV_mono h hv]; exact hc
    · simp at hc
  · simp at hc

theorem stepT_mono {r r' : Rec} (h : RecLe r r') {c : Ctx} {fr0 fr : Fr} {S : St} {o : Oper} {q : Fr × Did} : stepT r E c fr0 fr S o = some q → stepT r' E c fr0 fr S o = some q := by
  unfold stepT
  intro hc
  split at hc
  · exact hc
  · exact hc
  · split at hc
    · rename_i hv; rw [callV_mono h hv]; exact hc
    · simp at hc
  · split at hc
    · rename_i hv; rw [yieldV_mono h hv]; exact hc
    · simp at hc
  · simp at hc

theorem opsV_mono {r r' : Rec} (h : RecLe r r') {c : Ctx} {all : Array Oper} : ∀ {l : List Oper} {fr : Fr} {S : St} {q : Fr × St}, opsV r E c all l fr S = some q → opsV r' E c all l fr S = some q
  | [], _, _, _ => id
  | o :: l, fr, S, q => by
    unfold opsV
    intro hc
    split at hc
    · split at hc
      · rename_i hv; rw [stepOp_mono h hv]; exact opsV_mono h hc
      · simp at hc
    · split at hc
      · exact opsV_mono h hc
      · simp at hc
    · simp at hc

theorem opsT_mono {r r' : Rec} (h : RecLe r r') {c : Ctx} {all : Array Oper} {fr0 : Fr} : ∀ {l : List Oper} {fr : Fr} {S : St} {q : Fr × St × List Did}, opsT r E c all fr0 l fr S = some q → opsT r' E c all fr0 l fr S = some q
  | [], _, _, _ => id
  | o :: l, fr, S, q => by
    unfold opsT
    intro hc
    split at hc
    · split at hc
      · rename_i hv; rw [stepT_mono h hv]
        simp only []
        split at hc
        · rename_i hv2; rw [opsT_mono h hv2]; exact hc
        · simp at hc
      · simp at hc
    · split at hc
      · split at hc
        · rename_i hv2; rw [opsT_mono h hv2]; exact hc
        · simp at hc
      · simp at hc
    · simp at hc

theorem regionV_mono {r r' : Rec} (h : RecLe r r') {c : Ctx} {id : Nat} {ops : Array Oper} {draw : Bool} {fr : Fr} {S : St} {q : Fr × St} : regionV r E c id ops draw fr S = some q → regionV r' E c id ops draw fr S = some q := by
  unfold regionV
  intro hc
  split at hc
  · rename_i hd
    rw [if_pos hd]
    split at hc
    · rename_i he hv; rw [he, opsT_mono h hv]; exact hc
    · simp at hc
  · rename_i hd
    rw [if_neg hd]
    split at hc
    · rename_i hv; rw [opsV_mono h hv]; exact hc
    · simp at hc

theorem stepV_mono {r r' : Rec} (h : RecLe r r') : RecLe (stepV r E) (stepV r' E) := by
  intro c k fr S o
  unfold stepV
  intro hc
  split at hc
  · exact hc
  · exact h _ _ _ _ _ hc
  · exact h _ _ _ _ _ hc
  · exact h _ _ _ _ _ hc
  · split at hc
    · exact h _ _ _ _ _ hc
    · exact h _ _ _ _ _ hc
    · simp at hc
  · exact h _ _ _ _ _ hc
  · exact h _ _ _ _ _ hc
  · exact h _ _ _ _ _ hc
  · exact hc
  · split at hc
    · exact h _ _ _ _ _ hc
    · exact hc
  · split at hc
    · rename_i hv; rw [regionV_mono h hv]; exact h _ _ _ _ _ hc
    · simp at hc
  · split at hc
    · split at hc
      · rename_i hv; rw [callV_mono h hv]
        simp only []
        split at hc
        · split at hc
          · rename_i hx; rw [if_pos hx]; exact h _ _ _ _ _ hc
          · simp at hc
        · simp at hc
      · simp at hc
    · simp at hc
  · simp at hc

theorem run_le1 : ∀ n, RecLe (run E n) (run E (n + 1))
  | 0 => fun c k fr S o h => by simp [run] at h
  | n + 1 => fun c k fr S o h => stepV_mono (run_le1 n) c k fr S o h
theorem run_le {n m : Nat} (h : n ≤ m) : RecLe (run E n) (run E m) := by
  induction h with
  | refl => exact fun _ _ _ _ _ h => h
  | step _ ih => exact fun c k fr S o h => run_le1 _ c k fr S o (ih c k fr S o h)

theorem call_le {n m : Nat} (h : n ≤ m) {f : FuncId} {args : List Val} {S : St} {o : Val × St} (hc : call E n f args S = some o) : call E m f args S = some o := callV_mono (run_le h) hc

/-- A call comes to a value and a state. -/
def Call (E : Env) (f : FuncId) (args : List Val) (S : St) (v : Val) (S' : St) : Prop := ∃ n, call E n f args S = some (v, S')
/-- the same, told for use in rewriting -/
def CallIs (E : Env) (f : FuncId) (args : List Val) (S : St) (r : Val) (S' : St) : Prop := ∀ v S'', Call E f args S v S'' ↔ v = r ∧ S'' = S'

theorem Call.det {f : FuncId} {args : List Val} {S : St} {v v' : Val} {S' S'' : St} (h : Call E f args S v S') (h' : Call E f args S v' S'') : v = v' ∧ S' = S'' := by
  obtain ⟨n, h⟩ := h; obtain ⟨m, h'⟩ := h'
  have a := call_le (Nat.le_max_left n m) h
  have b := call_le (Nat.le_max_right n m) h'
  rw [a] at b; simpa using b
theorem Call.is {f : FuncId} {args : List Val} {S : St} {v : Val} {S' : St} (h : Call E f args S v S') : CallIs E f args S v S' :=
  fun _ _ => ⟨fun h' => h'.det h, fun e => by rw [e.1, e.2]; exact h⟩
theorem CallIs.call {f : FuncId} {args : List Val} {S : St} {v : Val} {S' : St} (h : CallIs E f args S v S') : Call E f args S v S' := (h v S').2 ⟨rfl, rfl⟩

def EvQ (E : Env) (c : Ctx) (k : List Item) (fr : Fr) (S : St) (Q : Out → Prop) : Prop := ∃ n o, run E n c k fr S = some o ∧ Q o
def OpsQ (E : Env) (c : Ctx) (all : Array Oper) (l : List Oper) (fr : Fr) (S : St) (Q : Fr → St → Prop) : Prop := ∃ n fr' S', opsV (run E n) E c all l fr S = some (fr', S') ∧ Q fr' S'
/-- what a call's body has to end in -/
def Fin (E : Env) (g : FuncId) (S : St) (v : Val) (S' : St) (o : Out) : Prop :=
  isRet o.1 = true ∧ ∃ fn vs, E.P.funcs[g]? = some fn ∧ resultsV E o.2.1.get o.2.2 fn.results.toList = some vs ∧ finish E g S (wrapV vs) o.2.2 = some (v, S')

section
variable {c : Ctx} {k : List Item} {fr : Fr} {S : St} {Q : Out → Prop}

theorem ev_step {k' : List Item} {fr' : Fr} {S' : St} (h : ∀ r : Rec, stepV r E c k fr S = r c k' fr' S') (hq : EvQ E c k' fr' S' Q) : EvQ E c k fr S Q := by
  obtain ⟨n, o, h1, h2⟩ := hq
  exact ⟨n + 1, o, (h (run E n)).trans h1, h2⟩
theorem ev_nil (hq : Q (none, fr, S)) : EvQ E c [] fr S Q := ⟨1, _, rfl, hq⟩
theorem ev_skip (hq : EvQ E c k fr S Q) : EvQ E c (.code .skip :: k) fr S Q := ev_step (fun _ => rfl) hq
theorem ev_inBlock {id : Nat} (hq : EvQ E c k fr S Q) : EvQ E c (.inBlock id :: k) fr S Q := ev_step (fun _ => rfl) hq
theorem ev_seq {a b : Code} (hq : EvQ E c (.code a :: .code b :: k) fr S Q) : EvQ E c (.code (.seq a b) :: k) fr S Q := ev_step (fun _ => rfl) hq
theorem ev_block {id : Nat} {b : Code} (hq : EvQ E c (.code b :: .inBlock id :: k) fr S Q) : EvQ E c (.code (.block id b) :: k) fr S Q := ev_step (fun _ => rfl) hq
theorem ev_loop {b : Code} (hq : EvQ E c (.code b :: .inLoop b :: k) (loopFr E c k fr) S Q) : EvQ E c (.code (.loop b) :: k) fr S Q := ev_step (fun _ => rfl) hq
theorem ev_inLoop {b : Code} (hq : EvQ E c (.code b :: .inLoop b :: k) (loopFr E c k fr) S Q) : EvQ E c (.inLoop b :: k) fr S Q := ev_step (fun _ => rfl) hq
theorem ev_ret (hq : Q (some .ret, fr, S)) : EvQ E c (.code .ret :: k) fr S Q := ⟨1, _, rfl, hq⟩
theorem ev_exit {id : Nat} {k' : List Item} (h : exitTo id k = some k') (hq : EvQ E c k' fr S Q) : EvQ E c (.code (.exit id) :: k) fr S Q := ev_step (fun _ => by simp only [stepV, h]) hq
theorem ev_exitOut {id : Nat} (h : exitTo id k = none) (hq : Q (some (.exit id), fr, S)) : EvQ E c (.code (.exit id) :: k) fr S Q := ⟨1, _, by simp only [run, stepV, h], hq⟩
theorem ev_cond {o : Operand} {a b : Code} {t : Bool} (h : ev E fr.get o = some (.bool t)) (h1 : t = true → EvQ E c (.code a :: k) fr S Q) (h2 : t = false → EvQ E c (.code b :: k) fr S Q) : EvQ E c (.code (.cond o a b) :: k) fr S Q := by
  cases t with
  | true => exact ev_step (fun _ => by simp only [stepV, h]) (h1 rfl)
  | false => exact ev_step (fun _ => by simp only [stepV, h]) (h2 rfl)
theorem ev_region {id : Nat} {ops : Array Oper} (hq : OpsQ E c ops ops.toList fr S fun fr' S' => EvQ E c k (match E.lo c.f id with
      | some l => fr'.keep l
      | none => fr') S' Q) : EvQ E c (.code (.region id ops false) :: k) fr S Q := by
  obtain ⟨n, fr', S', h1, m, o, h2, h3⟩ := hq
  refine ⟨max n m + 1, o, ?_, h3⟩
  have := opsV_mono (run_le (Nat.le_max_left n m)) h1
  simp only [run, stepV, regionV, this]
  exact run_le (Nat.le_max_right n m) _ _ _ _ _ h2

theorem ops_nil {all : Array Oper} {Q : Fr → St → Prop} (hq : Q fr S) : OpsQ E c all [] fr S Q := ⟨0, _, _, rfl, hq⟩
theorem ops_val {all : Array Oper} {o : Oper} {l : List Oper} {Q : Fr → St → Prop} {v : Option Val} {kl : Cls} {ups : List (Nat × Val)} {S' : St} {fr' : Fr} (hw : wantedV all fr.get o = some true)
    (h : opV E c fr.get S o = some (.val v kl ups S')) (hp : putO c (fr.puts ups) o.dst (v.getD (.tup [])) = some fr') (hq : OpsQ E c all l fr' S' Q) : OpsQ E c all (o :: l) fr S Q := by
  obtain ⟨n, fr2, S2, h1, h2⟩ := hq
  exact ⟨n, fr2, S2, by simp only [opsV, hw, stepOp, h, hp]; exact h1, h2⟩
theorem ops_laid {all : Array Oper} {o : Oper} {l : List Oper} {Q : Fr → St → Prop} {cs : List Val} {d : Tmp} (hw : wantedV all fr.get o = some true)
    (h : opV E c fr.get S o = some (.laid cs)) (hd : o.dst = some d) (hc : d < c.n ∧ c.fixed.contains d = false) (hq : OpsQ E c all l ((fr.unloc d).put d (.lv cs)) S Q) : OpsQ E c all (o :: l) fr S Q := by
  obtain ⟨n, fr2, S2, h1, h2⟩ := hq
  exact ⟨n, fr2, S2, by simp only [opsV, hw, stepOp, h, hd, hc, and_self, if_true]; exact h1, h2⟩
theorem ops_call {all : Array Oper} {o : Oper} {l : List Oper} {Q : Fr → St → Prop} {g : FuncId} {args : List Val} {v : Val} {S' : St} {fr' : Fr} (hw : wantedV all fr.get o = some true)
    (h : opV E c fr.get S o = some (.call g args)) (hg : Call E g args S v S') (hp : putO c fr o.dst v = some fr') (hq : OpsQ E c all l fr' S' Q) : OpsQ E c all (o :: l) fr S Q := by
  obtain ⟨n, fr2, S2, h1, h2⟩ := hq
  obtain ⟨m, hm⟩ := hg
  refine ⟨max n m, fr2, S2, ?_, h2⟩
  have hm' := call_le (Nat.le_max_right n m) hm
  unfold call at hm'
  simp only [opsV, hw, stepOp, h, hm', hp]
  exact opsV_mono (run_le (Nat.le_max_left n m)) h1
theorem ops_not {all : Array Oper} {o : Oper} {l : List Oper} {Q : Fr → St → Prop} {fr' : Fr} (hw : wantedV all fr.get o = some false) (hp : putO c fr o.dst (.tup []) = some fr') (hq : OpsQ E c all l fr' S Q) : OpsQ E c all (o :: l) fr S Q := by
  obtain ⟨n, fr2, S2, h1, h2⟩ := hq
  exact ⟨n, fr2, S2, by simp only [opsV, hw, hp]; exact h1, h2⟩

theorem call_of {f : FuncId} {args : List Val} {v : Val} {S' : St} {fn : Func} {body : Code} (hn : E.native f = none) (hf : E.P.funcs[f]? = some fn) (hb : fn.body = some body) (hl : args.length ≤ fn.ntmps)
    (h : EvQ E ⟨f, fn.ntmps, []⟩ [.code body] (argFr 0 args) S (Fin E f S v S')) : Call E f args S v S' := by
  obtain ⟨n, ⟨j, fr, S1⟩, h1, h2, fn', vs, h3, h4, h5⟩ := h
  rw [hf] at h3; cases h3
  refine ⟨n, ?_⟩
  simp only [call, callV, hn, hf, hb, hl, if_true, h1]
  rw [if_pos h2]
  simp only [] at h4
  rw [h4]
  exact h5
end
end Go.V

/- Stepping through code by places: a place in the code with frame and state; steps that the kernel reckons; rules for conditions, calls and ends. -/
namespace Go.V
variable {E : Env}

inductive Pos where
  | code (k : List Item)
  | ops (id : Nat) (all : Array Oper) (l : List Oper) (k : List Item)
  | drw (id : Nat) (all : Array Oper) (l : List Oper) (k : List Item) (fr0 : Fr) (tr : List Did)
  deriving Inhabited
instance : Inhabited St := ⟨⟨[], []⟩⟩
structure Cfg where
  pos : Pos
  fr : Fr
  S : St
  deriving Inhabited

def keepFr (E : Env) (c : Ctx) (id : Nat) (fr : Fr) : Fr := match E.lo c.f id with
  | some l => fr.keep l
  | none => fr

def EvD (E : Env) (c : Ctx) (q : Cfg) (Q : Out → Prop) : Prop := match q.pos with
  | .code k => EvQ E c k q.fr q.S Q
  | .ops id all l k => OpsQ E c all l q.fr q.S fun fr' S' => EvQ E c k (keepFr E c id fr') S' Q
  | .drw id all l k fr0 tr => ∃ n fr' S' tr', opsT (run E n) E c all fr0 l q.fr q.S = some (fr', S', tr') ∧ ∃ lo, E.lo c.f id = some lo ∧
      (edgesOk all.toList 0 && drawOk E c all (befT all.toList []) 0 (tr ++ tr')) = true ∧ EvQ E c k (fr'.keep lo) S' Q

/-- a name that isn't seen through -/
structure EvC (E : Env) (c : Ctx) (q : Cfg) (Q : Out → Prop) : Prop where
  d : EvD E c q Q

def step1 (E : Env) (F : Nat) (c : Ctx) (q : Cfg) : Option Cfg :=
  match q.pos with
  | .ops id _ [] k => some ⟨.code k, keepFr E c id q.fr, q.S⟩
  | .ops id all (o :: l) k => match wantedV all q.fr.get o with
    | some true => match stepOp (run E F) E c q.fr q.S o with
      | some (fr', S') => some ⟨.ops id all l k, fr', S'⟩
      | none => none
    | some false => match putO c q.fr o.dst (.tup []) with
      | some fr' => some ⟨.ops id all l k, fr', q.S⟩
      | none => none
    | none => none
  | .drw id all [] k _ tr => match E.lo c.f id with
    | some lo => if edgesOk all.toList 0 && drawOk E c all (befT all.toList []) 0 tr then some ⟨.code k, q.fr.keep lo, q.S⟩ else none
    | none => none
  | .drw id all (o :: l) k fr0 tr => match wantedV all q.fr.get o with
    | some true => match stepT (run E F) E c fr0 q.fr q.S o with
      | some (fr', d) => some ⟨.drw id all l k fr0 (tr ++ [d]), fr', d.S'⟩
      | none => none
    | some false => match putO c q.fr o.dst (.tup []) with
      | some fr' => some ⟨.drw id all l k fr0 (tr ++ [⟨o, q.fr, q.S, .pure, .tup [], [], q.S⟩]), fr', q.S⟩
      | none => none
    | none => none
  | .code k => match k with
    | .code .skip :: k | .inBlock _ :: k => some ⟨.code k, q.fr, q.S⟩
    | .code (.seq a b) :: k => some ⟨.code (.code a :: .code b :: k), q.fr, q.S⟩
    | .code (.cond o a b) :: k => match ev E q.fr.get o with
      | some (.bool true) => some ⟨.code (.code a :: k), q.fr, q.S⟩
      | some (.bool false) => some ⟨.code (.code b :: k), q.fr, q.S⟩
      | _ => none
    | .code (.block id b) :: k => some ⟨.code (.code b :: .inBlock id :: k), q.fr, q.S⟩
    | .code (.loop b) :: k => some ⟨.code (.code b :: .inLoop b :: k), loopFr E c k q.fr, q.S⟩
    | .inLoop b :: k => some ⟨.code (.code b :: .inLoop b :: k), loopFr E c k q.fr, q.S⟩
    | .code (.exit id) :: k => match exitTo id k with
      | some k' => some ⟨.code k', q.fr, q.S⟩
      | none => none
    | .code (.region id ops false) :: k => some ⟨.ops id ops ops.toList k, q.fr, q.S⟩
    | .code (.region id ops true) :: k => some ⟨.drw id ops ops.toList k q.fr [], q.fr, q.S⟩
    | .code (.rangeFunc f ps a b) :: k => match ev E q.fr.get f with
      | some (.fn g cap) =>
        match callV (run E F) E g (.yield q.S.L.length :: cap) { q.S with L := q.S.L ++ [⟨c.f, q.fr, ps, a, b, false, false, false, none⟩] } with
        | some (_, S2) => match S2.L[q.S.L.length]? with
          | some r => if S2.L.length = q.S.L.length + 1 ∧ r.busy = false ∧ keptYH q.S.L.length q.S.H S2.H = true ∧ keptYL q.S.L.length q.S.L S2.L = true ∧ frY q.S.L.length q.fr r.fr = true then
              some ⟨.code ((r.pending.map Item.code).toList ++ k), r.fr, { S2 with L := S2.L.take q.S.L.length }⟩
            else none
          | none => none
        | none => none
      | _ => none
    | _ => none

def goN (E : Env) (F : Nat) (c : Ctx) : Nat → Cfg → Option Cfg
  | 0, q => some q
  | n + 1, q => match step1 E F c q with
    | some q' => goN E F c n q'
    | none => none

section
variable {c : Ctx} {q q' : Cfg} {Q : Out → Prop}

theorem evq_step {k : List Item} {fr : Fr} {S : St} {k' : List Item} {fr' : Fr} {S' : St} {F : Nat} (h : ∀ m o, F ≤ m → run E m c k' fr' S' = some o → stepV (run E m) E c k fr S = some o) (hq : EvQ E c k' fr' S' Q) : EvQ E c k fr S Q := by
  obtain ⟨n, o, h1, h2⟩ := hq
  exact ⟨max F n + 1, o, h _ _ (Nat.le_max_left F n) (run_le (Nat.le_max_right F n) _ _ _ _ _ h1), h2⟩

theorem step1_ok {F : Nat} (h : step1 E F c q = some q') (hq : EvC E c q' Q) : EvC E c q Q := by
  refine ⟨?_⟩
  replace hq := hq.d
  obtain ⟨pos, fr, S⟩ := q
  unfold step1 at h
  simp only at h
  split at h
  · cases h
    exact ops_nil hq
  · rename_i id all o l k
    split at h
    · rename_i hw
      split at h
      · rename_i fr' S' hs
        cases h
        obtain ⟨n, fr2, S2, h1, h2⟩ := hq
        refine ⟨max F n, fr2, S2, ?_, h2⟩
        simp only [opsV, hw, stepOp_mono (run_le (Nat.le_max_left F n)) hs]
        exact opsV_mono (run_le (Nat.le_max_right F n)) h1
      · simp at h
    · rename_i hw
      split at h
      · rename_i fr' hp
        cases h
        exact ops_not hw hp hq
      · simp at h
    · simp at h
  · rename_i id all k fr0 tr
    split at h
    · rename_i lo hlo
      split at h
      · rename_i hd
        cases h
        exact ⟨0, fr, S, [], rfl, lo, hlo, by simpa using hd, hq⟩
      · simp at h
    · simp at h
  · rename_i id all o l k fr0 tr
    split at h
    · rename_i hw
      split at h
      · rename_i fr' d hs
        cases h
        obtain ⟨n, fr2, S2, tr2, h1, lo, hlo, h2, h3⟩ := hq
        simp only at h1
        refine ⟨max F n, fr2, S2, d :: tr2, ?_, lo, hlo, by simpa using h2, h3⟩
        simp only [opsT, hw, stepT_mono (run_le (Nat.le_max_left F n)) hs, opsT_mono (run_le (Nat.le_max_right F n)) h1]
      · simp at h
    · rename_i hw
      split at h
      · rename_i fr' hp
        cases h
        obtain ⟨n, fr2, S2, tr2, h1, lo, hlo, h2, h3⟩ := hq
        simp only at h1
        refine ⟨n, fr2, S2, _ :: tr2, ?_, lo, hlo, by simpa using h2, h3⟩
        simp only [opsT, hw, hp, h1]
      · simp at h
    · simp at h
  · rename_i k
    split at h
    · cases h; exact ev_skip hq
    · cases h; exact ev_inBlock hq
    · cases h; exact ev_seq hq
    · split at h
      · rename_i he; cases h; exact ev_cond he (fun _ => hq) (fun h => by simp at h)
      · rename_i he; cases h; exact ev_cond he (fun h => by simp at h) (fun _ => hq)
      · simp at h
    · cases h; exact ev_block hq
    · cases h; exact ev_loop hq
    · cases h; exact ev_inLoop hq
    · split at h
      · rename_i he; cases h; exact ev_exit he hq
      · simp at h
    · cases h; exact ev_region hq
    · rename_i id ops k
      cases h
      obtain ⟨n, fr2, S2, tr2, h1, lo, hlo, h2, m, o, h3, h4⟩ := hq
      simp only [List.nil_append] at h1 h2
      refine ⟨max n m + 1, o, ?_, h4⟩
      simp only [run, stepV, regionV, hlo, opsT_mono (run_le (Nat.le_max_left n m)) h1, h2, if_true]
      exact run_le (Nat.le_max_right n m) _ _ _ _ _ h3
    · rename_i f ps a b k
      split at h
      · rename_i g cap he
        split at h
        · rename_i v S2 hc
          split at h
          · rename_i r hr
            split at h
            · rename_i hx
              cases h
              refine evq_step (F := F) (fun m o hm ho => ?_) hq
              simp only [stepV, he]
              rw [callV_mono (run_le hm) hc]
              simp only [hr]
              rw [if_pos hx]
              exact ho
            · simp at h
          · simp at h
        · simp at h
      · simp at h
    · simp at h

theorem goN_ok {F : Nat} : ∀ (n : Nat) {q q' : Cfg}, goN E F c n q = some q' → EvC E c q' Q → EvC E c q Q
  | 0, q, q', h, hq => by cases h; exact hq
  | n + 1, q, q', h, hq => by
    simp only [goN] at h
    split at h
    · rename_i h1; exact step1_ok h1 (goN_ok n h hq)
    · simp at h

/-- steps without a name for where they lead -/
def goT (E : Env) (F : Nat) (c : Ctx) (n : Nat) (q : Cfg) : Cfg := (goN E F c n q).getD default
theorem evc_go (F n : Nat) (h : (goN E F c n q).isSome = true) (hq : EvC E c (goT E F c n q) Q) : EvC E c q Q := by
  obtain ⟨q', h1⟩ := Option.isSome_iff_exists.1 h
  refine goN_ok n h1 ?_
  simpa [goT, h1] using hq

/-- at a condition -/
def condOf (E : Env) (q : Cfg) : Option Val := match q.pos with
  | .code (.code (.cond o _ _) :: _) => ev E q.fr.get o
  | _ => none
def branch (q : Cfg) (t : Bool) : Cfg := match q.pos with
  | .code (.code (.cond _ a b) :: k) => ⟨.code (.code (if t then a else b) :: k), q.fr, q.S⟩
  | _ => q
theorem evc_cond (t : Bool) (h : condOf E q = some (.bool t)) (h1 : t = true → EvC E c (branch q true) Q) (h2 : t = false → EvC E c (branch q false) Q) : EvC E c q Q := by
  obtain ⟨pos, fr, S⟩ := q
  unfold condOf at h
  split at h
  · rename_i o a b k hp
    simp only at hp; subst hp
    exact ⟨ev_cond (t := t) h (fun ht => (h1 ht).d) (fun ht => (h2 ht).d)⟩
  · simp at h

/-- at a call -/
def callAt (E : Env) (c : Ctx) (q : Cfg) : Option (FuncId × List Val) := match q.pos with
  | .ops _ all (o :: _) _ => match wantedV all q.fr.get o with
    | some true => match opV E c q.fr.get q.S o with
      | some (.call g args) => some (g, args)
      | _ => none
    | _ => none
  | .drw _ all (o :: _) _ _ _ => match wantedV all q.fr.get o with
    | some true => match opV E c q.fr.get q.S o with
      | some (.call g args) => some (g, args)
      | _ => none
    | _ => none
  | _ => none
def back (c : Ctx) (q : Cfg) (v : Val) (S' : St) : Option Cfg := match q.pos with
  | .ops id all (o :: l) k => match putO c q.fr o.dst v with
    | some fr' => some ⟨.ops id all l k, fr', S'⟩
    | none => none
  | .drw id all (o :: l) k fr0 tr => match putO c q.fr o.dst v with
    | some fr' => some ⟨.drw id all l k fr0 (tr ++ [⟨o, q.fr, q.S, .eh, v, [], S'⟩]), fr', S'⟩
    | none => none
  | _ => none
def backT (c : Ctx) (q : Cfg) (v : Val) (S' : St) : Cfg := (back c q v S').getD default
theorem evc_call {g : FuncId} {args : List Val} {v : Val} {S S' : St} (hS : q.S = S) (h : callAt E c q = some (g, args)) (hg : Call E g args S v S') (hb : (back c q v S').isSome = true) (hq : EvC E c (backT c q v S') Q) : EvC E c q Q := by
  obtain ⟨q', h1⟩ := Option.isSome_iff_exists.1 hb
  simp only [backT, h1, Option.getD_some] at hq
  obtain ⟨pos, fr, S0⟩ := q
  simp only at hS; subst hS
  unfold callAt at h
  simp only at h
  split at h
  · rename_i id all o l k
    split at h
    · rename_i hw
      split at h
      · rename_i ho
        cases h
        simp only [back] at h1
        split at h1
        · rename_i fr' hp
          cases h1
          exact ⟨ops_call hw ho hg hp hq.d⟩
        · simp at h1
      · simp at h
    · simp at h
  · rename_i id all o l k fr0 tr
    split at h
    · rename_i hw
      split at h
      · rename_i ho
        cases h
        simp only [back] at h1
        split at h1
        · rename_i fr' hp
          cases h1
          obtain ⟨n, fr2, S2, tr2, h1, lo, hlo, h2, h3⟩ := hq.d
          obtain ⟨m, hm⟩ := hg
          simp only at h1
          refine ⟨max n m, fr2, S2, _ :: tr2, ?_, lo, hlo, by simpa using h2, h3⟩
          have hm' := call_le (Nat.le_max_right n m) hm
          unfold call at hm'
          simp only [opsT, hw, stepT, ho, hm', hp, opsT_mono (run_le (Nat.le_max_left n m)) h1]
        · simp at h1
      · simp at h
    · simp at h
  · simp at h

/-- an operation that is no call -/
def opAt (E : Env) (c : Ctx) (q : Cfg) : Option Res := match q.pos with
  | .ops _ all (o :: _) _ => match wantedV all q.fr.get o with
    | some true => opV E c q.fr.get q.S o
    | _ => none
  | .drw _ all (o :: _) _ _ _ => match wantedV all q.fr.get o with
    | some true => opV E c q.fr.get q.S o
    | _ => none
  | _ => none
def after (c : Ctx) (q : Cfg) (v : Option Val) (kl : Cls) (ups : List (Nat × Val)) (S' : St) : Option Cfg := match q.pos with
  | .ops id all (o :: l) k => match putO c (q.fr.puts ups) o.dst (v.getD (.tup [])) with
    | some fr' => some ⟨.ops id all l k, fr', S'⟩
    | none => none
  | .drw id all (o :: l) k fr0 tr => match putO c (q.fr.puts ups) o.dst (v.getD (.tup [])) with
    | some fr' => some ⟨.drw id all l k fr0 (tr ++ [⟨o, q.fr, q.S, kl, v.getD (.tup []), ups, S'⟩]), fr', S'⟩
    | none => none
  | _ => none
def afterT (c : Ctx) (q : Cfg) (v : Option Val) (kl : Cls) (ups : List (Nat × Val)) (S' : St) : Cfg := (after c q v kl ups S').getD default
theorem evc_op (v : Option Val) (kl : Cls) (ups : List (Nat × Val)) (S' : St) (h : opAt E c q = some (.val v kl ups S')) (hb : (after c q v kl ups S').isSome = true) (hq : EvC E c (afterT c q v kl ups S') Q) : EvC E c q Q := by
  obtain ⟨q', h1⟩ := Option.isSome_iff_exists.1 hb
  simp only [afterT, h1, Option.getD_some] at hq
  obtain ⟨pos, fr, S0⟩ := q
  unfold opAt at h
  simp only at h
  split at h
  · rename_i id all o l k
    split at h
    · rename_i hw
      simp only [after] at h1
      split at h1
      · rename_i fr' hp
        cases h1
        exact ⟨ops_val hw h hp hq.d⟩
      · simp at h1
    · simp at h
  · rename_i id all o l k fr0 tr
    split at h
    · rename_i hw
      simp only [after] at h1
      split at h1
      · rename_i fr' hp
        cases h1
        obtain ⟨n, fr2, S2, tr2, h1, lo, hlo, h2, h3⟩ := hq.d
        simp only at h1
        refine ⟨n, fr2, S2, _ :: tr2, ?_, lo, hlo, by simpa using h2, h3⟩
        simp only [opsT, hw, stepT, h, hp, h1]
      · simp at h1
    · simp at h
  · simp at h
/-- an element of an inline slice -/
theorem evc_idx (i len : Nat) (cs : List Val) (sz : Nat) (h : opAt E c q = if 0 ≤ (i : Int) ∧ (i : Int) < (len : Int) then pureVal (some (.pin cs (i * sz))) q.S else none) (hi : i < len)
    (hb : (after c q (some (.pin cs (i * sz))) .pure [] q.S).isSome = true) (hq : EvC E c (afterT c q (some (.pin cs (i * sz))) .pure [] q.S) Q) : EvC E c q Q :=
  evc_op _ _ _ _ (by rw [h, if_pos ⟨by omega, by omega⟩]; rfl) hb hq
/-- cells read from known memory -/
theorem evc_cut (cs : List Val) (off n : Nat) (cs' : List Val) (kl : Cls) (h : opAt E c q = one (((cut cs off n).map Val.agg).map fun v => (v, kl)) q.S) (hc : cut cs off n = some cs')
    (hb : (after c q (some (.agg cs')) kl [] q.S).isSome = true) (hq : EvC E c (afterT c q (some (.agg cs')) kl [] q.S) Q) : EvC E c q Q :=
  evc_op _ _ _ _ (by rw [h, hc]; rfl) hb hq
/-- a cell read from known memory -/
theorem evc_get (cs : List Val) (off : Nat) (v : Val) (kl : Cls) (h : opAt E c q = one ((cs[off]?).map fun v => (v, kl)) q.S) (hc : cs[off]? = some v)
    (hb : (after c q (some v) kl [] q.S).isSome = true) (hq : EvC E c (afterT c q (some v) kl [] q.S) Q) : EvC E c q Q :=
  evc_op _ _ _ _ (by rw [h, hc]; rfl) hb hq

/-- at the end of a body -/
def finOf (E : Env) (g : FuncId) (S : St) (q : Cfg) : Option (Val × St) := match E.P.funcs[g]? with
  | some fn =>
    let e := match resultsV E q.fr.get q.S fn.results.toList with
      | some vs => finish E g S (wrapV vs) q.S
      | none => none
    match q.pos with
    | .code [] => e
    | .code (.code .ret :: _) => e
    | _ => none
  | none => none
theorem evc_fin {g : FuncId} {S : St} {v : Val} {S' : St} (h : finOf E g S q = some (v, S')) : EvC E c q (Fin E g S v S') := by
  obtain ⟨pos, fr, S1⟩ := q
  unfold finOf at h
  split at h
  · rename_i fn hf
    simp only at h
    have key : ∀ o : Out, o.2.1 = fr → o.2.2 = S1 → isRet o.1 = true → (match resultsV E fr.get S1 fn.results.toList with
      | some vs => finish E g S (wrapV vs) S1
      | none => none) = some (v, S') → Fin E g S v S' o := by
      rintro ⟨j, fr', S1'⟩ h1 h2 h3 h4
      simp only at h1 h2; subst h1 h2
      split at h4
      · rename_i vs hv
        exact ⟨h3, fn, vs, hf, hv, h4⟩
      · simp at h4
    split at h
    · exact ⟨ev_nil (key _ rfl rfl rfl h)⟩
    · exact ⟨ev_ret (key _ rfl rfl rfl h)⟩
    · simp at h
  · simp at h

/-- the start of a body -/
def ctxOf (E : Env) (f : FuncId) : Ctx := ⟨f, ((E.P.funcs[f]?).map (·.ntmps)).getD 0, []⟩
def entry (E : Env) (f : FuncId) (args : List Val) (S : St) : Cfg := ⟨.code [.code (((E.P.funcs[f]?).bind (·.body)).getD .skip)], argFr 0 args, S⟩
def enters (E : Env) (f : FuncId) (n : Nat) : Bool := (E.native f).isNone && match E.P.funcs[f]? with
  | some fn => fn.body.isSome && decide (n ≤ fn.ntmps)
  | none => false
theorem call_cfg {f : FuncId} {args : List Val} {S : St} {v : Val} {S' : St} (h : enters E f args.length = true) (hq : EvC E (ctxOf E f) (entry E f args S) (Fin E f S v S')) : Call E f args S v S' := by
  simp only [enters, Bool.and_eq_true, Option.isNone_iff_eq_none] at h
  obtain ⟨hn, h⟩ := h
  split at h
  · rename_i fn hf
    simp only [Bool.and_eq_true, decide_eq_true_eq] at h
    obtain ⟨body, hb⟩ := Option.isSome_iff_exists.1 h.1
    refine call_of hn hf hb h.2 ?_
    simpa [EvD, ctxOf, entry, hf, hb] using hq.d
  · simp at h
/-- a call that the kernel reckons -/
theorem call_run (n : Nat) {f : FuncId} {args : List Val} {S : St} {v : Val} {S' : St} (h : call E n f args S = some (v, S')) : Call E f args S v S' := ⟨n, h⟩
end

/-- the value of a temporary, written otherwise -/
def setAt : Fr → Nat → Val → Fr
  | [], _, _ => []
  | (k, u) :: r, t, v => if k = t then (k, v) :: r else (k, u) :: setAt r t v
theorem setAt_same : ∀ {fr : Fr} {t : Nat} {v : Val}, fr.get t = some v → setAt fr t v = fr
  | [], _, _, h => by simp [Fr.get] at h
  | (k, u) :: r, t, v, h => by
    simp only [Fr.get] at h
    simp only [setAt]
    split at h
    · rename_i hk; rw [if_pos hk]; cases h; rfl
    · rename_i hk; rw [if_neg hk, setAt_same h]
def setQ (q : Cfg) (d : Nat) (v : Val) : Cfg := ⟨q.pos, setAt q.fr d v, q.S⟩
theorem evc_set {E : Env} {c : Ctx} {q : Cfg} {Q : Out → Prop} (d : Nat) (v v' : Val) (h : q.fr.get d = some v) (e : v = v') (hq : EvC E c (setQ q d v') Q) : EvC E c q Q := by
  subst e
  have : setQ q d v = q := by unfold setQ; rw [setAt_same h]
  rwa [this] at hq
theorem evc_is {E : Env} {c : Ctx} {q : Cfg} {Q : Out → Prop} (d : Nat) (t b : Bool) (h : q.fr.get d = some (.bool t)) (e : t = b) (hq : EvC E c (setQ q d (.bool b)) Q) : EvC E c q Q := evc_set d _ _ h (by rw [e]) hq
theorem evc_split {E : Env} {c : Ctx} {q : Cfg} {Q : Out → Prop} (d : Nat) (t : Bool) (h : q.fr.get d = some (.bool t)) (h1 : t = true → EvC E c (setQ q d (.bool true)) Q) (h2 : t = false → EvC E c (setQ q d (.bool false)) Q) : EvC E c q Q := by
  cases ht : t with
  | true => exact evc_is d t true h ht (h1 ht)
  | false => exact evc_is d t false h ht (h2 ht)
theorem evc_end {E : Env} {c : Ctx} {q : Cfg} {g : FuncId} {S : St} {v : Val} {S' : St} (v' : Val) (S'' : St) (h : finOf E g S q = some (v', S'')) (e : v' = v) (e' : S'' = S') : EvC E c q (Fin E g S v S') := by
  subst e e'
  exact evc_fin h
end Go.V

/- The end of a call in any state. -/
namespace Go.V
mutual
theorem Val.beq_refl : ∀ v : Val, v.beq v = true
  | .unk => rfl | .bool b => by simp [Val.beq] | .int k n => by simp [Val.beq] | .str s => by simp [Val.beq] | .nilp => rfl
  | .ptr a b e => by simp [Val.beq]
  | .pin cs o => by simp [Val.beq, Val.beqs_refl cs]
  | .lv cs => by simp [Val.beq, Val.beqs_refl cs]
  | .loc a b => by simp [Val.beq]
  | .sl a b c d e => by simp [Val.beq]
  | .sli cs l q => by simp [Val.beq, Val.beqs_refl cs]
  | .fn f cs => by simp [Val.beq, Val.beqs_refl cs]
  | .yield l => by simp [Val.beq]
  | .nilf => rfl
  | .map b => by simp [Val.beq]
  | .nilm => rfl
  | .ifc t v => by simp [Val.beq, Val.beq_refl v]
  | .nili => rfl
  | .agg cs => by simp [Val.beq, Val.beqs_refl cs]
  | .tup cs => by simp [Val.beq, Val.beqs_refl cs]
theorem Val.beqs_refl : ∀ l : List Val, Val.beqs l l = true
  | [] => rfl
  | v :: l => by simp [Val.beqs, Val.beq_refl v, Val.beqs_refl l]
end
theorem entriesBeq_refl : ∀ l : List (Val × Val), entriesBeq l l = true
  | [] => rfl
  | (a, b) :: l => by simp [entriesBeq, Val.beq_refl, entriesBeq_refl l]
theorem Block.beq_refl (b : Block) : b.beq b = true := by
  cases b with
  | cells cs f => simp [Block.beq, Val.beqs_refl]
  | map es => simp [Block.beq, entriesBeq_refl]
theorem keptH_refl {n : Nat} {X : List Block} : ∀ H : List Block, keptH n H (H ++ X) = true
  | [] => by cases X <;> simp [keptH]
  | a :: l => by simp [keptH, Block.beq_refl, keptH_refl l]
theorem frBeq_refl : ∀ f : Fr, frBeq f f = true
  | [] => rfl
  | (a, v) :: l => by simp [frBeq, Val.beq_refl, frBeq_refl l]
theorem keptL_refl {n : Nat} : ∀ L : List LoopRec, keptL n L L = true
  | [] => rfl
  | a :: l => by simp [keptL, frBeq_refl, keptL_refl l]

theorem fz_low {n : Nat} {S : St} {d : Nat} {v : Val} (h : v.low n = true) : fz n S (d + 1) v = some v := by
  unfold fz; rw [if_pos h]
theorem mapO_low {n : Nat} {S : St} {d : Nat} : ∀ {l : List Val}, Val.lows n l = true → mapO (fz n S (d + 1)) l = some l
  | [], _ => rfl
  | v :: l, h => by
    simp only [Val.lows, Bool.and_eq_true] at h
    simp only [mapO, fz_low h.1, mapO_low h.2]

theorem finish_new {E : Env} {g : FuncId} {S : St} {X : List Block} {v v' : Val} (hm : E.mode g = .drop) (hv : fz S.H.length ⟨S.H ++ X, S.L⟩ fzDepth v = some v') : finish E g S v ⟨S.H ++ X, S.L⟩ = some (v', S) := by
  unfold finish
  rw [hm]
  simp [keptH_refl, keptL_refl, hv]
theorem finish_same {E : Env} {g : FuncId} {S : St} {v : Val} (h : v.low S.H.length = true) : finish E g S v S = some (v, S) := by
  unfold finish
  cases E.mode g with
  | keep => rfl
  | drop =>
    have : keptH S.H.length S.H S.H = true := by simpa using keptH_refl (X := []) (n := S.H.length) S.H
    simp [this, keptL_refl, fzDepth, fz_low h]

/-- what a body answers, before the call is over -/
def resAt (E : Env) (g : FuncId) (q : Cfg) : Option Val := match E.P.funcs[g]? with
  | some fn =>
    let e := (resultsV E q.fr.get q.S fn.results.toList).map wrapV
    match q.pos with
    | .code [] => e
    | .code (.code .ret :: _) => e
    | _ => none
  | none => none
theorem finOf_of {E : Env} {g : FuncId} {S : St} {q : Cfg} {v : Val} (h : resAt E g q = some v) : finOf E g S q = finish E g S v q.S := by
  unfold resAt at h
  unfold finOf
  split at h
  · rename_i fn hf
    simp only [hf] at h ⊢
    cases hr : resultsV E q.fr.get q.S fn.results.toList with
    | none => rw [hr] at h; simp only [Option.map_none] at h; split at h <;> simp at h
    | some vs =>
      rw [hr] at h
      simp only [Option.map_some] at h
      split at h
      · rename_i hp; simp only [hp]; cases h; rfl
      · rename_i hp; simp only [hp]; cases h; rfl
      · simp at h
  · simp at h
theorem evc_endS {E : Env} {c : Ctx} {q : Cfg} {g : FuncId} {S : St} {v : Val} (v' : Val) (h : resAt E g q = some v') (hS : q.S = S) (e : v' = v) (hl : v.low S.H.length = true) : EvC E c q (Fin E g S v S) := by
  subst e
  exact evc_fin ((finOf_of h).trans (by rw [hS]; exact finish_same hl))
theorem evc_endN {E : Env} {c : Ctx} {q : Cfg} {g : FuncId} {S : St} {v : Val} (v' : Val) (X : List Block) (h : resAt E g q = some v') (hS : q.S = ⟨S.H ++ X, S.L⟩) (hm : E.mode g = .drop) (hv : fz S.H.length ⟨S.H ++ X, S.L⟩ fzDepth v' = some v) : EvC E c q (Fin E g S v S) :=
  evc_fin ((finOf_of h).trans (by rw [hS]; exact finish_new hm hv))
/-- the same place -/
theorem evc_eq {E : Env} {c : Ctx} {q : Cfg} {Q : Out → Prop} (q' : Cfg) (h : q = q') (hq : EvC E c q' Q) : EvC E c q Q := by rw [h]; exact hq
theorem wrap_nat {i m : Nat} (h : i + m ≤ 9223372036854775807) : IntKind.wrap .i64 ((i : Int) + (m : Int)) = ((i + m : Nat) : Int) := by
  simp only [IntKind.wrap, IntKind.bits, IntKind.signed]
  simp only [Bool.true_and, decide_eq_true_eq, ge_iff_le]
  split <;> omega
theorem evc_at {E : Env} {c : Ctx} {q q' : Cfg} {Q Q' : Out → Prop} (hq : EvC E c q' Q') (h : q = q') (hQ : Q' = Q) : EvC E c q Q := by rw [h, ← hQ]; exact hq
end Go.V

/- Appending, in any state. -/
namespace Go.V
variable {E : Env} {c : Ctx} {q : Cfg} {Q : Out → Prop}
theorem evc_app (S0 : St) (t : TypeId) (s x : Val) (v : Val) (kl : Cls) (S' : St) (hS : q.S = S0) (h : opAt E c q = (appendOp E S0 t s x).map fun p => .val (some p.1) p.2.1 [] p.2.2) (e : appendOp E S0 t s x = some (v, kl, S'))
    (hb : (after c q (some v) kl [] S').isSome = true) (hq : EvC E c (afterT c q (some v) kl [] S') Q) : EvC E c q Q :=
  evc_op _ _ _ _ (by rw [h, e]; rfl) hb hq

theorem cut_all {cs : List Val} {n : Nat} (h : cs.length = n) : cut cs 0 n = some cs := by
  unfold cut; rw [if_pos (by omega)]; simp [← h]

/-- the element's type: so many cells, so many bytes -/
def elemIs (E : Env) (t : TypeId) (sz nb : Nat) : Bool := match E.und t with
  | some (.slice e) => match E.P.info? e, zeroCells E e with
    | some i, some z => decide (i.size = sz) && decide (i.bytes = nb) && decide (z.length = sz)
    | _, _ => false
  | _ => false

/-- onto a slice that is just as long as its memory: new memory -/
theorem app_exact {S : St} {t : TypeId} {sz nb : Nat} {old new : List Val} {len n : Nat} {q' q2 : Go.V.Q} (hq : q' = .nil ∨ q' = .exact) (he : elemIs E t sz nb = true)
    (h1 : old.length = len * sz) (h2 : new.length = n * sz) (hn : n ≠ 0) (hb : (len + n) * nb ≤ 2 ^ 46) (hl : len + n ≤ 2 ^ 46) (h0 : 0 < sz) :
    appendOp E S t (.sli old len q') (.sli new n q2) = some (.sl S.H.length 0 (len + n) sz (.flex (old ++ new).length), .eh, ⟨S.H ++ [.cells (old ++ new) true], S.L⟩) := by
  unfold elemIs at he
  split at he
  · rename_i e hu
    split at he
    · rename_i i z hi hz
      simp only [Bool.and_eq_true, decide_eq_true_eq] at he
      obtain ⟨⟨rfl, rfl⟩, hzl⟩ := he
      unfold appendOp
      simp only [hu, hi, hz, cellsOfSlice, cut_all h1, cut_all h2, Option.map_some, if_neg hn]
      rw [if_pos ⟨hb, hl, h0, hzl⟩]
      rcases hq with rfl | rfl <;> rfl
    · simp at he
  · simp at he

/-- onto a slice that grew by append, and is as long as its memory -/
theorem app_flex {S : St} {t : TypeId} {sz nb : Nat} {old new : List Val} {b len n : Nat} {q2 : Go.V.Q} (he : elemIs E t sz nb = true)
    (hc : S.H[b]? = some (.cells old true)) (h1 : old.length = len * sz) (h2 : new.length = n * sz) (hn : n ≠ 0) (hb : (len + n) * nb ≤ 2 ^ 46) (hl : len + n ≤ 2 ^ 46) (h0 : 0 < sz) :
    appendOp E S t (.sl b 0 len sz (.flex old.length)) (.sli new n q2) = some (.sl b 0 (len + n) sz (.flex (old ++ new).length), .eh, ⟨S.H.set b (.cells (old ++ new) true), S.L⟩) := by
  unfold elemIs at he
  split at he
  · rename_i e hu
    split at he
    · rename_i i z hi hz
      simp only [Bool.and_eq_true, decide_eq_true_eq] at he
      obtain ⟨⟨rfl, rfl⟩, hzl⟩ := he
      have hh : hcells S b (some old.length) = some old := by simp [hcells, hc]
      have hpos : 0 < new.length := by rw [h2]; exact Nat.mul_pos (Nat.pos_of_ne_zero hn) h0
      unfold appendOp
      simp only [hu, hi, hz, cellsOfSlice, Cap.ext, hh, cut_all h1, cut_all h2, Option.map_some, if_neg hn]
      rw [if_pos ⟨hb, hl, h0, hzl⟩]
      simp only [if_true, hh]
      rw [if_neg (by rw [h1]; omega)]
      simp [setCells]
    · simp at he
  · simp at he

theorem fz_sl {n : Nat} {S : St} {d b len esz : Nat} {cs : List Val} (hb : n ≤ b) (hc : S.H[b]? = some (.cells cs true)) (hl : cs.length = len * esz) (hlow : Val.lows n cs = true) :
    fz n S (d + 2) (.sl b 0 len esz (.flex cs.length)) = some (.sli cs len .any) := by
  unfold fz
  have h1 : Val.low n (.sl b 0 len esz (.flex cs.length)) = false := by simp [Val.low]; omega
  rw [h1]
  have hh : hcells S b (Cap.flex cs.length).ext = some cs := by simp [hcells, hc, Cap.ext]
  simp [hh, cut_all hl, mapO_low hlow]
end Go.V

/- Operations on memory that grew by append, in any state. -/
namespace Go.V
variable {E : Env} {c : Ctx} {q : Cfg} {Q : Out → Prop}
theorem evc_idxH (S0 : St) (i len b off e sz : Nat) (hc : List Val) (hS : q.S = S0) (h : opAt E c q = if 0 ≤ (i : Int) ∧ (i : Int) < (len : Int) ∧ (hcells S0 b (some e)).isSome = true then one (some (.ptr b (off + i * sz) (some e), .rh)) S0 else none)
    (hi : i < len) (hh : hcells S0 b (some e) = some hc) (hb : (after c q (some (.ptr b (off + i * sz) (some e))) .rh [] S0).isSome = true) (hq : EvC E c (afterT c q (some (.ptr b (off + i * sz) (some e))) .rh [] S0) Q) : EvC E c q Q :=
  evc_op _ _ _ _ (by rw [h, if_pos ⟨by omega, by omega, by rw [hh]; rfl⟩]; rfl) hb hq
theorem evc_fldH (S0 : St) (b off e k n : Nat) (hc : List Val) (hS : q.S = S0) (h : opAt E c q = match (some (n + 1) : Option Nat), hcells S0 b (some e) with
      | some (_ + 1), some _ => one (some (.ptr b (off + k) (some e), .rh)) S0
      | _, _ => none)
    (hh : hcells S0 b (some e) = some hc) (hb : (after c q (some (.ptr b (off + k) (some e))) .rh [] S0).isSome = true) (hq : EvC E c (afterT c q (some (.ptr b (off + k) (some e))) .rh [] S0) Q) : EvC E c q Q :=
  evc_op _ _ _ _ (by rw [h, hh]; rfl) hb hq
theorem evc_cutH (S0 : St) (b e : Nat) (cs : List Val) (off n : Nat) (cs' : List Val) (hS : q.S = S0) (h : opAt E c q = (hcells S0 b (some e)).bind fun cs => one (((cut cs off n).map Val.agg).map fun v => (v, Cls.rh)) S0)
    (hh : hcells S0 b (some e) = some cs) (hc : cut cs off n = some cs') (hb : (after c q (some (.agg cs')) .rh [] S0).isSome = true) (hq : EvC E c (afterT c q (some (.agg cs')) .rh [] S0) Q) : EvC E c q Q :=
  evc_op _ _ _ _ (by rw [h, hh]; simp only [Option.bind_some, hc]; rfl) hb hq
theorem evc_getH (S0 : St) (b e : Nat) (cs : List Val) (off : Nat) (v : Val) (hS : q.S = S0) (h : opAt E c q = (hcells S0 b (some e)).bind fun cs => one ((cs[off]?).map fun v => (v, Cls.rh)) S0)
    (hh : hcells S0 b (some e) = some cs) (hc : cs[off]? = some v) (hb : (after c q (some v) .rh [] S0).isSome = true) (hq : EvC E c (afterT c q (some v) .rh [] S0) Q) : EvC E c q Q :=
  evc_op _ _ _ _ (by rw [h, hh]; simp only [Option.bind_some, hc]; rfl) hb hq
theorem evc_stH (S0 : St) (b e : Nat) (cs : List Val) (off : Nat) (new cs' : List Val) (hS : q.S = S0) (h : opAt E c q = ((hcells S0 b (some e)).bind fun cs => (over cs off new).map fun cs' => (Cls.eh, ([] : List (Nat × Val)), setCells S0 b (some e) cs')).map fun p => .val none p.1 p.2.1 p.2.2)
    (hh : hcells S0 b (some e) = some cs) (hc : over cs off new = some cs') (hb : (after c q none .eh [] (setCells S0 b (some e) cs')).isSome = true) (hq : EvC E c (afterT c q none .eh [] (setCells S0 b (some e) cs')) Q) : EvC E c q Q :=
  evc_op _ _ _ _ (by rw [h, hh]; simp only [Option.bind_some, hc]; rfl) hb hq
end Go.V

/- Ranges over functions, stepped through: a round (what a call of yield does), a whole range. -/
namespace Go.V
variable {E : Env} {c : Ctx} {q : Cfg} {Q : Out → Prop}

/-- A call of a loop's yield comes to a value and a state. -/
def Yld (E : Env) (l : Nat) (args : List Val) (S : St) (v : Val) (S' : St) : Prop := ∃ n, yieldV (run E n) E l args S = some (v, S')

/-- at a call of yield -/
def yldAt (E : Env) (c : Ctx) (q : Cfg) : Option (Nat × List Val) := match q.pos with
  | .ops _ all (o :: _) _ => match wantedV all q.fr.get o with
    | some true => match opV E c q.fr.get q.S o with
      | some (.yld l args) => some (l, args)
      | _ => none
    | _ => none
  | .drw _ all (o :: _) _ _ _ => match wantedV all q.fr.get o with
    | some true => match opV E c q.fr.get q.S o with
      | some (.yld l args) => some (l, args)
      | _ => none
    | _ => none
  | _ => none
theorem evc_yld {l : Nat} {args : List Val} {v : Val} {S S' : St} (hS : q.S = S) (h : yldAt E c q = some (l, args)) (hg : Yld E l args S v S') (hb : (back c q v S').isSome = true) (hq : EvC E c (backT c q v S') Q) : EvC E c q Q := by
  obtain ⟨q', h1⟩ := Option.isSome_iff_exists.1 hb
  simp only [backT, h1, Option.getD_some] at hq
  obtain ⟨pos, fr, S0⟩ := q
  simp only at hS; subst hS
  unfold yldAt at h
  simp only at h
  obtain ⟨m, hm⟩ := hg
  split at h
  · rename_i id all o l' k
    split at h
    · rename_i hw
      split at h
      · rename_i ho
        cases h
        simp only [back] at h1
        split at h1
        · rename_i fr' hp
          cases h1
          obtain ⟨n, fr2, S2, h1, h2⟩ := hq.d
          simp only at h1
          refine ⟨max n m, fr2, S2, ?_, h2⟩
          simp only [opsV, hw, stepOp, ho, yieldV_mono (run_le (Nat.le_max_right n m)) hm, hp]
          exact opsV_mono (run_le (Nat.le_max_left n m)) h1
        · simp at h1
      · simp at h
    · simp at h
  · rename_i id all o l' k fr0 tr
    split at h
    · rename_i hw
      split at h
      · rename_i ho
        cases h
        simp only [back] at h1
        split at h1
        · rename_i fr' hp
          cases h1
          obtain ⟨n, fr2, S2, tr2, h1, lo, hlo, h2, h3⟩ := hq.d
          simp only at h1
          refine ⟨max n m, fr2, S2, _ :: tr2, ?_, lo, hlo, by simpa using h2, h3⟩
          simp only [opsT, hw, stepT, ho, yieldV_mono (run_le (Nat.le_max_right n m)) hm, hp, opsT_mono (run_le (Nat.le_max_left n m)) h1]
        · simp at h1
      · simp at h
    · simp at h
  · simp at h

/-- what a round has to end in -/
def RoundFin (r : LoopRec) (l : Nat) (v : Val) (S' : St) (o : Out) : Prop := ∃ fr', mergeFr r.fr o.2.1 = some fr' ∧ v = .bool o.1.isNone ∧ S' = { o.2.2 with L := o.2.2.L.set l { r with fr := fr', pending := o.1, done := o.1.isSome } }
/-- A ROUND: the loop's variables are set, its body runs. -/
theorem yld_of {l : Nat} {args : List Val} {S S' : St} {v : Val} {r : LoopRec} {fn : Func} {fr0 : Fr} (hl : S.L[l]? = some r) (hb : (r.busy || r.done) = false) (hf : E.P.funcs[r.fn]? = some fn) (hp : setParams r.params.toList args r.fr = some fr0)
    (hx : (r.params.toList.all fun t => decide (t < fn.ntmps) && !(lvKeys r.fr).contains t) = true)
    (h : EvC E ⟨r.fn, fn.ntmps, lvKeys r.fr⟩ ⟨.code [.code r.assign], fr0, { S with L := S.L.set l { r with busy := true, begun := false } }⟩ fun o => o.1 = none ∧
      EvC E ⟨r.fn, fn.ntmps, lvKeys r.fr⟩ ⟨.code [.code r.body], o.2.1, { o.2.2 with L := o.2.2.L.set l { r with busy := true, begun := true } }⟩ (RoundFin r l v S')) : Yld E l args S v S' := by
  obtain ⟨n, ⟨j, fr1, S1⟩, h1, hj, h2⟩ := h.d
  simp only at hj; subst hj
  obtain ⟨m, ⟨j2, fr2, S2⟩, h3, fr', h4, rfl, rfl⟩ := h2.d
  refine ⟨max n m, ?_⟩
  have g1 := run_le (E := E) (Nat.le_max_left n m) _ _ _ _ _ h1
  have g2 := run_le (E := E) (Nat.le_max_right n m) _ _ _ _ _ h3
  simp only at g1 g2 h4
  unfold yieldV
  simp only [hl]
  rw [if_neg (by simp [hb])]
  simp only [hf, hp]
  rw [if_pos hx, g1]
  simp only [g2, h4]

/-- at a range over a function -/
def rangeAt (E : Env) (q : Cfg) : Option (FuncId × List Val) := match q.pos with
  | .code (.code (.rangeFunc f _ _ _) :: _) => match ev E q.fr.get f with
    | some (.fn g cap) => some (g, cap)
    | _ => none
  | _ => none
/-- the loop's record as the range begins -/
def recAt (c : Ctx) (q : Cfg) : LoopRec := match q.pos with
  | .code (.code (.rangeFunc _ ps a b) :: _) => ⟨c.f, q.fr, ps, a, b, false, false, false, none⟩
  | _ => ⟨c.f, q.fr, #[], .skip, .skip, false, false, false, none⟩
/-- behind the range -/
def ranged (q : Cfg) (r : LoopRec) (S2 : St) : Cfg := match q.pos with
  | .code (_ :: k) => ⟨.code ((r.pending.map Item.code).toList ++ k), r.fr, { S2 with L := S2.L.take q.S.L.length }⟩
  | _ => q
/-- A RANGE: the function's call with yield, and what it left. -/
theorem evc_range {g : FuncId} {cap : List Val} {v : Val} {S2 : St} {r : LoopRec} (h : rangeAt E q = some (g, cap)) (hc : Call E g (.yield q.S.L.length :: cap) { q.S with L := q.S.L ++ [recAt c q] } v S2)
    (hr : S2.L[q.S.L.length]? = some r) (hlen : S2.L.length = q.S.L.length + 1) (hbusy : r.busy = false) (h1 : keptYH q.S.L.length q.S.H S2.H = true) (h2 : keptYL q.S.L.length q.S.L S2.L = true) (h3 : frY q.S.L.length q.fr r.fr = true)
    (hq : EvC E c (ranged q r S2) Q) : EvC E c q Q := by
  obtain ⟨pos, fr, S⟩ := q
  unfold rangeAt at h
  split at h
  · rename_i f ps a b k hp
    simp only at hp; subst hp
    split at h
    · rename_i he
      cases h
      obtain ⟨n, hn⟩ := hc
      refine ⟨evq_step (F := n) (fun m o hm ho => ?_) hq.d⟩
      simp only at he hr hlen h1 h2 h3
      simp only [stepV, he]
      have := call_le hm hn
      unfold call at this
      simp only [recAt] at this
      rw [this]
      simp only [hr]
      rw [if_pos ⟨hlen, hbusy, h1, h2, h3⟩]
      exact ho
    · simp at h
  · simp at h

/-- the end of a piece of code -/
theorem evc_nilQ (h : q.pos = .code []) (hq : Q (none, q.fr, q.S)) : EvC E c q Q := by
  obtain ⟨pos, fr, S⟩ := q
  simp only at h; subst h
  exact ⟨ev_nil hq⟩
theorem evc_retQ {k : List Item} (h : q.pos = .code (.code .ret :: k)) (hq : Q (some .ret, q.fr, q.S)) : EvC E c q Q := by
  obtain ⟨pos, fr, S⟩ := q
  simp only at h; subst h
  exact ⟨ev_ret hq⟩
theorem set_last {α : Type} (l : List α) (a b : α) : (l ++ [a]).set l.length b = l ++ [b] := by
  rw [List.set_append_right (h := Nat.le_refl _)]; simp
/-- A ROUND of the loop whose record is the last. -/
theorem yld_last (n : Nat) {args : List Val} {H H' : List Block} {L0 : List LoopRec} {v : Val} {r r' : LoopRec} {fn : Func} {fr0 fr1 : Fr} (hb : (r.busy || r.done) = false) (hf : E.P.funcs[r.fn]? = some fn) (hp : setParams r.params.toList args r.fr = some fr0)
    (hx : (r.params.toList.all fun t => decide (t < fn.ntmps) && !(lvKeys r.fr).contains t) = true)
    (ha : run E n ⟨r.fn, fn.ntmps, lvKeys r.fr⟩ [.code r.assign] fr0 ⟨H, L0 ++ [{ r with busy := true, begun := false }]⟩ = some (none, fr1, ⟨H, L0 ++ [{ r with busy := true, begun := false }]⟩))
    (h : EvC E ⟨r.fn, fn.ntmps, lvKeys r.fr⟩ ⟨.code [.code r.body], fr1, ⟨H, L0 ++ [{ r with busy := true, begun := true }]⟩⟩ fun o => ∃ fr', mergeFr r.fr o.2.1 = some fr' ∧ v = .bool o.1.isNone ∧ r' = { r with fr := fr', pending := o.1, done := o.1.isSome } ∧ o.2.2 = ⟨H', L0 ++ [{ r with busy := true, begun := true }]⟩) :
    Yld E L0.length args ⟨H, L0 ++ [r]⟩ v ⟨H', L0 ++ [r']⟩ := by
  refine yld_of (r := r) (by simp) hb hf hp hx ⟨n, (none, fr1, ⟨H, L0 ++ [{ r with busy := true, begun := false }]⟩), ?_, rfl, ?_⟩
  · show run E n _ _ _ _ = _
    simp only [set_last]
    exact ha
  · simp only [set_last]
    obtain ⟨m, o, h1, fr', h2, h3, h4, h5⟩ := h.d
    refine ⟨m, o, h1, fr', h2, h3, ?_⟩
    rw [h5, h4]
    simp only [set_last]
end Go.V

/- Operations on blocks of the heap, in any state: blocks that a call made itself, blocks that it was handed. -/
set_option linter.unusedVariables false
namespace Go.V
variable {E : Env} {c : Ctx} {q : Cfg} {Q : Out → Prop}
theorem evc_idxG (S0 : St) (i len b off : Nat) (e : Option Nat) (sz : Nat) (hc : List Val) (hS : q.S = S0) (h : opAt E c q = if 0 ≤ (i : Int) ∧ (i : Int) < (len : Int) ∧ (hcells S0 b e).isSome = true then one (some (.ptr b (off + i * sz) e, .rh)) S0 else none)
    (hi : i < len) (hh : hcells S0 b e = some hc) (hb : (after c q (some (.ptr b (off + i * sz) e)) .rh [] S0).isSome = true) (hq : EvC E c (afterT c q (some (.ptr b (off + i * sz) e)) .rh [] S0) Q) : EvC E c q Q :=
  evc_op _ _ _ _ (by rw [h, if_pos ⟨by omega, by omega, by rw [hh]; rfl⟩]; rfl) hb hq
theorem evc_fldG (S0 : St) (b off : Nat) (e : Option Nat) (k n : Nat) (hc : List Val) (hS : q.S = S0) (h : opAt E c q = match (some (n + 1) : Option Nat), hcells S0 b e with
      | some (_ + 1), some _ => one (some (.ptr b (off + k) e, .rh)) S0
      | _, _ => none)
    (hh : hcells S0 b e = some hc) (hb : (after c q (some (.ptr b (off + k) e)) .rh [] S0).isSome = true) (hq : EvC E c (afterT c q (some (.ptr b (off + k) e)) .rh [] S0) Q) : EvC E c q Q :=
  evc_op _ _ _ _ (by rw [h, hh]; rfl) hb hq
theorem evc_nilG (S0 : St) (b off : Nat) (e : Option Nat) (hc : List Val) (hS : q.S = S0) (h : opAt E c q = if (hcells S0 b e).isSome = true then one (some (.ptr b off e, .rh)) S0 else none)
    (hh : hcells S0 b e = some hc) (hb : (after c q (some (.ptr b off e)) .rh [] S0).isSome = true) (hq : EvC E c (afterT c q (some (.ptr b off e)) .rh [] S0) Q) : EvC E c q Q :=
  evc_op _ _ _ _ (by rw [h, hh]; rfl) hb hq
theorem evc_cutG (S0 : St) (b : Nat) (e : Option Nat) (cs : List Val) (off n : Nat) (cs' : List Val) (hS : q.S = S0) (h : opAt E c q = (hcells S0 b e).bind fun cs => one (((cut cs off n).map Val.agg).map fun v => (v, Cls.rh)) S0)
    (hh : hcells S0 b e = some cs) (hc : cut cs off n = some cs') (hb : (after c q (some (.agg cs')) .rh [] S0).isSome = true) (hq : EvC E c (afterT c q (some (.agg cs')) .rh [] S0) Q) : EvC E c q Q :=
  evc_op _ _ _ _ (by rw [h, hh]; simp only [Option.bind_some, hc]; rfl) hb hq
theorem evc_getG (S0 : St) (b : Nat) (e : Option Nat) (cs : List Val) (off : Nat) (v : Val) (hS : q.S = S0) (h : opAt E c q = (hcells S0 b e).bind fun cs => one ((cs[off]?).map fun v => (v, Cls.rh)) S0)
    (hh : hcells S0 b e = some cs) (hc : cs[off]? = some v) (hb : (after c q (some v) .rh [] S0).isSome = true) (hq : EvC E c (afterT c q (some v) .rh [] S0) Q) : EvC E c q Q :=
  evc_op _ _ _ _ (by rw [h, hh]; simp only [Option.bind_some, hc]; rfl) hb hq
theorem evc_stG (S0 S1 : St) (b : Nat) (e : Option Nat) (cs : List Val) (off : Nat) (new cs' : List Val) (hS : q.S = S0) (h : opAt E c q = ((hcells S0 b e).bind fun cs => (over cs off new).map fun cs' => (Cls.eh, ([] : List (Nat × Val)), setCells S0 b e cs')).map fun p => .val none p.1 p.2.1 p.2.2)
    (hh : hcells S0 b e = some cs) (hc : over cs off new = some cs') (h1 : setCells S0 b e cs' = S1) (hb : (after c q none .eh [] S1).isSome = true) (hq : EvC E c (afterT c q none .eh [] S1) Q) : EvC E c q Q :=
  evc_op _ _ _ _ (by rw [h, hh, ← h1]; simp only [Option.bind_some, hc]; rfl) hb hq
/-- a byte of a text -/
theorem evc_str (s : List UInt8) (i : Nat) (b : UInt8) (h : opAt E c q = if 0 ≤ (i : Int) then pureVal ((s[i]?).map fun b => Val.int .u8 (b.toNat : Int)) q.S else none) (hc : s[i]? = some b)
    (hb : (after c q (some (.int .u8 (b.toNat : Int))) .pure [] q.S).isSome = true) (hq : EvC E c (afterT c q (some (.int .u8 (b.toNat : Int))) .pure [] q.S) Q) : EvC E c q Q :=
  evc_op _ _ _ _ (by rw [h, if_pos (by omega), hc]; rfl) hb hq
/-- new memory of so many elements -/
theorem evc_mk (S0 : St) (t : Go.TypeId) (l k : Val) (v : Val) (S' : St) (hS : q.S = S0) (h : opAt E c q = (makeSliceOp E t S0 l k).map fun p => .val (some p.1) .eh [] p.2) (e : makeSliceOp E t S0 l k = some (v, S'))
    (hb : (after c q (some v) .eh [] S').isSome = true) (hq : EvC E c (afterT c q (some v) .eh [] S') Q) : EvC E c q Q :=
  evc_op _ _ _ _ (by rw [h, e]; rfl) hb hq

/-- a block that was made behind those of H -/
theorem hc_top {H X : List Block} {L : List LoopRec} {b i : Nat} {e : Option Nat} {cs : List Val} (hb : b = H.length + i) (h : hcells ⟨X, []⟩ i e = some cs) : hcells ⟨H ++ X, L⟩ b e = some cs := by
  subst hb
  unfold hcells at h ⊢
  simp only at h ⊢
  rw [List.getElem?_append_right (by omega), Nat.add_sub_cancel_left]
  exact h
theorem set_top {H X : List Block} {L : List LoopRec} {b i : Nat} {e : Option Nat} {cs : List Val} (hb : b = H.length + i) : setCells ⟨H ++ X, L⟩ b e cs = ⟨H ++ X.set i (.cells cs e.isSome), L⟩ := by
  subst hb
  unfold setCells
  simp only
  rw [List.set_append_right (h := by omega), Nat.add_sub_cancel_left]
theorem set_top0 {H : List Block} {o : Block} {L : List LoopRec} {cs : List Val} : setCells ⟨H ++ [o], L⟩ H.length none cs = ⟨H ++ [.cells cs false], L⟩ := set_top (i := 0) rfl
theorem hc_set {S : St} {b : Nat} {cs cs' : List Val} (h : hcells S b none = some cs) : hcells (setCells S b none cs') b none = some cs' := by
  unfold hcells at h
  unfold setCells hcells
  simp only
  have hl : b < S.H.length := by
    cases hb : S.H[b]? with
    | none => rw [hb] at h; simp at h
    | some x => exact (List.getElem?_eq_some_iff.1 hb).1
  rw [List.getElem?_set_self hl]
  rfl
theorem set_set {S : St} {b : Nat} {cs cs' : List Val} : setCells (setCells S b none cs) b none cs' = setCells S b none cs' := by
  unfold setCells; simp

theorem keptH_set {n b : Nat} {o : Block} (ho : o.low n = true) : ∀ (H : List Block) (b : Nat), keptH n H (H.set b o) = true
  | [], _ => rfl
  | a :: l, 0 => by
    simp only [List.set_cons_zero, keptH, ho, Bool.true_or, Bool.true_and]
    simpa using keptH_refl (X := []) (n := n) l
  | a :: l, b + 1 => by simp [keptH, Block.beq_refl, keptH_set (b := b) ho l b]
/-- the end of a call that wrote a block it was handed -/
theorem finish_set {E : Env} {g : FuncId} {S : St} {b : Nat} {cs : List Val} {v : Val} (h : v.low S.H.length = true) (hc : Val.lows S.H.length cs = true) : finish E g S v (setCells S b none cs) = some (v, setCells S b none cs) := by
  unfold finish
  cases E.mode g with
  | keep => rfl
  | drop =>
    have h1 : keptH S.H.length S.H (setCells S b none cs).H = true := keptH_set (b := b) (by simpa [Block.low] using hc) S.H b
    have h2 : keptL S.H.length S.L (setCells S b none cs).L = true := keptL_refl _
    simp only [h1, h2, Bool.and_self, if_true, fzDepth, fz_low h]
    have : (setCells S b none cs).H.take S.H.length = (setCells S b none cs).H := by rw [List.take_of_length_le]; simp [setCells]
    rw [this]
theorem evc_endW {g : FuncId} {S S' : St} {v : Val} {b : Nat} {cs : List Val} (v' : Val) (h : resAt E g q = some v') (hS : q.S = setCells S b none cs) (e : v' = v) (e' : setCells S b none cs = S') (hl : v'.low S.H.length = true) (hc : Val.lows S.H.length cs = true) : EvC E c q (Fin E g S v S') := by
  subst e e'
  exact evc_fin ((finOf_of h).trans (by rw [hS]; exact finish_set hl hc))
/-- the end of a call that only read what it was handed, and made blocks of its own -/
theorem evc_endX {g : FuncId} {S : St} {v : Val} (v' : Val) (X : List Block) (h : resAt E g q = some v') (hS : q.S = ⟨S.H ++ X, S.L⟩) (hm : E.mode g = .drop) (e : v' = v) (hl : v'.low S.H.length = true) : EvC E c q (Fin E g S v S) := by
  subst e
  exact evc_endN v' X h hS hm (by rw [fzDepth]; exact fz_low hl)
theorem evc_endT {g : FuncId} {S : St} {v : Val} (v' : Val) (h : resAt E g q = some v') (hS : q.S = S) (e : v' = v) (hl : v'.low S.H.length = true) : EvC E c q (Fin E g S v S) := by
  subst e
  exact evc_fin ((finOf_of h).trans (by rw [hS]; exact finish_same hl))
/-- a piece of code that ends by an exit to a block around it -/
theorem evc_exitQ {id : Nat} {k : List Item} (h : q.pos = .code (.code (.exit id) :: k)) (hx : exitTo id k = none) (hq : Q (some (.exit id), q.fr, q.S)) : EvC E c q Q := by
  obtain ⟨pos, fr, S⟩ := q
  simp only at h; subst h
  exact ⟨ev_exitOut hx hq⟩
/-- a comparison that is known -/
theorem evc_bin (op : Go.BinOp) (t : Go.TypeId) (x y v : Val) (h : opAt E c q = pureVal (binOp E op t x y) q.S) (e : binOp E op t x y = some v) (hb : (after c q (some v) .pure [] q.S).isSome = true) (hq : EvC E c (afterT c q (some v) .pure [] q.S) Q) : EvC E c q Q :=
  evc_op _ _ _ _ (by rw [h, e]; rfl) hb hq
/-- a look into a map -/
theorem evc_look (S0 : St) (t : Go.TypeId) (m k : Val) (ok : Bool) (v : Val) (kl : Cls) (hS : q.S = S0) (h : opAt E c q = one (lookupOp E t S0 m k ok) S0) (e : lookupOp E t S0 m k ok = some (v, kl)) (hb : (after c q (some v) kl [] S0).isSome = true) (hq : EvC E c (afterT c q (some v) kl [] S0) Q) : EvC E c q Q :=
  evc_op _ _ _ _ (by rw [h, e]; rfl) hb hq
/-- an entry of a map -/
theorem evc_upd (S0 : St) (t : Go.TypeId) (m k w : Val) (S' : St) (hS : q.S = S0) (h : opAt E c q = (updateOp E t S0 m k w).map fun S' => .val none .eh [] S') (e : updateOp E t S0 m k w = some S') (hb : (after c q none .eh [] S').isSome = true) (hq : EvC E c (afterT c q none .eh [] S') Q) : EvC E c q Q :=
  evc_op _ _ _ _ (by rw [h, e]; rfl) hb hq
/-! The rules once more, with what the kernel reckons left out where they are used. -/
theorem evc_g (n : Nat) (hq : EvC E c (goT E 1000 c n q) Q) (h : (goN E 1000 c n q).isSome = true := by kernel_rfl) : EvC E c q Q := evc_go 1000 n h hq
theorem evc_i (d : Nat) (t b : Bool) (hq : EvC E c (setQ q d (.bool b)) Q) (h : q.fr.get d = some (.bool t) := by kernel_rfl) (e : t = b := by first | with_reducible rfl | assumption | (simp_all; done) | omega | (simp_all; omega) | (simp only [*, Bool.true_and, Bool.and_true, Bool.false_and, Bool.and_false, Bool.true_or, Bool.or_true, Bool.false_or, Bool.or_false]; done) | ((try simp only [decide_eq_true_eq, decide_eq_false_iff_not, beq_iff_eq, beq_eq_false_iff_ne, ne_eq, Bool.and_eq_true, Bool.or_eq_true] at *); (repeat' split) <;> first | rfl | (exfalso; omega))) : EvC E c q Q := evc_is d t b h e hq
theorem evc_s (d : Nat) (t : Bool) (h1 : t = true → EvC E c (setQ q d (.bool true)) Q) (h2 : t = false → EvC E c (setQ q d (.bool false)) Q) (h : q.fr.get d = some (.bool t) := by kernel_rfl) : EvC E c q Q := evc_split d t h h1 h2
theorem evc_t {g : FuncId} {S : St} {v : Val} (v' : Val) (h : resAt E g q = some v' := by kernel_rfl) (hS : q.S = S := by kernel_rfl) (e : v' = v := by first | with_reducible rfl | assumption | (simp_all; done) | omega | (simp_all; omega) | (simp only [*, Bool.true_and, Bool.and_true, Bool.false_and, Bool.and_false, Bool.true_or, Bool.or_true, Bool.false_or, Bool.or_false]; done) | ((try simp only [decide_eq_true_eq, decide_eq_false_iff_not, beq_iff_eq, beq_eq_false_iff_ne, ne_eq, Bool.and_eq_true, Bool.or_eq_true] at *); (repeat' split) <;> first | rfl | (exfalso; omega))) (hl : v'.low S.H.length = true := by rfl) : EvC E c q (Fin E g S v S) := evc_endT v' h hS e hl
theorem evc_e {g : FuncId} {S : St} {v : Val} {S' : St} (v' : Val) (S'' : St) (h : finOf E g S q = some (v', S'') := by kernel_rfl) (e : v' = v := by first | with_reducible rfl | assumption | (simp_all; done) | omega | (simp_all; omega) | (simp only [*, Bool.true_and, Bool.and_true, Bool.false_and, Bool.and_false, Bool.true_or, Bool.or_true, Bool.false_or, Bool.or_false]; done) | ((try simp only [decide_eq_true_eq, decide_eq_false_iff_not, beq_iff_eq, beq_eq_false_iff_ne, ne_eq, Bool.and_eq_true, Bool.or_eq_true] at *); (repeat' split) <;> first | rfl | (exfalso; omega))) (e' : S'' = S' := by first | with_reducible rfl | assumption | (simp_all; done) | omega | (simp_all; omega) | (simp only [*, Bool.true_and, Bool.and_true, Bool.false_and, Bool.and_false, Bool.true_or, Bool.or_true, Bool.false_or, Bool.or_false]; done) | ((try simp only [decide_eq_true_eq, decide_eq_false_iff_not, beq_iff_eq, beq_eq_false_iff_ne, ne_eq, Bool.and_eq_true, Bool.or_eq_true] at *); (repeat' split) <;> first | rfl | (exfalso; omega))) : EvC E c q (Fin E g S v S') := evc_end v' S'' h e e'
theorem evc_c {g : FuncId} {args : List Val} {v : Val} {S S' : St} (hg : Call E g args S v S') (hq : EvC E c (backT c q v S') Q) (hS : q.S = S := by kernel_rfl) (h : callAt E c q = some (g, args) := by kernel_rfl) (hb : (back c q v S').isSome = true := by kernel_rfl) : EvC E c q Q := evc_call hS h hg hb hq
theorem evc_a {q' : Cfg} {Q' : Out → Prop} (hq : EvC E c q' Q') (h : q = q' := by kernel_rfl) (hQ : Q' = Q := by first | rfl | (simp_all; done)) : EvC E c q Q := evc_at hq h hQ
end Go.V
