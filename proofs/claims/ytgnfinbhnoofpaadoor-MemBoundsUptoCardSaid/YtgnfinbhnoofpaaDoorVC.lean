/- Conversions, lengths, look-ups, function literals, calls. -/
import Derived.Test.YtgnfinbhnoofpaaDoorVA
import Derived.Laws.AppendOwn
import Derived.Orders
set_option linter.unusedVariables false
set_option linter.unusedSimpArgs false
set_option linter.unusedSectionVars false
namespace Go.V
section
variable {E : Env} {k : K} {S : St} {f : Nat} {g : G} {tmps : Array Value} {w : World}

theorem cell?_freeze (w : World) (a b : Addr) (n : Nat) : (w.freeze a n).cell? b = w.cell? b := by
  unfold World.freeze
  split
  · rfl
  · simp only [World.cell?, Array.getElem?_modify]
    by_cases h : a.block = b.block
    · simp only [h, if_true]
      cases hh : w.heap[b.block]? with
      | none => rfl
      | some x => cases x <;> rfl
    · simp [h]
theorem heap_freeze (w : World) (a : Addr) (n c : Nat) (h : c ≠ a.block) : (w.freeze a n).heap[c]? = w.heap[c]? := by
  unfold World.freeze
  split
  · rfl
  · simp only [Array.getElem?_modify]; rw [if_neg (Ne.symm h)]
theorem size_freeze (w : World) (a : Addr) (n : Nat) : (w.freeze a n).heap.size = w.heap.size := by
  unfold World.freeze; split <;> simp

theorem bytesLoop_run : ∀ {cs : List Val} {b : List UInt8} {vs : List Value} (acc : ByteArray), bytesOf cs = some b → RepAll k cs vs →
    (forIn vs acc (fun c s => match c with
      | .int .u8 n => pure (ForInStep.yield (s.push (UInt8.ofNat n.toNat)))
      | _ => do
        stuck "bytesToString: byte expected"
        pure (ForInStep.yield s)) : Sem ByteArray).run E.P w = .ok (b.foldl (fun s c => s.push c) acc) w
  | [], b, [], acc, h, _ => by
    simp only [bytesOf, Option.some.injEq] at h; subst h; simp
  | x :: cs, b, v :: vs, acc, h, hr => by
    simp only [RepAll] at hr
    cases x with
    | int q n =>
      cases q <;> simp only [bytesOf, Option.map_eq_some_iff, reduceCtorEq] at h
      obtain ⟨b', hb, rfl⟩ := h
      have h1 := hr.1
      simp only [Rep] at h1; subst h1
      rw [List.forIn_cons]
      simp only [Sem.run_bind, Sem.run_pure, Result.andThen_ok, List.foldl_cons]
      exact bytesLoop_run _ hb hr.2
    | _ => simp [bytesOf] at h
  | [], _, _ :: _, _, _, hr => by simp [RepAll] at hr
  | _ :: _, _, [], _, _, hr => by simp [RepAll] at hr

theorem foldl_push (b : List UInt8) : ∀ (acc : ByteArray), (b.foldl (fun s c => s.push c) acc).data.toList = acc.data.toList ++ b := by
  induction b with
  | nil => simp
  | cons x l ih => intro acc; rw [List.foldl_cons, ih]; simp

theorem new_world (hS : Sim E k S) {w' : World} (hsz : w'.heap.size = k.w.heap.size + 1) (hos : w'.os = k.w.os) (ht : w'.tape = k.w.tape) (ho : w'.output = k.w.output)
    (hh : ∀ c, c < k.w.heap.size → w'.heap[c]? = k.w.heap[c]?) : New k { k with w := w' } none where
  lo := rfl
  own := by
    funext c
    by_cases e : c = k.w.heap.size
    · simp only [e, if_true]
      cases h : k.own k.w.heap.size with
      | none => rfl
      | some o => have := hS.ownlt _ _ h; omega
    · simp [e]
  lp := rfl
  size := hsz
  os := hos
  tape := ht
  output := ho
  heap := hh

theorem op_convert (hS : Sim E k S) (hF : FRep k f g tmps) {c : Ctx} {o : Oper} {s d : TypeId} {x : Operand} (ho : o.op = .convert s d x) {r : Res} (h : opV E c g S o = some r) :
    OpRes E k S f g tmps o r := by
  simp only [opV, ho] at h
  split at h
  · rename_i a ha
    have ha' := (ev_rep hS hF ha).1
    simp only [V.one, Option.map_eq_some_iff] at h
    obtain ⟨⟨v, cl⟩, h, rfl⟩ := h
    unfold convertOp at h
    split at h
    · -- integers
      rename_i d' q _ n hs hd
      simp only [Option.some.injEq, Prod.mk.injEq] at h
      obtain ⟨rfl, _⟩ := h
      simp only [Rep] at ha'
      refine ⟨k, _, .pure hS hF (cv := .int q (q.wrap n)) ?_ (.of rep_int)⟩
      simp only [execOp, ho, convert, Sem.run_bind, run_underlying hs, run_underlying hd, Result.andThen_ok, ha']
      cases d' <;> rfl
    · rename_i d' st hs hd
      simp only [Option.some.injEq, Prod.mk.injEq] at h
      obtain ⟨rfl, _⟩ := h
      have ha2 := ha'
      simp only [Rep] at ha'
      obtain ⟨ba, h1, h2⟩ := ha'
      refine ⟨k, _, .pure hS hF (cv := .string ba) ?_ (.of (by rw [← h1]; exact ha2))⟩
      simp only [execOp, ho, convert, Sem.run_bind, run_underlying hs, run_underlying hd, Result.andThen_ok, h1]
      cases d' <;> rfl
    · -- a string's bytes
      rename_i d' e st hs hd
      split at h
      · rename_i hu
        simp only [Option.some.injEq, Prod.mk.injEq] at h
        obtain ⟨rfl, _⟩ := h
        simp only [Rep] at ha'
        obtain ⟨ba, h1, h2⟩ := ha'
        have e1 : st.length = ba.size := by rw [← h2, Array.length_toList]; rfl
        let q : Question := .appendCap ba.size 0 e
        let cap := q.cut (k.w.tape k.w.drawn q)
        have hcap : ba.size ≤ cap := by show ba.size ≤ ba.size + _; omega
        let arr : Array Value := (ba.data.map fun b => Value.int .u8 b.toNat) ++ Array.replicate (cap - ba.size) (.int .u8 0)
        let w1 : World := { k.w with drawn := k.w.drawn + 1 }
        let w2 : World := w1.alloc (.cells arr e)
        let w3 : World := w2.freeze ⟨k.w.heap.size, arr.size, none⟩ 1
        have hN : New k { k with w := w3 } none := new_world hS (by simp [w3, w2, w1, size_freeze]) (by unfold w3 World.freeze; split <;> rfl) (by unfold w3 World.freeze; split <;> rfl) (by unfold w3 World.freeze; split <;> rfl) (fun c hc => by
          show (w2.freeze _ _).heap[c]? = _
          rw [heap_freeze _ _ _ _ (by simp; omega)]
          simp only [w2, w1, World.alloc]
          rw [Array.getElem?_push, if_neg (by omega)])
        have hE := hN.evo hS (fun b s h => ⟨h, rfl, rfl⟩) (touchF k S.L f)
        have hown : ({ k with w := w3 } : K).own k.w.heap.size = none := by rw [hN.own]; simp
        refine ⟨{ k with w := w3 }, _, ⟨?_, ⟨.slice (some ⟨k.w.heap.size, 0, none⟩) ba.size cap, rfl, .of ?_⟩, hS.new hN rfl rfl rfl, hE, hF.mono hE.le fun c t hc => ⟨rfl, hN.heap c (hS.ownlt _ _ hc)⟩, rfl, fun d hd hB => hB.new hN (by simp) (by simp)⟩⟩
        · have hsh : w2.shape? k.w.heap.size = some (e, arr.size) := by
            simp [World.shape?, w2, w1, World.alloc]
          have hforced : q.forced = false := rfl
          have hst : (Conv.stringToBytes e ba).run E.P k.w = .ok (.slice (some ⟨k.w.heap.size, 0, none⟩) ba.size cap) w3 := by
            simp only [Conv.stringToBytes, Sem.run_bind, run_choose]
            rw [show (Question.appendCap ba.size 0 e).forced = false from rfl]
            simp only [Bool.false_eq_true, if_false, Result.andThen_ok, newRow, Sem.run_bind, run_newObj, Sem.run_pure, markStringish, run_shape]
            rw [show ({ heap := k.w.heap.push (.cells arr e), tape := k.w.tape, drawn := k.w.drawn + 1, os := k.w.os, output := k.w.output } : World) = w2 from rfl]
            simp only [hsh, run_freeze, Result.andThen_ok]
            rfl
          have hu' : ∀ w, (underlying e).run E.P w = .ok (.int .u8) w := fun w => run_underlying hu w
          have hcv : (convert s d (.string ba)).run E.P k.w = .ok (.slice (some ⟨k.w.heap.size, 0, none⟩) ba.size cap) w3 := by
            simp only [convert, Sem.run_bind, run_underlying hs, run_underlying hd, Result.andThen_ok]
            cases d' <;> simp only [Sem.run_bind, hu', Result.andThen_ok, hst]
          simp only [execOp, ho, h1, Sem.run_bind, hcv, Result.andThen_ok]
          rfl
        · simp only [Rep]
          refine ⟨some ⟨k.w.heap.size, 0, none⟩, cap, by rw [e1], by omega, by simp, by simp, .inr ⟨k.w.heap.size, 0, rfl, ?_⟩⟩
          refine RepMem.mk fun i x hi => ⟨hown, ?_⟩
          simp only [u8s, List.getElem?_map, Option.map_eq_some_iff] at hi
          obtain ⟨b, hb, rfl⟩ := hi
          refine ⟨.int .u8 b.toNat, ?_, rfl, rep_int⟩
          show (w2.freeze _ _).cell? _ = _
          rw [cell?_freeze]
          have : w2.cell? ⟨k.w.heap.size, i, none⟩ = arr[i]? := World.cell?_alloc_new w1 arr e i
          rw [Nat.zero_add, this]
          have hi : i < ba.size := by rw [← e1]; exact (List.getElem?_eq_some_iff.1 hb).1
          have hi' : i < ba.data.size := hi
          rw [← h2] at hb
          simp only [arr]
          rw [Array.getElem?_append_left (by simpa using hi')]
          simp only [Array.getElem?_map]
          rw [← Array.getElem?_toList, hb]; rfl
      · simp at h
    · -- bytes as a string
      rename_i a d1 d2 v1 e hs hd hno
      split at h
      · rename_i hu
        have key : ∀ {n : Nat} {cs : List Val} {cl' : Cls}, cellsOfSlice S 1 a = some (n, cs, cl') → ∀ (b : List UInt8), bytesOf cs = some b → (∃ ad l cp, evT tmps x = .slice ad l cp ∧ l = n) →
            ∃ k' nx, OpOk E k S f g tmps (execOp (evT tmps) o) (some (.str b)) [] S k' nx := by
          intro n cs cl' hcs b hb ⟨ad, l, cp, hx, hln⟩
          subst hln
          obtain ⟨q1, q2, q3⟩ := slice_read (E := E) hS hcs ha'
          obtain ⟨vs, q4, q5, q6⟩ := q3 l (Nat.le_refl _)
          rw [List.take_of_length_le (by omega)] at q5
          refine ⟨k, _, .pure hS hF (cv := .string (b.foldl (fun s c => s.push c) .empty)) ?_ (.of ?_)⟩
          · have hu' : ∀ w, (underlying e).run E.P w = .ok (.int .u8) w := fun w => run_underlying hu w
            rw [hx] at q4
            have hbs : (Conv.bytesToString (.slice ad l cp)).run E.P k.w = .ok (.string (b.foldl (fun s c => s.push c) .empty)) k.w := by
              cases ad with
              | none =>
                simp only [Builtin.firstCells, Sem.run_pure, Result.ok.injEq, and_true] at q4
                subst q4
                cases cs with
                | nil => simp only [bytesOf, Option.some.injEq] at hb; subst hb; rfl
                | cons => simp [RepAll] at q5
              | some ad =>
                simp only [Builtin.firstCells, Nat.mul_one] at q4
                simp only [Conv.bytesToString, Sem.run_bind, q4, Result.andThen_ok]
                rw [← Array.forIn_toList]
                have := bytesLoop_run (E := E) (w := k.w) .empty hb q5
                erw [this]
                rfl
            have hcv : (convert s d (.slice ad l cp)).run E.P k.w = .ok (.string (b.foldl (fun s c => s.push c) .empty)) k.w := by
              simp only [convert, Sem.run_bind, run_underlying hs, run_underlying hd, Result.andThen_ok, hu', hbs]
            simp only [execOp, ho, hx, Sem.run_bind, hcv, Result.andThen_ok]
            rfl
          · simp only [Rep]
            exact ⟨_, rfl, by rw [foldl_push]; simp⟩
        split at h
        · rename_i cs len q
          split at h
          · rename_i n0 cs' cl' hcs
            simp only [Option.map_eq_some_iff, Prod.mk.injEq] at h
            obtain ⟨b, hb, rfl, _⟩ := h
            have ha2 := ha'
            simp only [Rep] at ha2
            obtain ⟨ad, cp, h1, _⟩ := ha2
            have hn : n0 = len := by
              have := (slice_read (E := E) hS hcs ha').1 k.w
              rw [h1] at this
              simp only [Builtin.lenOf, Sem.run_pure, Result.ok.injEq, and_true] at this
              exact this.symm
            exact key hcs b hb ⟨ad, len, cp, h1, hn.symm⟩
          · simp at h
        · rename_i b0 off len esz cp
          split at h
          · rename_i n0 cs' cl' hcs
            simp only [Option.map_eq_some_iff, Prod.mk.injEq] at h
            obtain ⟨b, hb, rfl, _⟩ := h
            have ha2 := ha'
            obtain ⟨ad, cap, h1⟩ : ∃ ad cap, evT tmps x = .slice ad len cap := by
              cases cp with
              | fix c => simp only [Rep] at ha2; exact ⟨_, _, ha2.2.1⟩
              | flex e => simp only [Rep] at ha2; obtain ⟨_, p, cap, _, _, h, _⟩ := ha2; exact ⟨_, _, h⟩
            have hn : n0 = len := by
              have := (slice_read (E := E) hS hcs ha').1 k.w
              rw [h1] at this
              simp only [Builtin.lenOf, Sem.run_pure, Result.ok.injEq, and_true] at this
              exact this.symm
            exact key hcs b hb ⟨ad, len, cap, h1, hn.symm⟩
          · simp at h
        · simp at h
      · simp at h
    · simp at h
  · simp at h
end
end Go.V

/- Lengths, look-ups, function literals, interfaces, calls. -/
namespace Go.V
section
variable {E : Env} {k : K} {S : St} {f : Nat} {g : G} {tmps : Array Value} {w : World}

/-- a builtin that is called -/
theorem exec_builtin {o : Oper} {c : Call} {b : Builtin} (ho : o.op = .call c) (hb : c.callee = .builtin b) (w : World) :
    ∃ consts, (execOp (evT tmps) o).run E.P w = (builtin b c.argTypes o.type consts (c.args.map (evT tmps))).run E.P w := by
  refine ⟨c.args.map fun | .const _ => true | _ => false, ?_⟩
  simp only [execOp, ho, resolve, hb, Sem.run_bind, Sem.run_pure, Result.andThen_ok, invoke]
  rfl

theorem evs_args (hS : Sim E k S) (hF : FRep k f g tmps) {c : Call} {vs : List Val} (h : evs E g c.args.toList = some vs) : RepAll k vs (c.args.map (evT tmps)).toList := by
  rw [Array.toList_map]; exact evs_rep hS hF h

theorem args1 {a : Array Value} {x : Val} (h : RepAll k [x] a.toList) : ∃ v, a = #[v] ∧ Rep k x v := by
  obtain ⟨l⟩ := a
  match l, h with
  | [v], h => simp only [RepAll] at h; exact ⟨v, rfl, h.1⟩
  | [], h => simp [RepAll] at h
  | _ :: _ :: _, h => simp [RepAll] at h
theorem args2 {a : Array Value} {x y : Val} (h : RepAll k [x, y] a.toList) : ∃ v u, a = #[v, u] ∧ Rep k x v ∧ Rep k y u := by
  obtain ⟨l⟩ := a
  match l, h with
  | [v, u], h => simp only [RepAll] at h; exact ⟨v, u, rfl, h.1, h.2.1⟩
  | [], h => simp [RepAll] at h
  | [_], h => simp [RepAll] at h
  | _ :: _ :: _ :: _, h => simp [RepAll] at h

theorem argT {c : Call} {t : TypeId} {i : Nat} (h : c.argTypes[i]? = some t) : c.argTypes[i]? = some t := h

theorem RepEnts.length : ∀ {l : List (Val × Val)} {m : List MapEntry}, RepEnts k l m → l.length = m.length
  | [], [], _ => rfl
  | (_, _) :: l, _ :: m, h => by simp only [RepEnts] at h; simp [RepEnts.length h.2.2]
  | [], _ :: _, h => by simp [RepEnts] at h
  | _ :: _, [], h => by simp [RepEnts] at h

theorem map_rep (hS : Sim E k S) {b : Nat} {es : List (Val × Val)} (hb : S.H[b]? = some (.map es)) :
    ∃ ents clock, k.w.heap[(k.σ b).1]? = some (.map ents clock) ∧ RepEnts k es ents.toList ∧ k.own (k.σ b).1 = some (.h b) := by
  have h := hS.blk b _ hb
  simp only [BRep] at h
  obtain ⟨h1, ents, clock, h2, h3⟩ := h
  exact ⟨ents, clock, h2, h3, h1⟩

theorem run_getObj {w : World} {c : Nat} {ents : Array MapEntry} {clock : Nat} (h : w.heap[c]? = some (.map ents clock)) (P : Program) :
    (getObj c).run P w = .ok (.map ents clock) w := by
  simp [getObj, Sem.run, h]

theorem lenOp_run (hS : Sim E k S) {t : TypeId} {x v : Val} {cl : Cls} {cx : Value} {ts : Array TypeId} {ty : TypeId} (ht : ts[0]? = some t) (h : lenOp E t S x = some (v, cl)) (hx : Rep k x cx) :
    ∃ cv, (Builtin.len_ ts ty #[cx]).run E.P k.w = .ok cv k.w ∧ Rep k v cv := by
  have h00 : (#[cx] : Array Value)[0]? = some cx := rfl
  unfold lenOp at h
  split at h
  · rename_i s hu
    simp only [Option.some.injEq, Prod.mk.injEq] at h
    obtain ⟨rfl, _⟩ := h
    simp only [Rep] at hx
    obtain ⟨a, rfl, rfl⟩ := hx
    refine ⟨_, ?_, rep_int⟩
    have e : a.data.toList.length = a.size := by rw [Array.length_toList]; rfl
    simp only [Builtin.len_, ht, h00, Sem.run_bind, run_underlying hu, Result.andThen_ok, Sem.run_pure, goInt, e]
  · rename_i e b off n esz cp hu
    simp only [Option.some.injEq, Prod.mk.injEq] at h
    obtain ⟨rfl, _⟩ := h
    have hx' : ∃ p cap, cx = .slice p n cap := by
      cases cp with
      | fix c => simp only [Rep] at hx; exact ⟨_, _, hx.2.1⟩
      | flex e => simp only [Rep] at hx; obtain ⟨_, p, cap, _, _, h, _⟩ := hx; exact ⟨_, _, h⟩
    obtain ⟨p, cap, rfl⟩ := hx'
    refine ⟨_, ?_, rep_int⟩
    simp only [Builtin.len_, ht, h00, Sem.run_bind, run_underlying hu, Result.andThen_ok, Sem.run_pure, goInt]
  · rename_i e cs n q hu
    simp only [Option.some.injEq, Prod.mk.injEq] at h
    obtain ⟨rfl, _⟩ := h
    simp only [Rep] at hx
    obtain ⟨a, cp, rfl, _⟩ := hx
    refine ⟨_, ?_, rep_int⟩
    simp only [Builtin.len_, ht, h00, Sem.run_bind, run_underlying hu, Result.andThen_ok, Sem.run_pure, goInt]
  · rename_i hu
    simp only [Option.some.injEq, Prod.mk.injEq] at h
    obtain ⟨rfl, _⟩ := h
    simp only [Rep] at hx; subst hx
    refine ⟨_, ?_, rep_int⟩
    simp only [Builtin.len_, ht, h00, Sem.run_bind, run_underlying hu, Result.andThen_ok, Sem.run_pure, goInt]
  · rename_i b hu
    split at h
    · rename_i es hb
      simp only [Option.some.injEq, Prod.mk.injEq] at h
      obtain ⟨rfl, _⟩ := h
      simp only [Rep] at hx
      obtain ⟨_, rfl⟩ := hx
      obtain ⟨ents, clock, h1, h2, _⟩ := map_rep hS hb
      refine ⟨_, ?_, rep_int⟩
      simp only [Builtin.len_, ht, h00, Sem.run_bind, run_underlying hu, Result.andThen_ok, run_getObj h1, Sem.run_pure, goInt, h2.length]
      simp
    · simp at h
  · simp at h

theorem capOp_run {t : TypeId} {x v : Val} {cx : Value} {ts : Array TypeId} {ty : TypeId} (ht : ts[0]? = some t) (h : capOp E t x = some v) (hx : Rep k x cx) :
    ∃ cv, (Builtin.cap_ ts ty #[cx]).run E.P w = .ok cv w ∧ Rep k v cv := by
  have h00 : (#[cx] : Array Value)[0]? = some cx := rfl
  unfold capOp at h
  split at h
  · rename_i hu
    simp only [Option.some.injEq] at h; subst h
    simp only [Rep] at hx
    obtain ⟨_, rfl, _⟩ := hx
    refine ⟨_, ?_, rep_int⟩
    simp only [Builtin.cap_, ht, h00, Sem.run_bind, run_underlying hu, Result.andThen_ok, Sem.run_pure, goInt]
  · rename_i hu
    simp only [Option.some.injEq] at h; subst h
    simp only [Rep] at hx
    obtain ⟨a, cp, rfl, _, _, h1, _⟩ := hx
    obtain ⟨rfl, _⟩ := (⟨h1.1 trivial, h1.2 (by simp)⟩ : _ ∧ _)
    refine ⟨_, ?_, rep_int⟩
    simp only [Builtin.cap_, ht, h00, Sem.run_bind, run_underlying hu, Result.andThen_ok, Sem.run_pure, goInt]
  · rename_i hu
    simp only [Option.some.injEq] at h; subst h
    simp only [Rep] at hx
    obtain ⟨a, cp, rfl, _, h1, _⟩ := hx
    obtain ⟨_, rfl⟩ := h1 trivial
    refine ⟨_, ?_, rep_int⟩
    simp only [Builtin.cap_, ht, h00, Sem.run_bind, run_underlying hu, Result.andThen_ok, Sem.run_pure, goInt]
    rfl
  · simp at h

theorem op_makeInterface (hS : Sim E k S) (hF : FRep k f g tmps) {c : Ctx} {o : Oper} {t : TypeId} {x : Operand} (ho : o.op = .makeInterface t x) {r : Res} (h : opV E c g S o = some r) :
    OpRes E k S f g tmps o r := by
  simp only [opV, ho] at h
  split at h
  · simp at h
  · rename_i v d hni hx hu
    refine .pureVal hS hF h fun u hu' => ?_
    simp only [Option.some.injEq] at hu'; subst hu'
    refine ⟨.iface t (evT tmps x), ?_, .of (by simp only [Rep]; exact ⟨_, rfl, (ev_rep hS hF hx).1⟩)⟩
    simp only [execOp, ho, Instr.makeInterface, Sem.run_bind, run_underlying hu, Result.andThen_ok]
    cases d <;> first | rfl | (exact absurd hu (hni _))
  · simp at h

theorem findKey_run {q : Val} {cq : Value} {d : TypeDesc} (hk : keyT d q = true) (hq : Rep k q cq) : ∀ {es : List (Val × Val)} {ents : List MapEntry} {i : Nat} {r : Option (Nat × Val)},
    findKey q es i = some r → RepEnts k es ents →
    ∃ cr, Instr.findNow d cq ents i = some cr ∧ (match r, cr with | none, none => True | some (j, v), some (j', v') => j = j' ∧ Rep k v v' ∧ i ≤ j ∧ j < i + es.length | _, _ => False)
  | [], [], i, r, h, _ => by
    simp only [findKey, Option.some.injEq] at h; subst h
    exact ⟨none, rfl, trivial⟩
  | (a, v) :: es, e :: ents, i, r, h, hr => by
    simp only [RepEnts] at hr
    obtain ⟨h1, h2, h3⟩ := hr
    simp only [findKey] at h
    have hsame : ∀ b, keyEq q a = some b → Instr.sameNow d cq e.key = some b := by
      intro b hb
      unfold keyEq at hb
      split at hb
      · simp only [Rep] at hq h1
        rw [hq, h1]
        split at hb
        · rename_i e1; subst e1
          cases d <;> first | (simp [keyT] at hk; done) | simpa [Instr.sameNow] using hb
        · simp at hb
      · simp only [Rep] at hq h1
        obtain ⟨x, hx, rfl⟩ := hq
        obtain ⟨y, hy, rfl⟩ := h1
        rw [hx, hy]
        cases d <;> first | (simp [keyT] at hk; done) | skip
        simp only [Option.some.injEq] at hb
        simp only [Instr.sameNow, Option.some.injEq]
        rw [← hb, beq_toListBytes, toList_eq, toList_eq]
      · simp only [Rep] at hq h1
        rw [hq, h1]
        cases d <;> first | (simp [keyT] at hk; done) | simpa [Instr.sameNow] using hb
      · simp at hb
    split at h
    · rename_i hke
      simp only [Option.some.injEq] at h; subst h
      exact ⟨some (i, e.val), by simp [Instr.findNow, hsame _ hke], rfl, h2, Nat.le_refl _, by simp⟩
    · rename_i hke
      obtain ⟨cr, h4, h5⟩ := findKey_run hk hq h h3
      refine ⟨cr, by simp [Instr.findNow, hsame _ hke, h4], ?_⟩
      cases r with
      | none => cases cr with
        | none => trivial
        | some c => exact h5.elim
      | some p => cases cr with
        | none => exact h5.elim
        | some c => obtain ⟨j, v⟩ := p; obtain ⟨j', v'⟩ := c; simp only [List.length_cons] at h5 ⊢; exact ⟨h5.1, h5.2.1, by omega, by omega⟩
    · simp at h
  | [], _ :: _, _, _, _, hr => by simp [RepEnts] at hr
  | _ :: _, [], _, _, _, hr => by simp [RepEnts] at hr
end
end Go.V

/- Look-ups in maps; function literals. -/
namespace Go.V
section
variable {E : Env} {k : K} {S : St} {f : Nat} {g : G} {tmps : Array Value} {w : World}

theorem checkKey_run {d : TypeDesc} {kt : TypeId} {q : Val} {cq : Value} (hu : E.und kt = some d) (hk : keyT d q = true) (hq : Rep k q cq) (e : Bool) (w : World) :
    (Instr.checkKey e 10000 kt cq).run E.P w = .ok () w := by
  obtain ⟨n, hn⟩ : ∃ n, 10000 = n + 1 := ⟨9999, rfl⟩
  rw [hn]
  unfold keyT at hk
  split at hk
  · simp only [Rep] at hq; subst hq
    simp only [Instr.checkKey, Sem.run_bind, run_underlying hu, Result.andThen_ok]; rfl
  · simp only [Rep] at hq; obtain ⟨a, rfl, _⟩ := hq
    simp only [Instr.checkKey, Sem.run_bind, run_underlying hu, Result.andThen_ok]; rfl
  · simp only [Rep] at hq; subst hq
    simp only [Instr.checkKey, Sem.run_bind, run_underlying hu, Result.andThen_ok]; rfl
  · simp at hk

theorem findKey_sem {d : TypeDesc} {kt : TypeId} {cq : Value} (hu : E.und kt = some d) {ents : List MapEntry} {cr : Option (Nat × Value)} (h : Instr.findNow d cq ents 0 = some cr) (w : World) :
    (Instr.findKey kt cq ents).run E.P w = .ok cr w := by
  simp only [Instr.findKey, Sem.run_bind, run_underlying hu, Result.andThen_ok, h, Sem.run_pure]

theorem lookup_sem {t kt et : TypeId} (hu : E.und t = some (.map kt et)) {cm cq : Value} {ents : Array MapEntry} {cr : Option (Nat × Value)} {zv : Value} {ok : Bool}
    (hm : (cm = .map none ∧ ents = #[]) ∨ ∃ c clock, cm = .map (some c) ∧ w.heap[c]? = some (.map ents clock))
    (hck : ∀ e, (Instr.checkKey e 10000 kt cq).run E.P w = .ok () w) (hfk : (Instr.findKey kt cq ents.toList).run E.P w = .ok cr w)
    (hz : cr = none → (zeroValue et).run E.P w = .ok zv w) :
    (Instr.lookup t cm cq ok).run E.P w = .ok (match cr with
      | some (_, v) => if ok then .tuple #[v, .bool true] else v
      | none => if ok then .tuple #[zv, .bool false] else zv) w := by
  have hunder : (underlying t).run E.P w = .ok (.map kt et) w := run_underlying hu w
  rcases hm with ⟨rfl, rfl⟩ | ⟨c, clock, rfl, hh⟩
  · simp only [Instr.lookup, Sem.run_bind, hunder, Result.andThen_ok, Sem.run_pure, hck, hfk]
    cases cr with
    | some p => simp
    | none => simp [hz rfl]
  · simp only [Instr.lookup, Sem.run_bind, hunder, Result.andThen_ok, run_getObj hh, Sem.run_pure, hck, hfk]
    cases cr with
    | some p => simp
    | none => simp [hz rfl]

theorem op_lookup (hS : Sim E k S) (hF : FRep k f g tmps) {c : Ctx} {o : Oper} {t : TypeId} {m q : Operand} {ok : Bool} (ho : o.op = .lookup t m q ok) {r : Res} (h : opV E c g S o = some r) :
    OpRes E k S f g tmps o r := by
  simp only [opV, ho] at h
  split at h
  · rename_i a b ha hb
    have ha' := (ev_rep hS hF ha).1
    have hb' := (ev_rep hS hF hb).1
    refine .one hS hF h fun v cl hv => ?_
    unfold lookupOp at hv
    split at hv
    · rename_i kt et hu
      split at hv
      · rename_i d i hd hi
        split at hv
        · rename_i hk
          split at hv
          · rename_i es cl' hes
            have hents : ∃ ents : Array MapEntry, RepEnts k es ents.toList ∧ ((evT tmps m = .map none ∧ ents = #[]) ∨ ∃ c clock, evT tmps m = .map (some c) ∧ k.w.heap[c]? = some (.map ents clock)) := by
              unfold mapEnts at hes
              split at hes
              · simp only [Option.some.injEq, Prod.mk.injEq] at hes
                obtain ⟨rfl, _⟩ := hes
                simp only [Rep] at ha'
                exact ⟨#[], by simp [RepEnts], .inl ⟨ha', rfl⟩⟩
              · split at hes
                · rename_i bb es' hbb
                  simp only [Option.some.injEq, Prod.mk.injEq] at hes
                  obtain ⟨rfl, _⟩ := hes
                  simp only [Rep] at ha'
                  obtain ⟨ents, clock, h1, h2, _⟩ := map_rep hS hbb
                  exact ⟨ents, h2, .inr ⟨_, clock, ha'.2, h1⟩⟩
                · simp at hes
              · simp at hes
            obtain ⟨ents, hre, hm⟩ := hents
            have hck := fun e => checkKey_run (k := k) hd hk hb' e k.w
            split at hv
            · rename_i j vv hfk
              obtain ⟨cr, h1, h2⟩ := findKey_run hk hb' hfk hre
              cases cr with
              | none => exact h2.elim
              | some p =>
                obtain ⟨j', v'⟩ := p
                simp only at h2
                simp only [Option.some.injEq, Prod.mk.injEq] at hv
                obtain ⟨rfl, _⟩ := hv
                have hsem := lookup_sem (zv := .nilFunc) (ok := ok) hu hm hck (findKey_sem hd h1 k.w) (by simp)
                refine ⟨if ok then .tuple #[v', .bool true] else v', ?_, ?_⟩
                · simp only [execOp, ho, Sem.run_bind, hsem, Result.andThen_ok]; rfl
                · cases ok
                  · exact .of h2.2.1
                  · apply ValRep.of
                    simp only [if_true, Rep]
                    exact ⟨_, rfl, by simp only [RepAll]; exact ⟨h2.2.1, rep_bool, trivial⟩⟩
            · rename_i hfk
              obtain ⟨cr, h1, h2⟩ := findKey_run hk hb' hfk hre
              cases cr with
              | some p => exact h2.elim
              | none =>
                split at hv
                · rename_i z hz
                  simp only [Option.some.injEq, Prod.mk.injEq] at hv
                  obtain ⟨rfl, _⟩ := hv
                  simp only [Option.bind_eq_some_iff] at hz
                  obtain ⟨zv, hz1, hz2⟩ := hz
                  have hzv : (zeroValue et).run E.P k.w = .ok zv k.w := by simp [zeroValue, typeInfo, hi, hz1]
                  have hzr := ofConst_rep (k := k) hz2
                  have hsem := lookup_sem (zv := zv) (ok := ok) hu hm hck (findKey_sem hd h1 k.w) (fun _ => hzv)
                  refine ⟨if ok then .tuple #[zv, .bool false] else zv, ?_, ?_⟩
                  · simp only [execOp, ho, Sem.run_bind, hsem, Result.andThen_ok]; rfl
                  · cases ok
                    · exact .of hzr
                    · apply ValRep.of
                      simp only [if_true, Rep]
                      exact ⟨_, rfl, by simp only [RepAll]; exact ⟨hzr, rep_bool, trivial⟩⟩
                · simp at hv
            · simp at hv
          · simp at hv
        · simp at hv
      · simp at hv
    · simp at hv
  · simp at h

/-- locals ts of frame f are written no more -/
def freeze (k : K) (f : Nat) (ts : List Nat) : K :=
  { k with own := fun c => match k.own c with
    | some (.lv f' t) => if f' = f ∧ t ∈ ts then none else some (.lv f' t)
    | x => x }

theorem freeze_own {ts : List Nat} {c : Nat} (h : ∀ t, t ∈ ts → k.own c ≠ some (.lv f t)) : (freeze k f ts).own c = k.own c := by
  simp only [freeze]
  cases e : k.own c with
  | none => rfl
  | some x =>
    cases x with
    | lv f' t =>
      simp only
      rw [if_neg]
      rintro ⟨rfl, ht⟩
      exact h t ht e
    | _ => rfl

theorem freeze_le (ts : List Nat) : k.Le (freeze k f ts) where
  sh := fun b s h => .inl ⟨h, rfl, rfl⟩
  loop := fun l h => ⟨rfl, by rw [freeze_own (by rw [h]; simp)]; exact h, rfl⟩
  inl := fun c _ hn => ⟨by simp only [freeze, hn], rfl⟩

theorem freeze_evo (ts : List Nat) : Evo k (freeze k f ts) (touchF k S.L f) where
  le := freeze_le ts
  os := rfl
  tape := rfl
  output := rfl
  size := Nat.le_refl _
  keep := fun c _ hn => ⟨freeze_own fun t _ e => hn (.inr ⟨t, e⟩), rfl⟩

theorem freeze_sim (hS : Sim E k S) (hbusy : ∀ (l : Nat) (r : LoopRec), S.L[l]? = some r → k.fid l = f → r.busy = true) (ts : List Nat) : Sim E (freeze k f ts) S := by
  have hle := freeze_le (k := k) (f := f) ts
  refine ⟨hS.sh, ?_, ?_, ?_, fun g cs hg => (hS.glob g cs hg).mono hle, fun c l hc => hS.dead c l (by
    simp only [freeze] at hc
    cases e : k.own c with
    | none => rw [e] at hc; simp at hc
    | some x =>
      rw [e] at hc
      cases x <;> first | exact hc | (simp only at hc; split at hc <;> simp at hc))⟩
  · intro b blk hb
    have r := hS.blk b blk hb
    exact r.mono hle rfl rfl (freeze_own (by rw [r.own]; simp)) rfl
  · intro l r hr
    have q := hS.loop l r hr
    obtain ⟨tm, de, q1, q2, q3⟩ := q.rep
    refine ⟨by rw [show (freeze k f ts).lo = k.lo from rfl, freeze_own (by rw [q.own]; simp)]; exact q.own, ⟨tm, de, q1, ?_, q3⟩, q.pend⟩
    intro hb
    refine (q2 hb).mono hle fun c t hc => ⟨freeze_own ?_, rfl⟩
    intro t' _ e
    rw [hc] at e
    simp only [Option.some.injEq, Own.lv.injEq] at e
    have := hbusy l r hr e.1
    rw [hb] at this; simp at this
  · intro c o ho
    simp only [freeze] at ho
    cases e : k.own c with
    | none => rw [e] at ho; simp at ho
    | some x => exact hS.ownlt c x e

theorem capture_ups : ∀ {l : List Operand} {vs : List Val} {ups : List (Nat × Val)}, capture E g l = some (vs, ups) →
    (∀ t v, (t, v) ∈ ups → ∃ cs, g t = some (.lv cs) ∧ v = .pin cs 0) ∧
    vs.length = l.length ∧ ∀ (i : Nat) (o : Operand) (v : Val), l[i]? = some o → vs[i]? = some v →
      ∃ t, o = .tmp t ∧ ((∃ cs, g t = some (.lv cs) ∧ v = .pin cs 0 ∧ (t, v) ∈ ups) ∨ (g t = some v ∧ v.first = true))
  | [], vs, ups, h => by
    simp only [capture, Option.some.injEq, Prod.mk.injEq] at h
    obtain ⟨rfl, rfl⟩ := h
    simp
  | o :: l, vs, ups, h => by
    simp only [capture] at h
    split at h
    · rename_i t
      split at h
      · rename_i cs vs' ups' hg hc
        simp only [Option.some.injEq, Prod.mk.injEq] at h
        obtain ⟨rfl, rfl⟩ := h
        obtain ⟨h1, h2, h3⟩ := capture_ups hc
        refine ⟨?_, by simp [h2], ?_⟩
        · intro t' v' hm
          rcases List.mem_cons.1 hm with e | hm
          · simp only [Prod.mk.injEq] at e; obtain ⟨rfl, rfl⟩ := e; exact ⟨cs, hg, rfl⟩
          · exact h1 t' v' hm
        · intro i o v ho hv
          cases i with
          | zero =>
            simp only [List.getElem?_cons_zero, Option.some.injEq] at ho hv; subst ho hv
            exact ⟨t, rfl, .inl ⟨cs, hg, rfl, by simp⟩⟩
          | succ i =>
            obtain ⟨t', e, h4⟩ := h3 i o v (by simpa using ho) (by simpa using hv)
            refine ⟨t', e, h4.imp (fun ⟨cs, a, b, c⟩ => ⟨cs, a, b, List.mem_cons_of_mem _ c⟩) id⟩
      · rename_i v0 vs' ups' hnl hg hc
        split at h
        · rename_i hfst
          simp only [Option.some.injEq, Prod.mk.injEq] at h
          obtain ⟨rfl, rfl⟩ := h
          obtain ⟨h1, h2, h3⟩ := capture_ups hc
          refine ⟨h1, by simp [h2], ?_⟩
          intro i o v ho hv
          cases i with
          | zero =>
            simp only [List.getElem?_cons_zero, Option.some.injEq] at ho hv; subst ho hv
            exact ⟨t, rfl, .inr ⟨hg, hfst⟩⟩
          | succ i => exact h3 i o v (by simpa using ho) (by simpa using hv)
        · simp at h
      · simp at h
    · simp at h

theorem upsG_mem : ∀ (ups : List (Nat × Val)) (g : G) (t : Nat), (∃ v, (t, v) ∈ ups ∧ upsG g ups t = some v) ∨ ((∀ v, (t, v) ∉ ups) ∧ upsG g ups t = g t)
  | [], g, t => .inr ⟨by simp, rfl⟩
  | (s, u) :: l, g, t => by
    simp only [upsG]
    rcases upsG_mem l (fun x => if x = s then some u else g x) t with ⟨v, h1, h2⟩ | ⟨h1, h2⟩
    · exact .inl ⟨v, List.mem_cons_of_mem _ h1, h2⟩
    · by_cases e : t = s
      · subst e
        exact .inl ⟨u, by simp, by rw [h2]; simp⟩
      · refine .inr ⟨fun v hv => ?_, by rw [h2]; simp [e]⟩
        rcases List.mem_cons.1 hv with hv | hv
        · simp only [Prod.mk.injEq] at hv; exact e hv.1
        · exact h1 v hv

theorem op_makeFunc (hS : Sim E k S) (hF : FRep k f g tmps) (hbusy : ∀ (l : Nat) (r : LoopRec), S.L[l]? = some r → k.fid l = f → r.busy = true)
    {c : Ctx} {o : Oper} {fn : Fn} {first cap : Array Operand} (ho : o.op = .makeFunc fn first cap) {r : Res} (h : opV E c g S o = some r) :
    OpRes E k S f g tmps o r := by
  cases fn with
  | func q =>
    simp only [opV, ho] at h
    split at h
    · rename_i h0
      have hfst : first = #[] := Array.eq_empty_of_size_eq_zero h0
      have key : ∀ vs ups kc, capture E g cap.toList = some (vs, ups) → OpRes E k S f g tmps o (.val (some (.fn q vs)) kc ups S) := by
        intro vs ups kc hc
        obtain ⟨h1, h2, h3⟩ := capture_ups hc
        let ts := ups.map (·.1)
        have hle := freeze_le (k := k) (f := f) ts
        have hmem : ∀ t cs, g t = some (.lv cs) → (∃ v, (t, v) ∈ ups) → ∃ cc, tmps.getD t undef = .pointer (some ⟨cc, 0, none⟩) ∧ RepMem (freeze k f ts) cc 0 cs := by
          intro t cs hg ⟨v, hv⟩
          obtain ⟨cc, q1, q2, q3⟩ := hF t _ hg
          refine ⟨cc, q1, RepMem.mk fun i x hi => ?_⟩
          obtain ⟨u, p1, p2, p3, p4⟩ := q3.get hi
          refine ⟨?_, u, p1, p3, p4.mono hle⟩
          simp only [freeze, q2]
          rw [if_pos ⟨trivial, by simp only [ts, List.mem_map]; exact ⟨_, hv, rfl⟩⟩]
        refine ⟨freeze k f ts, _, ⟨?_, ⟨.func (.func q) #[] (cap.map (evT tmps)), rfl, .of ?_⟩, freeze_sim hS hbusy ts, freeze_evo ts, ?_, rfl, ?_⟩⟩
        · simp only [execOp, ho, hfst, Instr.makeFunc, Sem.run_bind, Sem.run_pure, Result.andThen_ok, List.map_toArray, List.map_nil]
          rfl
        · simp only [Rep]
          refine ⟨_, rfl, RepAll.mk (by simp [h2]) fun i x hi => ?_⟩
          have hlt : i < cap.toList.length := by rw [← h2]; exact (List.getElem?_eq_some_iff.1 hi).1
          obtain ⟨t, e, h4⟩ := h3 i cap.toList[i] x (by simp [List.getElem?_eq_getElem hlt]) hi
          refine ⟨evT tmps (.tmp t), ?_, ?_⟩
          · rw [Array.toList_map, List.getElem?_map, List.getElem?_eq_getElem hlt, e]; rfl
          · rcases h4 with ⟨cs, g1, rfl, g3⟩ | ⟨g1, g2⟩
            · obtain ⟨cc, q1, q2⟩ := hmem t cs g1 ⟨_, g3⟩
              simp only [Rep, evT]
              exact ⟨cc, 0, q1, q2⟩
            · exact (hF.first g1 g2).mono hle
        · intro t v hv
          rcases upsG_mem ups g t with ⟨u, hu1, hu2⟩ | ⟨hu1, hu2⟩
          · rw [hu2] at hv
            simp only [Option.some.injEq] at hv; subst hv
            obtain ⟨cs, g1, rfl⟩ := h1 t u hu1
            obtain ⟨cc, q1, q2⟩ := hmem t cs g1 ⟨_, hu1⟩
            simp only [SlotRep, Rep]
            exact ⟨cc, 0, q1, q2⟩
          · rw [hu2] at hv
            have := hF t v hv
            cases v with
            | lv cs =>
              obtain ⟨cc, q1, q2, q3⟩ := this
              refine ⟨cc, q1, ?_, q3.mono hle rfl 0 cs⟩
              rw [freeze_own]; exact q2
              intro t' ht' e
              rw [q2] at e
              simp only [Option.some.injEq, Own.lv.injEq, true_and] at e
              subst e
              simp only [ts, List.mem_map] at ht'
              obtain ⟨⟨a, b⟩, hp, rfl⟩ := ht'
              exact hu1 b hp
            | loc s off =>
              intro cs hcs
              rcases upsG_mem ups g s with ⟨u, hs1, hs2⟩ | ⟨hs1, hs2⟩
              · rw [hs2] at hcs
                obtain ⟨_, _, rfl⟩ := h1 s u hs1
                simp at hcs
              · rw [hs2] at hcs; exact this cs hcs
            | _ => exact Rep.mono hle _ _ this
        · intro d _ hB c
          have := hB c
          simp only [freeze]
          cases e : k.own c with
          | none => simp
          | some x =>
            rw [e] at this
            cases x with
            | lv f' t' =>
              simp only
              split
              · simp
              · exact this
            | _ => exact this
      split at h
      · rename_i vs hc
        simp only [Option.some.injEq] at h; subst h
        exact key _ _ _ hc
      · rename_i vs t v hc
        simp only [Option.some.injEq] at h; subst h
        exact key _ _ _ hc
      · rename_i vs ups _ _ hc
        simp only [Option.some.injEq] at h; subst h
        exact key _ _ _ hc
      · simp at h
    · simp at h
  | _ => simp [opV, ho] at h
end
end Go.V

/- Operations that write. -/
namespace Go.V
section
variable {E : Env} {k : K} {S : St} {f : Nat} {g : G} {tmps : Array Value} {w : World}

theorem setCells_heap (c : Nat) : ∀ (vs : List Value) (o : Nat) (w : World) (x : Nat), x ≠ c → (w.setCells c o vs).heap[x]? = w.heap[x]?
  | [], _, _, _, _ => rfl
  | v :: l, o, w, x, h => by
    rw [World.setCells, setCells_heap c l (o + 1) _ x h]
    simp only [World.setCell, Array.getElem?_modify]
    rw [if_neg (Ne.symm h)]
theorem setCells_size (c : Nat) : ∀ (vs : List Value) (o : Nat) (w : World), (w.setCells c o vs).heap.size = w.heap.size
  | [], _, _ => rfl
  | v :: l, o, w => by rw [World.setCells, setCells_size c l, World.size_setCell]
theorem setCells_rest (c : Nat) : ∀ (vs : List Value) (o : Nat) (w : World), (w.setCells c o vs).os = w.os ∧ (w.setCells c o vs).tape = w.tape ∧ (w.setCells c o vs).output = w.output
  | [], _, _ => ⟨rfl, rfl, rfl⟩
  | v :: l, o, w => by rw [World.setCells]; exact setCells_rest c l (o + 1) _

theorem setCells_but (k : K) (c o : Nat) (vs : List Value) : But k { k with w := k.w.setCells c o vs } c where
  σ := rfl
  lo := rfl
  sh := rfl
  own := rfl
  lp := rfl
  room := rfl
  size := setCells_size c vs o k.w
  os := (setCells_rest c vs o k.w).1
  tape := (setCells_rest c vs o k.w).2.1
  output := (setCells_rest c vs o k.w).2.2
  heap := fun x h => setCells_heap c vs o k.w x h

theorem over_some {cs new cs' : List Val} {off : Nat} (h : over cs off new = some cs') : off + new.length ≤ cs.length ∧ cs' = cs.take off ++ new ++ cs.drop (off + new.length) := by
  unfold over at h
  split at h
  · simp only [Option.some.injEq] at h; exact ⟨by assumption, h.symm⟩
  · simp at h

theorem over_length {cs new cs' : List Val} {off : Nat} (h : over cs off new = some cs') : cs'.length = cs.length := by
  obtain ⟨h1, rfl⟩ := over_some h
  simp; omega

theorem over_get {cs new cs' : List Val} {off : Nat} (h : over cs off new = some cs') (i : Nat) :
    cs'[i]? = if i < off then cs[i]? else if i < off + new.length then new[i - off]? else cs[i]? := by
  obtain ⟨h1, rfl⟩ := over_some h
  split
  · rename_i hi
    rw [List.append_assoc, List.getElem?_append_left (by simp; omega), List.getElem?_take, if_pos hi]
  · rename_i hi
    rw [List.append_assoc, List.getElem?_append_right (by simp; omega)]
    simp only [List.length_take]
    rw [Nat.min_eq_left (by omega)]
    split
    · rw [List.getElem?_append_left (by omega)]
    · rw [List.getElem?_append_right (by omega), List.getElem?_drop]
      congr 1; omega

theorem isSome_setCell (w : World) (a b : Addr) (v : Value) : ((w.setCell a v).cell? b).isSome = (w.cell? b).isSome := by
  unfold World.cell? World.setCell
  simp only [Array.getElem?_modify]
  by_cases e : a.block = b.block
  · simp only [e, if_true]
    cases w.heap[b.block]? with
    | none => rfl
    | some x =>
      cases x with
      | cells c _ _ => ?_
      | _ => rfl
      simp only [Option.map_some]
      by_cases h : b.spot.isSome = true
      · simp only [h, if_true]
      · by_cases h2 : a.spot.isSome = true
        · simp [h, h2]
        · simp only [h, h2, if_false, Bool.false_eq_true]
          by_cases hb : b.off < c.size
          · rw [Array.getElem?_eq_getElem hb, Array.getElem?_eq_getElem (by simpa using hb)]; rfl
          · rw [Array.getElem?_eq_none (Nat.le_of_not_lt hb), Array.getElem?_eq_none (by rw [Array.size_setIfInBounds]; exact Nat.le_of_not_lt hb)]
  · simp only [e, if_false]

theorem isSome_setCells (c : Nat) : ∀ (vs : List Value) (o : Nat) (w : World) (a : Addr), ((w.setCells c o vs).cell? a).isSome = (w.cell? a).isSome
  | [], _, _, _ => rfl
  | v :: l, o, w, a => by rw [World.setCells, isSome_setCells c l, isSome_setCell]

/-- cells of an owned block are written -/
theorem write_own {c o off : Nat} {cs new cs' : List Val} {vs : List Value} (hr : RepOwn k c o cs) (hown : k.own c ≠ none) (hov : over cs off new = some cs')
    (hv : RepAll k new vs) (h1 : ∀ x ∈ vs, x.oneCell' = true) :
    RepOwn { k with w := k.w.setCells c (o + off) vs } c o cs' ∧
    (storeCells ⟨c, o + off, none⟩ vs).run E.P k.w = .ok () (k.w.setCells c (o + off) vs) := by
  have hle := (setCells_but k c (o + off) vs).le hown
  obtain ⟨hfit, _⟩ := over_some hov
  have hlen := hv.length
  have hthere : ∀ j, j < vs.length → (k.w.cell? ⟨c, o + off + j, none⟩).isSome = true ∧ k.w.frozen? ⟨c, o + off + j, none⟩ = false := by
    intro j hj
    obtain ⟨v, p1, p2, _⟩ := hr.get (i := off + j) (x := cs[off + j]'(by omega)) (List.getElem?_eq_getElem _)
    rw [show o + off + j = o + (off + j) by omega]
    exact ⟨by rw [p1]; rfl, p2⟩
  constructor
  · refine RepOwn.mk fun i x hi => ?_
    rw [over_get hov] at hi
    have hfz : ({ k with w := k.w.setCells c (o + off) vs } : K).w.frozen? ⟨c, o + i, none⟩ = k.w.frozen? ⟨c, o + i, none⟩ := World.frozen?_setCells _ _ _ _ _
    rw [hfz]
    by_cases hin : off ≤ i ∧ i < off + new.length
    · rw [if_neg (by omega), if_pos hin.2] at hi
      obtain ⟨v, p1, p2⟩ := hv.get hi
      have hj : i - off < vs.length := by omega
      have p3 := World.cell?_setCells_in c vs (o + off) k.w (fun j hj => (hthere j hj).1) (i - off) hj
      rw [show o + off + (i - off) = o + i by omega] at p3
      have p4 : vs[i - off] = v := by
        rw [List.getElem?_eq_getElem hj] at p1
        simpa using p1
      have p5 := (hthere (i - off) hj).2
      rw [show o + off + (i - off) = o + i by omega] at p5
      exact ⟨v, by rw [← p4]; exact p3, p5, h1 v (List.mem_of_getElem? p1), p2.mono hle⟩
    · have hi' : cs[i]? = some x := by
        split at hi
        · exact hi
        · split at hi
          · omega
          · exact hi
      obtain ⟨v, p1, p2, p3, p4⟩ := hr.get hi'
      refine ⟨v, ?_, p2, p3, p4.mono hle⟩
      show (k.w.setCells c (o + off) vs).cell? _ = _
      rw [World.cell?_setCells_out _ _ _ _ _ (fun _ _ => by simp; omega)]
      exact p1
  · have := run_storeCells_cells (P := E.P) c (o + off) vs 0 k.w (fun j hj => by simpa using (hthere j hj).1) (fun j hj => by simpa using (hthere j hj).2) h1
    simpa using this

/-- cells of a block of the clean heap are written -/
theorem write_heap (hS : Sim E k S) (hF : FRep k f g tmps) {b off : Nat} {e : Option Nat} {cs new cs' : List Val} {vs : List Value} (hcs : hcells S b e = some cs) (hov : over cs off new = some cs')
    (hv : RepAll k new vs) (h1 : ∀ x ∈ vs, x.oneCell' = true) :
    Sim E { k with w := k.w.setCells (k.σ b).1 ((k.σ b).2 + off) vs } (setCells S b e cs') ∧
    Evo k { k with w := k.w.setCells (k.σ b).1 ((k.σ b).2 + off) vs } (touchF k S.L f) ∧
    FRep { k with w := k.w.setCells (k.σ b).1 ((k.σ b).2 + off) vs } f g tmps ∧
    (storeCells ⟨(k.σ b).1, (k.σ b).2 + off, none⟩ vs).run E.P k.w = .ok () (k.w.setCells (k.σ b).1 ((k.σ b).2 + off) vs) := by
  obtain ⟨hb, hn⟩ := hcells_some hcs
  have hB := hS.blk b _ hb
  have hown : k.own (k.σ b).1 = some (.h b) := hB.1
  have hne : k.own (k.σ b).1 ≠ none := by rw [hown]; simp
  have hbut := setCells_but k (k.σ b).1 ((k.σ b).2 + off) vs
  obtain ⟨h2, h3⟩ := write_own (E := E) hB.2.1 hne hov hv h1
  refine ⟨?_, hbut.evo hne (.inl (by unfold touch; rw [hown]; trivial)), ?_, h3⟩
  · exact hS.setBlock hb hbut (by simp only [Block.shape]; rw [over_length hov]) ⟨hown, h2, fun e j hj => by
      show ((k.w.setCells _ _ _).cell? _).isSome = true ∧ (k.w.setCells _ _ _).frozen? _ = false
      rw [isSome_setCells, World.frozen?_setCells]
      exact hB.2.2 e j hj⟩
  · refine hF.mono (hbut.le hne) fun c t hc => ⟨rfl, hbut.heap c ?_⟩
    rintro rfl
    rw [hown] at hc; simp at hc

theorem op_store (hS : Sim E k S) (hF : FRep k f g tmps) (hbusy : ∀ (l : Nat) (r : LoopRec), S.L[l]? = some r → k.fid l = f → r.busy = true)
    {c : Ctx} {o : Oper} {t : TypeId} {a x : Operand} (ho : o.op = .store t a x) {r : Res} (h : opV E c g S o = some r) :
    OpRes E k S f g tmps o r := by
  simp only [opV, ho] at h
  split at h
  · rename_i n p v hn hp hv
    split at h
    · rename_i hcond
      obtain ⟨hl, hst⟩ := hcond
      simp only [Option.map_eq_some_iff] at h
      obtain ⟨⟨kc, ups, S'⟩, h, rfl⟩ := h
      have hp' := place_rep hS hF hp
      obtain ⟨hvr, hv1⟩ := (ev_rep hS hF hv).1.cells hst
      have hsz : (evT tmps x).cells.size = n := by have := hvr.length; simp at this; omega
      have hrun : ∀ {cc oo : Nat} {w' : World}, evT tmps a = .pointer (some ⟨cc, oo, none⟩) → (storeCells ⟨cc, oo, none⟩ (evT tmps x).cells.toList).run E.P k.w = .ok () w' →
          (execOp (evT tmps) o).run E.P k.w = .ok .skip w' := by
        intro cc oo w' ha hs
        simp only [execOp, ho, Instr.storeAt, Instr.sureAddr, ha, Sem.run_bind, Sem.run_pure, Result.andThen_ok, storeVar, run_size hn, hsz, ne_eq, not_true_eq_false, if_false, hs]
      unfold storeAt at h
      split at h
      · simp at h
      · -- a local
        rename_i tt off
        split at h
        · rename_i cs hg
          simp only [Option.map_eq_some_iff, Prod.mk.injEq] at h
          obtain ⟨cs', hov, _, rfl, rfl⟩ := h
          obtain ⟨c0, q1, q2⟩ := hp' _ hg
          obtain ⟨c1, q3, q4, q5⟩ := hF tt _ hg
          rw [q1] at q3
          simp only [Value.pointer.injEq, Option.some.injEq, Addr.mk.injEq, and_true] at q3; subst q3
          have hne : k.own c0 ≠ none := by rw [q4]; simp
          have hbut := setCells_but k c0 (0 + off) (evT tmps x).cells.toList
          obtain ⟨h2, h3⟩ := write_own (E := E) q5 hne hov hvr hv1
          simp only [Nat.zero_add] at hbut h2 h3
          refine ⟨{ k with w := k.w.setCells c0 off (evT tmps x).cells.toList }, .skip, ⟨hrun q2 h3, rfl, hS.setLocal q4 hbusy hbut, hbut.evo hne (.inr ⟨tt, q4⟩), ?_, rfl, fun d _ hB => hB⟩⟩
          · have hle := hbut.le hne
            intro s u hu
            simp only [upsG] at hu
            by_cases e : s = tt
            · subst e
              simp only [if_true, Option.some.injEq] at hu; subst hu
              exact ⟨c0, q1, q4, h2⟩
            · simp only [e, if_false] at hu
              have := hF s u hu
              cases u with
              | lv cs2 =>
                obtain ⟨c2, p1, p2, p3⟩ := this
                refine ⟨c2, p1, p2, p3.mono hle (hbut.heap c2 ?_) 0 cs2⟩
                rintro rfl
                rw [q4] at p2
                simp only [Option.some.injEq, Own.lv.injEq, true_and] at p2
                exact e p2.symm
              | loc s2 off2 =>
                intro cs2 hcs2
                simp only [upsG] at hcs2
                by_cases e2 : s2 = tt
                · subst e2; exact this _ hg
                · simp only [e2, if_false] at hcs2; exact this cs2 hcs2
              | _ => exact Rep.mono hle _ _ this
        · simp at h
      · -- the heap
        rename_i b off e
        split at h
        · rename_i cs hcs
          simp only [Option.map_eq_some_iff, Prod.mk.injEq] at h
          obtain ⟨cs', hov, _, rfl, rfl⟩ := h
          obtain ⟨q1, _, _⟩ := ptr_rep hS hp' hcs
          obtain ⟨h2, h3, h4, h5⟩ := write_heap hS hF hcs hov hvr hv1
          exact ⟨{ k with w := k.w.setCells (k.σ b).1 ((k.σ b).2 + off) (evT tmps x).cells.toList }, .skip, ⟨hrun q1 h5, rfl, h2, h3, h4, rfl, fun d _ hB => hB⟩⟩
        · simp at h
    · simp at h
  · simp at h

/-- a new block of the clean heap -/
theorem push_new (hS : Sim E k S) (hF : FRep k f g tmps) {cs : List Val} {vs : Array Value} (T : TypeId) (fx : Bool) (m : Nat) (hm : m ≤ vs.size) (w' : World) (hw : w'.heap = k.w.heap) (hos : w'.os = k.w.os) (ht : w'.tape = k.w.tape) (hou : w'.output = k.w.output)
    (hr : ∀ k', k.Le k' → RepAll k' cs (vs.toList.take cs.length)) (h1 : ∀ x ∈ vs.toList, x.oneCell' = true) :
    let k' : K := { k with σ := fun b => if b = S.H.length then (k.w.heap.size, 0) else k.σ b, sh := fun b => if b = S.H.length then some (.cells fx cs.length) else k.sh b,
                           own := fun c => if c = k.w.heap.size then some (.h S.H.length) else k.own c,
                           room := fun b => if b = S.H.length then m else k.room b, w := w'.alloc (.cells vs T) }
    Sim E k' (push S (.cells cs fx)) ∧ Evo k k' (touchF k S.L f) ∧ FRep k' f g tmps ∧ ∀ d, Bound k d → Bound k' d := by
  intro k'
  have hsz : w'.heap.size = k.w.heap.size := by rw [hw]
  have hN : New k k' (some (.h S.H.length)) := {
    lo := rfl
    own := rfl
    lp := rfl
    size := by simp [k', hsz]
    os := hos
    tape := ht
    output := hou
    heap := fun c hc => by
      show (w'.heap.push _)[c]? = _
      rw [Array.getElem?_push, if_neg (by omega), hw] }
  have hsn : k.sh S.H.length = none := by rw [hS.sh]; simp
  have hold : ∀ b s, k.sh b = some s → k'.sh b = some s ∧ k'.σ b = k.σ b ∧ k'.room b = k.room b := by
    intro b s hb
    have ne : b ≠ S.H.length := by intro e; rw [e, hsn] at hb; simp at hb
    simp [k', ne, hb]
  have hle := hN.le hS hold
  have hown : RepOwn k' k.w.heap.size 0 cs := by
    refine RepOwn.mk fun i x hi => ?_
    obtain ⟨v, hv, hx⟩ := (hr k' hle).get hi
    rw [List.getElem?_take] at hv
    have hlt : i < cs.length := (List.getElem?_eq_some_iff.1 hi).1
    rw [if_pos hlt] at hv
    refine ⟨v, ?_, ?_, h1 v (List.mem_of_getElem? hv), hx⟩
    · show (w'.alloc _).cell? _ = _
      rw [← hsz, Nat.zero_add, World.cell?_alloc_new, ← Array.getElem?_toList]; exact hv
    · show (w'.alloc _).frozen? _ = _
      rw [← hsz, World.frozen?_alloc_new]
  obtain ⟨_, hS'⟩ := hS.push (k' := k') (blk := .cells cs fx) hN rfl rfl (fun b hb => by simp [k', hb]) ⟨by simp [k'], by simpa [k'] using hown, fun _ j hj => by
    simp only [k', if_true, Nat.zero_add] at hj ⊢
    have hj' : j < vs.size := by omega
    rw [← hsz, World.cell?_alloc_new, World.frozen?_alloc_new, Array.getElem?_eq_getElem hj']
    exact ⟨rfl, rfl⟩⟩
  refine ⟨hS', hN.evo hS hold _, hF.mono hle fun c t hc => ⟨hN.own_old (hS.ownlt _ _ hc), hN.heap c (hS.ownlt _ _ hc)⟩, fun d hB => hB.new hN (by simp) (by simp)⟩

theorem op_lay (hS : Sim E k S) (hF : FRep k f g tmps) {c : Ctx} {o : Oper} {cs : List Val} {vs : Array Value} {T : TypeId} {r : Res} (h : lay E c S o.dst cs = some r)
    (hr : RepAll k cs vs.toList) (h1 : ∀ x ∈ vs.toList, x.oneCell' = true) (hrun : (execOp (evT tmps) o).run E.P k.w = .ok (.value (.pointer (some ⟨k.w.heap.size, 0, none⟩))) (k.w.alloc (.cells vs T))) :
    OpRes E k S f g tmps o r := by
  unfold lay at h
  split at h
  · split at h
    · simp only [Option.some.injEq] at h; subst h
      have hl := hr.length
      obtain ⟨h2, h3, h4, h5⟩ := push_new (cs := cs) (vs := vs) hS hF T false 0 (Nat.zero_le _) k.w rfl rfl rfl rfl (fun k' hle => by
        rw [List.take_of_length_le (by omega)]; exact hr.mono hle) h1
      refine ⟨_, _, ⟨hrun, ⟨_, rfl, .of ?_⟩, h2, h3, h4, rfl, fun d _ hB => h5 d hB⟩⟩
      simp only [Rep]
      exact ⟨⟨cs.length, by simp⟩, by simp⟩
    · simp only [Option.some.injEq] at h; subst h
      exact ⟨T, vs, hrun, hr, h1⟩
  · simp at h

theorem op_alloc (hS : Sim E k S) (hF : FRep k f g tmps) {c : Ctx} {o : Oper} {e : TypeId} (ho : o.op = .alloc e) {r : Res} (h : opV E c g S o = some r) : OpRes E k S f g tmps o r := by
  simp only [opV, ho] at h
  split at h
  · rename_i z hz
    obtain ⟨zv, hz1, hz2, hz3⟩ := zero_run hz k
    refine op_lay hS hF (T := e) h hz2 hz3 ?_
    simp only [execOp, ho, Instr.alloc, Sem.run_bind, hz1, Result.andThen_ok, newVar, newRow, run_newObj, Sem.run_pure]
    rfl
  · simp at h

theorem op_box (hS : Sim E k S) (hF : FRep k f g tmps) {c : Ctx} {o : Oper} {e : TypeId} {x : Operand} (ho : o.op = .box e x) {r : Res} (h : opV E c g S o = some r) : OpRes E k S f g tmps o r := by
  simp only [opV, ho] at h
  split at h
  · rename_i v hv
    split at h
    · rename_i hst
      obtain ⟨h1, h2⟩ := (ev_rep hS hF hv).1.cells hst
      refine op_lay hS hF (T := e) h h1 h2 ?_
      simp only [execOp, ho, Instr.box, Sem.run_bind, Result.andThen_ok, newVar, newRow, run_newObj, Sem.run_pure]
      rfl
    · simp at h
  · simp at h
end
end Go.V

/- append. -/
namespace Go.V
section
variable {E : Env} {k : K} {S : St} {f : Nat} {g : G} {tmps : Array Value} {w : World}

theorem app_fit {t tx ty e : TypeId} {i : TypeInfo} {d : TypeDesc} (ht : E.und t = some (.slice e)) (hi : E.P.info? e = some i) (htx : E.und tx = some d) (hd : ∀ q, d ≠ .int q)
    {ts : Array TypeId} (h0 : ts[0]? = some t) (h1 : ts[1]? = some tx) {a : Option Addr} {sLen sCap n : Nat} {cx : Value} {vs : Array Value} {w' : World}
    (hlen : (Builtin.lenOf cx).run E.P w = .ok n w) (hroom : sLen + n ≤ sCap) (hf : (Builtin.firstCells i.size n cx).run E.P w = .ok vs w)
    (hst : match a with | some a => (storeCells (a.add (sLen * i.size)) vs.toList).run E.P w = .ok () w' | none => w' = w) :
    (Builtin.append_ ts ty #[.slice a sLen sCap, cx]).run E.P w = .ok (.slice a (sLen + n) sCap) w' := by
  have hu := run_underlying ht
  have hux := run_underlying htx
  have e0 : (#[Value.slice a sLen sCap, cx] : Array Value)[0]? = some (.slice a sLen sCap) := rfl
  have e1 : (#[Value.slice a sLen sCap, cx] : Array Value)[1]? = some cx := rfl
  have hty : ∀ w, (typeInfo e).run E.P w = .ok i w := fun w => by simp [typeInfo, hi]
  have hsz : ∀ w, (sizeOf e).run E.P w = .ok i.size w := fun w => by simp [sizeOf, hty]
  unfold Builtin.append_
  simp only [h0, h1, e0, e1, Sem.run_bind, hu, hux, Result.andThen_ok, hsz, Sem.run_pure]
  simp only [Sem.run_bind, Sem.run_pure, hlen, Result.andThen_ok, Bool.false_eq_true, if_false, hroom, if_true, Bool.not_false, hf]
  cases a with
  | none => simp only at hst; subst hst; simp
  | some a => simp only at hst; simp [hst]

theorem app_grow {t tx ty e : TypeId} {i : TypeInfo} {d : TypeDesc} (ht : E.und t = some (.slice e)) (hi : E.P.info? e = some i) (htx : E.und tx = some d) (hd : ∀ q, d ≠ .int q)
    {ts : Array TypeId} (h0 : ts[0]? = some t) (h1 : ts[1]? = some tx) {a : Option Addr} {sLen sCap n : Nat} {cx : Value} {olds news : Array Value} {zv : Value}
    (hlen : (Builtin.lenOf cx).run E.P w = .ok n w) (hroom : sCap < sLen + n) (hold : (Builtin.firstCells i.size sLen (.slice a sLen sCap)).run E.P w.drew = .ok olds w.drew)
    (hnew : (Builtin.firstCells i.size n cx).run E.P w.drew = .ok news w.drew) (hz : (zeroValue e).run E.P w.drew = .ok zv w.drew)
    (h63 : sLen + n ≤ 2 ^ 46) (hb : (sLen + n) * i.bytes ≤ 2 ^ 46) :
    (Builtin.append_ ts ty #[.slice a sLen sCap, cx]).run E.P w = .ok (.slice (some ⟨w.heap.size, 0, none⟩) (sLen + n) (grownCap w (sLen + n) sCap e))
      (w.drew.alloc (.cells (olds ++ news ++ Builtin.zeroCells zv.cells (grownCap w (sLen + n) sCap e - (sLen + n))) e)) := by
  have hu := run_underlying ht
  have hux := run_underlying htx
  have e0 : (#[Value.slice a sLen sCap, cx] : Array Value)[0]? = some (.slice a sLen sCap) := rfl
  have e1 : (#[Value.slice a sLen sCap, cx] : Array Value)[1]? = some cx := rfl
  have hn : ¬ (sLen + n ≤ sCap) := by omega
  have h63' : ¬ ((9223372036854775807 : Int) < ((sLen : Int) + (n : Int))) := by omega
  have hfit := growslice_fits hroom (show (sLen + n) * i.bytes ≤ 140737488355328 by omega)
  have h48' : ¬ (281474976710656 < Builtin.nextslicecap (sLen + n) sCap * i.bytes) := by omega
  have hty : ∀ w, (typeInfo e).run E.P w = .ok i w := fun w => by simp [typeInfo, hi]
  have hsz : ∀ w, (sizeOf e).run E.P w = .ok i.size w := fun w => by simp [sizeOf, hty]
  unfold Builtin.append_
  simp only [h0, h1, e0, e1, Sem.run_bind, hu, hux, Result.andThen_ok, hsz, Sem.run_pure]
  simp [hty, hlen, hn, h63', h48', Question.forced, hold, hnew, hz, newRow, grownCap]

/-- what a call of a builtin comes to -/
def RunsTo (E : Env) (k : K) (S : St) (f : Nat) (g : G) (tmps : Array Value) (s : Sem Value) (v : Val) (S' : St) : Prop :=
  ∃ k' cv, s.run E.P k.w = .ok cv k'.w ∧ Rep k' v cv ∧ Sim E k' S' ∧ Evo k k' (touchF k S.L f) ∧ FRep k' f g tmps ∧ S'.L = S.L ∧ ∀ d, Bound k d → Bound k' d

theorem drew_sim (hS : Sim E k S) : k.Le { k with w := k.w.drew } ∧ Sim E { k with w := k.w.drew } S :=
  hS.world rfl rfl rfl rfl rfl rfl (Nat.le_refl _) fun _ _ => rfl

theorem grow_new (hS : Sim E k S) (hF : FRep k f g tmps) {cs : List Val} {vs : Array Value} {e : TypeId} {n cap sz : Nat} (hr : RepAll k cs (vs.toList.take cs.length)) (h1 : ∀ x ∈ vs.toList, x.oneCell' = true)
    (hl : cs.length = n * sz) (hn : n ≤ cap) (hv : vs.size = cap * sz) :
    ∃ k', k'.w = k.w.drew.alloc (.cells vs e) ∧ Rep k' (.sl S.H.length 0 n sz (.flex cs.length)) (.slice (some ⟨k.w.heap.size, 0, none⟩) n cap) ∧
      Sim E k' (push S (.cells cs true)) ∧ Evo k k' (touchF k S.L f) ∧ FRep k' f g tmps ∧ ∀ d, Bound k d → Bound k' d := by
  obtain ⟨h2, h3, h4, h5⟩ := push_new (cs := cs) (vs := vs) hS hF e true (cap * sz) (by omega) k.w.drew rfl rfl rfl rfl (fun k' hle => hr.mono hle) h1
  refine ⟨_, rfl, ?_, h2, h3, h4, h5⟩
  simp only [Rep]
  refine ⟨cs.length, _, cap, by simp, Nat.le_refl _, rfl, fun _ => ⟨by simp, hn, ?_, by simp⟩⟩
  rw [hl, Nat.zero_add]
  exact Nat.mul_le_mul_right _ hn

/-- a grown block goes to a new place -/
theorem regrow_new (hS : Sim E k S) (hF : FRep k f g tmps) {b : Nat} {cs0 cs : List Val} (hb : S.H[b]? = some (.cells cs0 true)) (hlt : cs0.length < cs.length)
    {vs : Array Value} {e : TypeId} {n cap sz : Nat} (hr : RepAll k cs (vs.toList.take cs.length)) (h1 : ∀ x ∈ vs.toList, x.oneCell' = true)
    (hl : cs.length = n * sz) (hn : n ≤ cap) (hv : vs.size = cap * sz) :
    ∃ k', k'.w = k.w.drew.alloc (.cells vs e) ∧ Rep k' (.sl b 0 n sz (.flex cs.length)) (.slice (some ⟨k.w.heap.size, 0, none⟩) n cap) ∧
      Sim E k' { S with H := S.H.set b (.cells cs true) } ∧ Evo k k' (touchF k S.L f) ∧ FRep k' f g tmps ∧ ∀ d, Bound k d → Bound k' d := by
  let k' : K := { k with σ := fun x => if x = b then (k.w.heap.size, 0) else k.σ x, sh := fun x => if x = b then some (.cells true cs.length) else k.sh x,
                         own := fun c => if c = k.w.heap.size then some (.h b) else k.own c,
                         room := fun x => if x = b then cap * sz else k.room x, w := k.w.drew.alloc (.cells vs e) }
  have hsz : k.w.drew.heap.size = k.w.heap.size := rfl
  have hN : New k k' (some (.h b)) := {
    lo := rfl
    own := rfl
    lp := rfl
    size := by simp [k']
    os := rfl
    tape := rfl
    output := rfl
    heap := fun c hc => by
      show (k.w.drew.heap.push _)[c]? = _
      rw [Array.getElem?_push, if_neg (by omega)]; rfl }
  have hle : k.Le k' := by
    refine ⟨?_, fun l hl => ⟨rfl, by rw [hN.own_old (hS.ownlt _ _ hl)]; exact hl, rfl⟩, fun c hc hn => ⟨by rw [hN.own_old hc]; exact hn, hN.heap c hc⟩⟩
    intro x s hx
    by_cases e1 : x = b
    · subst e1
      rw [hS.sh, hb] at hx
      simp only [Option.map_some, Block.shape, Option.some.injEq] at hx
      exact .inr ⟨cs0.length, cs.length, hx.symm, by simp [k'], hlt⟩
    · exact .inl ⟨by simp [k', e1, hx], by simp [k', e1], by simp [k', e1]⟩
  have hown : RepOwn k' k.w.heap.size 0 cs := by
    refine RepOwn.mk fun i x hi => ?_
    obtain ⟨v, hv', hx⟩ := (hr.mono hle).get hi
    rw [List.getElem?_take] at hv'
    have hlt' : i < cs.length := (List.getElem?_eq_some_iff.1 hi).1
    rw [if_pos hlt'] at hv'
    refine ⟨v, ?_, ?_, h1 v (List.mem_of_getElem? hv'), hx⟩
    · show (k.w.drew.alloc _).cell? _ = _
      rw [← hsz, Nat.zero_add, World.cell?_alloc_new, ← Array.getElem?_toList]; exact hv'
    · show (k.w.drew.alloc _).frozen? _ = _
      rw [← hsz, World.frozen?_alloc_new]
  obtain ⟨_, hS'⟩ := hS.regrow (k' := k') hb hN rfl rfl (fun x hx => by simp [k', hx]) hlt ⟨by simp [k'], by simpa [k'] using hown, fun _ j hj => by
    simp only [k', if_true, Nat.zero_add] at hj ⊢
    have hj' : j < vs.size := by omega
    rw [← hsz, World.cell?_alloc_new, World.frozen?_alloc_new, Array.getElem?_eq_getElem hj']
    exact ⟨rfl, rfl⟩⟩
  refine ⟨k', rfl, ?_, hS', ⟨hle, rfl, rfl, rfl, by rw [hN.size]; omega, fun c hc _ => ⟨hN.own_old hc, hN.heap c hc⟩⟩, hF.mono hle fun c t hc => ⟨hN.own_old (hS.ownlt _ _ hc), hN.heap c (hS.ownlt _ _ hc)⟩, fun d hB => hB.new hN (by simp) (by simp)⟩
  simp only [Rep]
  refine ⟨cs.length, _, cap, by simp [k'], Nat.le_refl _, rfl, fun _ => ⟨by simp [k'], hn, ?_, by simp [k']⟩⟩
  rw [hl, Nat.zero_add]
  exact Nat.mul_le_mul_right _ hn

/-- a grown block is longer by now, where it lies -/
theorem extend_in (hS : Sim E k S) (hF : FRep k f g tmps) {b : Nat} {cs0 old new : List Val} (hb : S.H[b]? = some (.cells cs0 true)) (hlt : cs0.length < (old ++ new).length)
    (hold : ∀ (i : Nat) (x : Val), old[i]? = some x → cs0[i]? = some x) {vs : List Value} (hr : RepAll k new vs) (h1 : ∀ x ∈ vs, x.oneCell' = true)
    (hroom : (old ++ new).length ≤ k.room b) {n cap sz : Nat} (hl : (old ++ new).length = n * sz) (hn : n ≤ cap) (hcap : cap * sz ≤ k.room b) :
    ∃ k', k'.w = k.w.setCells (k.σ b).1 ((k.σ b).2 + old.length) vs ∧ (storeCells ⟨(k.σ b).1, (k.σ b).2 + old.length, none⟩ vs).run E.P k.w = .ok () k'.w ∧
      Rep k' (.sl b 0 n sz (.flex (old ++ new).length)) (.slice (some ⟨(k.σ b).1, (k.σ b).2, none⟩) n cap) ∧
      Sim E k' { S with H := S.H.set b (.cells (old ++ new) true) } ∧ Evo k k' (touchF k S.L f) ∧ FRep k' f g tmps ∧ ∀ d, Bound k d → Bound k' d := by
  have hB := hS.blk b _ hb
  have hown : k.own (k.σ b).1 = some (.h b) := hB.1
  have hne : k.own (k.σ b).1 ≠ none := by rw [hown]; simp
  let k1 : K := { k with w := k.w.setCells (k.σ b).1 ((k.σ b).2 + old.length) vs }
  let k' : K := { k1 with sh := fun x => if x = b then some (.cells true (old ++ new).length) else k.sh x }
  have hbut : But k k1 (k.σ b).1 := setCells_but k _ _ _
  have hlen := hr.length
  simp only [List.length_append] at hroom hlt
  have hthere : ∀ j, j < vs.length → (k.w.cell? ⟨(k.σ b).1, (k.σ b).2 + old.length + j, none⟩).isSome = true ∧ k.w.frozen? ⟨(k.σ b).1, (k.σ b).2 + old.length + j, none⟩ = false := by
    intro j hj
    rw [Nat.add_assoc]
    exact hB.2.2 rfl _ (by omega)
  have hst := run_storeCells_cells (P := E.P) (k.σ b).1 ((k.σ b).2 + old.length) vs 0 k.w (fun j hj => by simpa using (hthere j hj).1) (fun j hj => by simpa using (hthere j hj).2) h1
  simp only [Nat.add_zero] at hst
  have hle : k.Le k' := by
    have h0 := hbut.le hne
    refine ⟨?_, h0.loop, h0.inl⟩
    intro x s hx
    by_cases e : x = b
    · subst e
      rw [hS.sh, hb] at hx
      simp only [Option.map_some, Block.shape, Option.some.injEq] at hx
      exact .inr ⟨cs0.length, (old ++ new).length, hx.symm, by simp [k'], by simpa using hlt⟩
    · exact .inl ⟨by simp [k', e, hx], rfl, rfl⟩
  have hblk : BRep k' b (.cells (old ++ new) true) := by
    refine ⟨hown, RepOwn.mk fun i x hi => ?_, fun _ j hj => ?_⟩
    · have hfz : k'.w.frozen? ⟨(k'.σ b).1, (k'.σ b).2 + i, none⟩ = k.w.frozen? ⟨(k.σ b).1, (k.σ b).2 + i, none⟩ := World.frozen?_setCells _ _ _ _ _
      by_cases hin : i < old.length
      · rw [List.getElem?_append_left hin] at hi
        obtain ⟨v, p1, p2, p3, p4⟩ := hB.2.1.get (hold i x hi)
        refine ⟨v, ?_, by rw [hfz]; exact p2, p3, p4.mono hle⟩
        show (k.w.setCells _ _ _).cell? ⟨(k.σ b).1, (k.σ b).2 + i, none⟩ = _
        rw [World.cell?_setCells_out _ _ _ _ _ (fun _ _ => by simp; omega)]
        exact p1
      · rw [List.getElem?_append_right (by omega)] at hi
        obtain ⟨v, p1, p2⟩ := hr.get hi
        have hj : i - old.length < vs.length := (List.getElem?_eq_some_iff.1 p1).1
        have p3 := World.cell?_setCells_in (k.σ b).1 vs ((k.σ b).2 + old.length) k.w (fun j hj => (hthere j hj).1) (i - old.length) hj
        have p5 := (hthere (i - old.length) hj).2
        rw [show (k.σ b).2 + old.length + (i - old.length) = (k.σ b).2 + i by omega] at p3 p5
        have p4 : vs[i - old.length] = v := by rw [List.getElem?_eq_getElem hj] at p1; simpa using p1
        exact ⟨v, by rw [← p4]; exact p3, by rw [hfz]; exact p5, h1 v (List.mem_of_getElem? p1), p2.mono hle⟩
    · show ((k.w.setCells _ _ _).cell? _).isSome = true ∧ (k.w.setCells _ _ _).frozen? _ = false
      rw [isSome_setCells, World.frozen?_setCells]
      exact hB.2.2 rfl j hj
  obtain ⟨_, hS'⟩ := hS.extend (k' := k') (cs' := old ++ new) hb hbut rfl (by simpa using hlt) hblk
  have hev := hbut.evo hne (T := touchF k S.L f) (.inl (by unfold touch; rw [hown]; trivial))
  refine ⟨k', rfl, hst, ?_, hS', ⟨hle, hev.os, hev.tape, hev.output, hev.size, hev.keep⟩, ?_, fun d hBd => hBd⟩
  · simp only [Rep]
    refine ⟨(old ++ new).length, _, cap, by simp [k'], Nat.le_refl _, rfl, fun _ => ⟨rfl, hn, ?_, by simpa [k', k1] using hcap⟩⟩
    rw [hl, Nat.zero_add]
    exact Nat.mul_le_mul_right _ hn
  · refine hF.mono hle fun c t hc => ⟨rfl, hbut.heap c ?_⟩
    rintro rfl
    rw [hown] at hc; simp at hc
end
end Go.V

/- append, its arms put together. -/
namespace Go.V
section
variable {E : Env} {k : K} {S : St} {f : Nat} {g : G} {tmps : Array Value} {w : World}

theorem zero_size {z : List Val} {zv : Value} {n : Nat} (h : RepAll k z zv.cells.toList) (hz : z.length = n) : zv.cells.size = n := by
  have := h.length; simp at this; omega

theorem zeroCells_one {zs : Array Value} (h : ∀ x ∈ zs.toList, x.oneCell' = true) (n : Nat) : ∀ x ∈ (Builtin.zeroCells zs n).toList, x.oneCell' = true := by
  have := repeat_one h n
  simpa [Builtin.zeroCells] using this

theorem append_run (hS : Sim E k S) (hF : FRep k f g tmps) {t tx ty : TypeId} {d : TypeDesc} (htx : E.und tx = some d) (hd : ∀ q, d ≠ .int q) {ts : Array TypeId} (h0 : ts[0]? = some t) (h1 : ts[1]? = some tx)
    {s x v : Val} {c : Cls} {S' : St} {cs cx : Value} (h : appendOp E S t s x = some (v, c, S')) (hs : Rep k s cs) (hx : Rep k x cx) :
    RunsTo E k S f g tmps (Builtin.append_ ts ty #[cs, cx]) v S' := by
  unfold appendOp at h
  split at h
  · rename_i e hu
    split at h
    · rename_i i z hi hz
      split at h
      · rename_i n new cn len old co hnew hold
        obtain ⟨hlx, hnl, hxr⟩ := slice_read hS hnew hx
        obtain ⟨hls, hol, hsr⟩ := slice_read hS hold hs
        obtain ⟨hdl, hSd⟩ := drew_sim hS
        obtain ⟨nvs, hn1, hn2, hn3⟩ := hxr n (Nat.le_refl _)
        obtain ⟨_, _, hxr'⟩ := slice_read hSd hnew (hx.mono hdl)
        obtain ⟨nvs', hn1', hn2', hn3'⟩ := hxr' n (Nat.le_refl _)
        obtain ⟨_, _, hsr'⟩ := slice_read hSd hold (hs.mono hdl)
        obtain ⟨ovs, ho1, ho2, ho3⟩ := hsr' len (Nat.le_refl _)
        rw [List.take_of_length_le (by omega)] at hn2 hn2' ho2
        obtain ⟨zv, hz1, hz2, hz3⟩ := zero_run hz k
        have hdl' : K.Le { k with w := k.w.drew } k := ⟨fun b s h => .inl ⟨h, rfl, rfl⟩, fun l h => ⟨rfl, h, rfl⟩, fun c _ hn => ⟨hn, rfl⟩⟩
        replace ho2 := ho2.mono hdl'
        replace hn2' := hn2'.mono hdl'
        split at h
        · -- nothing is appended
          rename_i hn0; subst hn0
          have hsv : ∃ a cap, cs = .slice a len cap ∧ len ≤ cap := by
            unfold cellsOfSlice at hold
            split at hold
            · simp only [Option.map_eq_some_iff, Prod.mk.injEq] at hold
              obtain ⟨_, _, rfl, _⟩ := hold
              simp only [Rep] at hs
              obtain ⟨a, cp, h1, h2, _⟩ := hs
              exact ⟨a, cp, h1, h2⟩
            · split at hold
              · rename_i hcs
                simp only [Option.map_eq_some_iff, Prod.mk.injEq] at hold
                obtain ⟨_, _, rfl, _⟩ := hold
                obtain ⟨cap, h1, h2, _⟩ := sl_rep hS hs hcs
                exact ⟨_, cap, h1, h2⟩
              · simp at hold
            · simp at h
            · simp at hold
          obtain ⟨a, cap, rfl, hcap⟩ := hsv
          have hvs : v = s ∧ S' = S := by
            split at h <;> simp only [Option.some.injEq, Prod.mk.injEq, reduceCtorEq] at h
            · exact ⟨h.1.symm, h.2.2.symm⟩
            · exact ⟨h.1.symm, h.2.2.symm⟩
          obtain ⟨rfl, rfl⟩ := hvs
          have hnil : nvs.toList = [] := List.eq_nil_of_length_eq_zero (by rw [← hn2.length, hnl]; omega)
          refine ⟨k, _, app_fit hu hi htx hd h0 h1 (hlx _) (by omega) hn1 ?_, by simpa using hs, hS, .refl _ _, hF, rfl, fun _ h => h⟩
          cases a with
          | none => rfl
          | some a => simp [hnil, storeCells]
        · rename_i hn0
          split at h
          · rename_i hlim
            obtain ⟨hb, h46, hsz, hzl⟩ := hlim
            have hzs := zero_size hz2 hzl
            -- a fresh block
            have fresh : ∀ (a : Option Addr) (cap : Nat), cs = .slice a len cap → cap < len + n → (v, c, S') = grown S (len + n) i.size (old ++ new) →
                RunsTo E k S f g tmps (Builtin.append_ ts ty #[cs, cx]) v S' := by
              rintro a cap rfl hcap hgr
              simp only [grown, Prod.mk.injEq] at hgr
              obtain ⟨rfl, _, rfl⟩ := hgr
              have hge := grownCap_ge k.w (len + n) cap e
              have hll : (old ++ new).length = (len + n) * i.size := by rw [List.length_append, hol, hnl, Nat.add_mul]
              have hal := (ho2.append hn2').length
              obtain ⟨k', hk', p1, p2, p3, p4, p5⟩ := grow_new (e := e) (cs := old ++ new) (vs := ovs ++ nvs' ++ Builtin.zeroCells zv.cells (grownCap k.w (len + n) cap e - (len + n))) (n := len + n) (cap := grownCap k.w (len + n) cap e) (sz := i.size)
                hS hF (by
                  have hr0 := ho2.append hn2'
                  have : ((ovs ++ nvs' ++ Builtin.zeroCells zv.cells (grownCap k.w (len + n) cap e - (len + n))).toList.take (old ++ new).length) = ovs.toList ++ nvs'.toList := by
                    rw [Array.toList_append, Array.toList_append, hal]
                    exact List.take_left
                  rw [this]
                  exact hr0) (by
                  intro y hy
                  simp only [Array.toList_append, List.mem_append] at hy
                  rcases hy with (hy | hy) | hy
                  · exact ho3 y hy
                  · exact hn3' y hy
                  · exact zeroCells_one hz3 _ y hy) hll hge (by
                  have e1 : ovs.size = len * i.size := by have := ho2.length; simp at this; omega
                  have e2 : nvs'.size = n * i.size := by have := hn2'.length; simp at this; omega
                  rw [Array.size_append, Array.size_append, size_zeroCells, hzs, e1, e2, ← Nat.add_mul, ← Nat.add_mul]
                  congr 1; omega)
              refine ⟨k', _, ?_, p1, p2, p3, p4, rfl, p5⟩
              rw [hk']
              exact app_grow hu hi htx hd h0 h1 (hlx _) hcap ho1 hn1' (hz1 _) h46 hb
            have e1 : ovs.size = len * i.size := by have := ho2.length; simp at this; omega
            have e2 : nvs'.size = n * i.size := by have := hn2'.length; simp at this; omega
            have hll : (old ++ new).length = (len + n) * i.size := by rw [List.length_append, hol, hnl, Nat.add_mul]
            split at h
            · -- nil
              simp only [cellsOfSlice, Option.map_eq_some_iff, Prod.mk.injEq] at hold
              obtain ⟨_, _, rfl, _⟩ := hold
              simp only [Rep] at hs
              obtain ⟨a, cp, rfl, q1, q2, _⟩ := hs
              obtain ⟨_, rfl⟩ := q2 trivial
              simp only [Option.some.injEq] at h
              exact fresh a 0 rfl (by omega) h.symm
            · -- exact
              simp only [cellsOfSlice, Option.map_eq_some_iff, Prod.mk.injEq] at hold
              obtain ⟨_, _, rfl, _⟩ := hold
              simp only [Rep] at hs
              obtain ⟨a, cp, rfl, q1, _, q2, _⟩ := hs
              obtain ⟨rfl, _⟩ := (⟨q2.1 trivial, q2.2 (by simp)⟩ : _ ∧ _)
              simp only [Option.some.injEq] at h
              exact fresh a _ rfl (by omega) h.symm
            · -- in the heap, fixed
              rename_i b off l0 es0 cp
              simp only [cellsOfSlice] at hold
              split at hold
              · rename_i cs1 hcs1
                simp only [Option.map_eq_some_iff, Prod.mk.injEq] at hold
                obtain ⟨_, hcut, rfl, rfl, _⟩ := hold
                obtain ⟨cap, rfl, q1, q2, q3, q4⟩ := sl_rep hS hs hcs1
                obtain rfl := q2 cp rfl
                split at h
                · rename_i hroom
                  split at h
                  · rename_i cs2 hcs2
                    split at h
                    · rename_i cs3 hov
                      simp only [Option.some.injEq, Prod.mk.injEq] at h
                      obtain ⟨rfl, _, rfl⟩ := h
                      obtain ⟨p1, p2, p3, p4⟩ := write_heap hS hF hcs2 hov hn2 hn3
                      refine ⟨_, _, app_fit hu hi htx hd h0 h1 (hlx _) hroom hn1 (by simpa only [Addr.add_mid, Nat.add_assoc] using p4), ?_, p1, p2, p3, rfl, fun _ h => h⟩
                      have := hs.mono p2.le
                      simp only [Rep] at this ⊢
                      obtain ⟨t1, t2, t3⟩ := this
                      exact ⟨t1, by simp, hroom⟩
                    · simp at h
                  · simp at h
                · simp only [Option.some.injEq] at h
                  exact fresh _ _ rfl (by omega) h.symm
              · simp at hold
            · -- grown before
              rename_i b off l0 es0 ex
              split at h
              · rename_i hes; subst hes
                simp only [cellsOfSlice, Cap.ext] at hold
                split at h
                · rename_i cs2 hcs2
                  rw [hcs2] at hold
                  simp only [Option.map_eq_some_iff, Prod.mk.injEq] at hold
                  obtain ⟨o', hcut, rfl, ho', _⟩ := hold
                  rw [ho'] at hcut
                  obtain ⟨hb2, hx2⟩ := hcells_some hcs2
                  have hx2 := hx2 ex rfl
                  have hs' := hs
                  simp only [Rep] at hs'
                  obtain ⟨n0, p0, cap, r1, r2, rfl, r4⟩ := hs'
                  rw [hS.sh, hb2] at r1
                  simp only [Option.map_some, Block.shape, Option.isSome_some, Option.some.injEq, Shape.cells.injEq, true_and] at r1
                  obtain ⟨rfl, r5, r6, r7⟩ := r4 (by omega)
                  split at h
                  · rename_i hfit
                    split at h
                    · rename_i cs3 hov
                      simp only [Option.some.injEq, Prod.mk.injEq] at h
                      obtain ⟨rfl, _, rfl⟩ := h
                      obtain ⟨p1, p2, p3, p4⟩ := write_heap hS hF hcs2 hov hn2 hn3
                      have hroom : l0 + n ≤ cap := by
                        have : (l0 + n) * i.size ≤ cap * i.size := by rw [Nat.add_mul]; omega
                        exact Nat.le_of_mul_le_mul_right this hsz
                      refine ⟨_, _, app_fit hu hi htx hd h0 h1 (hlx _) hroom hn1 (by simpa only [Addr.add_mid, Nat.add_assoc] using p4), ?_, p1, p2, p3, rfl, fun _ h => h⟩
                      simp only [Rep]
                      refine ⟨ex, _, cap, ?_, Nat.le_refl _, rfl, fun _ => ⟨rfl, hroom, r6, r7⟩⟩
                      show k.sh b = _
                      rw [hS.sh, hb2]; simp [Block.shape, hx2]
                    · simp at h
                  · rename_i hnofit
                    split at h
                    · rename_i hoff; subst hoff
                      simp only [Option.some.injEq, Prod.mk.injEq] at h
                      obtain ⟨rfl, _, rfl⟩ := h
                      have hlt : cs2.length < (old ++ new).length := by rw [List.length_append, hol, hnl, hx2]; omega
                      by_cases hroom : l0 + n ≤ cap
                      · have hlr : (old ++ new).length ≤ k.room b := by
                          rw [hll]
                          have := Nat.mul_le_mul_right i.size hroom
                          omega
                        obtain ⟨k', hk', p0, p1, p2, p3, p4, p5⟩ := extend_in (old := old) (new := new) (n := l0 + n) (cap := cap) (sz := i.size) hS hF hb2 hlt (by
                          intro j x hj
                          unfold V.cut at hcut
                          split at hcut
                          · simp only [Option.some.injEq] at hcut; subst hcut
                            rw [List.getElem?_take] at hj
                            split at hj
                            · simpa using hj
                            · simp at hj
                          · simp at hcut) hn2 hn3 hlr hll hroom (by omega)
                        refine ⟨k', _, app_fit hu hi htx hd h0 h1 (hlx _) hroom hn1 (by rw [hol] at p0; simpa only [Addr.add_mid, Nat.add_assoc, Nat.add_zero] using p0), by simpa using p1, p2, p3, p4, rfl, p5⟩
                      · have hge := grownCap_ge k.w (l0 + n) cap e
                        have hal := (ho2.append hn2').length
                        obtain ⟨k', hk', p1, p2, p3, p4, p5⟩ := regrow_new (e := e) (cs := old ++ new) (vs := ovs ++ nvs' ++ Builtin.zeroCells zv.cells (grownCap k.w (l0 + n) cap e - (l0 + n))) (n := l0 + n) (cap := grownCap k.w (l0 + n) cap e) (sz := i.size)
                          hS hF hb2 hlt (by
                            have hr0 := ho2.append hn2'
                            have : ((ovs ++ nvs' ++ Builtin.zeroCells zv.cells (grownCap k.w (l0 + n) cap e - (l0 + n))).toList.take (old ++ new).length) = ovs.toList ++ nvs'.toList := by
                              rw [Array.toList_append, Array.toList_append, hal]
                              exact List.take_left
                            rw [this]
                            exact hr0) (by
                            intro y hy
                            simp only [Array.toList_append, List.mem_append] at hy
                            rcases hy with (hy | hy) | hy
                            · exact ho3 y hy
                            · exact hn3' y hy
                            · exact zeroCells_one hz3 _ y hy) hll hge (by
                            rw [Array.size_append, Array.size_append, size_zeroCells, hzs, e1, e2, ← Nat.add_mul, ← Nat.add_mul]
                            congr 1; omega)
                        refine ⟨k', _, ?_, p1, p2, p3, p4, rfl, p5⟩
                        rw [hk']
                        exact app_grow hu hi htx hd h0 h1 (hlx _) (by omega) ho1 hn1' (hz1 _) h46 hb
                    · simp at h
                · simp at h
              · simp at h
            · simp at h
          · simp at h
      · simp at h
    · simp at h
  · simp at h
end
end Go.V

/- The builtins and what makes memory. -/
namespace Go.V
section
variable {E : Env} {k : K} {S : St} {f : Nat} {g : G} {tmps : Array Value} {w : World}

theorem OpRes.runs {o : Oper} {s : Sem Value} {v : Val} {S' : St} {c : Cls} (h : RunsTo E k S f g tmps s v S') (hs : ∀ cv w', s.run E.P k.w = .ok cv w' → (execOp (evT tmps) o).run E.P k.w = .ok (.value cv) w') :
    OpRes E k S f g tmps o (.val (some v) c [] S') := by
  obtain ⟨k', cv, h1, h2, h3, h4, h5, h6, h7⟩ := h
  exact ⟨k', _, ⟨hs _ _ h1, ⟨cv, rfl, .of h2⟩, h3, h4, h5, h6, fun d _ hB => h7 d hB⟩⟩

theorem copy_run (hS : Sim E k S) (hF : FRep k f g tmps) {t ty : TypeId} {ts : Array TypeId} (h0 : ts[0]? = some t) {d s v : Val} {S' : St} {cd cx : Value}
    (h : copyOp E t S d s = some (v, S')) (hd : Rep k d cd) (hx : Rep k s cx) : RunsTo E k S f g tmps (Builtin.copy_ ts ty #[cd, cx]) v S' := by
  unfold copyOp at h
  split at h
  · rename_i e hu
    split at h
    · rename_i sz hsz
      split at h
      · rename_i n new cn hnew
        obtain ⟨hlx, hnl, hxr⟩ := slice_read hS hnew hx
        split at h
        · rename_i b off len es c
          split at h
          · rename_i cs hcs
            split at h
            · rename_i cs' hov
              simp only [Option.some.injEq, Prod.mk.injEq] at h
              obtain ⟨rfl, rfl⟩ := h
              obtain ⟨nvs, hn1, hn2, hn3⟩ := hxr (min n len) (Nat.min_le_left _ _)
              obtain ⟨cap, rfl, _⟩ := sl_rep hS hd hcs
              obtain ⟨p1, p2, p3, p4⟩ := write_heap hS hF hcs hov hn2 hn3
              have e0 : (#[Value.slice (some ⟨(k.σ b).1, (k.σ b).2 + off, none⟩) len cap, cx] : Array Value)[0]? = some (.slice (some ⟨(k.σ b).1, (k.σ b).2 + off, none⟩) len cap) := rfl
              have e1 : (#[Value.slice (some ⟨(k.σ b).1, (k.σ b).2 + off, none⟩) len cap, cx] : Array Value)[1]? = some cx := rfl
              refine ⟨{ k with w := k.w.setCells (k.σ b).1 ((k.σ b).2 + off) nvs.toList }, goInt (min n len : Nat), ?_, by simp only [Rep, goInt]; congr 1; omega, p1, p2, p3, rfl, fun _ h => h⟩
              unfold Builtin.copy_
              simp only [h0, e0, e1, Sem.run_bind, run_underlying hu, Result.andThen_ok, hlx, run_size hsz]
              show ((Builtin.firstCells sz (min n len) cx).run E.P k.w).andThen _ = _
              rw [hn1]
              simp only [Result.andThen_ok, p4, Sem.run_pure]
            · simp at h
          · simp at h
        · simp at h
      · simp at h
    · simp at h
  · simp at h

theorem clear_run (hS : Sim E k S) (hF : FRep k f g tmps) {t ty : TypeId} {ts : Array TypeId} (h0 : ts[0]? = some t) {d : Val} {S' : St} {cd : Value}
    (h : clearOp E t S d = some S') (hd : Rep k d cd) : RunsTo E k S f g tmps (Builtin.clear_ ts ty #[cd]) (.tup []) S' := by
  unfold clearOp at h
  split at h
  · rename_i e hu
    split at h
    · rename_i z hz
      split at h
      · rename_i b off len es c
        split at h
        · rename_i cs hcs
          simp only [Option.map_eq_some_iff] at h
          obtain ⟨cs', hov, rfl⟩ := h
          obtain ⟨cap, rfl, _⟩ := sl_rep hS hd hcs
          obtain ⟨zv, hz1, hz2, hz3⟩ := zero_run hz k
          have hr : RepAll k (repeatCells z len) (Builtin.zeroCells zv.cells len).toList := by simpa [Builtin.zeroCells] using repeat_rep hz2 len
          obtain ⟨p1, p2, p3, p4⟩ := write_heap hS hF hcs hov hr (zeroCells_one hz3 len)
          have e0 : (#[Value.slice (some ⟨(k.σ b).1, (k.σ b).2 + off, none⟩) len cap] : Array Value)[0]? = some (.slice (some ⟨(k.σ b).1, (k.σ b).2 + off, none⟩) len cap) := rfl
          refine ⟨{ k with w := k.w.setCells (k.σ b).1 ((k.σ b).2 + off) (Builtin.zeroCells zv.cells len).toList }, .tuple #[], ?_, by simp only [Rep]; exact ⟨#[], rfl, by simp [RepAll]⟩, p1, p2, p3, rfl, fun _ h => h⟩
          unfold Builtin.clear_
          simp only [h0, e0, Sem.run_bind, run_underlying hu, Result.andThen_ok]
          cases len with
          | zero =>
            simp only [Sem.run_pure]
            simp [Builtin.zeroCells, World.setCells]
          | succ m => simp only [hz1, Sem.run_bind, Result.andThen_ok, p4, Sem.run_pure]
        · simp at h
      · simp at h
    · simp at h
  · simp at h

theorem makeSlice_run (hS : Sim E k S) (hF : FRep k f g tmps) {t : TypeId} {a b v : Val} {S' : St} {ca cb : Value}
    (h : makeSliceOp E t S a b = some (v, S')) (ha : Rep k a ca) (hb : Rep k b cb) : RunsTo E k S f g tmps (Instr.makeSlice t ca cb) v S' := by
  unfold makeSliceOp at h
  split at h
  · rename_i e q l q' c hu
    split at h
    · rename_i i z hi hz
      split at h
      · rename_i hc
        obtain ⟨rfl, rfl, h1, h2, h3, h4, h5, h6⟩ := hc
        simp only [Option.some.injEq, Prod.mk.injEq] at h
        obtain ⟨rfl, rfl⟩ := h
        simp only [Rep] at ha hb
        subst ha; subst hb
        obtain ⟨zv, hz1, hz2, hz3⟩ := zero_run hz k
        have hzs := zero_size hz2 h5
        have wl : IntKind.i64.wrap l = l := by simp [IntKind.wrap, IntKind.bits, IntKind.signed]; omega
        have wc : IntKind.i64.wrap c = c := by simp [IntKind.wrap, IntKind.bits, IntKind.signed]; omega
        have hty : ∀ w, (typeInfo e).run E.P w = .ok i w := fun w => by simp [typeInfo, hi]
        have hsz : ∀ w, (sizeOf e).run E.P w = .ok i.size w := fun w => by simp [sizeOf, hty]
        have hr : RepAll k (repeatCells z c.toNat) ((Array.range (c.toNat * i.size)).map fun j => zv.cells[j % zv.cells.size]!).toList := by
          have := repeat_rep hz2 c.toNat; rw [hzs] at this ⊢; simpa using this
        have h1' : ∀ x ∈ ((Array.range (c.toNat * i.size)).map fun j => zv.cells[j % zv.cells.size]!).toList, x.oneCell' = true := by
          have := repeat_one hz3 c.toNat; rw [hzs] at this ⊢; simpa using this
        have hlen := hr.length
        obtain ⟨p1, p2, p3, p4⟩ := push_new (cs := repeatCells z c.toNat) (vs := (Array.range (c.toNat * i.size)).map fun j => zv.cells[j % zv.cells.size]!) hS hF e false 0 (Nat.zero_le _) k.w rfl rfl rfl rfl (fun k' hle => by
          rw [List.take_of_length_le (by omega)]; exact hr.mono hle) h1'
        refine ⟨_, .slice (some ⟨k.w.heap.size, 0, none⟩) l.toNat c.toNat, ?_, ?_, p1, p2, p3, rfl, p4⟩
        · have t1 : ¬ (c < 0) := by omega
          have t2 : ¬ ((i.bytes : Int) * c > 2 ^ 48) := by rw [Int.mul_comm]; omega
          have t3 : ¬ (l < 0) := by omega
          have t4 : ¬ (l > c) := by omega
          unfold Instr.makeSlice
          simp only [Sem.run_bind, run_underlying hu, Result.andThen_ok, asInt, asIntOf, Sem.run_pure, hty, wl, wc, t1, t2, t3, t4, decide_false, Bool.or_self, Bool.false_eq_true, if_false, run_askRoom, hsz]
          by_cases h0 : c.toNat * i.size = 0
          · have hc0 : c.toNat = 0 := by rcases Nat.mul_eq_zero.1 h0 with h | h <;> omega
            simp only [h0, if_true, Sem.run_pure, Result.andThen_ok, newRow, Sem.run_bind, run_newObj]
            have hr0 : Array.range 0 = #[] := rfl
            simp only [hr0, Array.map_empty]
            rfl
          · simp only [h0, if_false, Sem.run_bind, hz1, Sem.run_pure, Result.andThen_ok, newRow, run_newObj]
            rfl
        · simp only [Rep]
          exact ⟨⟨(repeatCells z c.toNat).length, by simp⟩, by simp, by omega⟩
      · simp at h
    · simp at h
  · simp at h

theorem makeMap_run (hS : Sim E k S) (hF : FRep k f g tmps) (t : TypeId) : RunsTo E k S f g tmps (Instr.makeMap t none) (.map S.H.length) (push S (.map [])) := by
  let k' : K := { k with σ := fun b => if b = S.H.length then (k.w.heap.size, 0) else k.σ b, sh := fun b => if b = S.H.length then some .map else k.sh b,
                         own := fun c => if c = k.w.heap.size then some (.h S.H.length) else k.own c, w := k.w.alloc (.map #[] 0) }
  have hN : New k k' (some (.h S.H.length)) := {
    lo := rfl
    own := rfl
    lp := rfl
    size := by simp [k']
    os := rfl
    tape := rfl
    output := rfl
    heap := fun c hc => by
      show (k.w.heap.push _)[c]? = _
      rw [Array.getElem?_push, if_neg (by omega)] }
  have hsn : k.sh S.H.length = none := by rw [hS.sh]; simp
  have hold : ∀ b s, k.sh b = some s → k'.sh b = some s ∧ k'.σ b = k.σ b ∧ k'.room b = k.room b := by
    intro b s hb
    have ne : b ≠ S.H.length := by intro e; rw [e, hsn] at hb; simp at hb
    simp [k', ne, hb]
  have hle := hN.le hS hold
  obtain ⟨_, hS'⟩ := hS.push (k' := k') (blk := .map []) hN rfl rfl (fun _ _ => rfl) ⟨by simp [k'], #[], 0, by
    simp only [k', if_true]
    show (k.w.heap.push _)[_]? = _
    simp, by simp [RepEnts]⟩
  refine ⟨k', .map (some k.w.heap.size), ?_, ?_, hS', hN.evo hS hold _, hF.mono hle fun c t hc => ⟨hN.own_old (hS.ownlt _ _ hc), hN.heap c (hS.ownlt _ _ hc)⟩, rfl, fun d hB => hB.new hN (by simp) (by simp)⟩
  · simp only [Instr.makeMap, Sem.run_bind, run_newObj, Result.andThen_ok, Sem.run_pure]
    rfl
  · simp only [Rep]; simp [k']

theorem RepEnts.append : ∀ {l l' : List (Val × Val)} {m m' : List MapEntry}, RepEnts k l m → RepEnts k l' m' → RepEnts k (l ++ l') (m ++ m')
  | [], _, [], _, _, h => by simpa using h
  | (_, _) :: l, _, _ :: m, _, h, h' => by
    simp only [List.cons_append, RepEnts] at h ⊢
    exact ⟨h.1, h.2.1, h.2.2.append h'⟩
  | [], _, _ :: _, _, h, _ => by simp [RepEnts] at h
  | _ :: _, _, [], _, h, _ => by simp [RepEnts] at h

theorem RepEnts.set : ∀ {l : List (Val × Val)} {m : List MapEntry} {i : Nat} {e : Val × Val} {n : MapEntry}, RepEnts k l m → Rep k e.1 n.key → Rep k e.2 n.val → RepEnts k (l.set i e) (m.set i n)
  | [], [], _, _, _, _, _, _ => by simp [RepEnts]
  | (_, _) :: l, _ :: m, 0, _, _, h, h1, h2 => by
    simp only [RepEnts, List.set_cons_zero] at h ⊢
    exact ⟨h1, h2, h.2.2⟩
  | (_, _) :: l, _ :: m, i + 1, _, _, h, h1, h2 => by
    simp only [RepEnts, List.set_cons_succ] at h ⊢
    exact ⟨h.1, h.2.1, h.2.2.set h1 h2⟩
  | [], _ :: _, _, _, _, h, _, _ => by simp [RepEnts] at h
  | _ :: _, [], _, _, _, h, _, _ => by simp [RepEnts] at h

theorem RepEnts.get : ∀ {l : List (Val × Val)} {m : List MapEntry} {i : Nat} {e : Val × Val}, RepEnts k l m → l[i]? = some e → ∃ n, m[i]? = some n ∧ Rep k e.1 n.key ∧ Rep k e.2 n.val
  | [], _, _, _, _, hi => by simp at hi
  | (_, _) :: l, n :: m, 0, _, h, hi => by
    simp only [List.getElem?_cons_zero, Option.some.injEq] at hi; subst hi
    simp only [RepEnts] at h
    exact ⟨n, rfl, h.1, h.2.1⟩
  | (_, _) :: l, n :: m, i + 1, _, h, hi => by
    simp only [RepEnts] at h
    simpa using h.2.2.get (i := i) (by simpa using hi)
  | _ :: _, [], _, _, h, _ => by simp [RepEnts] at h

/-- the key that is found is the same one -/
theorem findKey_key {q : Val} : ∀ {es : List (Val × Val)} {i j : Nat} {v : Val}, findKey q es i = some (some (j, v)) → i ≤ j ∧ ∃ a, es[j - i]? = some (a, v) ∧ keyEq q a = some true
  | [], _, _, _, h => by simp [findKey] at h
  | (a, w) :: es, i, j, v, h => by
    simp only [findKey] at h
    split at h
    · rename_i hk
      simp only [Option.some.injEq, Prod.mk.injEq] at h
      obtain ⟨rfl, rfl⟩ := h
      exact ⟨Nat.le_refl _, a, by simp, hk⟩
    · obtain ⟨h1, a', h2, h3⟩ := findKey_key h
      refine ⟨by omega, a', ?_, h3⟩
      rw [show j - i = (j - (i + 1)) + 1 by omega, List.getElem?_cons_succ]
      exact h2
    · simp at h

theorem keyStays_run {q a : Val} {cq ca : Value} (h : keyEq q a = some true) (hq : Rep k q cq) (ha : Rep k a ca) (P : Program) (w : World) : (Instr.keyThatStays ca cq).run P w = .ok cq w := by
  have : Instr.sameBits 10000 ca cq = true := by
    unfold keyEq at h
    split at h
    · split at h
      · rename_i e; subst e
        simp only [Rep] at hq ha
        subst hq; subst ha
        simp only [Option.some.injEq, beq_iff_eq] at h
        simp [Instr.sameBits, h]
      · simp at h
    · simp only [Rep] at hq ha
      obtain ⟨x, rfl, rfl⟩ := hq
      obtain ⟨y, rfl, rfl⟩ := ha
      simp only [Option.some.injEq, beq_iff_eq] at h
      have : x = y := by
        cases x; cases y
        simp only [ByteArray.mk.injEq] at h ⊢
        exact Array.toList_inj.1 h
      subst this
      simp [Instr.sameBits, beq_toListBytes]
    · simp only [Rep] at hq ha
      subst hq; subst ha
      simp only [Option.some.injEq, beq_iff_eq] at h
      simp [Instr.sameBits, h]
    · simp at h
  simp only [Instr.keyThatStays, this, if_true, Sem.run_pure]

/-- a map is written -/
theorem write_map (hS : Sim E k S) (hF : FRep k f g tmps) {b : Nat} {es es' : List (Val × Val)} (hb : S.H[b]? = some (.map es)) {ents : Array MapEntry} {clock : Nat}
    (hr : RepEnts k es' ents.toList) :
    ∃ k', (setObj (k.σ b).1 (.map ents clock)).run E.P k.w = .ok () k'.w ∧ Sim E k' { S with H := S.H.set b (.map es') } ∧ Evo k k' (touchF k S.L f) ∧ FRep k' f g tmps ∧ ∀ d, Bound k d → Bound k' d := by
  obtain ⟨ents0, clock0, q1, _, q3⟩ := map_rep hS hb
  have hlt : (k.σ b).1 < k.w.heap.size := (Array.getElem?_eq_some_iff.1 q1).1
  let k' : K := { k with w := { k.w with heap := k.w.heap.setIfInBounds (k.σ b).1 (.map ents clock) } }
  have hbut : But k k' (k.σ b).1 := {
    σ := rfl
    lo := rfl
    sh := rfl
    own := rfl
    lp := rfl
    room := rfl
    size := by simp [k']
    os := rfl
    tape := rfl
    output := rfl
    heap := fun c hc => by simp only [k']; rw [Array.getElem?_setIfInBounds, if_neg (Ne.symm hc)] }
  have hne : k.own (k.σ b).1 ≠ none := by rw [q3]; simp
  have hle := hbut.le hne
  refine ⟨k', ?_, hS.setBlock hb hbut rfl ⟨q3, ents, clock, ?_, hr.mono hle⟩, hbut.evo hne (.inl (by unfold touch; rw [q3]; trivial)), ?_, fun d h => h⟩
  · simp [setObj, Sem.run, q1, k']
  · simp only [k']
    rw [Array.getElem?_setIfInBounds, if_pos rfl, if_pos hlt]
  · refine hF.mono hle fun c t hc => ⟨rfl, hbut.heap c ?_⟩
    rintro rfl
    rw [q3] at hc; simp at hc

theorem mapUpdate_run (hS : Sim E k S) (hF : FRep k f g tmps) {t : TypeId} {m q v : Val} {S' : St} {cm cq cv : Value}
    (h : updateOp E t S m q v = some S') (hm : Rep k m cm) (hq : Rep k q cq) (hv : Rep k v cv) :
    ∃ k', (Instr.mapUpdate t cm cq cv).run E.P k.w = .ok () k'.w ∧ Sim E k' S' ∧ Evo k k' (touchF k S.L f) ∧ FRep k' f g tmps ∧ S'.L = S.L ∧ ∀ d, Bound k d → Bound k' d := by
  unfold updateOp at h
  split at h
  · rename_i kt et hu
    split at h
    · rename_i d hd
      split at h
      · rename_i hk
        split at h
        · rename_i b
          split at h
          · rename_i es hb
            simp only [Rep] at hm
            obtain ⟨_, rfl⟩ := hm
            obtain ⟨ents, clock, h1, h2, h3⟩ := map_rep hS hb
            have hck := checkKey_run (k := k) hd hk hq false k.w
            split at h
            · rename_i i v0 hfk
              simp only [Option.some.injEq] at h; subst h
              obtain ⟨cr, h4, h5⟩ := findKey_run hk hq hfk h2
              cases cr with
              | none => exact h5.elim
              | some p =>
                obtain ⟨i', v'⟩ := p
                simp only at h5
                obtain ⟨rfl, h6, _, h7⟩ := h5
                obtain ⟨_, a, h8, h9⟩ := findKey_key hfk
                rw [Nat.sub_zero] at h8
                obtain ⟨n, h10, h11, h12⟩ := h2.get h8
                have hlt : i < ents.size := by
                  have := (List.getElem?_eq_some_iff.1 h10).1; simpa using this
                have hn : ents[i]? = some n := by rw [← Array.getElem?_toList]; exact h10
                obtain ⟨k', p1, p2, p3, p4, p5⟩ := write_map (es' := es.set i (q, v)) (ents := ents.modify i fun e => { e with key := cq, val := cv }) (clock := clock) hS hF hb (by
                  have : (ents.modify i fun e => { e with key := cq, val := cv }).toList = ents.toList.set i { n with key := cq, val := cv } := by
                    apply List.ext_getElem?
                    intro j
                    rw [Array.getElem?_toList, Array.getElem?_modify, List.getElem?_set, Array.getElem?_toList]
                    have hn' : ents[i] = n := by rw [Array.getElem?_eq_getElem hlt] at hn; simpa using hn
                    by_cases e : i = j
                    · subst e; simp [hn', hlt]
                    · simp [e]
                  rw [this]
                  exact h2.set hq hv)
                refine ⟨k', ?_, p2, p3, p4, rfl, p5⟩
                simp only [Instr.mapUpdate, Sem.run_bind, run_underlying hu, Result.andThen_ok, run_getObj h1, hck, findKey_sem hd h4 k.w, hn, Option.map_some, Option.getD_some, keyStays_run h9 hq h11, p1]
            · rename_i hfk
              simp only [Option.some.injEq] at h; subst h
              obtain ⟨cr, h4, h5⟩ := findKey_run hk hq hfk h2
              cases cr with
              | some p => exact h5.elim
              | none =>
                obtain ⟨k', p1, p2, p3, p4, p5⟩ := write_map (es' := es ++ [(q, v)]) (ents := ents.push { key := cq, val := cv, born := clock }) (clock := clock + 1) hS hF hb (by
                  rw [Array.toList_push]
                  exact h2.append (by simp only [RepEnts]; exact ⟨hq, hv, trivial⟩))
                refine ⟨k', ?_, p2, p3, p4, rfl, p5⟩
                simp only [Instr.mapUpdate, Sem.run_bind, run_underlying hu, Result.andThen_ok, run_getObj h1, hck, findKey_sem hd h4 k.w, p1]
            · simp at h
          · simp at h
        · simp at h
      · simp at h
    · simp at h
  · simp at h

theorem op_call (hS : Sim E k S) (hF : FRep k f g tmps) {c : Ctx} {o : Oper} {cl : Call} (ho : o.op = .call cl) {r : Res} (h : opV E c g S o = some r) :
    OpRes E k S f g tmps o r := by
  simp only [opV, ho] at h
  split at h
  · -- len
    rename_i x hb hargs
    split at h
    · rename_i t ht
      refine .one hS hF h fun v cls hv => ?_
      obtain ⟨cx, e1, hx⟩ := args1 (evs_args hS hF hargs)
      obtain ⟨consts, he⟩ := exec_builtin (tmps := tmps) ho hb k.w
      obtain ⟨cv, h1, h2⟩ := lenOp_run (ts := cl.argTypes) (ty := o.type) hS ht hv hx
      exact ⟨cv, by rw [he, e1]; simp [builtin, h1], .of h2⟩
    · simp at h
  · -- cap
    rename_i x hb hargs
    split at h
    · rename_i t ht
      refine .pureVal hS hF h fun v hv => ?_
      obtain ⟨cx, e1, hx⟩ := args1 (evs_args hS hF hargs)
      obtain ⟨consts, he⟩ := exec_builtin (tmps := tmps) ho hb k.w
      obtain ⟨cv, h1, h2⟩ := capOp_run (w := k.w) (ts := cl.argTypes) (ty := o.type) ht hv hx
      exact ⟨cv, by rw [he, e1]; simp [builtin, h1], .of h2⟩
    · simp at h
  · -- append
    rename_i s x hb hargs
    obtain ⟨cs, cx, e1, hs, hx⟩ := args2 (evs_args hS hF hargs)
    obtain ⟨consts, he⟩ := exec_builtin (tmps := tmps) ho hb k.w
    have go : ∀ {t tx : TypeId} {d : TypeDesc}, E.und tx = some d → (∀ q, d ≠ .int q) → cl.argTypes[0]? = some t → cl.argTypes[1]? = some tx →
        ((appendOp E S t s x).map fun (v, k, S') => Res.val (some v) k [] S') = some r → OpRes E k S f g tmps o r := by
      intro t tx d htx hd h0 h1 h
      simp only [Option.map_eq_some_iff] at h
      obtain ⟨⟨v, c', S'⟩, hq, rfl⟩ := h
      refine .runs (append_run (ty := o.type) hS hF htx hd h0 h1 hq hs hx) fun cv w' hr => ?_
      rw [he, e1]; simp [builtin, hr]
    split at h
    · rename_i t e h0 h1
      simp only [Option.bind_eq_some_iff] at h1
      obtain ⟨tx, h1, h2⟩ := h1
      exact go h2 (by simp) h0 h1 h
    · rename_i t h0 h1
      simp only [Option.bind_eq_some_iff] at h1
      obtain ⟨tx, h1, h2⟩ := h1
      exact go h2 (by simp) h0 h1 h
    · simp at h
  · -- copy
    rename_i d s hb hargs
    obtain ⟨cd, cx, e1, hd, hx⟩ := args2 (evs_args hS hF hargs)
    obtain ⟨consts, he⟩ := exec_builtin (tmps := tmps) ho hb k.w
    split at h
    · rename_i t h0
      simp only [Option.map_eq_some_iff] at h
      obtain ⟨⟨v, S'⟩, hq, rfl⟩ := h
      refine .runs (copy_run (ty := o.type) hS hF h0 hq hd hx) fun cv w' hr => ?_
      rw [he, e1]; simp [builtin, hr]
    · simp at h
  · -- clear
    rename_i d hb hargs
    obtain ⟨cd, e1, hd⟩ := args1 (evs_args hS hF hargs)
    obtain ⟨consts, he⟩ := exec_builtin (tmps := tmps) ho hb k.w
    split at h
    · rename_i t h0
      simp only [Option.map_eq_some_iff] at h
      obtain ⟨S', hq, rfl⟩ := h
      refine .runs (clear_run (ty := o.type) hS hF h0 hq hd) fun cv w' hr => ?_
      rw [he, e1]; simp [builtin, hr]
    · simp at h
  · -- max
    rename_i l hb hargs
    obtain ⟨consts, he⟩ := exec_builtin (tmps := tmps) ho hb k.w
    have hl := evs_args hS hF hargs
    refine .pureVal hS hF h fun v hv => ?_
    unfold minMax at hv
    split at hv
    · simp at hv
    · rename_i q x l'
      generalize hA : (cl.args.map (evT tmps)) = A at *
      obtain ⟨as⟩ := A
      cases as with
      | nil => simp [RepAll] at hl
      | cons a as =>
        simp only [RepAll] at hl
        obtain ⟨cv, h1, h2⟩ := minMax_run (E := E) (mx := true) (w := k.w) hv hl.1 hl.2
        simp only [if_true] at h1
        exact ⟨cv, by rw [he]; simp [builtin, Builtin.max_, h1], .of h2⟩
    · simp at hv
  · -- min
    rename_i l hb hargs
    obtain ⟨consts, he⟩ := exec_builtin (tmps := tmps) ho hb k.w
    have hl := evs_args hS hF hargs
    refine .pureVal hS hF h fun v hv => ?_
    unfold minMax at hv
    split at hv
    · simp at hv
    · rename_i q x l'
      generalize hA : (cl.args.map (evT tmps)) = A at *
      obtain ⟨as⟩ := A
      cases as with
      | nil => simp [RepAll] at hl
      | cons a as =>
        simp only [RepAll] at hl
        obtain ⟨cv, h1, h2⟩ := minMax_run (E := E) (mx := false) (w := k.w) hv hl.1 hl.2
        simp only [Bool.false_eq_true, if_false] at h1
        exact ⟨cv, by rw [he]; simp [builtin, Builtin.min_, h1], .of h2⟩
    · simp at hv
  · -- a value
    rename_i x args hb hargs
    have hl := evs_args hS hF hargs
    split at h
    · rename_i fn cap hx
      simp only [Option.some.injEq] at h; subst h
      have hx' := (ev_rep hS hF hx).1
      simp only [Rep] at hx'
      obtain ⟨a, h1, h2⟩ := hx'
      refine ⟨cl.args.map (evT tmps) ++ a, ?_, by rw [Array.toList_append]; exact hl.append h2⟩
      simp only [execOp, ho, resolve, hb, Deferred.ofValue, h1, Sem.run_bind, Sem.run_pure, Result.andThen_ok, invoke]
      simp
    · rename_i l hx
      simp only [Option.some.injEq] at h; subst h
      have hx' := (ev_rep hS hF hx).1
      simp only [Rep] at hx'
      obtain ⟨h1, h2⟩ := hx'
      refine ⟨cl.args.map (evT tmps), ?_, h1, hl⟩
      simp only [execOp, ho, resolve, hb, Deferred.ofValue, h2, Sem.run_bind, Sem.run_pure, Result.andThen_ok, invoke]
      simp
    · simp at h
  · simp at h
end
end Go.V

/- Every operation. -/
namespace Go.V
section
variable {E : Env} {k : K} {S : St} {f : Nat} {g : G} {tmps : Array Value} {w : World}

theorem op_sound (hS : Sim E k S) (hF : FRep k f g tmps) (hbusy : ∀ (l : Nat) (r : LoopRec), S.L[l]? = some r → k.fid l = f → r.busy = true)
    {c : Ctx} {o : Oper} {r : Res} (h : opV E c g S o = some r) : OpRes E k S f g tmps o r := by
  cases ho : o.op with
  | move x => exact op_move hS hF (.inl ho) h
  | assign x => exact op_move hS hF (.inr ho) h
  | pick q a b => exact op_pick hS hF ho h
  | alloc e => exact op_alloc hS hF ho h
  | box e x => exact op_box hS hF ho h
  | load t a => exact op_load hS hF ho h
  | store t a x => exact op_store hS hF hbusy ho h
  | fieldAddr t x i => exact op_fieldAddr hS hF ho h
  | indexAddr t x i => exact op_indexAddr hS hF ho h
  | nilCheck x => exact op_nilCheck hS hF ho h
  | binOp op t x y z => exact op_binOp hS hF ho h
  | unOp op t x => exact op_unOp hS hF ho h
  | convert s d x => exact op_convert hS hF ho h
  | build t parts => exact op_build hS hF ho h
  | buildSlice t len parts => exact op_buildSlice hS hF ho h
  | slice t x lo hi mx => exact op_slice hS hF ho h
  | index t x i => exact op_index hS hF ho h
  | field t x i => exact op_field hS hF ho h
  | extract x i => exact op_extract hS hF ho h
  | makeFunc fn first cap => exact op_makeFunc hS hF hbusy ho h
  | makeSlice t l q =>
    simp only [opV, ho] at h
    split at h
    · rename_i a b ha hb
      simp only [Option.map_eq_some_iff] at h
      obtain ⟨⟨v, S'⟩, h, rfl⟩ := h
      refine .runs (makeSlice_run hS hF h (ev_rep hS hF ha).1 (ev_rep hS hF hb).1) fun cv w' hr => ?_
      simp [execOp, ho, hr]
    · simp at h
  | makeMap t res =>
    cases res with
    | some x => simp [opV, ho] at h
    | none =>
      simp only [opV, ho] at h
      split at h
      · simp only [Option.some.injEq] at h; subst h
        refine .runs (makeMap_run hS hF t) fun cv w' hr => ?_
        simp only [execOp, ho, Option.map_none, Sem.run_bind, hr, Result.andThen_ok, Sem.run_pure]
      · simp at h
  | lookup t m q ok => exact op_lookup hS hF ho h
  | mapUpdate t m q v =>
    simp only [opV, ho] at h
    split at h
    · rename_i a b u ha hb hu
      simp only [Option.map_eq_some_iff] at h
      obtain ⟨S', h, rfl⟩ := h
      obtain ⟨k', h1, h2, h3, h4, h5, h6⟩ := mapUpdate_run hS hF h (ev_rep hS hF ha).1 (ev_rep hS hF hb).1 (ev_rep hS hF hu).1
      exact ⟨k', .skip, ⟨by simp [execOp, ho, h1], rfl, h2, h3, h4, h5, fun d _ hB => h6 d hB⟩⟩
    · simp at h
  | insert t m q v =>
    simp only [opV, ho] at h
    split at h
    · rename_i a b u ha hb hu
      simp only [Option.map_eq_some_iff] at h
      obtain ⟨S', h, rfl⟩ := h
      obtain ⟨k', h1, h2, h3, h4, h5, h6⟩ := mapUpdate_run hS hF h (ev_rep hS hF ha).1 (ev_rep hS hF hb).1 (ev_rep hS hF hu).1
      exact ⟨k', .skip, ⟨by simp [execOp, ho, h1], rfl, h2, h3, h4, h5, fun d _ hB => h6 d hB⟩⟩
    · simp at h
  | makeInterface t x => exact op_makeInterface hS hF ho h
  | call cl => exact op_call hS hF ho h
  | _ => simp [opV, ho] at h
end
end Go.V

/- The machine's steps, frame by frame, rounds of loops over functions among them. -/
namespace Go.V

/-- a running frame -/
def frm (fn : FuncId) (ro : Option Nat) (tmps : Array Value) (todo : List Item) (defers : List Deferred) : Frame :=
  { fn, tmps, todo, defers, mode := .run, kind := .normal, roundOf := ro }

theorem frm_eval (fn : FuncId) (ro : Option Nat) (tmps : Array Value) (todo : List Item) (defers : List Deferred) : (frm fn ro tmps todo defers).eval = evT tmps := by
  funext o; cases o <;> rfl

/-- m is about to take up what s comes to, in frame F -/
def Applies (P : Program) (m : Machine) (F : Frame) (cs : List Frame) (s : Sem Next) (w : World) : Prop :=
  ∀ fr' cs' w', (stepG.apply P true F cs none s w).bare = .go { frame := fr', callers := cs', status := .running, dying := none } w' → step P m = .next (lone fr' cs' w')

/-- a frame that waits for a value -/
def Waits (F : Frame) : Prop := F.kind = .normal ∧ ((∃ ops l k, F.todo = .inRegion ops l :: k) ∨ (∃ l k, F.todo = .inRangeFunc l :: k))

section
variable {P : Program} {m : Machine} {F : Frame} {cs : List Frame} {s : Sem Next} {w w' : World}

theorem Applies.value (h : Applies P m F cs s w) {v : Value} (hr : s.run P w = .ok (.value v) w') : step P m = .next (lone (F.finish v) cs w') :=
  h _ _ _ (by simp [stepG.apply, hr])
theorem Applies.skip (h : Applies P m F cs s w) (hr : s.run P w = .ok .skip w') : step P m = .next (lone (F.finish undef) cs w') :=
  h _ _ _ (by simp [stepG.apply, hr])
theorem Applies.enter (h : Applies P m F cs s w) (hF : Waits F) {f : FuncId} {args : Array Value} (hr : s.run P w = .ok (.enter f args) w') :
    step P m = .next (lone (Frame.enter P f args .normal) (F :: cs) w') := by
  obtain ⟨_, ⟨ops, l, k, ht⟩ | ⟨l, k, ht⟩⟩ := hF
  · exact h _ _ _ (by simp [stepG.apply, hr, ht])
  · exact h _ _ _ (by simp [stepG.apply, hr, ht])
theorem Applies.round (h : Applies P m F cs s w) {l : Nat} {f : FuncId} {tmps : Array Value} {a b : Code} (hr : s.run P w = .ok (.round l f tmps a b) w') :
    step P m = .next (lone (Frame.round l f tmps a b .normal) (F :: cs) w') :=
  h _ _ _ (by simp [stepG.apply, hr])
theorem Applies.congr (h : Applies P m F cs s w) {s' : Sem Next} (hr : s.run P w = s'.run P w) : Applies P m F cs s' w := by
  intro fr' cs' w' hb
  refine h fr' cs' w' ?_
  rw [← hb]
  simp only [stepG.apply, Sem.runT_eq, if_true, hr, GStep.bare_after]
end

section
variable {P : Program} {fn : FuncId} {ro : Option Nat} {tmps : Array Value} {k : List Item} {de : List Deferred} {cs : List Frame} {w : World} {ops : Array Oper}

theorem st_skip : step P (lone (frm fn ro tmps (.code .skip :: k) de) cs w) = .next (lone (frm fn ro tmps k de) cs w) :=
  step_lone_go (by simp [stepG, stepG.exec, frm])
theorem st_inBlock {id : Nat} : step P (lone (frm fn ro tmps (.inBlock id :: k) de) cs w) = .next (lone (frm fn ro tmps k de) cs w) :=
  step_lone_go (by simp [stepG, stepG.exec, frm])
theorem st_seq {x y : Code} : step P (lone (frm fn ro tmps (.code (.seq x y) :: k) de) cs w) = .next (lone (frm fn ro tmps (.code x :: .code y :: k) de) cs w) :=
  step_lone_go (by simp [stepG, stepG.exec, frm])
theorem st_cond {c : Operand} {x y : Code} {t : Bool} (h : evT tmps c = .bool t) :
    step P (lone (frm fn ro tmps (.code (.cond c x y) :: k) de) cs w) = .next (lone (frm fn ro tmps (.code (if t then x else y) :: k) de) cs w) :=
  step_lone_go (by
    have := congrFun (frm_eval fn ro tmps (.code (.cond c x y) :: k) de) c
    rw [h] at this
    simp only [frm] at this
    simp [stepG, stepG.exec, frm, this])
theorem st_block {id : Nat} {c : Code} : step P (lone (frm fn ro tmps (.code (.block id c) :: k) de) cs w) = .next (lone (frm fn ro tmps (.code c :: .inBlock id :: k) de) cs w) :=
  step_lone_go (by simp [stepG, stepG.exec, frm])
theorem st_loop {c : Code} : step P (lone (frm fn ro tmps (.code (.loop c) :: k) de) cs w) = .next (lone (frm fn ro tmps (.code c :: .inLoop c :: k) de) cs w) :=
  step_lone_go (by simp [stepG, stepG.exec, frm])
theorem st_inLoop {c : Code} : step P (lone (frm fn ro tmps (.inLoop c :: k) de) cs w) = .next (lone (frm fn ro tmps (.code c :: .inLoop c :: k) de) cs w) :=
  step_lone_go (by simp [stepG, stepG.exec, frm])
theorem st_exit {id : Nat} {k' : List Item} (h : exitTo id k = some k') : step P (lone (frm fn ro tmps (.code (.exit id) :: k) de) cs w) = .next (lone (frm fn ro tmps k' de) cs w) :=
  step_lone_go (by simp [stepG, stepG.exec, frm, h])
theorem st_region {id : Nat} : step P (lone (frm fn ro tmps (.code (.region id ops false) :: k) de) cs w) = .next (lone (frm fn ro tmps (.inRegion ops (List.range ops.size) :: k) de) cs w) :=
  step_lone_go (by simp [stepG, stepG.exec, frm])
theorem st_region_draw {id : Nat} : step P (lone (frm fn ro tmps (.code (.region id ops true) :: k) de) cs w) =
    .next (lone (frm fn ro tmps (.inRegion ops (Region.schedule (P.follows .mixedOrders) ops (w.tape w.drawn (.order fn id))) :: k) de) cs w.drew) :=
  step_lone_go (by simp [stepG, stepG.exec, frm, choose, Sem.run, Question.forced, Question.cut])
theorem st_region_end : step P (lone (frm fn ro tmps (.inRegion ops [] :: k) de) cs w) = .next (lone (frm fn ro tmps k de) cs w) :=
  step_lone_go (by simp [stepG, stepG.exec, frm])

theorem finish_frm {i : Nat} {rest : List Nat} {o : Oper} (ho : ops[i]? = some o) (v : Value) : (frm fn ro tmps (.inRegion ops (i :: rest) :: k) de).finish v =
    frm fn ro (match o.dst with | some d => tmps.setIfInBounds d v | none => tmps) (.inRegion ops rest :: k) de := by
  simp only [Frame.finish, frm, ho, Option.bind_some]
  cases o.dst <;> rfl

theorem st_unwanted {i : Nat} {rest : List Nat} {o : Oper} (ho : ops[i]? = some o) (h : Region.wanted o (yielded ops tmps) = false) :
    step P (lone (frm fn ro tmps (.inRegion ops (i :: rest) :: k) de) cs w) =
      .next (lone (frm fn ro (match o.dst with | some d => tmps.setIfInBounds d undef | none => tmps) (.inRegion ops rest :: k) de) cs w) := by
  rw [← finish_frm ho]
  exact step_lone_go (by
    have h' := h
    simp only [frm] at *
    simp [stepG, stepG.exec, ho, h'])

theorem applies_op {i : Nat} {rest : List Nat} {o : Oper} (ho : ops[i]? = some o) (h : Region.wanted o (yielded ops tmps) = true) (hd : ∀ c, o.op ≠ .defer c) :
    Applies P (lone (frm fn ro tmps (.inRegion ops (i :: rest) :: k) de) cs w) (frm fn ro tmps (.inRegion ops (i :: rest) :: k) de) cs (execOp (evT tmps) o) w := by
  intro fr' cs' w' hb
  refine step_lone_go ?_
  rw [← hb]
  have he := frm_eval fn ro tmps (.inRegion ops (i :: rest) :: k) de
  simp only [frm] at *
  simp only [stepG, stepG.exec, stepG.oper, Frame.oper?, ho, h, he, Option.map_some, Option.getD_some, if_true]
  split
  · rename_i e2; exact absurd e2 (hd _)
  · rfl

/-- the end of a round -/
theorem st_end_round {l : Nat} {F : Frame} {r : Loop} {todo : List Item} {j : Option Code} (ht : (j = none ∧ todo = []) ∨ (∃ t, j = some .ret ∧ todo = .code .ret :: t) ∨ (∃ id t, j = some (.exit id) ∧ todo = .code (.exit id) :: t ∧ exitTo id t = none))
    (hl : w.heap[l]? = some (.loop r)) :
    step P (lone (frm fn (some l) tmps todo de) (F :: cs) w) =
      .next (lone (F.finish (.bool j.isNone)) cs { w with heap := w.heap.setIfInBounds l (.loop { r with state := if j.isNone then .ready else .done, pending := j }) }) := by
  have he : (Instr.endRound l j).run P w = .ok (.bool j.isNone) { w with heap := w.heap.setIfInBounds l (.loop { r with state := if j.isNone then .ready else .done, pending := j }) } := by
    simp [Instr.endRound, Instr.getLoop, getObj, setObj, Sem.run, hl, Sem.run_bind]
  rcases ht with ⟨rfl, rfl⟩ | ⟨t, rfl, rfl⟩ | ⟨id, t, rfl, rfl, ht⟩
  · exact step_lone_go (by simp [stepG, stepG.exec, frm, he, doReturn])
  · exact step_lone_go (by simp [stepG, stepG.exec, frm, he, doReturn])
  · exact step_lone_go (by simp [stepG, stepG.exec, frm, he, doReturn, ht])

/-- the end of a function's body -/
theorem st_leave {todo : List Item} (ht : todo = [] ∨ ∃ t, todo = .code .ret :: t) :
    step P (lone (frm fn none tmps todo de) cs w) = .next (lone { frm fn none tmps todo de with mode := .returning } cs w) := by
  rcases ht with rfl | ⟨t, rfl⟩
  · exact step_lone_go (by simp [stepG, stepG.exec, frm])
  · exact step_lone_go (by simp [stepG, stepG.exec, frm])

/-- a mark among the deferred calls is taken -/
theorem st_mark {todo : List Item} {b : Nat} {ds : List Deferred} (hb : w.heap[b]? = some (.deferred (some []))) :
    step P (lone { frm fn none tmps todo ({ target := .collected b, args := #[] } :: ds) with mode := .returning } cs w) =
      .next (lone { frm fn none tmps todo ds with mode := .returning } cs { w with heap := w.heap.setIfInBounds b (.deferred none) }) := by
  have he : (Instr.takeDeferred b).run P w = .ok [] { w with heap := w.heap.setIfInBounds b (.deferred none) } := by
    simp [Instr.takeDeferred, getObj, setObj, Sem.run, hb, Sem.run_bind]
  exact step_lone_go (by simp [stepG, frm, unwind, he])
end
end Go.V

/- What stays true of a frame; one operation of the interpreter, one step of the machine (or a call). -/
namespace Go.V

def markD (b : Nat) : Deferred := { target := .collected b, args := #[] }
def Marks (k : K) (f : Nat) (de : List Deferred) : Prop :=
  ∃ ms : List Nat, de = ms.map markD ∧ ms.Nodup ∧ ∀ m ∈ ms, k.own m = some (.mark f) ∧ k.w.heap[m]? = some (.deferred (some []))
def Busy (k : K) (S : St) (f : Nat) : Prop := ∀ (l : Nat) (r : LoopRec), S.L[l]? = some r → k.fid l = f → r.busy = true
/-- loops stand in frames below d; of those in one frame only one may be free -/
def Below (k : K) (S : St) (d : Nat) : Prop := (∀ (l : Nat) (r : LoopRec), S.L[l]? = some r → k.fid l < d) ∧
  ∀ (l l' : Nat) (r r' : LoopRec), S.L[l]? = some r → S.L[l']? = some r' → r.busy = false → r'.busy = false → k.fid l = k.fid l' → l = l'

structure LK (L L' : List LoopRec) : Prop where
  eq : LoopEq L L'
  busy : ∀ (l : Nat) (r : LoopRec), L[l]? = some r → r.busy = true → L'[l]? = some r
theorem LK.refl (L : List LoopRec) : LK L L := ⟨.refl L, fun _ _ h _ => h⟩
theorem LK.trans {a b c : List LoopRec} (h : LK a b) (h' : LK b c) : LK a c := ⟨h.eq.trans h'.eq, fun l r hr hb => h'.busy l r (h.busy l r hr hb) hb⟩
theorem LK.of_eq {a b : List LoopRec} (h : b = a) : LK a b := h ▸ .refl a
theorem LoopEq.back {a b : List LoopRec} (h : LoopEq a b) {l : Nat} {r : LoopRec} (hr : b[l]? = some r) : ∃ q, a[l]? = some q ∧ r.busy = q.busy := by
  have hl : l < a.length := by rw [← h.1]; exact (List.getElem?_eq_some_iff.1 hr).1
  exact ⟨a[l], List.getElem?_eq_getElem hl, h.2 l _ r (List.getElem?_eq_getElem hl) hr⟩

/-- what holds of a running frame: frame number f, numbers from d on are free -/
structure FrOk (E : Env) (k : K) (S : St) (f d n : Nat) (ro : Option Nat) (g : G) (tmps : Array Value) (de : List Deferred) : Prop where
  sim : Sim E k S
  fr : FRep k f g tmps
  size : tmps.size = n
  marks : Marks k f de
  busy : Busy k S f
  lt : f < d
  bound : Bound k d
  below : Below k S d
  ro : ∀ a, ro = some a → ∃ (l : Nat) (r : LoopRec), a = k.lo l ∧ S.L[l]? = some r

section
variable {E : Env} {k k' k'' : K} {S S' S'' : St} {f d n : Nat} {ro : Option Nat} {g g' : G} {tmps tmps' : Array Value} {de : List Deferred} {T : Nat → Prop}

theorem fid_kept (hS : Sim E k S) (he : Evo k k' T) {l : Nat} {r : LoopRec} (hr : S.L[l]? = some r) : k'.lo l = k.lo l ∧ k'.fid l = k.fid l ∧ k'.tm l = k.tm l := by
  obtain ⟨h1, _, h3⟩ := he.le.loop l (hS.loop l r hr).own
  exact ⟨h1, by unfold K.fid; rw [h3], by unfold K.tm; rw [h3]⟩

theorem touch_back (hS : Sim E k S) (he : Evo k k' T) (lk : LoopEq S.L S'.L) {c : Nat} (ho : k'.own c = k.own c) (h : touch k' S'.L c) : touch k S.L c :=
  touch.eq lk (fun _ _ hr => (fid_kept hS he hr).2.1) ho h
theorem Evo.transF (hS : Sim E k S) (h : Evo k k' (touchF k S.L f)) (lk : LoopEq S.L S'.L) (h' : Evo k' k'' (touchF k' S'.L f)) : Evo k k'' (touchF k S.L f) :=
  h.trans h' fun x _ ho ht => by
    rcases ht with ht | ⟨t, ht⟩
    · exact .inl (touch_back hS h lk ho ht)
    · exact .inr ⟨t, by rw [← ho]; exact ht⟩
theorem Evo.transT (hS : Sim E k S) (h : Evo k k' (touch k S.L)) (lk : LoopEq S.L S'.L) (h' : Evo k' k'' (touch k' S'.L)) : Evo k k'' (touch k S.L) :=
  h.trans h' fun _ _ ho ht => touch_back hS h lk ho ht

theorem Below.after (h : Below k S d) (hS : Sim E k S) (he : Evo k k' T) (lk : LoopEq S.L S'.L) : Below k' S' d := by
  constructor
  · intro l r hr
    obtain ⟨q, hq, _⟩ := lk.back hr
    rw [(fid_kept hS he hq).2.1]
    exact h.1 l q hq
  · intro l l' r r' hr hr' hb hb' hf
    obtain ⟨q, hq, e⟩ := lk.back hr
    obtain ⟨q', hq', e'⟩ := lk.back hr'
    rw [(fid_kept hS he hq).2.1, (fid_kept hS he hq').2.1] at hf
    exact h.2 l l' q q' hq hq' (by rw [← e]; exact hb) (by rw [← e']; exact hb') hf
theorem Busy.after (h : Busy k S f) (hS : Sim E k S) (he : Evo k k' T) (lk : LoopEq S.L S'.L) : Busy k' S' f := by
  intro l r hr hf
  obtain ⟨q, hq, e⟩ := lk.back hr
  rw [(fid_kept hS he hq).2.1] at hf
  rw [e]
  exact h l q hq hf
theorem Marks.after (h : Marks k f de) (hS : Sim E k S) (he : Evo k k' T) (hT : ∀ c, T c → touchF k S.L f c) : Marks k' f de := by
  obtain ⟨ms, h1, h2, h3⟩ := h
  refine ⟨ms, h1, h2, fun m hm => ?_⟩
  obtain ⟨p1, p2⟩ := h3 m hm
  have hn : ¬ T m := fun ht => by
    rcases hT m ht with ht | ⟨t, ht⟩
    · unfold touch at ht; rw [p1] at ht; exact ht
    · rw [p1] at ht; simp at ht
  obtain ⟨q1, q2⟩ := he.keep m (hS.ownlt _ _ p1) hn
  exact ⟨q1.trans p1, q2.trans p2⟩

theorem FrOk.after (h : FrOk E k S f d n ro g tmps de) (hs : Sim E k' S') (he : Evo k k' (touchF k S.L f)) (lk : LoopEq S.L S'.L) (hF : FRep k' f g' tmps') (hn : tmps'.size = n) (hB : Bound k' d) :
    FrOk E k' S' f d n ro g' tmps' de where
  sim := hs
  fr := hF
  size := hn
  marks := h.marks.after h.sim he fun _ h => h
  busy := h.busy.after h.sim he lk
  lt := h.lt
  bound := hB
  below := h.below.after h.sim he lk
  ro := fun a ha => by
    obtain ⟨l, r, e, hr⟩ := h.ro a ha
    have hl : l < S'.L.length := by rw [lk.1]; exact (List.getElem?_eq_some_iff.1 hr).1
    exact ⟨l, _, by rw [(fid_kept h.sim he hr).1]; exact e, List.getElem?_eq_getElem hl⟩

/-- a call leaves the locals of a running frame alone -/
theorem FRep.call (hF : FRep k f g tmps) (hS : Sim E k S) (hb : Busy k S f) (he : Evo k k' (touch k S.L)) : FRep k' f g tmps := by
  refine hF.mono he.le fun c t hc => ?_
  refine he.keep c (hS.ownlt _ _ hc) fun ht => ?_
  unfold touch at ht
  rw [hc] at ht
  obtain ⟨l, r, h1, h2, h3⟩ := ht
  rw [hb l r h1 h3] at h2
  simp at h2

/-- a temporary is set -/
theorem FRep.put (hF : FRep k f g tmps) {t : Nat} {v : Val} {cv : Value} (ht : t < tmps.size) (hv : ValRep k g tmps v cv) :
    FRep k f (fun x => if x = t then some v else g x) (tmps.setIfInBounds t cv) := by
  have same : ∀ s, s ≠ t → (tmps.setIfInBounds t cv).getD s undef = tmps.getD s undef := fun s hs => by
    simp [Array.getD_eq_getD_getElem?, Array.getElem?_setIfInBounds_ne (Ne.symm hs)]
  have here : (tmps.setIfInBounds t cv).getD t undef = cv := by simp [Array.getD_eq_getD_getElem?, ht]
  have hnl : ∀ cs, v ≠ .lv cs := by rintro cs rfl; exact hv
  intro s u hu
  by_cases e : s = t
  · subst e
    simp only [if_true, Option.some.injEq] at hu; subst hu
    cases v with
    | lv cs => exact hv.elim
    | loc s' off =>
      intro cs hcs
      by_cases e2 : s' = s
      · subst e2; simp at hcs
      · simp only [e2, if_false] at hcs
        obtain ⟨c, h1, h2⟩ := hv cs hcs
        exact ⟨c, by rw [same _ e2]; exact h1, by rw [here]; exact h2⟩
    | _ => simpa only [SlotRep, ValRep, here] using hv
  · simp only [e, if_false] at hu
    have := hF s u hu
    cases u with
    | lv cs => obtain ⟨c, h1, h2⟩ := this; exact ⟨c, by rw [same _ e]; exact h1, h2⟩
    | loc s' off =>
      intro cs hcs
      by_cases e2 : s' = t
      · subst e2
        simp only [if_true, Option.some.injEq] at hcs
        exact absurd hcs (hnl cs)
      · simp only [e2, if_false] at hcs
        obtain ⟨c, h1, h2⟩ := this cs hcs
        exact ⟨c, by rw [same _ e2]; exact h1, by rw [same _ e]; exact h2⟩
    | _ => simpa only [SlotRep, same _ e] using this

/-- less is known of a frame -/
theorem FRep.weak (hF : FRep k f g tmps) (hg : ∀ t v, g' t = some v → g t = some v ∨ v = .unk) : FRep k f g' tmps := by
  intro t v hv
  rcases hg t v hv with h | rfl
  · have := hF t v h
    cases v with
    | loc s off =>
      intro cs hcs
      rcases hg s _ hcs with h | h
      · exact this cs h
      · simp at h
    | _ => exact this
  · trivial

/-- a local is laid -/
theorem laid_rep (hS : Sim E k S) (hF : FRep k f g tmps) {t : Nat} (ht : t < tmps.size) {cs : List Val} {vs : Array Value} {e : TypeId} (hr : RepAll k cs vs.toList) (h1 : ∀ x ∈ vs.toList, x.oneCell' = true)
    (hno : ∀ u off, g u ≠ some (.loc t off)) :
    ∃ k', k'.w = k.w.alloc (.cells vs e) ∧ Sim E k' S ∧ Evo k k' T ∧ FRep k' f (fun x => if x = t then some (.lv cs) else g x) (tmps.setIfInBounds t (.pointer (some ⟨k.w.heap.size, 0, none⟩))) ∧ ∀ d, f < d → Bound k d → Bound k' d := by
  let k' : K := { k with own := fun c => if c = k.w.heap.size then some (.lv f t) else k.own c, w := k.w.alloc (.cells vs e) }
  have hN : New k k' (some (.lv f t)) := {
    lo := rfl
    own := rfl
    lp := rfl
    size := by simp [k']
    os := rfl
    tape := rfl
    output := rfl
    heap := fun c hc => by
      show (k.w.heap.push _)[c]? = _
      rw [Array.getElem?_push, if_neg (by omega)] }
  have hold : ∀ b s, k.sh b = some s → k'.sh b = some s ∧ k'.σ b = k.σ b ∧ k'.room b = k.room b := fun b s hb => ⟨hb, rfl, rfl⟩
  have hle := hN.le hS hold
  have hF' : FRep k' f g tmps := hF.mono hle fun c t hc => ⟨hN.own_old (hS.ownlt _ _ hc), hN.heap c (hS.ownlt _ _ hc)⟩
  refine ⟨k', rfl, hS.new hN rfl rfl rfl, hN.evo hS hold T, ?_, fun d hd hB => hB.new hN (by rintro f' t' h; simp only [Option.some.injEq, Own.lv.injEq] at h; omega) (by simp)⟩
  have same : ∀ s, s ≠ t → (tmps.setIfInBounds t (.pointer (some ⟨k.w.heap.size, 0, none⟩))).getD s undef = tmps.getD s undef := fun s hs => by
    simp [Array.getD_eq_getD_getElem?, Array.getElem?_setIfInBounds_ne (Ne.symm hs)]
  have here : (tmps.setIfInBounds t (.pointer (some ⟨k.w.heap.size, 0, none⟩))).getD t undef = .pointer (some ⟨k.w.heap.size, 0, none⟩) := by simp [Array.getD_eq_getD_getElem?, ht]
  intro s u hu
  by_cases e : s = t
  · subst e
    simp only [if_true, Option.some.injEq] at hu; subst hu
    refine ⟨k.w.heap.size, here, by simp [k'], RepOwn.mk fun i x hi => ?_⟩
    obtain ⟨v, hv, hx⟩ := hr.get hi
    refine ⟨v, ?_, ?_, h1 v (List.mem_of_getElem? hv), hx.mono hle⟩
    · show (k.w.alloc _).cell? _ = _
      rw [Nat.zero_add, World.cell?_alloc_new, ← Array.getElem?_toList]; exact hv
    · show (k.w.alloc _).frozen? _ = _
      rw [World.frozen?_alloc_new]
  · simp only [e, if_false] at hu
    have := hF' s u hu
    cases u with
    | lv cs' => obtain ⟨c, h1, h2⟩ := this; exact ⟨c, by rw [same _ e]; exact h1, h2⟩
    | loc s' off =>
      have hne : s' ≠ t := by rintro rfl; exact hno s off hu
      intro cs' hcs
      simp only [hne, if_false] at hcs
      obtain ⟨c, h1, h2⟩ := this cs' hcs
      exact ⟨c, by rw [same _ hne]; exact h1, by rw [same _ e]; exact h2⟩
    | _ => simpa only [SlotRep, same _ e] using this

/-- a guard -/
theorem wanted_ok (hF : FRep k f g tmps) {all : Array Oper} {o : Oper} {b : Bool} (h : wantedV all g o = some b) : Region.wanted o (yielded all tmps) = b := by
  unfold wantedV at h
  unfold Region.wanted
  split at h
  · simp only [Option.some.injEq] at h
    rename_i hg; rw [hg]; exact h
  · rename_i j q hg
    rw [hg]
    simp only
    split at h
    · rename_i p hp
      split at h
      · rename_i t ht
        split at h
        · rename_i x hx
          simp only [Option.some.injEq] at h; subst h
          have hr := hF.first hx rfl
          simp only [Rep] at hr
          have : tmps[t]? = some (.bool x) := by
            rw [Array.getD_eq_getD_getElem?] at hr
            cases e : tmps[t]? with
            | none => rw [e] at hr; simp [undef] at hr
            | some y => rw [e] at hr; simpa using hr
          simp [yielded, hp, ht, this]
        · rename_i hx
          simp only [Option.some.injEq] at h; subst h
          have hr := hF.first hx rfl
          simp only [Rep] at hr
          obtain ⟨a, hr, ha⟩ := hr
          have : yielded all tmps j = none := by
            simp only [yielded, hp, ht, Option.bind_some]
            rw [Array.getD_eq_getD_getElem?] at hr
            cases e : tmps[t]? with
            | none => rfl
            | some y => rw [e] at hr; simp only [Option.getD_some] at hr; rw [hr]
          rw [this]; rfl
        · simp at h
      · simp at h
    · simp at h
end

/-- what a call comes to -/
def CallOk (E : Env) (fn : FuncId) (args : List Val) (S : St) (v : Val) (S' : St) : Prop :=
  ∀ (k : K) (d : Nat) (vs : Array Value), Sim E k S → Bound k d → Below k S d → RepAll k args vs.toList →
    ∀ (m : Machine) (F : Frame) (cs : List Frame), Waits F → Applies E.P m F cs (callFunc fn vs) k.w →
      ∃ k' cv, Steps E.P m (lone (F.finish cv) cs k'.w) ∧ Rep k' v cv ∧ Sim E k' S' ∧ Evo k k' (touch k S.L) ∧ Bound k' d ∧ LK S.L S'.L
def YieldOk (E : Env) (l : Nat) (args : List Val) (S : St) (v : Val) (S' : St) : Prop :=
  ∀ (k : K) (d : Nat) (vs : Array Value), Sim E k S → Bound k d → Below k S d → RepAll k args vs.toList →
    ∀ (m : Machine) (F : Frame) (cs : List Frame), Waits F → Applies E.P m F cs (Instr.yield (k.lo l) vs) k.w →
      ∃ k' cv, Steps E.P m (lone (F.finish cv) cs k'.w) ∧ Rep k' v cv ∧ Sim E k' S' ∧ Evo k k' (touch k S.L) ∧ Bound k' d ∧ LK S.L S'.L
end Go.V

/- One operation in a region: the interpreter's step is the machine's. -/
namespace Go.V

def putG (g : G) (dst : Option Nat) (v : Val) : G :=
  match dst with
  | some d => fun x => if x = d then some v else g x
  | none => g
def dstOk (c : Ctx) (dst : Option Nat) : Prop := ∀ d, dst = some d → d < c.n ∧ c.fixed.contains d = false
/-- less is known -/
def Weak (g' g : G) : Prop := ∀ t v, g' t = some v → g t = some v ∨ v = .unk

/-- a step of the interpreter, the frame a function -/
def StepR (rec : Rec) (E : Env) (c : Ctx) (g : G) (S : St) (o : Oper) (g' : G) (S' : St) : Prop :=
  ∃ r, opV E c g S o = some r ∧ match r with
    | .val v _ ups S1 => S' = S1 ∧ g' = putG (upsG g ups) o.dst (v.getD (.tup [])) ∧ dstOk c o.dst
    | .laid cs => ∃ t g2, o.dst = some t ∧ t < c.n ∧ c.fixed.contains t = false ∧ Weak g2 g ∧ (∀ u off, g2 u ≠ some (.loc t off)) ∧ g' = putG g2 (some t) (.lv cs) ∧ S' = S
    | .call h args => ∃ v, callV rec E h args S = some (v, S') ∧ g' = putG g o.dst v ∧ dstOk c o.dst
    | .yld l args => ∃ v, yieldV rec E l args S = some (v, S') ∧ g' = putG g o.dst v ∧ dstOk c o.dst

/-- what a frame's steps may change -/
structure Went (c : Ctx) (f : Nat) (k : K) (S : St) (tmps : Array Value) (k' : K) (S' : St) (tmps' : Array Value) : Prop where
  evo : Evo k k' (touchF k S.L f)
  lk : LK S.L S'.L
  fixed : ∀ t, c.fixed.contains t = true → tmps'.getD t undef = tmps.getD t undef

section
variable {E : Env} {k k' k'' : K} {S S' S'' : St} {f d n : Nat} {ro : Option Nat} {g g' : G} {tmps tmps' tmps'' : Array Value} {de : List Deferred} {c : Ctx} {rec : Rec}

theorem Went.refl : Went c f k S tmps k S tmps := ⟨.refl _ _, .refl _, fun _ _ => rfl⟩
theorem Went.trans (hS : Sim E k S) (h : Went c f k S tmps k' S' tmps') (h' : Went c f k' S' tmps' k'' S'' tmps'') : Went c f k S tmps k'' S'' tmps'' :=
  ⟨h.evo.transF hS h.lk.eq h'.evo, h.lk.trans h'.lk, fun t ht => (h'.fixed t ht).trans (h.fixed t ht)⟩

def setDst (tmps : Array Value) (dst : Option Nat) (v : Value) : Array Value := match dst with | some d => tmps.setIfInBounds d v | none => tmps

theorem setDst_size (dst : Option Nat) (v : Value) : (setDst tmps dst v).size = tmps.size := by cases dst <;> simp [setDst]
theorem setDst_fixed {dst : Option Nat} (h : dstOk c dst) (v : Value) {t : Nat} (ht : c.fixed.contains t = true) : (setDst tmps dst v).getD t undef = tmps.getD t undef := by
  cases dst with
  | none => rfl
  | some e =>
    have hne : e ≠ t := by rintro rfl; rw [(h e rfl).2] at ht; simp at ht
    simp [setDst, Array.getD_eq_getD_getElem?, Array.getElem?_setIfInBounds_ne hne]

theorem FRep.dst (hF : FRep k f g tmps) {dst : Option Nat} (hd : ∀ d, dst = some d → d < tmps.size) {v : Val} {cv : Value} (hv : ValRep k g tmps v cv) :
    FRep k f (putG g dst v) (setDst tmps dst cv) := by
  cases dst with
  | none => exact hF
  | some e => exact hF.put (hd e rfl) hv

/-- ONE OPERATION. -/
theorem step_sound (hcall : ∀ h args S v S', callV rec E h args S = some (v, S') → CallOk E h args S v S') (hyield : ∀ l args S v S', yieldV rec E l args S = some (v, S') → YieldOk E l args S v S')
    (hO : FrOk E k S f d c.n ro g tmps de) {o : Oper} (h : StepR rec E c g S o g' S') {all : Array Oper} {i : Nat} (ho : all[i]? = some o) (hw : Region.wanted o (yielded all tmps) = true) (rest : List Nat) (items : List Item) (cs : List Frame) :
    ∃ k' tmps', Steps E.P (lone (frm c.f ro tmps (.inRegion all (i :: rest) :: items) de) cs k.w) (lone (frm c.f ro tmps' (.inRegion all rest :: items) de) cs k'.w) ∧
      FrOk E k' S' f d c.n ro g' tmps' de ∧ Went c f k S tmps k' S' tmps' := by
  obtain ⟨r, hr, hm⟩ := h
  have hnd : ∀ q, o.op ≠ .defer q := by
    intro q e
    simp [opV, e] at hr
  have hA := applies_op (P := E.P) (fn := c.f) (ro := ro) (k := items) (de := de) (cs := cs) (w := k.w) (rest := rest) ho hw hnd
  have hres := op_sound hO.sim hO.fr hO.busy hr
  have hfin : ∀ v, (frm c.f ro tmps (.inRegion all (i :: rest) :: items) de).finish v = frm c.f ro (setDst tmps o.dst v) (.inRegion all rest :: items) de := fun v => finish_frm ho v
  have hwaits : Waits (frm c.f ro tmps (.inRegion all (i :: rest) :: items) de) := ⟨rfl, .inl ⟨_, _, _, rfl⟩⟩
  have done : ∀ {v : Val} {S1 : St}, dstOk c o.dst → (∃ k' cv, Steps E.P (lone (frm c.f ro tmps (.inRegion all (i :: rest) :: items) de) cs k.w) (lone ((frm c.f ro tmps (.inRegion all (i :: rest) :: items) de).finish cv) cs k'.w) ∧
      Rep k' v cv ∧ Sim E k' S1 ∧ Evo k k' (touch k S.L) ∧ Bound k' d ∧ LK S.L S1.L) →
      ∃ k' tmps', Steps E.P (lone (frm c.f ro tmps (.inRegion all (i :: rest) :: items) de) cs k.w) (lone (frm c.f ro tmps' (.inRegion all rest :: items) de) cs k'.w) ∧
        FrOk E k' S1 f d c.n ro (putG g o.dst v) tmps' de ∧ Went c f k S tmps k' S1 tmps' := by
    rintro v S1 hd ⟨k', cv, h1, h2, h3, h4, h5, h6⟩
    rw [hfin] at h1
    have he : Evo k k' (touchF k S.L f) := h4.weak fun _ h => .inl h
    have hF' : FRep k' f g tmps := hO.fr.call hO.sim hO.busy h4
    refine ⟨k', _, h1, hO.after h3 he h6.eq (hF'.dst (fun t ht => by rw [hO.size]; exact (hd t ht).1) (.of h2)) (by rw [setDst_size]; exact hO.size) h5, ⟨he, h6, fun t ht => setDst_fixed hd _ ht⟩⟩
  cases r with
  | val v kc ups S1 =>
    obtain ⟨rfl, rfl, hd⟩ := hm
    obtain ⟨k', nx, hok⟩ := hres
    have hlk : LK S.L S'.L := .of_eq hok.L
    cases v with
    | none =>
      have hv := hok.val
      simp only at hv; subst hv
      refine ⟨k', setDst tmps o.dst undef, .one (by rw [← hfin]; exact hA.skip hok.run), hO.after hok.sim hok.evo hlk.eq (hok.fr.dst (fun t ht => by rw [hO.size]; exact (hd t ht).1) ?_) (by rw [setDst_size]; exact hO.size) (hok.bound d hO.lt hO.bound),
        ⟨hok.evo, hlk, fun t ht => setDst_fixed hd _ ht⟩⟩
      exact .of (by simp only [Option.getD_none, Rep]; exact ⟨#[], rfl, by simp [RepAll]⟩)
    | some x =>
      obtain ⟨cv, rfl, hx⟩ := hok.val
      exact ⟨k', setDst tmps o.dst cv, .one (by rw [← hfin]; exact hA.value hok.run), hO.after hok.sim hok.evo hlk.eq (hok.fr.dst (fun t ht => by rw [hO.size]; exact (hd t ht).1) hx) (by rw [setDst_size]; exact hO.size) (hok.bound d hO.lt hO.bound),
        ⟨hok.evo, hlk, fun t ht => setDst_fixed hd _ ht⟩⟩
  | laid cs' =>
    obtain ⟨t, g2, hdst, htn, htf, hweak, hno, rfl, rfl⟩ := hm
    obtain ⟨T, vs, h1, h2, h3⟩ := hres
    obtain ⟨k', hk', q1, q2, q3, q4⟩ := laid_rep (T := touchF k S'.L f) (e := T) hO.sim (hO.fr.weak hweak) (by rw [hO.size]; exact htn) h2 h3 hno
    have hd : dstOk c o.dst := fun t' ht' => by rw [hdst] at ht'; simp only [Option.some.injEq] at ht'; subst ht'; exact ⟨htn, htf⟩
    refine ⟨k', setDst tmps o.dst (.pointer (some ⟨k.w.heap.size, 0, none⟩)), .one (by rw [← hfin, hk']; exact hA.value h1), hO.after q1 q2 (.refl _) ?_ (by rw [setDst_size]; exact hO.size) (q4 d hO.lt hO.bound), ⟨q2, .refl _, fun t ht => setDst_fixed hd _ ht⟩⟩
    rw [hdst]; exact q3
  | call h args =>
    obtain ⟨v, hv, rfl, hd⟩ := hm
    obtain ⟨cargs, h1, h2⟩ := hres
    exact done hd (hcall _ _ _ _ _ hv k d cargs hO.sim hO.bound hO.below h2 _ _ cs hwaits (hA.congr h1))
  | yld l args =>
    obtain ⟨v, hv, rfl, hd⟩ := hm
    obtain ⟨cargs, h1, _, h2⟩ := hres
    exact done hd (hyield _ _ _ _ _ hv k d cargs hO.sim hO.bound hO.below h2 _ _ cs hwaits (hA.congr h1))

/-- an operation that is not wanted -/
theorem step_unwanted (hO : FrOk E k S f d c.n ro g tmps de) {o : Oper} (hd : dstOk c o.dst) {all : Array Oper} {i : Nat} (ho : all[i]? = some o) (hw : Region.wanted o (yielded all tmps) = false) (rest : List Nat) (items : List Item) (cs : List Frame) :
    ∃ tmps', Steps E.P (lone (frm c.f ro tmps (.inRegion all (i :: rest) :: items) de) cs k.w) (lone (frm c.f ro tmps' (.inRegion all rest :: items) de) cs k.w) ∧
      FrOk E k S f d c.n ro (putG g o.dst (.tup [])) tmps' de ∧ Went c f k S tmps k S tmps' := by
  refine ⟨setDst tmps o.dst undef, .one (st_unwanted ho hw), hO.after hO.sim (.refl _ _) (.refl _) (hO.fr.dst (fun t ht => by rw [hO.size]; exact (hd t ht).1) (.of ?_)) (by rw [setDst_size]; exact hO.size) hO.bound, ⟨.refl _ _, .refl _, fun t ht => setDst_fixed hd _ ht⟩⟩
  simp only [Rep]; exact ⟨#[], rfl, by simp [RepAll]⟩

theorem get_puts (fr : Fr) (ups : List (Nat × Val)) : (fr.puts ups).get = upsG fr.get ups := Fr.get_puts ups fr
theorem putO_get {fr fr' : Fr} {dst : Option Nat} {v : Val} (h : putO c fr dst v = some fr') : fr'.get = putG fr.get dst v ∧ dstOk c dst := by
  unfold putO at h
  cases dst with
  | none => simp only [Option.some.injEq] at h; subst h; exact ⟨rfl, fun d hd => by simp at hd⟩
  | some e =>
    simp only at h
    split at h
    · rename_i hc
      simp only [Option.some.injEq] at h; subst h
      exact ⟨Fr.get_put fr e v, fun d hd => by simp only [Option.some.injEq] at hd; subst hd; exact hc⟩
    · simp at h

theorem unloc_get (t : Nat) : ∀ (fr : Fr) (u : Nat), (fr.unloc t).get u = (fr.get u).map (unlocV t)
  | [], _ => rfl
  | (s, v) :: r, u => by
    simp only [Fr.unloc, Fr.get]
    split
    · rfl
    · exact unloc_get t r u

theorem stepOp_R {fr fr' : Fr} {o : Oper} (h : stepOp rec E c fr S o = some (fr', S')) : StepR rec E c fr.get S o fr'.get S' := by
  unfold stepOp at h
  split at h
  · rename_i v kc ups S1 hr
    split at h
    · rename_i fr1 hp
      simp only [Option.some.injEq, Prod.mk.injEq] at h
      obtain ⟨rfl, rfl⟩ := h
      obtain ⟨h1, h2⟩ := putO_get hp
      exact ⟨_, hr, rfl, by rw [h1, get_puts], h2⟩
    · simp at h
  · rename_i cs hr
    split at h
    · rename_i t ht
      split at h
      · rename_i hc
        simp only [Option.some.injEq, Prod.mk.injEq] at h
        obtain ⟨rfl, rfl⟩ := h
        refine ⟨_, hr, t, (fr.unloc t).get, ht, hc.1, hc.2, ?_, ?_, Fr.get_put _ _ _, rfl⟩
        · intro u v hv
          rw [unloc_get] at hv
          cases e : fr.get u with
          | none => rw [e] at hv; simp at hv
          | some x =>
            rw [e] at hv
            simp only [Option.map_some, Option.some.injEq] at hv
            by_cases hx : ∃ s q, x = .loc s q
            · obtain ⟨s, q, rfl⟩ := hx
              simp only [unlocV] at hv
              split at hv
              · exact .inr hv.symm
              · exact .inl (by rw [← hv])
            · have : unlocV t x = x := by
                cases x <;> first | rfl | (exact absurd ⟨_, _, rfl⟩ hx)
              rw [this] at hv
              exact .inl (by rw [hv])
        · intro u off hu
          rw [unloc_get] at hu
          cases e : fr.get u with
          | none => rw [e] at hu; simp at hu
          | some x =>
            rw [e] at hu
            simp only [Option.map_some, Option.some.injEq] at hu
            cases x <;> simp only [unlocV, reduceCtorEq] at hu
            split at hu
            · simp at hu
            · rename_i hne; simp only [Val.loc.injEq] at hu; exact hne hu.1
      · simp at h
    · simp at h
  · rename_i q args hr
    split at h
    · rename_i v S1 hv
      split at h
      · rename_i fr1 hp
        simp only [Option.some.injEq, Prod.mk.injEq] at h
        obtain ⟨rfl, rfl⟩ := h
        obtain ⟨h1, h2⟩ := putO_get hp
        exact ⟨_, hr, v, hv, h1, h2⟩
      · simp at h
    · simp at h
  · rename_i l args hr
    split at h
    · rename_i v S1 hv
      split at h
      · rename_i fr1 hp
        simp only [Option.some.injEq, Prod.mk.injEq] at h
        obtain ⟨rfl, rfl⟩ := h
        obtain ⟨h1, h2⟩ := putO_get hp
        exact ⟨_, hr, v, hv, h1, h2⟩
      · simp at h
    · simp at h
  · simp at h
end
end Go.V

/- Lists of operations; a region in the order of the text. -/
namespace Go.V

def RunL (rec : Rec) (E : Env) (c : Ctx) (all : Array Oper) : List Nat → G → St → G → St → Prop
  | [], g, S, g', S' => g' = g ∧ S' = S
  | i :: l, g, S, g', S' => ∃ o, all[i]? = some o ∧
      ((wantedV all g o = some true ∧ ∃ g1 S1, StepR rec E c g S o g1 S1 ∧ RunL rec E c all l g1 S1 g' S') ∨
       (wantedV all g o = some false ∧ dstOk c o.dst ∧ RunL rec E c all l (putG g o.dst (.tup [])) S g' S'))

section
variable {E : Env} {k k' k'' : K} {S S' S'' : St} {f d n : Nat} {ro : Option Nat} {g g' : G} {tmps tmps' tmps'' : Array Value} {de : List Deferred} {c : Ctx} {rec : Rec}

theorem runL_sound (hcall : ∀ h args S v S', callV rec E h args S = some (v, S') → CallOk E h args S v S') (hyield : ∀ l args S v S', yieldV rec E l args S = some (v, S') → YieldOk E l args S v S')
    {all : Array Oper} (items : List Item) (cs : List Frame) : ∀ (l : List Nat) {k : K} {S : St} {g : G} {tmps : Array Value}, FrOk E k S f d c.n ro g tmps de → RunL rec E c all l g S g' S' →
    ∃ k' tmps', Steps E.P (lone (frm c.f ro tmps (.inRegion all l :: items) de) cs k.w) (lone (frm c.f ro tmps' items de) cs k'.w) ∧
      FrOk E k' S' f d c.n ro g' tmps' de ∧ Went c f k S tmps k' S' tmps'
  | [], k, S, g, tmps, hO, h => by
    obtain ⟨rfl, rfl⟩ := h
    exact ⟨k, tmps, .one st_region_end, hO, .refl⟩
  | i :: l, k, S, g, tmps, hO, h => by
    obtain ⟨o, ho, h⟩ := h
    rcases h with ⟨hw, g1, S1, hs, hl⟩ | ⟨hw, hd, hl⟩
    · obtain ⟨k1, t1, s1, hO1, w1⟩ := step_sound hcall hyield hO hs ho (wanted_ok hO.fr hw) l items cs
      obtain ⟨k2, t2, s2, hO2, w2⟩ := runL_sound hcall hyield items cs l hO1 hl
      exact ⟨k2, t2, s1.trans s2, hO2, w1.trans hO.sim w2⟩
    · obtain ⟨t1, s1, hO1, w1⟩ := step_unwanted hO hd ho (wanted_ok hO.fr hw) l items cs
      obtain ⟨k2, t2, s2, hO2, w2⟩ := runL_sound hcall hyield items cs l hO1 hl
      exact ⟨k2, t2, s1.trans s2, hO2, w1.trans hO.sim w2⟩

theorem opsV_R {all : Array Oper} : ∀ (l : List Oper) (p : Nat) {fr fr' : Fr} {S S' : St}, all.toList.drop p = l → opsV rec E c all l fr S = some (fr', S') →
    RunL rec E c all (List.range' p l.length) fr.get S fr'.get S'
  | [], p, fr, fr', S, S', _, h => by
    simp only [opsV, Option.some.injEq, Prod.mk.injEq] at h
    obtain ⟨rfl, rfl⟩ := h
    exact ⟨rfl, rfl⟩
  | o :: l, p, fr, fr', S, S', hp, h => by
    have ho : all[p]? = some o := by
      rw [← Array.getElem?_toList]
      have := congrArg (·[0]?) hp
      simpa using this
    have hp' : all.toList.drop (p + 1) = l := by
      rw [← List.tail_drop, hp]; rfl
    rw [List.length_cons, List.range'_succ]
    refine ⟨o, ho, ?_⟩
    simp only [opsV] at h
    split at h
    · rename_i hw
      split at h
      · rename_i fr1 S1 hs
        exact .inl ⟨hw, _, _, stepOp_R hs, opsV_R l (p + 1) hp' h⟩
      · simp at h
    · rename_i hw
      split at h
      · rename_i fr1 hput
        obtain ⟨h1, h2⟩ := putO_get hput
        refine .inr ⟨hw, h2, ?_⟩
        rw [← h1]
        exact opsV_R l (p + 1) hp' h
      · simp at h
    · simp at h

theorem keep_get : ∀ (l : List Nat) (fr : Fr) {t : Nat} {v : Val}, (fr.keep l).get t = some v → fr.get t = some v
  | [], _, _, _, h => by simp [Fr.keep, Fr.get] at h
  | s :: l, fr, t, v, h => by
    simp only [Fr.keep] at h
    split at h
    · rename_i u hu
      simp only [Fr.get] at h
      split at h
      · rename_i e; subst e; rw [hu]; exact h
      · exact keep_get l fr h
    · exact keep_get l fr h

theorem FrOk.weak (h : FrOk E k S f d n ro g tmps de) (hw : Weak g' g) : FrOk E k S f d n ro g' tmps de := { h with fr := h.fr.weak hw }
theorem FrOk.keep {fr : Fr} (h : FrOk E k S f d n ro fr.get tmps de) (l : List Nat) : FrOk E k S f d n ro (fr.keep l).get tmps de :=
  h.weak fun _ _ hv => .inl (keep_get l fr hv)
end

/-- where a stack of items has been left -/
def Ends (j : Option Code) (tail todo : List Item) : Prop :=
  match j with
  | none => todo = tail
  | some .ret => ∃ r, todo = .code .ret :: r
  | some (.exit id) => ∃ r, todo = .code (.exit id) :: r ∧ exitTo id r = exitTo id tail
  | _ => False

def CtxOk (E : Env) (c : Ctx) : Prop := ∃ fn : Func, E.P.funcs[c.f]? = some fn ∧ fn.ntmps = c.n

/-- what is shown of the interpreter -/
def RecOk (E : Env) (rec : Rec) : Prop :=
  ∀ (c : Ctx) (items : List Item) (fr : Fr) (S : St) (j : Option Code) (fr' : Fr) (S' : St), rec c items fr S = some (j, fr', S') → CtxOk E c →
    ∀ (k : K) (f d : Nat) (ro : Option Nat) (tmps : Array Value) (de : List Deferred) (tail : List Item) (cs : List Frame), FrOk E k S f d c.n ro fr.get tmps de →
      ∃ k' tmps' de' todo', Steps E.P (lone (frm c.f ro tmps (items ++ tail) de) cs k.w) (lone (frm c.f ro tmps' todo' de') cs k'.w) ∧ Ends j tail todo' ∧
        FrOk E k' S' f d c.n ro fr'.get tmps' de' ∧ Went c f k S tmps k' S' tmps' ∧ (ro ≠ none → de' = de)

theorem exitTo_append (id : Nat) : ∀ (a b : List Item), exitTo id (a ++ b) = match exitTo id a with | some k => some (k ++ b) | none => exitTo id b
  | [], b => rfl
  | x :: a, b => by
    cases x <;> simp only [List.cons_append, exitTo, exitTo_append id a b]
    split <;> rfl
end Go.V

/- What stays when blocks or a loop are given up. -/
namespace Go.V

mutual
/-- refers to blocks in B and loops in Y alone -/
def Val.Fine (B Y : Nat → Prop) : Val → Prop
  | .ptr b _ _ | .sl b _ _ _ _ | .map b => B b
  | .yield l => Y l
  | .sli cs len _ => len = 0 ∨ Val.Fines B Y cs
  | .pin cs _ | .lv cs | .fn _ cs | .agg cs | .tup cs => Val.Fines B Y cs
  | .ifc _ v => v.Fine B Y
  | _ => True
def Val.Fines (B Y : Nat → Prop) : List Val → Prop
  | [] => True
  | v :: l => v.Fine B Y ∧ Val.Fines B Y l
end

theorem Val.Fines.get {B Y : Nat → Prop} : ∀ {l : List Val} {i : Nat} {v : Val}, Val.Fines B Y l → l[i]? = some v → v.Fine B Y
  | v :: l, 0, _, h, hi => by simp only [List.getElem?_cons_zero, Option.some.injEq] at hi; subst hi; simp only [Val.Fines] at h; exact h.1
  | _ :: l, i + 1, _, h, hi => by simp only [Val.Fines] at h; exact h.2.get (by simpa using hi)
  | [], _, _, _, hi => by simp at hi

mutual
theorem Val.low_fine (n : Nat) : ∀ v : Val, v.low n = true → v.Fine (· < n) (fun _ => True)
  | .ptr .., h | .sl .., h | .map _, h => by simpa only [Val.low, Val.Fine, decide_eq_true_eq] using h
  | .sli cs _ _, h => by simp only [Val.low] at h; simp only [Val.Fine]; exact .inr (Val.lows_fine n cs h)
  | .pin cs _, h | .lv cs, h | .fn _ cs, h | .agg cs, h | .tup cs, h => by
    simp only [Val.low] at h; simp only [Val.Fine]; exact Val.lows_fine n cs h
  | .ifc _ v, h => by simp only [Val.low] at h; simp only [Val.Fine]; exact Val.low_fine n v h
  | .yield _, _ => by simp [Val.Fine]
  | .unk, _ | .bool _, _ | .int .., _ | .str _, _ | .nilp, _ | .loc .., _ | .nilf, _ | .nilm, _ | .nili, _ => by simp [Val.Fine]
theorem Val.lows_fine (n : Nat) : ∀ l : List Val, Val.lows n l = true → Val.Fines (· < n) (fun _ => True) l
  | [], _ => by simp [Val.Fines]
  | v :: l, h => by
    simp only [Val.lows, Bool.and_eq_true] at h
    simp only [Val.Fines]
    exact ⟨Val.low_fine n v h.1, Val.lows_fine n l h.2⟩
end
mutual
theorem Val.noY_fine (m : Nat) : ∀ v : Val, v.noY m = true → v.Fine (fun _ => True) (· < m)
  | .ptr .., _ | .sl .., _ | .map _, _ => by simp [Val.Fine]
  | .sli cs _ _, h => by simp only [Val.noY] at h; simp only [Val.Fine]; exact .inr (Val.noYs_fine m cs h)
  | .pin cs _, h | .lv cs, h | .fn _ cs, h | .agg cs, h | .tup cs, h => by
    simp only [Val.noY] at h; simp only [Val.Fine]; exact Val.noYs_fine m cs h
  | .ifc _ v, h => by simp only [Val.noY] at h; simp only [Val.Fine]; exact Val.noY_fine m v h
  | .yield _, h => by simpa only [Val.noY, Val.Fine, decide_eq_true_eq] using h
  | .unk, _ | .bool _, _ | .int .., _ | .str _, _ | .nilp, _ | .loc .., _ | .nilf, _ | .nilm, _ | .nili, _ => by simp [Val.Fine]
theorem Val.noYs_fine (m : Nat) : ∀ l : List Val, Val.noYs m l = true → Val.Fines (fun _ => True) (· < m) l
  | [], _ => by simp [Val.Fines]
  | v :: l, h => by
    simp only [Val.noYs, Bool.and_eq_true] at h
    simp only [Val.Fines]
    exact ⟨Val.noY_fine m v h.1, Val.noYs_fine m l h.2⟩
end

mutual
theorem Val.Fine.mono {B Y B' Y' : Nat → Prop} (hB : ∀ b, B b → B' b) (hY : ∀ l, Y l → Y' l) : ∀ v : Val, v.Fine B Y → v.Fine B' Y'
  | .ptr .., h | .sl .., h | .map _, h => by simp only [Val.Fine] at h ⊢; exact hB _ h
  | .sli cs _ _, h => by simp only [Val.Fine] at h ⊢; exact h.imp id (Val.Fines.mono hB hY cs)
  | .pin cs _, h | .lv cs, h | .fn _ cs, h | .agg cs, h | .tup cs, h => by
    simp only [Val.Fine] at h ⊢; exact Val.Fines.mono hB hY cs h
  | .ifc _ v, h => by simp only [Val.Fine] at h ⊢; exact Val.Fine.mono hB hY v h
  | .yield _, h => by simp only [Val.Fine] at h ⊢; exact hY _ h
  | .unk, _ | .bool _, _ | .int .., _ | .str _, _ | .nilp, _ | .loc .., _ | .nilf, _ | .nilm, _ | .nili, _ => by simp [Val.Fine]
theorem Val.Fines.mono {B Y B' Y' : Nat → Prop} (hB : ∀ b, B b → B' b) (hY : ∀ l, Y l → Y' l) : ∀ l : List Val, Val.Fines B Y l → Val.Fines B' Y' l
  | [], _ => by simp [Val.Fines]
  | v :: l, h => by simp only [Val.Fines] at h ⊢; exact ⟨Val.Fine.mono hB hY v h.1, Val.Fines.mono hB hY l h.2⟩
end

section
variable {E : Env} {k k' : K} {S : St}
mutual
/-- what stands for something refers to what there is -/
theorem Rep.fine (hS : Sim E k S) : ∀ (x : Val) (v : Value), Rep k x v → x.Fine (· < S.H.length) (· < S.L.length)
  | .ptr b _ none, _, h => by
    simp only [Rep] at h; simp only [Val.Fine]
    obtain ⟨⟨n, h⟩, _⟩ := h
    rw [hS.sh] at h
    simp only [Option.map_eq_some_iff] at h
    obtain ⟨_, h, _⟩ := h
    exact (List.getElem?_eq_some_iff.1 h).1
  | .ptr b _ (some _), _, h => by
    simp only [Rep] at h; simp only [Val.Fine]
    obtain ⟨n, _, h, _⟩ := h
    rw [hS.sh] at h
    simp only [Option.map_eq_some_iff] at h
    obtain ⟨_, h, _⟩ := h
    exact (List.getElem?_eq_some_iff.1 h).1
  | .sl b _ _ _ (.fix _), _, h => by
    simp only [Rep] at h; simp only [Val.Fine]
    obtain ⟨⟨n, h⟩, _⟩ := h
    rw [hS.sh] at h
    simp only [Option.map_eq_some_iff] at h
    obtain ⟨_, h, _⟩ := h
    exact (List.getElem?_eq_some_iff.1 h).1
  | .sl b _ _ _ (.flex _), _, h => by
    simp only [Rep] at h; simp only [Val.Fine]
    obtain ⟨n, _, _, h, _⟩ := h
    rw [hS.sh] at h
    simp only [Option.map_eq_some_iff] at h
    obtain ⟨_, h, _⟩ := h
    exact (List.getElem?_eq_some_iff.1 h).1
  | .map b, _, h => by
    simp only [Rep] at h; simp only [Val.Fine]
    have h := h.1
    rw [hS.sh] at h
    simp only [Option.map_eq_some_iff] at h
    obtain ⟨_, h, _⟩ := h
    exact (List.getElem?_eq_some_iff.1 h).1
  | .yield l, _, h => by simp only [Rep] at h; simp only [Val.Fine]; exact hS.dead _ _ h.1
  | .pin cs _, _, h => by
    simp only [Rep] at h; simp only [Val.Fine]
    obtain ⟨c, o, _, h⟩ := h
    exact RepMem.fine hS c o cs h
  | .lv _, _, h => by simp [Rep] at h
  | .loc _ _, _, h => by simp [Rep] at h
  | .sli cs len q, _, h => by
    simp only [Rep] at h; simp only [Val.Fine]
    obtain ⟨a, cp, _, _, _, _, h⟩ := h
    rcases h with h | ⟨c, o, _, h⟩
    · exact .inl h
    · exact .inr (RepMem.fine hS c o cs h)
  | .fn _ cs, _, h => by
    simp only [Rep] at h; simp only [Val.Fine]
    obtain ⟨a, _, h⟩ := h
    exact RepAll.fine hS cs _ h
  | .agg cs, _, h => by
    simp only [Rep] at h; simp only [Val.Fine]
    obtain ⟨a, _, h, _⟩ := h
    exact RepAll.fine hS cs _ h
  | .tup cs, _, h => by
    simp only [Rep] at h; simp only [Val.Fine]
    obtain ⟨a, _, h⟩ := h
    exact RepAll.fine hS cs _ h
  | .ifc _ x, _, h => by
    simp only [Rep] at h; simp only [Val.Fine]
    obtain ⟨y, _, h⟩ := h
    exact Rep.fine hS x y h
  | .unk, _, _ | .bool _, _, _ | .int .., _, _ | .str _, _, _ | .nilp, _, _ | .nilf, _, _ | .nilm, _, _ | .nili, _, _ => by simp [Val.Fine]
theorem RepMem.fine (hS : Sim E k S) (c o : Nat) : ∀ (l : List Val), RepMem k c o l → Val.Fines (· < S.H.length) (· < S.L.length) l
  | [], _ => by simp [Val.Fines]
  | x :: l, h => by
    simp only [RepMem] at h; simp only [Val.Fines]
    obtain ⟨⟨_, v, _, _, hx⟩, hl⟩ := h
    exact ⟨Rep.fine hS x v hx, RepMem.fine hS c (o + 1) l hl⟩
theorem RepAll.fine (hS : Sim E k S) : ∀ (l : List Val) (vs : List Value), RepAll k l vs → Val.Fines (· < S.H.length) (· < S.L.length) l
  | [], [], _ => by simp [Val.Fines]
  | x :: l, v :: m, h => by
    simp only [RepAll] at h; simp only [Val.Fines]
    exact ⟨Rep.fine hS x v h.1, RepAll.fine hS l m h.2⟩
  | [], _ :: _, h => by simp [RepAll] at h
  | _ :: _, [], h => by simp [RepAll] at h
end
end

/-- some blocks and loops are given up -/
structure Cut (k k' : K) (B Y : Nat → Prop) : Prop where
  sh : ∀ b, B b → k'.sh b = k.sh b ∧ k'.σ b = k.σ b ∧ k'.room b = k.room b
  lp : ∀ l, Y l → k.own (k.lo l) = some (.loop l) → k'.lo l = k.lo l ∧ k'.own (k.lo l) = some (.loop l) ∧ k'.lp l = k.lp l
  inl : ∀ c, k.own c = none → k'.own c = none ∧ k'.w.heap[c]? = k.w.heap[c]?

section
variable {E : Env} {k k' : K} {S : St} {B Y : Nat → Prop}
mutual
theorem Rep.cutTo (hc : Cut k k' B Y) : ∀ (x : Val) (v : Value), x.Fine B Y → Rep k x v → Rep k' x v
  | .unk, _, _, _ => by simp [Rep]
  | .bool _, _, _, r => by simpa [Rep] using r
  | .int _ _, _, _, r => by simpa [Rep] using r
  | .str _, _, _, r => by simpa [Rep] using r
  | .nilp, _, _, r => by simpa [Rep] using r
  | .ptr b off none, _, hf, r => by
    simp only [Val.Fine] at hf
    simp only [Rep] at r ⊢
    obtain ⟨h1, h2, _⟩ := hc.sh b hf
    rw [h1, h2]; exact r
  | .ptr b off (some e), _, hf, r => by
    simp only [Val.Fine] at hf
    simp only [Rep] at r ⊢
    obtain ⟨h1, h2, _⟩ := hc.sh b hf
    rw [h1, h2]; exact r
  | .pin cs off, _, hf, r => by
    simp only [Val.Fine] at hf
    simp only [Rep] at r ⊢
    obtain ⟨c, o, hv, hm⟩ := r
    exact ⟨c, o, hv, RepMem.cutTo hc c o cs hf hm⟩
  | .lv _, _, _, r => by simp [Rep] at r
  | .loc _ _, _, _, r => by simp [Rep] at r
  | .sl b off len _ (.fix cp), _, hf, r => by
    simp only [Val.Fine] at hf
    simp only [Rep] at r ⊢
    obtain ⟨h1, h2, _⟩ := hc.sh b hf
    rw [h1, h2]; exact r
  | .sl b off len _ (.flex e), _, hf, r => by
    simp only [Val.Fine] at hf
    simp only [Rep] at r ⊢
    obtain ⟨h1, h2, h3⟩ := hc.sh b hf
    rw [h1, h2, h3]; exact r
  | .sli cs len q, _, hf, r => by
    simp only [Val.Fine] at hf
    simp only [Rep] at r ⊢
    obtain ⟨a, cp, hv, h1, h2, h3, h4⟩ := r
    refine ⟨a, cp, hv, h1, h2, h3, ?_⟩
    rcases h4 with h4 | ⟨c, o, ha, hm⟩
    · exact .inl h4
    · rcases hf with hf | hf
      · exact .inl hf
      · exact .inr ⟨c, o, ha, RepMem.cutTo hc c o cs hf hm⟩
  | .fn f cs, _, hf, r => by
    simp only [Val.Fine] at hf
    simp only [Rep] at r ⊢
    obtain ⟨a, hv, hm⟩ := r
    exact ⟨a, hv, RepAll.cutTo hc cs _ hf hm⟩
  | .yield l, _, hf, r => by
    simp only [Val.Fine] at hf
    simp only [Rep] at r ⊢
    obtain ⟨h1, h2, _⟩ := hc.lp l hf r.1
    rw [h1]
    exact ⟨h2, r.2⟩
  | .nilf, _, _, r => by simpa [Rep] using r
  | .map b, _, hf, r => by
    simp only [Val.Fine] at hf
    simp only [Rep] at r ⊢
    obtain ⟨h1, h2, _⟩ := hc.sh b hf
    rw [h1, h2]; exact r
  | .nilm, _, _, r => by simpa [Rep] using r
  | .ifc t x, _, hf, r => by
    simp only [Val.Fine] at hf
    simp only [Rep] at r ⊢
    obtain ⟨y, hv, hm⟩ := r
    exact ⟨y, hv, Rep.cutTo hc x y hf hm⟩
  | .nili, _, _, r => by simpa [Rep] using r
  | .agg cs, _, hf, r => by
    simp only [Val.Fine] at hf
    simp only [Rep] at r ⊢
    obtain ⟨a, hv, hm, h1⟩ := r
    exact ⟨a, hv, RepAll.cutTo hc cs _ hf hm, h1⟩
  | .tup cs, _, hf, r => by
    simp only [Val.Fine] at hf
    simp only [Rep] at r ⊢
    obtain ⟨a, hv, hm⟩ := r
    exact ⟨a, hv, RepAll.cutTo hc cs _ hf hm⟩
theorem RepMem.cutTo (hc : Cut k k' B Y) (c o : Nat) : ∀ (cs : List Val), Val.Fines B Y cs → RepMem k c o cs → RepMem k' c o cs
  | [], _, _ => by simp [RepMem]
  | x :: l, hf, r => by
    simp only [Val.Fines] at hf
    simp only [RepMem] at r ⊢
    obtain ⟨⟨hn, v, hv, h0, hr⟩, hl⟩ := r
    obtain ⟨h1, h2⟩ := hc.inl c hn
    exact ⟨⟨h1, v, by rw [cell?_heap h2]; exact hv, h0, Rep.cutTo hc x v hf.1 hr⟩, RepMem.cutTo hc c (o + 1) l hf.2 hl⟩
theorem RepAll.cutTo (hc : Cut k k' B Y) : ∀ (cs : List Val) (vs : List Value), Val.Fines B Y cs → RepAll k cs vs → RepAll k' cs vs
  | [], [], _, _ => by simp [RepAll]
  | x :: l, v :: m, hf, r => by
    simp only [Val.Fines] at hf
    simp only [RepAll] at r ⊢
    exact ⟨Rep.cutTo hc x v hf.1 r.1, RepAll.cutTo hc l m hf.2 r.2⟩
  | [], _ :: _, _, r => by simp [RepAll] at r
  | _ :: _, [], _, r => by simp [RepAll] at r
end

theorem RepOwn.cutTo (hc : Cut k k' B Y) {c o : Nat} {cs : List Val} (hw : k'.w.heap[c]? = k.w.heap[c]?) (hf : Val.Fines B Y cs) (r : RepOwn k c o cs) : RepOwn k' c o cs :=
  RepOwn.mk fun i x hi => by
    obtain ⟨v, h1, h2, h3, h4⟩ := r.get hi
    exact ⟨v, by rw [cell?_heap hw]; exact h1, by rw [frozen?_heap hw]; exact h2, h3, h4.cutTo hc _ _ (hf.get hi)⟩

def Fines2 (B Y : Nat → Prop) (es : List (Val × Val)) : Prop := ∀ e ∈ es, e.1.Fine B Y ∧ e.2.Fine B Y
def Block.Fine (B Y : Nat → Prop) : Block → Prop
  | .cells cs _ => Val.Fines B Y cs
  | .map es => Fines2 B Y es

theorem RepEnts.cutTo (hc : Cut k k' B Y) : ∀ {l : List (Val × Val)} {m : List MapEntry}, Fines2 B Y l → RepEnts k l m → RepEnts k' l m
  | [], [], _, _ => by simp [RepEnts]
  | (a, b) :: l, e :: m, hf, r => by
    simp only [RepEnts] at r ⊢
    have h := hf (a, b) (by simp)
    exact ⟨r.1.cutTo hc _ _ h.1, r.2.1.cutTo hc _ _ h.2, RepEnts.cutTo hc (fun e he => hf e (by simp [he])) r.2.2⟩
  | [], _ :: _, _, r => by simp [RepEnts] at r
  | _ :: _, [], _, r => by simp [RepEnts] at r

theorem BRep.cutTo (hc : Cut k k' B Y) {b : Nat} {blk : Block} (hB : B b) (ho : k'.own (k.σ b).1 = k.own (k.σ b).1) (hw : k'.w.heap[(k.σ b).1]? = k.w.heap[(k.σ b).1]?) (hf : blk.Fine B Y) (r : BRep k b blk) : BRep k' b blk := by
  obtain ⟨h1, h2, h3⟩ := hc.sh b hB
  cases blk with
  | cells cs fx =>
    simp only [BRep] at r ⊢
    rw [h2, h3]
    refine ⟨ho.trans r.1, r.2.1.cutTo hc hw hf, fun e j hj => ?_⟩
    rw [cell?_heap hw, frozen?_heap hw]
    exact r.2.2 e j hj
  | map es =>
    simp only [BRep] at r ⊢
    rw [h2]
    obtain ⟨r1, ents, clock, r2, r3⟩ := r
    exact ⟨ho.trans r1, ents, clock, hw.trans r2, r3.cutTo hc hf⟩

theorem BRep.fine (hS : Sim E k S) {b : Nat} {blk : Block} (r : BRep k b blk) : blk.Fine (· < S.H.length) (· < S.L.length) := by
  cases blk with
  | cells cs fx =>
    simp only [Block.Fine]
    have h := r.2.1
    clear r
    generalize (k.σ b).2 = o at h
    induction cs generalizing o with
    | nil => simp [Val.Fines]
    | cons x l ih =>
      simp only [RepOwn] at h
      obtain ⟨⟨v, _, _, _, hx⟩, hl⟩ := h
      simp only [Val.Fines]
      exact ⟨Rep.fine hS x v hx, ih _ hl⟩
  | map es =>
    obtain ⟨_, ents, clock, _, h⟩ := r
    simp only [Block.Fine]
    generalize ents.toList = m at h
    induction es generalizing m with
    | nil => intro e he; simp at he
    | cons a es ih =>
      cases m with
      | nil => simp [RepEnts] at h
      | cons e m =>
        obtain ⟨a1, a2⟩ := a
        simp only [RepEnts] at h
        intro x hx
        rcases List.mem_cons.1 hx with rfl | hx
        · exact ⟨Rep.fine hS _ _ h.1, Rep.fine hS _ _ h.2.1⟩
        · exact ih m h.2.2 x hx

theorem Block.low_fine {n : Nat} {b : Block} (h : b.low n = true) : b.Fine (· < n) (fun _ => True) := by
  cases b with
  | cells cs fx => exact Val.lows_fine n cs h
  | map es =>
    simp only [Block.low, List.all_eq_true, Bool.and_eq_true] at h
    exact fun e he => ⟨Val.low_fine n _ (h e he).1, Val.low_fine n _ (h e he).2⟩
theorem Block.noY_fine {m : Nat} {b : Block} (h : b.noY m = true) : b.Fine (fun _ => True) (· < m) := by
  cases b with
  | cells cs fx => exact Val.noYs_fine m cs h
  | map es =>
    simp only [Block.noY, List.all_eq_true, Bool.and_eq_true] at h
    exact fun e he => ⟨Val.noY_fine m _ (h e he).1, Val.noY_fine m _ (h e he).2⟩
theorem Block.Fine.mono {B Y B' Y' : Nat → Prop} (hB : ∀ b, B b → B' b) (hY : ∀ l, Y l → Y' l) {b : Block} (h : b.Fine B Y) : b.Fine B' Y' := by
  cases b with
  | cells cs fx => exact Val.Fines.mono hB hY cs h
  | map es => exact fun e he => ⟨(h e he).1.mono hB hY, (h e he).2.mono hB hY⟩

/-- a frame's slots that are fine -/
theorem FRep.cutTo (hc : Cut k k' B Y) {f : Nat} {g : G} {tmps : Array Value} (hl : ∀ c t, k.own c = some (.lv f t) → k'.own c = k.own c ∧ k'.w.heap[c]? = k.w.heap[c]?)
    (hf : ∀ t v, g t = some v → v.Fine B Y) (r : FRep k f g tmps) : FRep k' f g tmps := by
  intro t v hv
  have h := r t v hv
  have hfv := hf t v hv
  cases v with
  | lv cs =>
    obtain ⟨c, h1, h2, h3⟩ := h
    obtain ⟨h4, h5⟩ := hl c t h2
    simp only [Val.Fine] at hfv
    exact ⟨c, h1, h4.trans h2, h3.cutTo hc h5 hfv⟩
  | loc s off => exact h
  | _ => exact Rep.cutTo hc _ _ hfv h

theorem SlotRep.fine (hS : Sim E k S) {f : Nat} {g : G} {tmps : Array Value} {t : Nat} {v : Val} (h : SlotRep k f g tmps t v) : v.Fine (· < S.H.length) (· < S.L.length) := by
  cases v with
  | lv cs =>
    obtain ⟨c, _, _, h⟩ := h
    simp only [Val.Fine]
    generalize 0 = o at h
    induction cs generalizing o with
    | nil => simp [Val.Fines]
    | cons x l ih =>
      simp only [RepOwn] at h
      obtain ⟨⟨v, _, _, _, hx⟩, hl⟩ := h
      simp only [Val.Fines]
      exact ⟨Rep.fine hS x v hx, ih _ hl⟩
  | loc s off => simp [Val.Fine]
  | _ => exact Rep.fine hS _ (tmps.getD t undef) h
end

mutual
theorem Val.beq_eq : ∀ a b : Val, a.beq b = true → a = b
  | .unk, b, h => by cases b <;> simp_all [Val.beq]
  | .bool _, b, h => by cases b <;> simp_all [Val.beq]
  | .int _ _, b, h => by cases b <;> simp_all [Val.beq]
  | .str _, b, h => by cases b <;> simp_all [Val.beq]
  | .nilp, b, h => by cases b <;> simp_all [Val.beq]
  | .ptr _ _ _, b, h => by cases b <;> simp_all [Val.beq]
  | .pin cs _, b, h => by
    cases b <;> simp only [Val.beq, Bool.false_eq_true, Bool.and_eq_true, beq_iff_eq] at h
    rw [Val.beqs_eq cs _ h.1, h.2]
  | .lv cs, b, h => by
    cases b <;> simp only [Val.beq, Bool.false_eq_true] at h
    rw [Val.beqs_eq cs _ h]
  | .loc _ _, b, h => by cases b <;> simp_all [Val.beq]
  | .sl _ _ _ _ _, b, h => by cases b <;> simp_all [Val.beq]
  | .sli cs _ _, b, h => by
    cases b <;> simp only [Val.beq, Bool.false_eq_true, Bool.and_eq_true, beq_iff_eq, decide_eq_true_eq] at h
    rw [Val.beqs_eq cs _ h.1.1, h.1.2, h.2]
  | .fn _ cs, b, h => by
    cases b <;> simp only [Val.beq, Bool.false_eq_true, Bool.and_eq_true, beq_iff_eq] at h
    rw [Val.beqs_eq cs _ h.2, h.1]
  | .yield _, b, h => by cases b <;> simp_all [Val.beq]
  | .nilf, b, h => by cases b <;> simp_all [Val.beq]
  | .map _, b, h => by cases b <;> simp_all [Val.beq]
  | .nilm, b, h => by cases b <;> simp_all [Val.beq]
  | .ifc _ v, b, h => by
    cases b <;> simp only [Val.beq, Bool.false_eq_true, Bool.and_eq_true, beq_iff_eq] at h
    rw [Val.beq_eq v _ h.2, h.1]
  | .nili, b, h => by cases b <;> simp_all [Val.beq]
  | .agg cs, b, h => by
    cases b <;> simp only [Val.beq, Bool.false_eq_true] at h
    rw [Val.beqs_eq cs _ h]
  | .tup cs, b, h => by
    cases b <;> simp only [Val.beq, Bool.false_eq_true] at h
    rw [Val.beqs_eq cs _ h]
theorem Val.beqs_eq : ∀ a b : List Val, Val.beqs a b = true → a = b
  | [], [], _ => rfl
  | x :: l, y :: m, h => by
    simp only [Val.beqs, Bool.and_eq_true] at h
    rw [Val.beq_eq x y h.1, Val.beqs_eq l m h.2]
  | [], _ :: _, h => by simp [Val.beqs] at h
  | _ :: _, [], h => by simp [Val.beqs] at h
end
theorem entriesBeq_eq : ∀ a b : List (Val × Val), entriesBeq a b = true → a = b
  | [], [], _ => rfl
  | (x, x') :: l, (y, y') :: m, h => by
    simp only [entriesBeq, Bool.and_eq_true] at h
    rw [Val.beq_eq x y h.1.1, Val.beq_eq x' y' h.1.2, entriesBeq_eq l m h.2]
  | [], _ :: _, h => by simp [entriesBeq] at h
  | _ :: _, [], h => by simp [entriesBeq] at h
theorem Block.beq_eq {a b : Block} (h : a.beq b = true) : a = b := by
  cases a <;> cases b <;> simp only [Block.beq, Bool.false_eq_true, Bool.and_eq_true, beq_iff_eq] at h
  · rw [Val.beqs_eq _ _ h.1, h.2]
  · rw [entriesBeq_eq _ _ h]
theorem frBeq_eq : ∀ {a b : Fr}, frBeq a b = true → a = b
  | [], [], _ => rfl
  | (x, x') :: l, (y, y') :: m, h => by
    simp only [frBeq, Bool.and_eq_true, beq_iff_eq] at h
    rw [h.1.1, Val.beq_eq x' y' h.1.2, frBeq_eq h.2]
  | [], _ :: _, h => by simp [frBeq] at h
  | _ :: _, [], h => by simp [frBeq] at h
end Go.V

/- The end of a call: what it made is kept, or what it handed out is frozen and the rest given up. -/
namespace Go.V

def release (k : K) (n d : Nat) : K :=
  { k with own := fun c => match k.own c with
             | some (.h b) => if b < n then some (.h b) else none
             | some (.lv f t) => if f = d then none else some (.lv f t)
             | some (.mark f) => if f = d then none else some (.mark f)
             | x => x,
           sh := fun b => if b < n then k.sh b else none }

section
variable {E : Env} {k k0 k1 : K} {S S0 S1 : St} {n d : Nat} {T : Nat → Prop}

theorem release_loop {c l : Nat} (h : k.own c = some (.loop l)) : (release k n d).own c = some (.loop l) := by simp only [release, h]
theorem release_none {c : Nat} (h : k.own c = none) : (release k n d).own c = none := by simp only [release, h]
theorem release_h {c b : Nat} (h : k.own c = some (.h b)) (hb : b < n) : (release k n d).own c = some (.h b) := by simp only [release, h, hb, if_true]
theorem release_lv {c f t : Nat} (h : k.own c = some (.lv f t)) (hb : f ≠ d) : (release k n d).own c = some (.lv f t) := by simp only [release, h, hb, if_false]

theorem release_cut (k : K) (n d : Nat) : Cut k (release k n d) (· < n) (fun _ => True) where
  sh := fun b hb => ⟨by simp only [release, hb, if_true], rfl, rfl⟩
  lp := fun l _ h => ⟨rfl, release_loop h, rfl⟩
  inl := fun c h => ⟨release_none h, rfl⟩

theorem release_le (hS : Sim E k0 S0) (h : k0.Le k1) (hn : S0.H.length ≤ n) : k0.Le (release k1 n d) where
  sh := fun b s hb => by
    have hlt : b < n := by
      rw [hS.sh] at hb
      simp only [Option.map_eq_some_iff] at hb
      obtain ⟨_, hb, _⟩ := hb
      have := (List.getElem?_eq_some_iff.1 hb).1
      omega
    have e : (release k1 n d).sh b = k1.sh b := by simp only [release, hlt, if_true]
    rw [e]
    exact h.sh b s hb
  loop := fun l hl => by
    obtain ⟨h1, h2, h3⟩ := h.loop l hl
    exact ⟨h1, release_loop h2, h3⟩
  inl := fun c hc hn => by
    obtain ⟨h1, h2⟩ := h.inl c hc hn
    exact ⟨release_none h1, h2⟩

theorem release_evo (hS : Sim E k0 S0) (h : Evo k0 k1 (touch k0 S0.L)) (hn : S0.H.length ≤ n) (hB : Bound k0 d) : Evo k0 (release k1 n d) (touch k0 S0.L) where
  le := release_le hS h.le hn
  os := h.os
  tape := h.tape
  output := h.output
  size := h.size
  keep := fun c hc ht => by
    obtain ⟨h1, h2⟩ := h.keep c hc ht
    refine ⟨?_, h2⟩
    rw [← h1]
    cases e : k1.own c with
    | none => exact release_none e
    | some o =>
      have e0 := e
      rw [h1] at e0
      cases o with
      | h b => exfalso; apply ht; unfold touch; rw [e0]; trivial
      | loop l => exact release_loop e
      | lv f t =>
        refine release_lv e ?_
        rintro rfl
        have := (hB c).1 _ _ e0; omega
      | mark f =>
        have hne : f ≠ d := by rintro rfl; have := (hB c).2 _ e0; omega
        simp only [release, e, hne, if_false]

theorem release_bound (hB : Bound k (d + 1)) : Bound (release k n d) d := by
  intro c
  constructor
  · intro f t h
    simp only [release] at h
    cases e : k.own c with
    | none => rw [e] at h; simp at h
    | some o =>
      rw [e] at h
      cases o with
      | lv f' t' =>
        simp only at h
        split at h
        · simp at h
        · simp only [Option.some.injEq, Own.lv.injEq] at h
          have := (hB c).1 _ _ e; omega
      | h b => simp only at h; split at h <;> simp at h
      | mark _ => simp only at h; split at h <;> simp at h
      | loop _ => simp at h
  · intro f h
    simp only [release] at h
    cases e : k.own c with
    | none => rw [e] at h; simp at h
    | some o =>
      rw [e] at h
      cases o with
      | mark f' =>
        simp only at h
        split at h
        · simp at h
        · simp only [Option.some.injEq, Own.mark.injEq] at h
          have := (hB c).2 _ e; omega
      | h b => simp only at h; split at h <;> simp at h
      | lv _ _ => simp only at h; split at h <;> simp at h
      | loop _ => simp at h

theorem release_own_some {c : Nat} {o : Own} (h : (release k n d).own c = some o) : k.own c = some o := by
  simp only [release] at h
  cases e : k.own c with
  | none => rw [e] at h; simp at h
  | some x =>
    rw [e] at h
    cases x <;> simp only at h <;> first | exact h | (split at h <;> first | exact h | simp at h)

theorem release_sim (hS : Sim E k S) (hblk : ∀ (b : Nat) (blk : Block), b < n → S.H[b]? = some blk → blk.Fine (· < n) (fun _ => True))
    (hloop : ∀ (l : Nat) (r : LoopRec), S.L[l]? = some r → r.busy = false → ∀ t v, r.fr.get t = some v → v.Fine (· < n) (fun _ => True))
    (hfid : ∀ (l : Nat) (r : LoopRec), S.L[l]? = some r → k.fid l ≠ d) (hglob : ∀ g cs, E.glob g = some cs → RepMem (release k n d) g 0 cs) :
    Sim E (release k n d) { S with H := S.H.take n } where
  sh := fun b => by
    simp only [release, List.getElem?_take]
    split
    · exact hS.sh b
    · rfl
  blk := fun b blk hb => by
    simp only [List.getElem?_take] at hb
    split at hb
    · rename_i hlt
      have r := hS.blk b blk hb
      exact r.cutTo (release_cut k n d) hlt (by rw [r.own]; exact release_h r.own hlt) rfl (hblk b blk hlt hb)
    · simp at hb
  loop := fun l r hr => by
    have q := hS.loop l r hr
    obtain ⟨tm, de, q1, q2, q3, q4⟩ := q.rep
    exact ⟨release_loop q.own, ⟨tm, de, q1, fun hb => (q2 hb).cutTo (release_cut k n d) (fun c t hc => ⟨by rw [hc]; exact release_lv hc (hfid l r hr), rfl⟩) (hloop l r hr hb), q3, q4⟩, q.pend⟩
  ownlt := fun c o h => hS.ownlt c o (release_own_some h)
  glob := hglob
  dead := fun c l h => hS.dead c l (release_own_some h)

theorem mapO_get {fn : Val → Option Val} : ∀ {l l' : List Val}, mapO fn l = some l' → l'.length = l.length ∧ ∀ (i : Nat) (y : Val), l'[i]? = some y → ∃ x, l[i]? = some x ∧ fn x = some y
  | [], l', h => by simp only [mapO, Option.some.injEq] at h; subst h; simp
  | v :: l, l', h => by
    simp only [mapO] at h
    split at h
    · rename_i a b ha hb
      simp only [Option.some.injEq] at h; subst h
      obtain ⟨h1, h2⟩ := mapO_get hb
      refine ⟨by simp [h1], fun i y hi => ?_⟩
      cases i with
      | zero => simp only [List.getElem?_cons_zero, Option.some.injEq] at hi; subst hi; exact ⟨v, rfl, ha⟩
      | succ i => simpa using h2 i y (by simpa using hi)
    · simp at h

/-- what is handed out, frozen -/
theorem fz_rep (hS : Sim E k S) : ∀ (D : Nat) {v v' : Val} {cv : Value}, fz n S D v = some v' → Rep k v cv → Rep (release k n d) v' cv
  | 0, _, _, _, h, _ => by simp [fz] at h
  | D + 1, v, v', cv, h, hr => by
    simp only [fz] at h
    split at h
    · rename_i hl
      simp only [Option.some.injEq] at h; subst h
      exact hr.cutTo (release_cut k n d) _ _ (Val.low_fine n v hl)
    · rename_i hnl
      have mem : ∀ {c o : Nat} {l l' : List Val}, mapO (fz n S D) l = some l' → (release k n d).own c = none → CellsRep k c o l → RepMem (release k n d) c o l' := by
        intro c o l l' hm hc hr
        obtain ⟨_, h2⟩ := mapO_get hm
        refine RepMem.mk fun i y hi => ?_
        obtain ⟨x, hx, hxy⟩ := h2 i y hi
        obtain ⟨u, p1, p2, p3⟩ := hr i x hx
        exact ⟨hc, u, p1, p2, fz_rep hS D hxy p3⟩
      have all : ∀ {l l' : List Val} {vs : List Value}, mapO (fz n S D) l = some l' → RepAll k l vs → RepAll (release k n d) l' vs := by
        intro l l' vs hm hr
        obtain ⟨h1, h2⟩ := mapO_get hm
        refine RepAll.mk (by rw [h1]; exact hr.length) fun i y hi => ?_
        obtain ⟨x, hx, hxy⟩ := h2 i y hi
        obtain ⟨u, p1, p2⟩ := hr.get hx
        exact ⟨u, p1, fz_rep hS D hxy p2⟩
      have gone : ∀ {b : Nat}, ¬ b < n → k.own (k.σ b).1 = some (.h b) → (release k n d).own (k.σ b).1 = none := by
        intro b hb ho
        simp only [release, ho, hb, if_false]
      cases v with
      | ptr b off e =>
        simp only [Val.low, decide_eq_true_eq] at hnl
        simp only at h
        split at h
        · rename_i cs hcs
          simp only [Option.map_eq_some_iff] at h
          obtain ⟨l, hm, rfl⟩ := h
          obtain ⟨p1, p2, p3⟩ := ptr_rep hS hr hcs
          simp only [Rep]
          exact ⟨_, _, p1, mem hm (gone hnl p3) p2.reads⟩
        · simp at h
      | sl b off len es cp =>
        simp only [Val.low, decide_eq_true_eq] at hnl
        simp only at h
        split at h
        · rename_i cs hcs
          split at h
          · rename_i l hcut
            simp only [Option.map_eq_some_iff] at h
            obtain ⟨l', hm, rfl⟩ := h
            obtain ⟨cap, p1, p2, _, p3, p4⟩ := sl_rep hS hr hcs
            simp only [Rep]
            exact ⟨_, cap, p1, p2, by simp, by simp, .inr ⟨_, _, rfl, mem hm (gone hnl p4) (p3.reads.sub hcut).1⟩⟩
          · simp at h
        · simp at h
      | pin cs o =>
        simp only [Option.map_eq_some_iff] at h
        obtain ⟨l, hm, rfl⟩ := h
        simp only [Rep] at hr ⊢
        obtain ⟨c, o', p1, p2⟩ := hr
        refine ⟨c, o', p1, ?_⟩
        cases cs with
        | nil => simp only [mapO, Option.some.injEq] at hm; subst hm; simp [RepMem]
        | cons x xs =>
          have hn : k.own c = none := by simp only [RepMem] at p2; exact p2.1.1
          exact mem hm (release_none hn) p2.reads
      | sli cs len q =>
        simp only [Option.map_eq_some_iff] at h
        obtain ⟨l, hm, rfl⟩ := h
        simp only [Rep] at hr ⊢
        obtain ⟨a, cp, p1, p2, p3, p4, p5⟩ := hr
        refine ⟨a, cp, p1, p2, p3, p4, ?_⟩
        rcases p5 with p5 | ⟨c, o', p6, p7⟩
        · exact .inl p5
        · refine .inr ⟨c, o', p6, ?_⟩
          cases cs with
          | nil => simp only [mapO, Option.some.injEq] at hm; subst hm; simp [RepMem]
          | cons x xs =>
            have hn : k.own c = none := by simp only [RepMem] at p7; exact p7.1.1
            exact mem hm (release_none hn) p7.reads
      | fn q cs =>
        simp only [Option.map_eq_some_iff] at h
        obtain ⟨l, hm, rfl⟩ := h
        simp only [Rep] at hr ⊢
        obtain ⟨a, p1, p2⟩ := hr
        exact ⟨a, p1, all hm p2⟩
      | agg cs =>
        simp only [Option.map_eq_some_iff] at h
        obtain ⟨l, hm, rfl⟩ := h
        simp only [Rep] at hr ⊢
        obtain ⟨a, p1, p2, p3⟩ := hr
        exact ⟨a, p1, all hm p2, p3⟩
      | tup cs =>
        simp only [Option.map_eq_some_iff] at h
        obtain ⟨l, hm, rfl⟩ := h
        simp only [Rep] at hr ⊢
        obtain ⟨a, p1, p2⟩ := hr
        exact ⟨a, p1, all hm p2⟩
      | ifc t x =>
        simp only [Option.map_eq_some_iff] at h
        obtain ⟨y, hm, rfl⟩ := h
        simp only [Rep] at hr ⊢
        obtain ⟨u, p1, p2⟩ := hr
        exact ⟨u, p1, fz_rep hS D hm p2⟩
      | _ => simp at h

theorem Fr.get_mem {t : Nat} {v : Val} : ∀ {fr : Fr}, fr.get t = some v → (t, v) ∈ fr
  | (s, u) :: r, h => by
    simp only [Fr.get] at h
    split at h
    · rename_i e; subst e; simp only [Option.some.injEq] at h; subst h; simp
    · exact List.mem_cons_of_mem _ (Fr.get_mem h)
  | [], h => by simp [Fr.get] at h

theorem keptH_get : ∀ {a b : List Block} {i : Nat} {x : Block}, keptH n a b = true → i < a.length → b[i]? = some x → a[i]? = some x ∨ x.low n = true
  | a :: l, b :: m, 0, x, h, _, hi => by
    simp only [keptH, Bool.and_eq_true, Bool.or_eq_true] at h
    simp only [List.getElem?_cons_zero, Option.some.injEq] at hi; subst hi
    rcases h.1 with h | h
    · exact .inr h
    · exact .inl (by rw [Block.beq_eq h]; rfl)
  | a :: l, b :: m, i + 1, x, h, hlt, hi => by
    simp only [keptH, Bool.and_eq_true] at h
    simpa using keptH_get (i := i) h.2 (by simpa using hlt) (by simpa using hi)
  | [], _, _, _, _, hlt, _ => by simp at hlt
  | _ :: _, [], _, _, h, _, _ => by simp [keptH] at h
theorem keptL_get : ∀ {a b : List LoopRec} {i : Nat} {x : LoopRec}, keptL n a b = true → b[i]? = some x → x.busy = false → (∃ y, a[i]? = some y ∧ y.fr = x.fr) ∨ ∀ t v, x.fr.get t = some v → v.low n = true
  | a :: l, b :: m, 0, x, h, hi, hb => by
    simp only [keptL, Bool.and_eq_true, Bool.or_eq_true] at h
    simp only [List.getElem?_cons_zero, Option.some.injEq] at hi; subst hi
    rcases h.1 with (h | h) | h
    · rw [hb] at h; simp at h
    · exact .inr fun t v hv => (List.all_eq_true.1 h) (t, v) (Fr.get_mem hv)
    · exact .inl ⟨a, rfl, (frBeq_eq h).symm⟩
  | a :: l, b :: m, i + 1, x, h, hi, hb => by
    simp only [keptL, Bool.and_eq_true] at h
    simpa using keptL_get (i := i) h.2 (by simpa using hi) hb
  | [], [], _, _, _, hi, _ => by simp at hi
  | [], _ :: _, _, _, h, _, _ => by simp [keptL] at h
  | _ :: _, [], _, _, h, _, _ => by simp [keptL] at h

/-- THE END OF A CALL. -/
theorem finish_ok {g : FuncId} (hS0 : Sim E k0 S0) (hS1 : Sim E k1 S1) (he : Evo k0 k1 (touch k0 S0.L)) (lk : LK S0.L S1.L) (hB0 : Bound k0 d) (hBl : Below k0 S0 d) (hB1 : Bound k1 (d + 1))
    {v v' : Val} {S' : St} (h : finish E g S0 v S1 = some (v', S')) {cv : Value} (hv : Rep k1 v cv) :
    ∃ k2, k2.w = k1.w ∧ Rep k2 v' cv ∧ Sim E k2 S' ∧ Evo k0 k2 (touch k0 S0.L) ∧ Bound k2 d ∧ LK S0.L S'.L := by
  have hfid : ∀ (l : Nat) (r : LoopRec), S1.L[l]? = some r → k1.fid l ≠ d := by
    intro l r hr
    obtain ⟨q, hq, _⟩ := lk.eq.back hr
    rw [(fid_kept hS0 he hq).2.1]
    have := hBl.1 l q hq
    omega
  have hlen : S0.H.length ≤ S1.H.length := by
    rcases Nat.lt_or_ge S1.H.length S0.H.length with hlt | hge
    · exfalso
      obtain ⟨x, hx⟩ : ∃ x, S0.H[S1.H.length]? = some x := ⟨_, List.getElem?_eq_getElem hlt⟩
      have h1 : k0.sh S1.H.length = some x.shape := by rw [hS0.sh, hx]; rfl
      have h2 : k1.sh S1.H.length = none := by rw [hS1.sh]; simp
      rcases he.le.sh _ _ h1 with ⟨h, _⟩ | ⟨_, _, _, h, _⟩
      · rw [h2] at h; simp at h
      · rw [h2] at h; simp at h
    · exact hge
  unfold finish at h
  split at h
  · -- kept
    simp only [Option.some.injEq, Prod.mk.injEq] at h
    obtain ⟨rfl, rfl⟩ := h
    have fine : ∀ {x : Val}, x.Fine (· < S1.H.length) (· < S1.L.length) → x.Fine (· < S1.H.length) (fun _ => True) := fun h => h.mono (fun _ h => h) (fun _ _ => trivial)
    have hle := release_le (d := d) hS0 he.le hlen
    refine ⟨release k1 S1.H.length d, rfl, hv.cutTo (release_cut _ _ _) _ _ (fine (Rep.fine hS1 _ _ hv)), ?_, release_evo hS0 he hlen hB0, release_bound hB1, lk⟩
    have := release_sim (n := S1.H.length) (d := d) hS1 (fun b blk _ hb => ((hS1.blk b blk hb).fine hS1).mono (fun _ h => h) (fun _ _ => trivial))
      (fun l r hr hb t v hv => fine (((hS1.loop l r hr).rep.choose_spec.choose_spec.2.1 hb t v hv).fine hS1)) hfid (fun g cs hg => (hS0.glob g cs hg).mono hle)
    rwa [List.take_length] at this
  · -- given up
    split at h
    · rename_i hk
      simp only [Bool.and_eq_true] at hk
      split at h
      · rename_i u hu
        simp only [Option.some.injEq, Prod.mk.injEq] at h
        obtain ⟨rfl, rfl⟩ := h
        have hle := release_le (d := d) hS0 he.le (Nat.le_refl S0.H.length)
        refine ⟨release k1 S0.H.length d, rfl, fz_rep hS1 _ hu hv, release_sim hS1 ?_ ?_ hfid (fun g cs hg => (hS0.glob g cs hg).mono hle), release_evo hS0 he (Nat.le_refl _) hB0, release_bound hB1, lk⟩
        · intro b blk hlt hb
          rcases keptH_get hk.1 hlt hb with h | h
          · exact ((hS0.blk b blk h).fine hS0).mono (fun _ h => h) (fun _ _ => trivial)
          · exact Block.low_fine h
        · intro l r hr hb t v hv
          rcases keptL_get hk.2 hr hb with ⟨y, hy, hfr⟩ | h
          · obtain ⟨tm, de, _, q2, _⟩ := (hS0.loop l y hy).rep
            have hyb : y.busy = false := by rw [← lk.eq.2 l y r hy hr]; exact hb
            have := (q2 hyb t v (by rw [hfr]; exact hv)).fine hS0
            exact this.mono (fun _ h => h) (fun _ _ => trivial)
          · exact Val.low_fine _ _ (h t v hv)
      · simp at h
    · simp at h
end
end Go.V

/- Calls of functions. -/
namespace Go.V

/-- what is asked of a program and of what the interpreter is told of it -/
structure EnvOk (E : Env) : Prop where
  name : ∀ (g : FuncId) (fn : Func), E.P.funcs[g]? = some fn → fn.body.isSome = true → (fn.name == "runtime.NumGoroutine") = false
  native : ∀ (g : FuncId) (nf : List Val → St → Option (Val × St)) (args : List Val) (S : St) (v : Val) (S' : St), E.native g = some nf → nf args S = some (v, S') → CallOk E g args S v S'
  mixed : E.P.follows .mixedOrders = true

section
variable {E : Env} {k k' k0 k1 : K} {S S0 S1 : St} {f n d : Nat} {T : Nat → Prop} {g : G} {tmps : Array Value}

/-- a mark is taken -/
theorem mark_sim {c0 : Nat} (h : Sim E k S) (ho : k.own c0 = some (.mark f)) (hbut : But k k' c0) : Sim E k' S := by
  have hle := hbut.le (by rw [ho]; simp)
  refine ⟨?_, ?_, ?_, ?_, ?_, fun c l hc => h.dead c l (by rw [hbut.own] at hc; exact hc)⟩
  · intro x; rw [hbut.sh]; exact h.sh x
  · intro x y hx
    have r := h.blk x y hx
    have ne : (k.σ x).1 ≠ c0 := by intro e1; have := r.own; rw [e1, ho] at this; simp at this
    exact r.mono hle (by rw [hbut.σ]) (by rw [hbut.room]) (by rw [hbut.own]) (hbut.heap _ ne)
  · intro l r hr
    have q := h.loop l r hr
    obtain ⟨tmps, defers, q1, q2, q3, q4⟩ := q.rep
    have ne : k.lo l ≠ c0 := by intro e1; have := q.own; rw [e1, ho] at this; simp at this
    refine ⟨by rw [hbut.lo, hbut.own]; exact q.own, ⟨tmps, defers, by rw [hbut.lo, hbut.heap _ ne]; exact q1, ?_, by rw [hbut.tm]; exact q3, q4⟩, q.pend⟩
    intro hbz
    rw [hbut.fid]
    refine (q2 hbz).mono hle fun c t' hc => ⟨by rw [hbut.own], hbut.heap c ?_⟩
    intro e1
    rw [e1, ho] at hc
    simp at hc
  · intro c o ho'
    rw [hbut.own] at ho'
    rw [hbut.size]
    exact h.ownlt c o ho'
  · intro g cs hg
    exact (h.glob g cs hg).mono hle

theorem setHeap_but (k : K) (c : Nat) (o : Obj) : But k { k with w := { k.w with heap := k.w.heap.setIfInBounds c o } } c where
  σ := rfl
  lo := rfl
  sh := rfl
  own := rfl
  lp := rfl
  room := rfl
  size := by simp
  os := rfl
  tape := rfl
  output := rfl
  heap := fun x hx => by simp only; rw [Array.getElem?_setIfInBounds, if_neg (Ne.symm hx)]

/-- all marks are taken -/
theorem marks_taken {fn : FuncId} {todo : List Item} {cs : List Frame} : ∀ (ms : List Nat) {k1 : K}, ms.Nodup → (∀ m ∈ ms, k1.own m = some (.mark d) ∧ k1.w.heap[m]? = some (.deferred (some []))) →
    Sim E k1 S1 → FRep k1 f g tmps → Evo k0 k1 T → Bound k0 d → Bound k1 (d + 1) →
    ∃ k2, Steps E.P (lone { frm fn none tmps todo (ms.map markD) with mode := .returning } cs k1.w) (lone { frm fn none tmps todo [] with mode := .returning } cs k2.w) ∧
      Sim E k2 S1 ∧ FRep k2 f g tmps ∧ Evo k0 k2 T ∧ Bound k2 (d + 1)
  | [], k1, _, _, hS, hF, he, _, hB => ⟨k1, .refl _ _, hS, hF, he, hB⟩
  | m :: ms, k1, hn, hm, hS, hF, he, hB0, hB => by
    obtain ⟨h1, h2⟩ := hm m (by simp)
    have hn' := List.nodup_cons.1 hn
    let k2 : K := { k1 with w := { k1.w with heap := k1.w.heap.setIfInBounds m (.deferred none) } }
    have hbut : But k1 k2 m := setHeap_but k1 m _
    have hS2 := mark_sim hS h1 hbut
    have hle := hbut.le (by rw [h1]; simp)
    have hF2 : FRep k2 f g tmps := hF.mono hle fun c t hc => ⟨rfl, hbut.heap c (by rintro rfl; rw [h1] at hc; simp at hc)⟩
    have he2 : Evo k0 k2 T := {
      le := he.le.trans hle he.size
      os := he.os
      tape := he.tape
      output := he.output
      size := by rw [hbut.size]; exact he.size
      keep := fun c hc ht => by
        obtain ⟨p1, p2⟩ := he.keep c hc ht
        have hne : c ≠ m := by
          rintro rfl
          rw [h1] at p1
          have := (hB0 c).2 d p1.symm
          omega
        exact ⟨p1, (hbut.heap c hne).trans p2⟩ }
    obtain ⟨k3, q1, q2⟩ := marks_taken ms (k1 := k2) hn'.2 (fun x hx => by
      obtain ⟨p1, p2⟩ := hm x (by simp [hx])
      exact ⟨p1, (hbut.heap x (by rintro rfl; exact hn'.1 hx)).trans p2⟩) hS2 hF2 he2 hB0 hB
    exact ⟨k3, .head (st_mark h2) q1, q2⟩

def resOne (tmps : Array Value) : ResultVar → Sem Value
  | .tmp t => pure (tmps.getD t undef)
  | .cell a t => do loadVar t (← asAddr (tmps.getD a undef))
theorem results_eq (fn : Func) (tmps : Array Value) : results fn tmps = (do let vs ← fn.results.mapM (resOne tmps); pure (if h : vs.size = 1 then vs[0] else .tuple vs) : Sem Value) := by
  unfold results
  congr

/-- the results of a call -/
theorem results_ok (hS : Sim E k S) (hF : FRep k f g tmps) : ∀ {l : List ResultVar} {vs : List Val}, resultsV E g S l = some vs →
    ∃ cvs : List Value, (l.mapM (resOne tmps)).run E.P k.w = .ok cvs k.w ∧ RepAll k vs cvs
  | [], vs, h => by simp only [resultsV, Option.some.injEq] at h; subst h; exact ⟨[], by simp, by simp [RepAll]⟩
  | r :: l, vs, h => by
    simp only [resultsV] at h
    split at h
    · rename_i v vs' hv hvs
      simp only [Option.some.injEq] at h; subst h
      obtain ⟨cvs, h1, h2⟩ := results_ok hS hF hvs
      have : ∃ cv, (resOne tmps r).run E.P k.w = .ok cv k.w ∧ Rep k v cv := by
        unfold resultV at hv
        split at hv
        · exact ⟨evT tmps (.tmp _), by simp only [resOne, Sem.run_pure]; rfl, (ev_rep hS hF hv).1⟩
        · rename_i a t
          split at hv
          · rename_i dd nn p hd hn hp
            split at hv
            · rename_i cs hcs
              have hp' := place_rep hS hF hp
              obtain ⟨cc, co, p1, p2⟩ := cellsAt_rep hS hF hp' hcs
              obtain ⟨cv, p3, p4⟩ := loadVar_run hd hn p2 hv
              refine ⟨cv, ?_, p4⟩
              have p1' : tmps.getD a undef = .pointer (some ⟨cc, co + p.off, none⟩) := p1
              simp only [resOne, p1']
              simp [asAddr, p3]
            · simp at hv
          · simp at hv
      obtain ⟨cv, h3, h4⟩ := this
      refine ⟨cv :: cvs, ?_, by simp only [RepAll]; exact ⟨h4, h2⟩⟩
      rw [List.mapM_cons]
      simp only [Sem.run_bind, h3, Result.andThen_ok, h1, Sem.run_pure]
    · simp at h

theorem wrap_ok {vs : List Val} {cvs : List Value} (h : RepAll k vs cvs) : Rep k (wrapV vs) (if h : cvs.toArray.size = 1 then cvs.toArray[0] else .tuple cvs.toArray) := by
  match vs, cvs, h with
  | [], [], _ => simp [wrapV, Rep, RepAll]
  | [v], [c], h => simp only [RepAll] at h; simpa [wrapV] using h.1
  | u :: v :: l, b :: c :: m, h => simpa [wrapV, Rep] using h
  | [], _ :: _, h => simp [RepAll] at h
  | _ :: _, [], h => simp [RepAll] at h
  | [_], _ :: _ :: _, h => simp [RepAll] at h
  | _ :: _ :: _, [_], h => simp [RepAll] at h

theorem argFr_get : ∀ (l : List Val) (i t : Nat), (argFr i l).get t = if i ≤ t then l[t - i]? else none
  | [], i, t => by simp [argFr, Fr.get]
  | v :: l, i, t => by
    simp only [argFr, Fr.get]
    split
    · rename_i e; subst e; simp
    · rename_i e
      rw [argFr_get l (i + 1) t]
      by_cases h : i ≤ t
      · rw [if_pos h, if_pos (by omega), show t - i = (t - (i + 1)) + 1 by omega, List.getElem?_cons_succ]
      · rw [if_neg h, if_neg (by omega)]

theorem args_FRep {args : List Val} {vs : Array Value} (h : RepAll k args vs.toList) (rest : Array Value) : FRep k f (argFr 0 args).get (vs ++ rest) := by
  intro t v hv
  rw [argFr_get] at hv
  simp only [Nat.zero_le, if_true, Nat.sub_zero] at hv
  obtain ⟨cv, h1, h2⟩ := h.get hv
  have hc : (vs ++ rest).getD t undef = cv := by
    have hlt : t < vs.size := by have := (List.getElem?_eq_some_iff.1 h1).1; simpa using this
    rw [Array.getElem?_toList] at h1
    rw [Array.getD_eq_getD_getElem?, Array.getElem?_append_left hlt, h1]; rfl
  cases v with
  | lv cs => simp [Rep] at h2
  | loc s o => simp [Rep] at h2
  | _ => simpa only [SlotRep, hc] using h2

/-- THE BODY OF A FUNCTION, AND ITS END. -/
theorem body_ok {rec : Rec} (hrec : RecOk E rec) {h : FuncId} {args : List Val} {v : Val} {S' : St} (hc : callV rec E h args S = some (v, S')) (hnat : E.native h = none)
    {vs : Array Value} (hS : Sim E k S) (hB : Bound k d) (hBl : Below k S d) (hA : RepAll k args vs.toList) (cs : List Frame) :
    ∃ k' cv F, Steps E.P (lone (Frame.enter E.P h vs .normal) cs k.w) (lone F cs k'.w) ∧ F.leaving E.P k'.w (.returned cv) ∧ F.fn = h ∧
      Rep k' v cv ∧ Sim E k' S' ∧ Evo k k' (touch k S.L) ∧ Bound k' d ∧ LK S.L S'.L ∧ ∃ fn, E.P.funcs[h]? = some fn ∧ fn.body.isSome = true := by
  unfold callV at hc
  rw [hnat] at hc
  simp only at hc
  split at hc
  · rename_i fn hfn
    split at hc
    · rename_i body hbody
      split at hc
      · rename_i hle
        split at hc
        · rename_i j fr S1 hr
          split at hc
          · rename_i hj
            split at hc
            · rename_i rs hrs
              have hsz : vs.size = args.length := by have := hA.length; simp at this; omega
              have henter : Frame.enter E.P h vs .normal = frm h none (vs ++ Array.replicate (fn.ntmps - vs.size) undef) ([.code body] ++ []) [] := by
                simp [Frame.enter, frm, hfn, hbody]
              have hO : FrOk E k S d (d + 1) fn.ntmps none (argFr 0 args).get (vs ++ Array.replicate (fn.ntmps - vs.size) undef) [] := {
                sim := hS
                fr := args_FRep hA _
                size := by simp; omega
                marks := ⟨[], rfl, List.nodup_nil, by simp⟩
                busy := fun l r hr hf => by have := hBl.1 l r hr; omega
                lt := Nat.lt_succ_self d
                bound := fun c => ⟨fun f t hc => Nat.lt_succ_of_lt ((hB c).1 f t hc), fun f hc => Nat.lt_succ_of_lt ((hB c).2 f hc)⟩
                below := ⟨fun l r hr => Nat.lt_succ_of_lt (hBl.1 l r hr), hBl.2⟩
                ro := by simp }
              obtain ⟨k1, t1, de1, todo1, s1, e1, hO1, w1, _⟩ := hrec _ _ _ _ _ _ _ hr ⟨fn, hfn, rfl⟩ k d (d + 1) none _ [] [] cs hO
              have htodo : todo1 = [] ∨ ∃ t, todo1 = .code .ret :: t := by
                cases j with
                | none => exact .inl e1
                | some q => cases q <;> simp [isRet] at hj; exact .inr e1
              have hevo : Evo k k1 (touch k S.L) := {
                le := w1.evo.le
                os := w1.evo.os
                tape := w1.evo.tape
                output := w1.evo.output
                size := w1.evo.size
                keep := fun c hc ht => w1.evo.keep c hc (by
                  rintro (h | ⟨t, h⟩)
                  · exact ht h
                  · have := (hB c).1 d t h; omega) }
              obtain ⟨ms, hms, hnd, hmk⟩ := hO1.marks
              subst hms
              obtain ⟨k2, s2, hS2, hF2, he2, hB2⟩ := marks_taken (fn := h) (todo := todo1) (cs := cs) ms hnd hmk hO1.sim hO1.fr hevo hB hO1.bound
              obtain ⟨cvs, q1, q2⟩ := results_ok hS2 hF2 hrs
              have q3 := wrap_ok q2
              obtain ⟨k3, hk3, r1, r2, r3, r4, r5⟩ := finish_ok hS hS2 he2 w1.lk hB hBl hB2 hc q3
              refine ⟨k3, _, { frm h none t1 todo1 [] with mode := .returning }, ?_, ⟨rfl, rfl, rfl, fn, hfn, ?_⟩, rfl, r1, r2, r3, r4, r5, fn, hfn, by rw [hbody]; rfl⟩
              · rw [henter, hk3]
                exact s1.trans (.head (st_leave htodo) s2)
              · rw [hk3]
                simp only [results_eq, Sem.run_bind]
                rw [Array.mapM_eq_mapM_toList, Sem.run_map]
                simp only [frm]
                rw [q1]
                simp [Result.andThen]
            · simp at hc
          · simp at hc
        · simp at hc
      · simp at hc
    · simp at hc
  · simp at hc

theorem callFunc_run (hE : EnvOk E) {h : FuncId} {fn : Func} (hfn : E.P.funcs[h]? = some fn) (hb : fn.body.isSome = true) (vs : Array Value) (w : World) :
    (callFunc h vs).run E.P w = .ok (.enter h vs) w := by
  have := hE.name h fn hfn hb
  have this : fn.name ≠ "runtime.NumGoroutine" := by simpa using this
  obtain ⟨b, hb⟩ := Option.isSome_iff_exists.1 hb
  simp [callFunc, hfn, this, hb]

/-- CALLS. -/
theorem callOk_of_rec (hE : EnvOk E) {rec : Rec} (hrec : RecOk E rec) {h : FuncId} {args : List Val} {v : Val} {S' : St} (hc : callV rec E h args S = some (v, S')) : CallOk E h args S v S' := by
  cases hnat : E.native h with
  | some nf =>
    unfold callV at hc
    rw [hnat] at hc
    exact hE.native h nf args S v S' hnat hc
  | none =>
    intro k d vs hS hB hBl hA m F cs hw hap
    obtain ⟨k', cv, F', s1, hl, _, r1, r2, r3, r4, r5, fn, hfn, hb⟩ := body_ok hrec hc hnat hS hB hBl hA (F :: cs)
    exact ⟨k', cv, .head (hap.enter hw (callFunc_run hE hfn hb vs k.w)) (s1.trans (.one (step_leave_returned hl))), r1, r2, r3, r4, r5⟩
end
end Go.V
