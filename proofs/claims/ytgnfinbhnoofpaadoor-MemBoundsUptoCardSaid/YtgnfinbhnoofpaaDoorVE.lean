/- Rounds of loops over functions. -/
import Derived.Test.YtgnfinbhnoofpaaDoorVC
set_option linter.unusedVariables false
set_option linter.unusedSimpArgs false
set_option linter.unusedSectionVars false
namespace Go.V
section
variable {E : Env} {k k' k0 k1 : K} {S S0 S1 : St} {f n d : Nat} {T : Nat → Prop} {g : G} {tmps : Array Value}

/-- what is noted of a loop changes -/
theorem Sim.setLoop (h : Sim E k S) {l : Nat} {r r' : LoopRec} (hr : S.L[l]? = some r) (hn : LRep E k l r') : Sim E k { S with L := S.L.set l r' } where
  sh := h.sh
  blk := h.blk
  loop := fun l' q hq => by
    simp only [List.getElem?_set] at hq
    split at hq
    · rename_i e; subst e
      split at hq
      · simp only [Option.some.injEq] at hq; subst hq; exact hn
      · simp at hq
    · exact h.loop l' q hq
  ownlt := h.ownlt
  glob := h.glob
  dead := fun c l' hc => by simpa using h.dead c l' hc

/-- a loop is written -/
theorem Sim.writeLoop (h : Sim E k S) {l : Nat} {r r' : LoopRec} (hr : S.L[l]? = some r) (hbut : But k k' (k.lo l)) (hn : k.Le k' → LRep E k' l r') : Sim E k' { S with L := S.L.set l r' } := by
  have ho := (h.loop l r hr).own
  have hle := hbut.le (by rw [ho]; simp)
  refine ⟨?_, ?_, ?_, ?_, ?_, fun c l' hc => by rw [hbut.own] at hc; simpa using h.dead c l' hc⟩
  · intro x; rw [hbut.sh]; exact h.sh x
  · intro x y hx
    have q := h.blk x y hx
    have ne : (k.σ x).1 ≠ k.lo l := by intro e1; have := q.own; rw [e1, ho] at this; simp at this
    exact q.mono hle (by rw [hbut.σ]) (by rw [hbut.room]) (by rw [hbut.own]) (hbut.heap _ ne)
  · intro l' q hq
    simp only [List.getElem?_set] at hq
    split at hq
    · rename_i e; subst e
      split at hq
      · simp only [Option.some.injEq] at hq; subst hq; exact hn hle
      · simp at hq
    · rename_i hne
      have p := h.loop l' q hq
      obtain ⟨tm, de, q1, q2, q3, q4⟩ := p.rep
      have ne : k.lo l' ≠ k.lo l := by
        intro e1
        have := p.own
        rw [e1, ho] at this
        simp only [Option.some.injEq, Own.loop.injEq] at this
        exact hne this
      refine ⟨by rw [hbut.lo, hbut.own]; exact p.own, ⟨tm, de, by rw [hbut.lo, hbut.heap _ ne]; exact q1, ?_, by rw [hbut.tm]; exact q3, q4⟩, p.pend⟩
      intro hbz
      rw [hbut.fid]
      refine (q2 hbz).mono hle fun c t hc => ⟨by rw [hbut.own], hbut.heap c ?_⟩
      intro e1
      rw [e1, ho] at hc; simp at hc
  · intro c o hc
    rw [hbut.own] at hc
    rw [hbut.size]
    exact h.ownlt c o hc
  · intro x cs hg
    exact (h.glob x cs hg).mono hle

theorem setParams_ok : ∀ {ts : List Nat} {vs : List Val} {cvs : List Value} {fr fr' : Fr} {tmps : Array Value}, setParams ts vs fr = some fr' → RepAll k vs cvs → FRep k f fr.get tmps → (∀ t ∈ ts, t < tmps.size) →
    FRep k f fr'.get ((ts.zip cvs).foldl (fun tm x => tm.setIfInBounds x.1 x.2) tmps) ∧ ((ts.zip cvs).foldl (fun tm x => tm.setIfInBounds x.1 x.2) tmps).size = tmps.size ∧ cvs.length = ts.length ∧
      ∀ u, u ∉ ts → ((ts.zip cvs).foldl (fun tm x => tm.setIfInBounds x.1 x.2) tmps).getD u undef = tmps.getD u undef
  | [], [], [], fr, fr', tmps, h, _, hF, _ => by simp only [setParams, Option.some.injEq] at h; subst h; exact ⟨hF, rfl, rfl, fun _ _ => rfl⟩
  | t :: ts, v :: vs, c :: cvs, fr, fr', tmps, h, hr, hF, hlt => by
    simp only [setParams] at h
    simp only [RepAll] at hr
    have hput : FRep k f (fr.put t v).get (tmps.setIfInBounds t c) := by rw [Fr.get_put]; exact hF.put (hlt t (by simp)) (.of hr.1)
    obtain ⟨h1, h2, h3, h4⟩ := setParams_ok h hr.2 hput (fun u hu => by simpa using hlt u (by simp [hu]))
    refine ⟨h1, by simpa using h2, by simp [h3], fun u hu => ?_⟩
    simp only [List.mem_cons, not_or] at hu
    simp only [List.zip_cons_cons, List.foldl_cons]
    rw [h4 u hu.2]
    simp [Array.getD_eq_getD_getElem?, Array.getElem?_setIfInBounds_ne (Ne.symm hu.1)]
  | [], _ :: _, _, _, _, _, h, _, _, _ => by simp [setParams] at h
  | _ :: _, [], _, _, _, _, h, _, _, _ => by simp [setParams] at h
  | [], [], _ :: _, _, _, _, _, hr, _, _ => by simp [RepAll] at hr
  | _ :: _, _ :: _, [], _, _, _, _, hr, _, _ => by simp [RepAll] at hr

theorem mergeFr_get : ∀ {a b c : Fr}, mergeFr a b = some c → ∀ t, (∀ cs, a.get t = some (.lv cs) → ∃ cs', (c.get t = some (.lv cs') ∧ b.get t = some (.lv cs')) ∨ (c.get t = some (.pin cs' 0) ∧ b.get t = some (.pin cs' 0))) ∧
    ((∀ cs, a.get t ≠ some (.lv cs)) → c.get t = a.get t)
  | [], b, c, h, t => by
    simp only [mergeFr, Option.some.injEq] at h; subst h
    exact ⟨fun cs h => by simp [Fr.get] at h, fun _ => rfl⟩
  | (s, v) :: r, b, c, h, t => by
    by_cases hv : ∃ cs, v = .lv cs
    · obtain ⟨cs, rfl⟩ := hv
      simp only [mergeFr] at h
      split at h
      · rename_i c' r' hc hr
        simp only [Option.some.injEq] at h; subst h
        obtain ⟨h1, h2⟩ := mergeFr_get hr t
        by_cases e : s = t
        · subst e
          simp only [Fr.get, if_true]
          exact ⟨fun _ _ => ⟨c', .inl ⟨rfl, hc⟩⟩, fun h => absurd rfl (h cs)⟩
        · simp only [Fr.get, e, if_false]
          exact ⟨h1, h2⟩
      · rename_i c' r' hc hr
        simp only [Option.some.injEq] at h; subst h
        obtain ⟨h1, h2⟩ := mergeFr_get hr t
        by_cases e : s = t
        · subst e
          simp only [Fr.get, if_true]
          exact ⟨fun _ _ => ⟨c', .inr ⟨rfl, hc⟩⟩, fun h => absurd rfl (h cs)⟩
        · simp only [Fr.get, e, if_false]
          exact ⟨h1, h2⟩
      · simp at h
    · have : ∃ r', mergeFr r b = some r' ∧ c = (s, v) :: r' := by
        cases v <;> first | (exact absurd ⟨_, rfl⟩ hv) | (simp only [mergeFr] at h; split at h <;> first | (rename_i r' hr; simp only [Option.some.injEq] at h; exact ⟨r', hr, h.symm⟩) | simp at h)
      obtain ⟨r', hr, rfl⟩ := this
      obtain ⟨h1, h2⟩ := mergeFr_get hr t
      by_cases e : s = t
      · subst e
        simp only [Fr.get, if_true]
        exact ⟨fun cs h => by simp only [Option.some.injEq] at h; exact absurd ⟨cs, h⟩ hv, fun _ => by simp⟩
      · simp only [Fr.get, e, if_false]
        exact ⟨h1, h2⟩

theorem lvKeys_mem : ∀ {a : Fr} {t : Nat} {cs : List Val}, a.get t = some (.lv cs) → t ∈ lvKeys a
  | (s, v) :: r, t, cs, h => by
    simp only [Fr.get] at h
    split at h
    · rename_i e; subst e
      simp only [Option.some.injEq] at h; subst h
      simp [lvKeys]
    · have := lvKeys_mem h
      cases v <;> simp [lvKeys, this]
  | [], _, _, h => by simp [Fr.get] at h

/-- behind a round -/
theorem merge_ok {fr fr2 fr' : Fr} {tm tmps2 : Array Value} (hm : mergeFr fr fr2 = some fr') (hle : k.Le k') (hF : FRep k f fr.get tm) (hF2 : FRep k' f fr2.get tmps2)
    (hfix : ∀ t, t ∈ lvKeys fr → tmps2.getD t undef = tm.getD t undef) : FRep k' f fr'.get tm := by
  intro t v hv
  obtain ⟨h1, h2⟩ := mergeFr_get hm t
  by_cases e : ∃ cs, fr.get t = some (.lv cs)
  · obtain ⟨cs, e⟩ := e
    have hx := hfix t (lvKeys_mem e)
    obtain ⟨cs', ⟨p1, p2⟩ | ⟨p1, p2⟩⟩ := h1 cs e
    · rw [p1] at hv; simp only [Option.some.injEq] at hv; subst hv
      obtain ⟨c, q1, q2, q3⟩ := hF2 t _ p2
      exact ⟨c, by rw [← hx]; exact q1, q2, q3⟩
    · rw [p1] at hv; simp only [Option.some.injEq] at hv; subst hv
      have := hF2 t _ p2
      simp only [SlotRep, hx] at this ⊢
      exact this
  · have hne : ∀ cs, fr.get t ≠ some (.lv cs) := fun cs h => e ⟨cs, h⟩
    rw [h2 hne] at hv
    have := hF t v hv
    cases v with
    | lv cs => exact absurd hv (hne cs)
    | loc s off =>
      intro cs hcs
      obtain ⟨g1, g2⟩ := mergeFr_get hm s
      by_cases e2 : ∃ cs, fr.get s = some (.lv cs)
      · obtain ⟨cs2, e2⟩ := e2; exact this cs2 e2
      · rw [g2 fun cs h => e2 ⟨cs, h⟩] at hcs
        exact absurd ⟨cs, hcs⟩ e2
    | _ => exact Rep.mono hle _ _ this

theorem st_beginRound {P : Program} {fn : FuncId} {l : Nat} {k : List Item} {de : List Deferred} {cs : List Frame} {w : World} {r : Loop} (hl : w.heap[l]? = some (.loop r)) (hr : r.state = .ready) :
    step P (lone (frm fn (some l) tmps (.beginRound :: k) de) cs w) = .next (lone (frm fn (some l) tmps k de) cs { w with heap := w.heap.setIfInBounds l (.loop { r with state := .busy }) }) := by
  have he : (do Option.elim (some l) (stuck "beginRound: no round") Instr.beginRound; pure Next.skip : Sem Next).run P w = .ok .skip { w with heap := w.heap.setIfInBounds l (.loop { r with state := .busy }) } := by
    simp [Instr.beginRound, Instr.getLoop, getObj, setObj, Sem.run, hl, hr, Sem.run_bind]
  exact step_lone_go (by
    simp only [stepG, stepG.exec, frm, stepG.apply, Sem.runT_eq, if_true, GStep.bare_after]
    rw [he]
    simp [Frame.finish])

theorem LK.round {L L1 L2 : List LoopRec} {l : Nat} {r rb rb' r' : LoopRec} (hr : L[l]? = some r) (h1 : LK (L.set l rb) L1) (h2 : LK (L1.set l rb') L2) (hb : rb.busy = true) (hb' : rb'.busy = true) (hr0 : r.busy = false) (hr1 : r'.busy = false) :
    LK L (L2.set l r') := by
  have hlt : l < L.length := (List.getElem?_eq_some_iff.1 hr).1
  have n1 : L1.length = L.length := by rw [h1.eq.1, List.length_set]
  have n2 : L2.length = L.length := by rw [h2.eq.1, List.length_set, n1]
  refine ⟨⟨by rw [List.length_set, n2], ?_⟩, ?_⟩
  · intro x q q' hq hq'
    by_cases e : l = x
    · subst e
      rw [hr] at hq; simp only [Option.some.injEq] at hq; subst hq
      rw [List.getElem?_set, if_pos rfl, if_pos (by omega)] at hq'
      simp only [Option.some.injEq] at hq'; subst hq'
      rw [hr0, hr1]
    · rw [List.getElem?_set, if_neg e] at hq'
      have hx : x < L.length := (List.getElem?_eq_some_iff.1 hq).1
      obtain ⟨q1, hq1⟩ : ∃ q1, L1[x]? = some q1 := ⟨_, List.getElem?_eq_getElem (by omega)⟩
      have a1 := h1.eq.2 x q q1 (by rw [List.getElem?_set, if_neg e]; exact hq) hq1
      have a2 := h2.eq.2 x q1 q' (by rw [List.getElem?_set, if_neg e]; exact hq1) hq'
      exact a2.trans a1
  · intro x q hq hqb
    have e : l ≠ x := by rintro rfl; rw [hr] at hq; simp only [Option.some.injEq] at hq; subst hq; rw [hr0] at hqb; simp at hqb
    rw [List.getElem?_set, if_neg e]
    have a1 := h1.busy x q (by rw [List.getElem?_set, if_neg e]; exact hq) hqb
    exact h2.busy x q (by rw [List.getElem?_set, if_neg e]; exact a1) hqb
end
end Go.V

/- A round of a loop over a function: yield. -/
namespace Go.V
section
variable {E : Env} {k k' k0 k1 : K} {S S0 S1 : St} {f n d : Nat} {T : Nat → Prop} {g : G} {tmps : Array Value}

theorem yield_run {P : Program} {w : World} {l : Nat} {r : Loop} {vs : Array Value} (hl : w.heap[l]? = some (.loop r)) (hs : vs.size = r.params.size) :
    (Instr.yield l vs).run P w = .ok (.round l r.fn ((r.params.toList.zip vs.toList).foldl (fun tm x => tm.setIfInBounds x.1 x.2) r.tmps) r.assign r.body) w := by
  have e : (r.params.zip vs).foldl (fun tmps x => tmps.setIfInBounds x.1 x.2) r.tmps = (r.params.toList.zip vs.toList).foldl (fun tm x => tm.setIfInBounds x.1 x.2) r.tmps := by
    rw [← Array.foldl_toList, Array.toList_zip]
  simp [Instr.yield, Instr.getLoop, getObj, Sem.run, hl, Sem.run_bind, hs]
  rw [← e]
  simp [hs]

theorem FRep.heapLoop (hS : Sim E k S) (hF : FRep k f g tmps) {l : Nat} {r : LoopRec} (hr : S.L[l]? = some r) (hbut : But k k' (k.lo l)) : FRep k' f g tmps := by
  have ho := (hS.loop l r hr).own
  refine hF.mono (hbut.le (by rw [ho]; simp)) fun c t hc => ⟨by rw [hbut.own], hbut.heap c ?_⟩
  rintro rfl
  rw [ho] at hc; simp at hc

/-- YIELD. -/
theorem yieldOk_of_rec {rec : Rec} (hrec : RecOk E rec) {l : Nat} {args : List Val} {v : Val} {S' : St} (hc : yieldV rec E l args S = some (v, S')) : YieldOk E l args S v S' := by
  unfold yieldV at hc
  split at hc
  · rename_i r hr
    split at hc
    · simp at hc
    · rename_i hbd
      simp only [Bool.or_eq_true, not_or, Bool.not_eq_true] at hbd
      obtain ⟨hrb, hrd⟩ := hbd
      split at hc
      · rename_i fn fr0 hfn hfr0
        split at hc
        · rename_i hpar
          split at hc
          · rename_i fr1 S1 h1
            split at hc
            · rename_i j fr2 S2 h2
              split at hc
              · rename_i fr' hm
                simp only [Option.some.injEq, Prod.mk.injEq] at hc
                obtain ⟨rfl, rfl⟩ := hc
                intro k d vs hS hB hBl hA m F cs hw hap
                have q := hS.loop l r hr
                obtain ⟨tm, de, q1, q2, q3, fn', hfn', hsz⟩ := q.rep
                rw [hfn] at hfn'
                simp only [Option.some.injEq] at hfn'; subst hfn'
                have hready : loopState r = .ready := by simp [loopState, hrb, hrd]
                have hlt : l < S.L.length := (List.getElem?_eq_some_iff.1 hr).1
                simp only [List.all_eq_true, Bool.and_eq_true, decide_eq_true_eq, Bool.not_eq_true'] at hpar
                obtain ⟨p1, p2, p3, p4⟩ := setParams_ok (f := k.fid l) hfr0 hA (q2 hrb) (fun t ht => by rw [hsz]; exact (hpar t ht).1)
                let rb : LoopRec := { r with busy := true, begun := false }
                let rb' : LoopRec := { r with busy := true, begun := true }
                let Sb : St := { S with L := S.L.set l rb }
                have hrL : Sb.L[l]? = some rb := by simp only [Sb]; rw [List.getElem?_set, if_pos rfl, if_pos hlt]
                have hSb : Sim E k Sb := hS.setLoop hr ⟨q.own, ⟨tm, de, by rw [q1, hready]; simp [rb, loopState], by simp [rb], q3, fn, hfn, hsz⟩, q.pend⟩
                have old : ∀ {l' : Nat} {r' : LoopRec}, Sb.L[l']? = some r' → (l' = l ∧ r' = rb) ∨ (l' ≠ l ∧ S.L[l']? = some r') := by
                  intro l' r' h
                  simp only [Sb, List.getElem?_set] at h
                  split at h
                  · rename_i e; subst e
                    simp only [Option.some.injEq] at h; exact .inl ⟨rfl, h.symm⟩
                  · rename_i e; exact .inr ⟨Ne.symm e, h⟩
                have hO : FrOk E k Sb (k.fid l) d fn.ntmps (some (k.lo l)) fr0.get ((r.params.toList.zip vs.toList).foldl (fun tm x => tm.setIfInBounds x.1 x.2) tm) [] := {
                  sim := hSb
                  fr := p1
                  size := by rw [p2, hsz]
                  marks := ⟨[], rfl, List.nodup_nil, by simp⟩
                  busy := fun l' r' h hf => by
                    rcases old h with ⟨_, rfl⟩ | ⟨hne, h⟩
                    · rfl
                    · cases hb : r'.busy with
                      | true => rfl
                      | false => exact absurd (hBl.2 l' l r' r h hr hb hrb hf) hne
                  lt := hBl.1 l r hr
                  bound := hB
                  below := ⟨fun l' r' h => by
                    rcases old h with ⟨rfl, _⟩ | ⟨_, h⟩
                    · exact hBl.1 _ _ hr
                    · exact hBl.1 _ _ h, fun l1 l2 r1 r2 h1 h2 b1 b2 hf => by
                    rcases old h1 with ⟨_, rfl⟩ | ⟨_, h1⟩
                    · simp [rb] at b1
                    · rcases old h2 with ⟨_, rfl⟩ | ⟨_, h2⟩
                      · simp [rb] at b2
                      · exact hBl.2 l1 l2 r1 r2 h1 h2 b1 b2 hf⟩
                  ro := fun a ha => by simp only [Option.some.injEq] at ha; exact ⟨l, rb, ha.symm, hrL⟩ }
                obtain ⟨k1, t1, de1, todo1, s1, e1, hO1, w1, hde1⟩ := hrec _ _ _ _ _ _ _ h1 ⟨fn, hfn, rfl⟩ k (k.fid l) d (some (k.lo l)) _ [] [.beginRound, .code r.body] (F :: cs) hO
                simp only [Ends] at e1; subst e1
                have hde1 := hde1 (by simp); subst hde1
                have hr1 : S1.L[l]? = some rb := w1.lk.busy l rb hrL rfl
                obtain ⟨lo1, fid1, tm1⟩ := fid_kept hSb w1.evo hrL
                have x := hO1.sim.loop l rb hr1
                obtain ⟨tmx, dex, x1, _, x3, x4⟩ := x.rep
                have hlt1 : l < S1.L.length := (List.getElem?_eq_some_iff.1 hr1).1
                let k1' : K := { k1 with w := { k1.w with heap := k1.w.heap.setIfInBounds (k1.lo l) (.loop { state := .busy, pending := rb.pending, fn := rb.fn, tmps := tmx, params := rb.params, assign := rb.assign, body := rb.body, defers := dex }) } }
                have hbut1 : But k1 k1' (k1.lo l) := setHeap_but k1 _ _
                have hw1 : k1.lo l < k1.w.heap.size := (Array.getElem?_eq_some_iff.1 x1).1
                have hS1' : Sim E k1' { S1 with L := S1.L.set l rb' } := hO1.sim.writeLoop hr1 hbut1 fun hle => ⟨x.own, ⟨tmx, dex, by
                  simp only [k1']
                  rw [Array.getElem?_setIfInBounds, if_pos rfl, if_pos hw1]
                  simp [rb, rb', loopState], by simp [rb'], x3, x4⟩, x.pend⟩
                have hev1 : Evo k1 k1' (touchF k1 S1.L (k.fid l)) := hbut1.evo (by rw [x.own]; simp) (.inl (by unfold touch; rw [x.own]; trivial))
                have hleq1 : LoopEq S1.L (S1.L.set l rb') := by
                  refine ⟨by simp, fun y a b ha hb => ?_⟩
                  rw [List.getElem?_set] at hb
                  split at hb
                  · rename_i e; subst e
                    rw [hr1] at ha
                    simp only [Option.some.injEq] at ha hb
                    subst ha; subst hb; rfl
                  · rw [ha] at hb; simp only [Option.some.injEq] at hb; rw [hb]
                have hO1' := hO1.after (S' := { S1 with L := S1.L.set l rb' }) hS1' hev1 hleq1 (hO1.fr.heapLoop hO1.sim hr1 hbut1) hO1.size (show Bound k1' d from hO1.bound)
                obtain ⟨k2, t2, de2, todo2, s2, e2, hO2, w2, hde2⟩ := hrec _ _ _ _ _ _ _ h2 ⟨fn, hfn, rfl⟩ k1' (k.fid l) d (some (k.lo l)) _ [] [] (F :: cs) hO1'
                have hde2 := hde2 (by simp); subst hde2
                have hr1' : ({ S1 with L := S1.L.set l rb' } : St).L[l]? = some rb' := by simp only; rw [List.getElem?_set, if_pos rfl, if_pos hlt1]
                have hr2 : S2.L[l]? = some rb' := w2.lk.busy l rb' hr1' rfl
                obtain ⟨lo2, fid2, tm2⟩ := fid_kept hS1' w2.evo hr1'
                have y := hO2.sim.loop l rb' hr2
                obtain ⟨tmy, dey, y1, _, y3, y4⟩ := y.rep
                have hw2 : k2.lo l < k2.w.heap.size := (Array.getElem?_eq_some_iff.1 y1).1
                have elo : k2.lo l = k.lo l := lo2.trans lo1
                have efid : k2.fid l = k.fid l := fid2.trans fid1
                have etm : tmy = tm := by rw [y3, q3]; exact tm2.trans tm1
                subst etm
                let r3 : LoopRec := { r with fr := fr', pending := j, done := j.isSome }
                let k3 : K := { k2 with w := { k2.w with heap := k2.w.heap.setIfInBounds (k2.lo l) (.loop { state := if j.isNone then .ready else .done, pending := j, fn := r.fn, tmps := tmy, params := r.params, assign := r.assign, body := r.body, defers := dey }) } }
                have hbut3 : But k2 k3 (k2.lo l) := setHeap_but k2 _ _
                have hev3 : Evo k2 k3 (touchF k2 S2.L (k.fid l)) := hbut3.evo (by rw [y.own]; simp) (.inl (by unfold touch; rw [y.own]; trivial))
                have a1 : Evo k k1' (touchF k Sb.L (k.fid l)) := w1.evo.transF hSb w1.lk.eq hev1
                have a2 : Evo k k2 (touchF k Sb.L (k.fid l)) := a1.transF hSb (w1.lk.eq.trans hleq1) w2.evo
                have a3 : Evo k k3 (touchF k Sb.L (k.fid l)) := a2.transF hSb ((w1.lk.eq.trans hleq1).trans w2.lk.eq) hev3
                have hevo : Evo k k3 (touch k S.L) := a3.weak fun c hc => by
                  rcases hc with hc | ⟨t, hc⟩
                  · unfold touch at hc ⊢
                    cases ho : k.own c with
                    | none => rw [ho] at hc; exact hc
                    | some o =>
                      rw [ho] at hc
                      cases o with
                      | lv f' t' =>
                        obtain ⟨l', r', g1, g2, g3⟩ := hc
                        rcases old g1 with ⟨_, rfl⟩ | ⟨_, g1⟩
                        · simp [rb] at g2
                        · exact ⟨l', r', g1, g2, g3⟩
                      | _ => exact hc
                  · unfold touch
                    rw [hc]
                    exact ⟨l, r, hr, hrb, rfl⟩
                have hS3 : Sim E k3 { S2 with L := S2.L.set l r3 } := hO2.sim.writeLoop hr2 hbut3 fun hle => ⟨y.own, ⟨tmy, dey, by
                  simp only [k3]
                  rw [Array.getElem?_setIfInBounds, if_pos rfl, if_pos hw2]
                  cases j <;> simp [r3, loopState, hrb], fun _ => by
                  have ef : k3.fid l = k.fid l := efid
                  rw [ef]
                  refine merge_ok hm hevo.le (q2 hrb) (hO2.fr.heapLoop hO2.sim hr2 hbut3) fun t ht => ?_
                  have hct : (lvKeys r.fr).contains t = true := by simpa using ht
                  rw [w2.fixed t hct, w1.fixed t hct, p4 t (fun hin => by rw [(hpar t hin).2] at hct; simp at hct)], y3, fn, hfn, hsz⟩, by
                  intro hd
                  cases j with
                  | none => rfl
                  | some x => simp [r3] at hd⟩
                refine ⟨k3, .bool j.isNone, ?_, by simp [Rep], hS3, hevo, hO2.bound, LK.round hr w1.lk w2.lk rfl rfl hrb (by simp [r3, hrb])⟩
                have hrun := yield_run (P := E.P) (vs := vs) q1 (by have := p3; simpa using this)
                have e2' : (j = none ∧ todo2 = []) ∨ (∃ t, j = some .ret ∧ todo2 = .code .ret :: t) ∨ (∃ id t, j = some (.exit id) ∧ todo2 = .code (.exit id) :: t ∧ exitTo id t = none) := by
                  cases j with
                  | none => exact .inl ⟨rfl, e2⟩
                  | some x =>
                    cases x <;> first | exact e2.elim | skip
                    · rename_i id
                      obtain ⟨t, g1, g2⟩ := e2
                      exact .inr (.inr ⟨id, t, rfl, g1, g2⟩)
                    · obtain ⟨t, g1⟩ := e2
                      exact .inr (.inl ⟨t, rfl, g1⟩)
                have s2' : Steps E.P (lone (frm r.fn (some (k.lo l)) t1 [.code r.body] []) (F :: cs) k1'.w) (lone (frm r.fn (some (k.lo l)) t2 todo2 []) (F :: cs) k2.w) := s2
                have y1' := y1
                rw [elo] at y1'
                have x1' := x1
                rw [lo1] at x1'
                have s3 := st_end_round (P := E.P) (fn := r.fn) (tmps := t2) (de := []) (F := F) (cs := cs) e2' y1'
                have hk1 : k1'.w = { k1.w with heap := k1.w.heap.setIfInBounds (k.lo l) (.loop { state := .busy, pending := rb.pending, fn := rb.fn, tmps := tmx, params := rb.params, assign := rb.assign, body := rb.body, defers := dex }) } := by
                  simp only [k1', lo1]
                have hk3 : k3.w = { k2.w with heap := k2.w.heap.setIfInBounds (k.lo l) (.loop { state := if j.isNone then .ready else .done, pending := j, fn := r.fn, tmps := tmy, params := r.params, assign := r.assign, body := r.body, defers := dey }) } := by
                  simp only [k3, elo]
                rw [hk1] at s2'
                rw [hk3]
                exact .head (hap.round hrun) (s1.trans (.head (st_beginRound x1' (by simp [rb, loopState])) (s2'.trans (.one s3))))
              · simp at hc
            · simp at hc
          · simp at hc
        · simp at hc
      · simp at hc
  · simp at hc
end
end Go.V

/- Loops over functions. -/
namespace Go.V
section
variable {E : Env} {k k' k0 k1 k2 : K} {S S0 S1 S2 : St} {f n d : Nat} {T : Nat → Prop} {g : G} {tmps : Array Value}

theorem keptYH_get {m : Nat} : ∀ {a b : List Block} {i : Nat} {x : Block}, keptYH m a b = true → b[i]? = some x → a[i]? = some x ∨ x.noY m = true
  | [], b, i, x, h, hi => by
    simp only [keptYH, List.all_eq_true] at h
    exact .inr (h x (List.mem_of_getElem? hi))
  | a :: l, b :: r, 0, x, h, hi => by
    simp only [keptYH, Bool.and_eq_true, Bool.or_eq_true] at h
    simp only [List.getElem?_cons_zero, Option.some.injEq] at hi; subst hi
    rcases h.1 with h | h
    · exact .inr h
    · exact .inl (by rw [Block.beq_eq h]; rfl)
  | a :: l, b :: r, i + 1, x, h, hi => by
    simp only [keptYH, Bool.and_eq_true] at h
    simpa using keptYH_get (i := i) h.2 (by simpa using hi)
  | _ :: _, [], _, _, h, _ => by simp [keptYH] at h
theorem frY_get {m : Nat} : ∀ {a b : Fr} {t : Nat} {v : Val}, frY m a b = true → b.get t = some v → a.get t = some v ∨ v.noY m = true
  | (s, u) :: a, (t', w) :: b, t, v, h, hv => by
    simp only [frY, Bool.and_eq_true, Bool.or_eq_true, beq_iff_eq] at h
    obtain ⟨⟨rfl, h1⟩, h2⟩ := h
    simp only [Fr.get] at hv ⊢
    split at hv
    · simp only [Option.some.injEq] at hv; subst hv
      rename_i e; rw [if_pos e]
      rcases h1 with h1 | h1
      · exact .inr h1
      · exact .inl (by rw [Val.beq_eq _ _ h1])
    · rename_i e; rw [if_neg e]; exact frY_get h2 hv
  | [], [], _, _, _, hv => by simp [Fr.get] at hv
  | [], _ :: _, _, _, h, _ => by simp [frY] at h
  | _ :: _, [], _, _, h, _ => by simp [frY] at h
theorem keptYL_get {m : Nat} : ∀ {a b : List LoopRec} {i : Nat} {x y : LoopRec}, keptYL m a b = true → a[i]? = some x → b[i]? = some y → y.busy = true ∨ frY m x.fr y.fr = true
  | a :: l, b :: r, 0, x, y, h, hi, hj => by
    simp only [keptYL, Bool.and_eq_true, Bool.or_eq_true] at h
    simp only [List.getElem?_cons_zero, Option.some.injEq] at hi hj; subst hi; subst hj
    exact h.1
  | a :: l, b :: r, i + 1, x, y, h, hi, hj => by
    simp only [keptYL, Bool.and_eq_true] at h
    exact keptYL_get (i := i) h.2 (by simpa using hi) (by simpa using hj)
  | [], _, _, _, _, _, hi, _ => by simp at hi
  | _ :: _, [], _, _, _, h, _, _ => by simp [keptYL] at h

/-- a loop begins -/
theorem push_loop (hS : Sim E k S) (f : Nat) (L : Loop) {r : LoopRec} (hb : r.busy = false) (hd : r.done = false) (hp : r.pending = none) (hL : L = { state := .ready, pending := none, fn := r.fn, tmps := L.tmps, params := r.params, assign := r.assign, body := r.body, defers := L.defers })
    (hF : FRep k f r.fr.get L.tmps) {fn : Func} (hfn : E.P.funcs[r.fn]? = some fn) (hsz : L.tmps.size = fn.ntmps) :
    let k' : K := { k with lo := fun l => if l = S.L.length then k.w.heap.size else k.lo l, lp := fun l => if l = S.L.length then (f, L.tmps) else k.lp l,
                           own := fun c => if c = k.w.heap.size then some (.loop S.L.length) else k.own c, w := k.w.alloc (.loop L) }
    k.Le k' ∧ Sim E k' { S with L := S.L ++ [r] } ∧ (∀ T, Evo k k' T) := by
  intro k'
  have hold : ∀ {c : Nat}, c < k.w.heap.size → k'.own c = k.own c ∧ k'.w.heap[c]? = k.w.heap[c]? := by
    intro c hc
    refine ⟨by simp only [k']; rw [if_neg (by omega)], ?_⟩
    show (k.w.heap.push _)[c]? = _
    rw [Array.getElem?_push, if_neg (by omega)]
  have hle : k.Le k' := by
    refine ⟨fun b s h => .inl ⟨h, rfl, rfl⟩, fun l hl => ?_, fun c hc hn => ⟨by rw [(hold hc).1]; exact hn, (hold hc).2⟩⟩
    have hne : l ≠ S.L.length := by have := hS.dead _ _ hl; omega
    simp only [k', hne, if_false]
    refine ⟨trivial, ?_, trivial⟩
    have := hS.ownlt _ _ hl
    rw [if_neg (by omega)]; exact hl
  refine ⟨hle, ⟨hS.sh, ?_, ?_, ?_, fun g cs hg => (hS.glob g cs hg).mono hle, ?_⟩, fun T => ⟨hle, rfl, rfl, rfl, by simp [k'], fun c hc _ => hold hc⟩⟩
  · intro b blk hb
    have q := hS.blk b blk hb
    have lt := hS.ownlt _ _ q.own
    exact q.mono hle rfl rfl (hold lt).1 (hold lt).2
  · intro l q hq
    by_cases e : l = S.L.length
    · subst e
      simp only [List.getElem?_append_right (Nat.le_refl _), Nat.sub_self, List.getElem?_cons_zero, Option.some.injEq] at hq
      subst hq
      refine ⟨by simp [k'], ⟨L.tmps, L.defers, ?_, fun _ => ?_, by simp [k', K.tm], fn, hfn, hsz⟩, fun _ => hp⟩
      · simp only [k', if_true]
        show (k.w.heap.push _)[_]? = _
        rw [Array.getElem?_push_size]
        simp only [loopState, hb, hd, hp, Bool.false_eq_true, if_false]
        rw [← hL]
      · have : k'.fid S.L.length = f := by simp [k', K.fid]
        rw [this]
        exact hF.mono hle fun c t hc => hold (hS.ownlt _ _ hc)
    · have lt : l < S.L.length := by
        have := (List.getElem?_eq_some_iff.1 hq).1
        simp at this; omega
      rw [List.getElem?_append_left lt] at hq
      have p := hS.loop l q hq
      obtain ⟨tm, de, q1, q2, q3, q4⟩ := p.rep
      have olt := hS.ownlt _ _ p.own
      refine ⟨by simp only [k', e, if_false]; rw [if_neg (by omega)]; exact p.own, ⟨tm, de, by simp only [k', e, if_false]; exact (hold olt).2.trans q1, fun hbz => ?_, by simp only [k', K.tm, e, if_false]; exact q3, q4⟩, p.pend⟩
      have : k'.fid l = k.fid l := by simp [k', K.fid, e]
      rw [this]
      exact (q2 hbz).mono hle fun c t hc => hold (hS.ownlt _ _ hc)
  · intro c o hc
    show c < (k.w.heap.push _).size
    simp only [k'] at hc
    by_cases e : c = k.w.heap.size
    · simp; omega
    · rw [if_neg e] at hc; have := hS.ownlt c o hc; simp; omega
  · intro c l hc
    simp only [k'] at hc
    simp only [List.length_append, List.length_cons, List.length_nil]
    by_cases e : c = k.w.heap.size
    · rw [if_pos e] at hc; simp only [Option.some.injEq, Own.loop.injEq] at hc; omega
    · rw [if_neg e] at hc; have := hS.dead c l hc; omega

/-- a loop is over -/
def unloop (k : K) (m : Nat) (o : Obj) : K :=
  { k with own := fun c => if k.own c = some (.loop m) then none else k.own c, w := { k.w with heap := k.w.heap.setIfInBounds (k.lo m) o } }

theorem unloop_own {m : Nat} {o : Obj} {c : Nat} (h : k.own c ≠ some (.loop m)) : (unloop k m o).own c = k.own c := by simp only [unloop, h, if_false]
theorem unloop_heap {m : Nat} {o : Obj} {c : Nat} (h : c ≠ k.lo m) : (unloop k m o).w.heap[c]? = k.w.heap[c]? := by
  simp only [unloop]; rw [Array.getElem?_setIfInBounds, if_neg (Ne.symm h)]
theorem unloop_some {m : Nat} {o : Obj} {c : Nat} {x : Own} (h : (unloop k m o).own c = some x) : k.own c = some x ∧ x ≠ .loop m := by
  simp only [unloop] at h
  split at h
  · simp at h
  · rename_i e
    exact ⟨h, by rintro rfl; exact e h⟩

theorem unloop_cut {m : Nat} {o : Obj} (hown : k.own (k.lo m) = some (.loop m)) : Cut k (unloop k m o) (fun _ => True) (· < m) where
  sh := fun b _ => ⟨rfl, rfl, rfl⟩
  lp := fun l hl h => ⟨rfl, by rw [unloop_own (by rw [h]; simp; omega)]; exact h, rfl⟩
  inl := fun c h => ⟨by rw [unloop_own (by rw [h]; simp)]; exact h, unloop_heap (by rintro rfl; rw [hown] at h; simp at h)⟩

theorem unloop_le (hS : Sim E k S) (h : k.Le k2) {m : Nat} (hm : m = S.L.length) {o : Obj} (hown : k2.own (k2.lo m) = some (.loop m)) : k.Le (unloop k2 m o) where
  sh := h.sh
  loop := fun l hl => by
    obtain ⟨h1, h2, h3⟩ := h.loop l hl
    have : l < m := by rw [hm]; exact hS.dead _ _ hl
    exact ⟨h1, by rw [unloop_own (by rw [h2]; simp; omega)]; exact h2, h3⟩
  inl := fun c hc hn => by
    obtain ⟨h1, h2⟩ := h.inl c hc hn
    exact ⟨by rw [unloop_own (by rw [h1]; simp)]; exact h1, (unloop_heap (by rintro rfl; rw [hown] at h1; simp at h1)).trans h2⟩

theorem unloop_evo (hS : Sim E k S) (h : Evo k k2 T) {m : Nat} (hm : m = S.L.length) {o : Obj} (hown : k2.own (k2.lo m) = some (.loop m)) : Evo k (unloop k2 m o) T where
  le := unloop_le hS h.le hm hown
  os := h.os
  tape := h.tape
  output := h.output
  size := by simp only [unloop, Array.size_setIfInBounds]; exact h.size
  keep := fun c hc ht => by
    obtain ⟨h1, h2⟩ := h.keep c hc ht
    have hne : k2.own c ≠ some (.loop m) := by
      intro e
      rw [h1] at e
      have := hS.dead _ _ e
      omega
    exact ⟨(unloop_own hne).trans h1, (unloop_heap (by rintro rfl; exact hne hown)).trans h2⟩

theorem unloop_sim (hS : Sim E k S) (hS2 : Sim E k2 S2) (hle : k.Le k2) {m : Nat} (hm : m = S.L.length) {o : Obj} (hown : k2.own (k2.lo m) = some (.loop m)) (hlen : S2.L.length = m + 1)
    (hblk : ∀ (b : Nat) (blk : Block), S2.H[b]? = some blk → blk.Fine (fun _ => True) (· < m))
    (hloop : ∀ (l : Nat) (r : LoopRec), l < m → S2.L[l]? = some r → r.busy = false → ∀ t v, r.fr.get t = some v → v.Fine (fun _ => True) (· < m)) : Sim E (unloop k2 m o) { S2 with L := S2.L.take m } where
  sh := hS2.sh
  blk := fun b blk hb => by
    have r := hS2.blk b blk hb
    exact r.cutTo (unloop_cut hown) trivial (unloop_own (by rw [r.own]; simp)) (unloop_heap (by intro e; have := r.own; rw [e, hown] at this; simp at this)) (hblk b blk hb)
  loop := fun l r hr => by
    simp only [List.getElem?_take] at hr
    split at hr
    · rename_i hlt
      have p := hS2.loop l r hr
      obtain ⟨tm, de, q1, q2, q3, q4⟩ := p.rep
      have ne : k2.lo l ≠ k2.lo m := by
        intro e; have := p.own; rw [e, hown] at this; simp only [Option.some.injEq, Own.loop.injEq] at this; omega
      refine ⟨by
        show (unloop k2 m o).own (k2.lo l) = _
        rw [unloop_own (by rw [p.own]; simp; omega)]; exact p.own, ⟨tm, de, (unloop_heap ne).trans q1, fun hb => ?_, q3, q4⟩, p.pend⟩
      exact (q2 hb).cutTo (unloop_cut hown) (fun c t hc => ⟨unloop_own (by rw [hc]; simp), unloop_heap (by rintro rfl; rw [hown] at hc; simp at hc)⟩) (hloop l r hlt hr hb)
    · simp at hr
  ownlt := fun c x h => by
    have := hS2.ownlt c x (unloop_some h).1
    simpa only [unloop, Array.size_setIfInBounds] using this
  glob := fun g cs hg => (hS.glob g cs hg).mono (unloop_le hS hle hm hown)
  dead := fun c l h => by
    obtain ⟨h1, h2⟩ := unloop_some h
    have := hS2.dead c l h1
    have hne : l ≠ m := by rintro rfl; exact h2 rfl
    simp only [List.length_take]
    omega

theorem st_endRange {P : Program} {fn : FuncId} {ro : Option Nat} {l : Nat} {k : List Item} {de : List Deferred} {cs : List Frame} {w : World} {r : Loop} (hl : w.heap[l]? = some (.loop r)) (hr : r.state ≠ .busy) :
    step P (lone (frm fn ro tmps (.endRangeFunc l :: k) de) cs w) = .next (lone (frm fn ro tmps ((r.pending.map Item.code).toList ++ k) de) cs { w with heap := w.heap.setIfInBounds l (.loop { r with state := .exhausted }) }) := by
  have he : (Instr.endLoop l).run P w = .ok r.pending { w with heap := w.heap.setIfInBounds l (.loop { r with state := .exhausted }) } := by
    simp [Instr.endLoop, Instr.getLoop, getObj, setObj, Sem.run, hl, hr, Sem.run_bind]
  exact step_lone_go (by simp [stepG, stepG.exec, frm, he])

theorem LK.takeLoop {L L2 : List LoopRec} {r : LoopRec} (h : LK (L ++ [r]) L2) : LK L (L2.take L.length) := by
  have hl : L2.length = L.length + 1 := by rw [h.eq.1]; simp
  refine ⟨⟨by rw [List.length_take]; omega, fun l a b ha hb => ?_⟩, fun l a ha hb => ?_⟩
  · have hlt := (List.getElem?_eq_some_iff.1 ha).1
    rw [List.getElem?_take, if_pos hlt] at hb
    exact h.eq.2 l a b (by rw [List.getElem?_append_left hlt]; exact ha) hb
  · have hlt := (List.getElem?_eq_some_iff.1 ha).1
    rw [List.getElem?_take, if_pos hlt]
    exact h.busy l a (by rw [List.getElem?_append_left hlt]; exact ha) hb
end
end Go.V

/- A loop over a function, from its head to its end. -/
namespace Go.V
section
variable {E : Env} {k k' k0 k1 k2 : K} {S S0 S1 S2 : St} {f n d : Nat} {T : Nat → Prop} {g : G} {tmps : Array Value}

/-- the machine at the head of a loop -/
theorem applies_loop {P : Program} {fn : FuncId} {ro : Option Nat} {items : List Item} {de : List Deferred} {cs : List Frame} {w w1 : World} {fo : Operand} {ps : Array Tmp} {a b : Code} {l : Nat} {mark : List Deferred}
    (he : (Instr.enterLoop fn tmps ps a b ro).run P w = .ok (l, mark) w1) {q : FuncId} {cap : Array Value} (hf : evT tmps fo = .func (.func q) #[] cap) :
    Applies P (lone (frm fn ro tmps (.code (.rangeFunc fo ps a b) :: items) de) cs w) (frm fn ro tmps (.inRangeFunc l :: items) (mark ++ de)) cs (callFunc q (#[.func (.yield l) #[] #[]] ++ cap)) w1 := by
  intro fr' cs' w' hb
  refine step_lone_go ?_
  rw [← hb]
  have hev := frm_eval fn ro tmps (.inRangeFunc l :: items) (mark ++ de)
  simp only [frm] at *
  simp only [stepG, stepG.exec, Sem.runT_eq, he, GStep.bare_after]
  simp only [stepG.apply, Sem.runT_eq, if_true, GStep.bare_after]
  have hrun : (do let d ← resolve (Frame.eval { fn, tmps, todo := .inRangeFunc l :: items, defers := mark ++ de, mode := .run, kind := .normal, roundOf := ro }) { callee := .value fo, args := #[.const (.func (.yield l) #[] #[])], argTypes := #[] } 0; invoke d.target d.args : Sem Next).run P w1 =
      (callFunc q (#[.func (.yield l) #[] #[]] ++ cap)).run P w1 := by
    simp only [hev, resolve, Deferred.ofValue, hf, Sem.run_bind, Sem.run_pure, Result.andThen_ok, invoke]
    simp [evT]
  rw [hrun]

theorem enterLoop_none {P : Program} {fn : FuncId} {ps : Array Tmp} {a b : Code} {w : World} :
    (Instr.enterLoop fn tmps ps a b none).run P w = .ok (w.heap.size + 1, [markD w.heap.size])
      ((w.alloc (.deferred (some []))).alloc (.loop { state := .ready, pending := none, fn, tmps, params := ps, assign := a, body := b, defers := w.heap.size })) := by
  simp [Instr.enterLoop, Sem.run_bind, markD]
theorem enterLoop_some {P : Program} {fn : FuncId} {ps : Array Tmp} {a b : Code} {w : World} {l : Nat} {r : Loop} (hl : w.heap[l]? = some (.loop r)) :
    (Instr.enterLoop fn tmps ps a b (some l)).run P w = .ok (w.heap.size, []) (w.alloc (.loop { state := .ready, pending := none, fn, tmps, params := ps, assign := a, body := b, defers := r.defers })) := by
  simp [Instr.enterLoop, Instr.getLoop, getObj, Sem.run, Sem.run_bind, hl]

theorem new_mark (hS : Sim E k S) (hF : FRep k f g tmps) {de : List Deferred} (hM : Marks k f de) (hB : Bound k d) (hlt : f < d) :
    ∃ k', k'.w = k.w.alloc (.deferred (some [])) ∧ Sim E k' S ∧ (∀ T, Evo k k' T) ∧ FRep k' f g tmps ∧ Marks k' f (markD k.w.heap.size :: de) ∧ Bound k' d := by
  let k' : K := { k with own := fun c => if c = k.w.heap.size then some (.mark f) else k.own c, w := k.w.alloc (.deferred (some [])) }
  have hN : New k k' (some (.mark f)) := {
    lo := rfl
    own := rfl
    lp := rfl
    size := by simp [k']
    os := rfl
    tape := rfl
    output := rfl
    heap := fun c hc => by
      show (k.w.heap.push _)[c]? = _
      rw [Array.getElem?_push, if_neg (by omega)] }
  have hold : ∀ b s, k.sh b = some s → k'.sh b = some s ∧ k'.σ b = k.σ b ∧ k'.room b = k.room b := fun b s hb => ⟨hb, rfl, rfl⟩
  have hle := hN.le hS hold
  refine ⟨k', rfl, hS.new hN rfl rfl rfl, hN.evo hS hold, hF.mono hle fun c t hc => ⟨hN.own_old (hS.ownlt _ _ hc), hN.heap c (hS.ownlt _ _ hc)⟩, ?_, hB.new hN (by simp) (by rintro f' h; simp only [Option.some.injEq, Own.mark.injEq] at h; omega)⟩
  obtain ⟨ms, h1, h2, h3⟩ := hM
  refine ⟨k.w.heap.size :: ms, by rw [h1]; rfl, List.nodup_cons.2 ⟨fun h => ?_, h2⟩, fun m hm => ?_⟩
  · have := hS.ownlt _ _ (h3 _ h).1; omega
  · rcases List.mem_cons.1 hm with rfl | hm
    · refine ⟨by simp [k'], ?_⟩
      show (k.w.heap.push _)[_]? = _
      rw [Array.getElem?_push_size]
    · obtain ⟨p1, p2⟩ := h3 m hm
      have lt := hS.ownlt _ _ p1
      exact ⟨(hN.own_old lt).trans p1, (hN.heap m lt).trans p2⟩

/-- A LOOP OVER A FUNCTION. -/
theorem loop_ok {rec : Rec} (hcall : ∀ h args S v S', callV rec E h args S = some (v, S') → CallOk E h args S v S') {c : Ctx} {fr : Fr} {de : List Deferred} {ro : Option Nat}
    (hO : FrOk E k S f d c.n ro fr.get tmps de) {fo : Operand} {ps : Array Tmp} {a b : Code} {q : FuncId} {cap : List Val} (hf : ev E fr.get fo = some (.fn q cap)) {fn : Func} (hfn : E.P.funcs[c.f]? = some fn) (hn : fn.ntmps = c.n)
    {v : Val} (hc : callV rec E q (.yield S.L.length :: cap) { S with L := S.L ++ [⟨c.f, fr, ps, a, b, false, false, false, none⟩] } = some (v, S2)) {r : LoopRec} (hr : S2.L[S.L.length]? = some r)
    (hrb : r.busy = false) (hkH : keptYH S.L.length S.H S2.H = true) (hkL : keptYL S.L.length S.L S2.L = true) (hkF : frY S.L.length fr r.fr = true) (items : List Item) (cs : List Frame) :
    ∃ k' mark, Steps E.P (lone (frm c.f ro tmps (.code (.rangeFunc fo ps a b) :: items) de) cs k.w) (lone (frm c.f ro tmps ((r.pending.map Item.code).toList ++ items) (mark ++ de)) cs k'.w) ∧
      FrOk E k' { S2 with L := S2.L.take S.L.length } f d c.n ro r.fr.get tmps (mark ++ de) ∧ Went c f k S tmps k' { S2 with L := S2.L.take S.L.length } tmps ∧ (ro ≠ none → mark = []) := by
  -- the loop begins
  have begin : ∃ kA mark, (∀ T, Evo k kA T) ∧ Sim E kA S ∧ FRep kA f fr.get tmps ∧ Marks kA f (mark ++ de) ∧ Bound kA d ∧ (ro ≠ none → mark = []) ∧
      ∃ df, (Instr.enterLoop c.f tmps ps a b ro).run E.P k.w = .ok (kA.w.heap.size, mark) (kA.w.alloc (.loop { state := .ready, pending := none, fn := c.f, tmps, params := ps, assign := a, body := b, defers := df })) := by
    cases hro : ro with
    | none =>
      obtain ⟨kA, hkA, h1, h2, h3, h4, h5⟩ := new_mark hO.sim hO.fr hO.marks hO.bound hO.lt
      refine ⟨kA, [markD k.w.heap.size], h2, h1, h3, h4, h5, fun h => absurd rfl h, k.w.heap.size, ?_⟩
      rw [hkA, enterLoop_none]
      simp
    | some x =>
      obtain ⟨l, q, rfl, hq⟩ := hO.ro x hro
      obtain ⟨tm, de', q1, _⟩ := (hO.sim.loop l q hq).rep
      exact ⟨k, [], fun _ => .refl _ _, hO.sim, hO.fr, hO.marks, hO.bound, fun _ => rfl, de', enterLoop_some q1⟩
  obtain ⟨kA, mark, eA, SA, FA, MA, BA, hmark, df, hent⟩ := begin
  have hfr : Rep k (.fn q cap) (evT tmps fo) := (ev_rep hO.sim hO.fr hf).1
  simp only [Rep] at hfr
  obtain ⟨capv, hfv, hcap⟩ := hfr
  have hap := applies_loop (P := E.P) (fn := c.f) (ro := ro) (items := items) (de := de) (cs := cs) hent hfv
  let L0 : Loop := { state := .ready, pending := none, fn := c.f, tmps, params := ps, assign := a, body := b, defers := df }
  obtain ⟨leB, SB, eB⟩ := push_loop (r := ⟨c.f, fr, ps, a, b, false, false, false, none⟩) SA f L0 rfl rfl rfl rfl FA hfn (by rw [hn]; exact hO.size)
  let kB : K := { kA with lo := fun l => if l = S.L.length then kA.w.heap.size else kA.lo l, lp := fun l => if l = S.L.length then (f, tmps) else kA.lp l,
                          own := fun c => if c = kA.w.heap.size then some (.loop S.L.length) else kA.own c, w := kA.w.alloc (.loop L0) }
  change kA.Le kB at leB
  change Sim E kB _ at SB
  change ∀ T, Evo kA kB T at eB
  have loB : kB.lo S.L.length = kA.w.heap.size := by simp [kB]
  have ownB : kB.own (kB.lo S.L.length) = some (.loop S.L.length) := by rw [loB]; simp [kB]
  have fidB : ∀ l, l < S.L.length → kB.fid l = kA.fid l := fun l hl => by simp [kB, K.fid, Nat.ne_of_lt hl]
  have fidB' : kB.fid S.L.length = f := by simp [kB, K.fid]
  have eKB : ∀ T, Evo k kB T := fun T => (eA T).trans (eB T) fun _ _ _ h => h
  have hbusyA := hO.busy.after hO.sim (eA (fun _ => False)) (.refl S.L)
  have hbelowA := hO.below.after hO.sim (eA (fun _ => False)) (.refl S.L)
  have hBB : Bound kB d := by
    intro x
    simp only [kB]
    by_cases e : x = kA.w.heap.size
    · simp [e]
    · simp only [e, if_false]; exact BA x
  have hbelowB : Below kB { S with L := S.L ++ [⟨c.f, fr, ps, a, b, false, false, false, none⟩] } d := by
    have get : ∀ {l : Nat} {r : LoopRec}, (S.L ++ [⟨c.f, fr, ps, a, b, false, false, false, none⟩])[l]? = some r → (l < S.L.length ∧ S.L[l]? = some r) ∨ l = S.L.length := by
      intro l r h
      rcases Nat.lt_or_ge l S.L.length with lt | ge
      · rw [List.getElem?_append_left lt] at h; exact .inl ⟨lt, h⟩
      · have := (List.getElem?_eq_some_iff.1 h).1
        simp at this
        exact .inr (by omega)
    constructor
    · intro l r h
      rcases get h with ⟨lt, h⟩ | rfl
      · rw [fidB l lt]; exact hbelowA.1 l r h
      · rw [fidB']; exact hO.lt
    · intro l l' r r' h h' hb hb' hff
      rcases get h with ⟨lt, h⟩ | rfl
      · rcases get h' with ⟨lt', h'⟩ | rfl
        · rw [fidB l lt, fidB l' lt'] at hff
          exact hbelowA.2 l l' r r' h h' hb hb' hff
        · rw [fidB l lt, fidB'] at hff
          rw [hbusyA l r h hff] at hb; simp at hb
      · rcases get h' with ⟨lt', h'⟩ | rfl
        · rw [fidB', fidB l' lt'] at hff
          rw [hbusyA l' r' h' hff.symm] at hb'; simp at hb'
        · rfl
  have hargs : RepAll kB (.yield S.L.length :: cap) (#[Value.func (.yield kA.w.heap.size) #[] #[]] ++ capv).toList := by
    rw [Array.toList_append]
    simp only [List.cons_append, List.nil_append, RepAll]
    refine ⟨?_, hcap.mono (eKB (fun _ => False)).le⟩
    simp only [Rep]
    exact ⟨ownB, by rw [loB]⟩
  obtain ⟨k2, cv, s2, _, hS2, e2, hB2, lk2⟩ := hcall _ _ _ _ _ hc kB d _ SB hBB hbelowB hargs _ _ cs ⟨rfl, .inr ⟨_, _, rfl⟩⟩ hap
  -- the loop ends
  have hrB : ({ S with L := S.L ++ [⟨c.f, fr, ps, a, b, false, false, false, none⟩] } : St).L[S.L.length]? = some ⟨c.f, fr, ps, a, b, false, false, false, none⟩ := by simp
  obtain ⟨lo2, fid2, tm2⟩ := fid_kept SB e2 hrB
  have y := hS2.loop _ r hr
  obtain ⟨tmy, dey, y1, y2, y3, _⟩ := y.rep
  have own2 : k2.own (k2.lo S.L.length) = some (.loop S.L.length) := y.own
  have elo : k2.lo S.L.length = kA.w.heap.size := lo2.trans loB
  have etm : tmy = tmps := by rw [y3, tm2]; simp [kB, K.tm]
  subst etm
  have hlen2 : S2.L.length = S.L.length + 1 := by rw [lk2.eq.1]; simp
  have eK2 : Evo k k2 (touchF k S.L f) := (eKB (touchF k S.L f)).trans e2 fun x hx ho ht => by
    unfold touch at ht
    rw [ho] at ht
    cases hox : k.own x with
    | none => rw [hox] at ht; exact ht.elim
    | some o =>
      rw [hox] at ht
      cases o with
      | lv f' t' =>
        obtain ⟨l, q, g1, g2, g3⟩ := ht
        rcases Nat.lt_or_ge l S.L.length with lt | ge
        · simp only at g1
          rw [List.getElem?_append_left lt] at g1
          left
          unfold touch
          rw [hox]
          exact ⟨l, q, g1, g2, by rw [← g3, fidB l lt]; exact ((fid_kept hO.sim (eA (fun _ => False)) g1).2.1).symm⟩
        · have := (List.getElem?_eq_some_iff.1 g1).1
          simp at this
          have : l = S.L.length := by omega
          subst this
          rw [fidB'] at g3
          right
          exact ⟨t', by rw [hox, g3]⟩
      | h _ => left; unfold touch; rw [hox]; trivial
      | loop _ => left; unfold touch; rw [hox]; trivial
      | mark _ => exact ht.elim
  let ob : Obj := .loop { state := .exhausted, pending := r.pending, fn := r.fn, tmps := tmy, params := r.params, assign := r.assign, body := r.body, defers := dey }
  have old2 : ∀ {l : Nat} {r' : LoopRec}, l < S.L.length → S2.L[l]? = some r' → ∃ q, S.L[l]? = some q ∧ r'.busy = q.busy := by
    intro l r' lt h
    obtain ⟨q, hq, e⟩ := lk2.eq.back h
    simp only at hq
    rw [List.getElem?_append_left lt] at hq
    exact ⟨q, hq, e⟩
  have fineF : ∀ t v, r.fr.get t = some v → v.Fine (fun _ => True) (· < S.L.length) := by
    intro t v hv
    rcases frY_get hkF hv with h | h
    · exact ((hO.fr t v h).fine hO.sim).mono (fun _ _ => trivial) (fun _ h => h)
    · exact Val.noY_fine _ _ h
  have hS3 : Sim E (unloop k2 S.L.length ob) { S2 with L := S2.L.take S.L.length } := by
    refine unloop_sim hO.sim hS2 eK2.le rfl own2 hlen2 ?_ ?_
    · intro bb blk hb
      rcases keptYH_get hkH hb with h | h
      · exact ((hO.sim.blk bb blk h).fine hO.sim).mono (fun _ _ => trivial) (fun _ h => h)
      · exact Block.noY_fine h
    · intro l r' lt hr' hb' t v hv
      obtain ⟨q, hq, eb⟩ := old2 lt hr'
      rcases keptYL_get hkL hq hr' with h | h
      · rw [hb'] at h; simp at h
      · rcases frY_get h hv with h | h
        · obtain ⟨tm, _, _, q2, _⟩ := (hO.sim.loop l q hq).rep
          exact ((q2 (by rw [← eb]; exact hb') t v h).fine hO.sim).mono (fun _ _ => trivial) (fun _ h => h)
        · exact Val.noY_fine _ _ h
  have e3 : Evo k (unloop k2 S.L.length ob) (touchF k S.L f) := unloop_evo hO.sim eK2 rfl own2
  have lk3 : LK S.L (S2.L.take S.L.length) := lk2.takeLoop
  have fid2f : k2.fid S.L.length = f := fid2.trans fidB'
  have hF3 : FRep (unloop k2 S.L.length ob) f r.fr.get tmy := by
    have := y2 hrb
    rw [fid2f] at this
    exact this.cutTo (unloop_cut own2) (fun c' t hc' => ⟨unloop_own (by rw [hc']; simp), unloop_heap (by rintro rfl; rw [own2] at hc'; simp at hc')⟩) fineF
  have hM3 : Marks (unloop k2 S.L.length ob) f (mark ++ de) := by
    have h1 : Marks kB f (mark ++ de) := by
      obtain ⟨ms, p1, p2, p3⟩ := MA
      refine ⟨ms, p1, p2, fun m hm => ?_⟩
      obtain ⟨q1, q2⟩ := p3 m hm
      have lt := SA.ownlt _ _ q1
      obtain ⟨g1, g2⟩ := (eB (fun _ => False)).keep m lt (fun h => h)
      exact ⟨g1.trans q1, g2.trans q2⟩
    have h2 : Marks k2 f (mark ++ de) := h1.after SB e2 fun _ h => .inl h
    obtain ⟨ms, p1, p2, p3⟩ := h2
    refine ⟨ms, p1, p2, fun m hm => ?_⟩
    obtain ⟨q1, q2⟩ := p3 m hm
    exact ⟨(unloop_own (by rw [q1]; simp)).trans q1, (unloop_heap (by rintro rfl; rw [own2] at q1; simp at q1)).trans q2⟩
  have hB3 : Bound (unloop k2 S.L.length ob) d := fun x => ⟨fun f' t' h => (hB2 x).1 f' t' (unloop_some h).1, fun f' h => (hB2 x).2 f' (unloop_some h).1⟩
  refine ⟨unloop k2 S.L.length ob, mark, ?_, ?_, ⟨e3, lk3, fun _ _ => rfl⟩, hmark⟩
  · refine s2.trans (.one ?_)
    have hfin : (frm c.f ro tmy (.inRangeFunc kA.w.heap.size :: items) (mark ++ de)).finish cv = frm c.f ro tmy (.endRangeFunc kA.w.heap.size :: items) (mark ++ de) := rfl
    rw [hfin]
    have y1' := y1
    rw [elo] at y1'
    have hns : loopState r ≠ .busy := by
      simp only [loopState, hrb]
      cases r.done <;> simp
    have := st_endRange (P := E.P) (fn := c.f) (ro := ro) (tmps := tmy) (k := items) (de := mark ++ de) (cs := cs) y1' hns
    rw [this]
    simp only [unloop, elo, ob]
  · have := hO.after (S' := { S2 with L := S2.L.take S.L.length }) hS3 e3 lk3.eq hF3 hO.size hB3
    exact { this with marks := hM3 }
end
end Go.V

/- What an operation depends on. -/
namespace Go.V
section
variable {E : Env} {c : Ctx} {g g' : G} {S S1 : St} {o : Oper}

theorem pureVal_S {X : Option Val} {v : Option Val} {k : Cls} {ups : List (Nat × Val)} (h : pureVal X S = some (.val v k ups S1)) :
    k = .pure ∧ ups = [] ∧ S1 = S ∧ ∀ S2, pureVal X S2 = some (.val v k ups S2) := by
  simp only [pureVal, Option.map_eq_some_iff, Res.val.injEq] at h
  obtain ⟨x, rfl, rfl, rfl, rfl, rfl⟩ := h
  exact ⟨rfl, rfl, rfl, fun S2 => rfl⟩
theorem one_S {X : Option (Val × Cls)} {v : Option Val} {k : Cls} {ups : List (Nat × Val)} (h : one X S = some (.val v k ups S1)) :
    ups = [] ∧ S1 = S ∧ ∃ x, v = some x ∧ X = some (x, k) := by
  simp only [one, Option.map_eq_some_iff, Res.val.injEq] at h
  obtain ⟨⟨x, q⟩, hx, rfl, rfl, rfl, rfl⟩ := h
  exact ⟨rfl, rfl, x, rfl, hx⟩
theorem one_mk (x : Val) (k : Cls) (S2 : St) : one (some (x, k)) S2 = some (.val (some x) k [] S2) := rfl

/-- classes of what does not look at the heap -/
def Cls.quiet : Cls → Bool
  | .pure | .rl _ | .wl _ => true
  | _ => false

theorem cellsAt_S {p : Place} {cs : List Val} (h : cellsAt g S p = some cs) (hq : p.reads.quiet = true) (S2 : St) : cellsAt g S2 p = some cs := by
  cases p <;> simp_all [cellsAt, Place.reads, Cls.quiet]

theorem cellsOfSlice_S {sz : Nat} {x : Val} {n : Nat} {l : List Val} {k : Cls} (h : cellsOfSlice S sz x = some (n, l, k)) (hq : k.quiet = true) (S2 : St) : cellsOfSlice S2 sz x = some (n, l, k) := by
  unfold cellsOfSlice at h ⊢
  split at h
  · exact h
  · split at h
    · simp only [Option.map_eq_some_iff, Prod.mk.injEq] at h
      obtain ⟨_, _, _, _, rfl⟩ := h
      simp [Cls.quiet] at hq
    · simp at h
  · exact h
  · simp at h

theorem mapEnts_S {m : Val} {es : List (Val × Val)} {k : Cls} (h : mapEnts S m = some (es, k)) (hq : k.quiet = true) (S2 : St) : mapEnts S2 m = some (es, k) := by
  unfold mapEnts at h ⊢
  split at h
  · exact h
  · split at h
    · simp only [Option.some.injEq, Prod.mk.injEq] at h
      obtain ⟨_, rfl⟩ := h
      simp [Cls.quiet] at hq
    · simp at h
  · simp at h

theorem append_cls {t : TypeId} {s x v : Val} {k : Cls} {S' : St} (h : appendOp E S t s x = some (v, k, S')) : k = .eh := by
  unfold appendOp at h
  split at h
  · split at h
    · split at h
      · split at h
        · split at h <;> simp only [Option.some.injEq, Prod.mk.injEq, reduceCtorEq] at h
          · exact h.2.1.symm
          · exact h.2.1.symm
        · split at h
          · split at h
            · simp only [grown, Option.some.injEq, Prod.mk.injEq] at h; exact h.2.1.symm
            · simp only [grown, Option.some.injEq, Prod.mk.injEq] at h; exact h.2.1.symm
            · split at h
              · split at h
                · split at h
                  · simp only [Option.some.injEq, Prod.mk.injEq] at h; exact h.2.1.symm
                  · simp at h
                · simp at h
              · simp only [grown, Option.some.injEq, Prod.mk.injEq] at h; exact h.2.1.symm
            · split at h
              · split at h
                · split at h
                  · split at h
                    · simp only [Option.some.injEq, Prod.mk.injEq] at h; exact h.2.1.symm
                    · simp at h
                  · split at h
                    · simp only [Option.some.injEq, Prod.mk.injEq] at h; exact h.2.1.symm
                    · simp at h
                · simp at h
              · simp at h
            · simp at h
          · simp at h
      · simp at h
    · simp at h
  · simp at h

/-- what does not look at the heap does the same in every state -/
theorem opV_S {v : Option Val} {k : Cls} {ups : List (Nat × Val)} (h : opV E c g S o = some (.val v k ups S1)) (hq : k.quiet = true) :
    S1 = S ∧ ∀ S2, opV E c g S2 o = some (.val v k ups S2) := by
  cases ho : o.op <;> simp only [opV, ho] at h ⊢
  all_goals try (simp at h; done)
  case move x => exact (pureVal_S h).2.2
  case assign x => exact (pureVal_S h).2.2
  case pick q a b => split at h <;> first | exact (pureVal_S h).2.2 | simp at h
  case alloc e =>
    split at h
    · unfold lay at h
      split at h
      · split at h
        · simp only [Option.some.injEq, Res.val.injEq] at h
          obtain ⟨_, rfl, _⟩ := h
          simp [Cls.quiet] at hq
        · simp at h
      · simp at h
    · simp at h
  case box e x =>
    split at h
    · split at h
      · unfold lay at h
        split at h
        · split at h
          · simp only [Option.some.injEq, Res.val.injEq] at h
            obtain ⟨_, rfl, _⟩ := h
            simp [Cls.quiet] at hq
          · simp at h
        · simp at h
      · simp at h
    · simp at h
  case build t parts =>
    split at h
    · split at h
      · split at h
        · exact (pureVal_S h).2.2
        · simp at h
      · split at h
        · exact (pureVal_S h).2.2
        · simp at h
      · simp at h
    · simp at h
  case buildSlice t len parts =>
    split at h
    · split at h
      · split at h
        · rename_i hc
          simp only [if_pos hc]
          exact (pureVal_S h).2.2
        · simp at h
      · simp at h
    · simp at h
  case load t a =>
    split at h
    · rename_i d n p hd hn hp
      split at h
      · rename_i cs hcs
        obtain ⟨rfl, rfl, x, rfl, hx⟩ := one_S h
        simp only [Option.map_eq_some_iff, Prod.mk.injEq] at hx
        obtain ⟨y, hy, rfl, rfl⟩ := hx
        exact ⟨rfl, fun S2 => by simp only [cellsAt_S hcs hq S2, hy, Option.map_some, one_mk]⟩
      · simp at h
    · simp at h
  case store t a x =>
    split at h
    · rename_i n p u hn hp hu
      split at h
      · rename_i hc
        simp only [Option.map_eq_some_iff, Res.val.injEq] at h
        obtain ⟨⟨k', ups', S'⟩, hs, rfl, rfl, rfl, rfl⟩ := h
        unfold storeAt at hs ⊢
        split at hs
        · simp at hs
        · split at hs
          · simp only [Option.map_eq_some_iff, Prod.mk.injEq] at hs
            obtain ⟨cs', hov, rfl, rfl, rfl⟩ := hs
            exact ⟨rfl, fun S2 => by simp [hov, hc]⟩
          · simp at hs
        · split at hs
          · simp only [Option.map_eq_some_iff, Prod.mk.injEq] at hs
            obtain ⟨cs', hov, rfl, _⟩ := hs
            simp [Cls.quiet] at hq
          · simp at hs
      · simp at h
    · simp at h
  case nilCheck x =>
    split at h
    · rename_i p hp
      split at h
      · rename_i hc
        obtain ⟨rfl, rfl, x, rfl, hx⟩ := one_S h
        simp only [Option.some.injEq, Prod.mk.injEq] at hx
        obtain ⟨rfl, rfl⟩ := hx
        obtain ⟨cs, hcs⟩ := Option.isSome_iff_exists.1 hc
        exact ⟨rfl, fun S2 => by simp [cellsAt_S hcs hq S2, one_mk]⟩
      · simp at h
    · split at h
      · exact (pureVal_S h).2.2
      · exact (pureVal_S h).2.2
      · simp at h
  case binOp op t x y z =>
    split at h
    · exact (pureVal_S h).2.2
    · simp at h
  case unOp op t x =>
    split at h
    · exact (pureVal_S h).2.2
    · simp at h
  case convert s d x =>
    split at h
    · rename_i a ha
      obtain ⟨rfl, rfl, y, rfl, hy⟩ := one_S h
      refine ⟨rfl, fun S2 => ?_⟩
      have : convertOp E s d S2 a = some (y, k) := by
        unfold convertOp at hy ⊢
        split at hy
        · exact hy
        · exact hy
        · exact hy
        · split at hy
          · split at hy
            · split at hy
              · rename_i hcs
                simp only [Option.map_eq_some_iff, Prod.mk.injEq] at hy
                obtain ⟨bb, hb, rfl, rfl⟩ := hy
                simp only [cellsOfSlice_S hcs hq S2, hb, Option.map_some]
              · simp at hy
            · split at hy
              · rename_i hcs
                simp only [Option.map_eq_some_iff, Prod.mk.injEq] at hy
                obtain ⟨bb, hb, rfl, rfl⟩ := hy
                simp only [cellsOfSlice_S hcs hq S2, hb, Option.map_some]
              · simp at hy
            · simp at hy
          · simp at hy
        · simp at hy
      simp only [this, one_mk]
    · simp at h
  case makeFunc fn first cap =>
    cases fn <;> simp only at h ⊢ <;> first | (simp at h; done) | skip
    split at h
    · rename_i h0
      split at h
      all_goals first | (simp at h; done) | skip
      all_goals
        simp only [Option.some.injEq, Res.val.injEq] at h
        obtain ⟨rfl, rfl, rfl, rfl⟩ := h
        exact ⟨rfl, fun S2 => by simp only [if_pos h0]⟩
    · simp at h
  case makeMap t r =>
    cases r <;> simp only at h ⊢ <;> first | (simp at h; done) | skip
    split at h
    · simp only [Option.some.injEq, Res.val.injEq] at h
      obtain ⟨_, rfl, _⟩ := h
      simp [Cls.quiet] at hq
    · simp at h
  case makeSlice t l q =>
    split at h
    · simp only [Option.map_eq_some_iff, Res.val.injEq] at h
      obtain ⟨_, _, _, rfl, _⟩ := h
      simp [Cls.quiet] at hq
    · simp at h
  case lookup t m q ok =>
    split at h
    · rename_i a b ha hb
      obtain ⟨rfl, rfl, y, rfl, hy⟩ := one_S h
      refine ⟨rfl, fun S2 => ?_⟩
      have : lookupOp E t S2 a b ok = some (y, k) := by
        unfold lookupOp at hy ⊢
        split at hy
        · split at hy
          · split at hy
            · rename_i hk
              rw [if_pos hk]
              split at hy
              · rename_i es cl hes
                have hcl : k = cl := by
                  split at hy
                  · simp only [Option.some.injEq, Prod.mk.injEq] at hy; exact hy.2.symm
                  · split at hy
                    · simp only [Option.some.injEq, Prod.mk.injEq] at hy; exact hy.2.symm
                    · simp at hy
                  · simp at hy
                subst hcl
                rw [mapEnts_S hes hq S2]
                exact hy
              · simp at hy
            · simp at hy
          · simp at hy
        · simp at hy
      simp only [this, one_mk]
    · simp at h
  case mapUpdate t m q v =>
    split at h
    · simp only [Option.map_eq_some_iff, Res.val.injEq] at h
      obtain ⟨_, _, _, rfl, _⟩ := h
      simp [Cls.quiet] at hq
    · simp at h
  case insert t m q v =>
    split at h
    · simp only [Option.map_eq_some_iff, Res.val.injEq] at h
      obtain ⟨_, _, _, rfl, _⟩ := h
      simp [Cls.quiet] at hq
    · simp at h
  case fieldAddr t x i =>
    split at h
    · rename_i fd p hfd hp
      split at h
      · rename_i m cs hsz hcs
        obtain ⟨rfl, rfl, x, rfl, hx⟩ := one_S h
        simp only [Option.some.injEq, Prod.mk.injEq] at hx
        obtain ⟨rfl, rfl⟩ := hx
        exact ⟨rfl, fun S2 => by simp only [hsz, cellsAt_S hcs hq S2, one_mk]⟩
      · simp at h
    · simp at h
  case indexAddr t x i =>
    split at h
    · rename_i q n hi
      split at h
      · split at h
        · split at h
          · rename_i hc
            simp only [if_pos hc]
            exact (pureVal_S h).2.2
          · simp at h
        · split at h
          · obtain ⟨rfl, rfl, x, rfl, hx⟩ := one_S h
            simp only [Option.some.injEq, Prod.mk.injEq] at hx
            obtain ⟨rfl, rfl⟩ := hx
            simp [Cls.quiet] at hq
          · simp at h
        · simp at h
      · split at h
        · rename_i sz p hsz hp
          split at h
          · rename_i hc
            obtain ⟨rfl, rfl, x, rfl, hx⟩ := one_S h
            simp only [Option.some.injEq, Prod.mk.injEq] at hx
            obtain ⟨rfl, rfl⟩ := hx
            obtain ⟨cs, hcs⟩ := Option.isSome_iff_exists.1 hc.2.2
            refine ⟨rfl, fun S2 => ?_⟩
            rw [if_pos ⟨hc.1, hc.2.1, by rw [cellsAt_S hcs hq S2]; rfl⟩]
            rfl
          · simp at h
        · simp at h
      · simp at h
    · simp at h
  case slice t x lo hi mx =>
    obtain ⟨rfl, rfl, y, rfl, hy⟩ := one_S h
    refine ⟨rfl, fun S2 => ?_⟩
    have : sliceOp E g S2 t x lo hi mx = some (y, k) := by
      unfold sliceOp at hy ⊢
      split at hy
      · exact hy
      · split at hy
        · exact hy
        · split at hy
          · simp only [Option.some.injEq, Prod.mk.injEq] at hy
            obtain ⟨_, rfl⟩ := hy
            simp [Cls.quiet] at hq
          · split at hy
            · simp only [Option.some.injEq, Prod.mk.injEq] at hy
              obtain ⟨_, rfl⟩ := hy
              simp [Cls.quiet] at hq
            · simp at hy
        · exact hy
        · simp at hy
      · exact hy
      · simp at hy
    rw [this, one_mk]
  case index t x i =>
    split at h
    · split at h
      · split at h
        · rename_i hc
          simp only [if_pos hc]
          exact (pureVal_S h).2.2
        · simp at h
      · split at h
        · split at h
          · rename_i hc
            simp only [if_pos hc]
            exact (pureVal_S h).2.2
          · simp at h
        · simp at h
      · simp at h
    · simp at h
  case field t x i =>
    split at h
    · split at h
      · exact (pureVal_S h).2.2
      · simp at h
    · simp at h
  case extract x i =>
    split at h
    · exact (pureVal_S h).2.2
    · simp at h
  case makeInterface t x =>
    split at h
    · simp at h
    · rename_i hni hx hu
      exact (pureVal_S h).2.2
    · simp at h
  case call cl =>
    split at h
    · split at h
      · obtain ⟨rfl, rfl, y, rfl, hy⟩ := one_S h
        refine ⟨rfl, fun S2 => ?_⟩
        rename_i x _ _ _ t ht
        have : lenOp E t S2 x = some (y, k) := by
          unfold lenOp at hy ⊢
          split at hy
          · exact hy
          · exact hy
          · exact hy
          · exact hy
          · split at hy
            · simp only [Option.some.injEq, Prod.mk.injEq] at hy
              obtain ⟨_, rfl⟩ := hy
              simp [Cls.quiet] at hq
            · simp at hy
          · simp at hy
        rw [this, one_mk]
      · simp at h
    · split at h
      · exact (pureVal_S h).2.2
      · simp at h
    · have app : ∀ {X : Option (Val × Cls × St)}, (∀ v k S', X = some (v, k, S') → k = .eh) → (X.map fun (v, k, S') => Res.val (some v) k [] S') = some (.val v k ups S1) → False := by
        intro X hX h
        simp only [Option.map_eq_some_iff, Res.val.injEq] at h
        obtain ⟨⟨v', k', S'⟩, hh, _, rfl, _, _⟩ := h
        have := hX _ _ _ hh
        simp only at this hq
        subst this
        simp [Cls.quiet] at hq
      split at h
      · exact (app (fun _ _ _ => append_cls) h).elim
      · exact (app (fun _ _ _ => append_cls) h).elim
      · simp at h
    · split at h
      · simp only [Option.map_eq_some_iff, Res.val.injEq] at h
        obtain ⟨_, _, _, rfl, _⟩ := h
        simp [Cls.quiet] at hq
      · simp at h
    · split at h
      · simp only [Option.map_eq_some_iff, Res.val.injEq] at h
        obtain ⟨_, _, _, rfl, _⟩ := h
        simp [Cls.quiet] at hq
      · simp at h
    · exact (pureVal_S h).2.2
    · exact (pureVal_S h).2.2
    · split at h <;> simp at h
    · simp at h
end
end Go.V

/- What an operation names. -/
namespace Go.V
section
variable {E : Env} {c : Ctx} {g g' : G} {S S1 : St} {o : Oper}

theorem raw_agree {x : Operand} (h : ∀ u, x = .tmp u → g' u = g u) : raw E g' x = raw E g x := by
  cases x <;> simp only [raw]
  exact h _ rfl
theorem ev_agree {x : Operand} (h : ∀ u, x = .tmp u → g' u = g u) : ev E g' x = ev E g x := by
  unfold ev; rw [raw_agree h]
theorem place_agree {x : Operand} (h : ∀ u, x = .tmp u → g' u = g u) : place E g' x = place E g x := by
  cases x <;> simp only [place]
  rw [h _ rfl]
theorem evs_agree : ∀ {l : List Operand}, (∀ u, .tmp u ∈ l → g' u = g u) → evs E g' l = evs E g l
  | [], _ => rfl
  | x :: l, h => by
    simp only [evs]
    rw [ev_agree (fun u hu => h u (by simp [hu])), evs_agree (fun u hu => h u (by simp [hu]))]
theorem evParts_agree : ∀ {l : List (Nat × Operand)}, (∀ u, .tmp u ∈ l.map (·.2) → g' u = g u) → evParts E g' l = evParts E g l
  | [], _ => rfl
  | (i, x) :: l, h => by
    simp only [evParts]
    rw [ev_agree (fun u hu => h u (by simp [hu])), evParts_agree (fun u hu => h u (by rw [List.map_cons]; exact List.mem_cons_of_mem _ hu))]
theorem bound_agree {x : Option Operand} (h : ∀ u, x = some (.tmp u) → g' u = g u) : bound E g' x = bound E g x := by
  cases x with
  | none => rfl
  | some y => simp only [bound]; rw [ev_agree (fun u hu => h u (by rw [hu]))]
theorem capture_agree : ∀ {l : List Operand}, (∀ u, .tmp u ∈ l → g' u = g u) → capture E g' l = capture E g l
  | [], _ => rfl
  | x :: l, h => by
    cases x with
    | tmp t =>
      simp only [capture]
      rw [h t (by simp), capture_agree (fun u hu => h u (List.mem_cons_of_mem _ hu))]
    | _ => rfl

theorem cellsAt_agree {p : Place} {cs : List Val} (h : cellsAt g S p = some cs) (hs : ∀ u ∈ p.reads.slots, g' u = g u) : cellsAt g' S p = some cs := by
  cases p with
  | lcl t off => simp only [cellsAt] at h ⊢; rw [hs t (by simp [Place.reads, Cls.slots])]; exact h
  | _ => exact h

theorem sliceOp_agree {t : TypeId} {x : Operand} {lo hi mx : Option Operand} (hx : ∀ u, x = .tmp u → g' u = g u) (hl : ∀ u, lo = some (.tmp u) → g' u = g u) (hh : ∀ u, hi = some (.tmp u) → g' u = g u) (hm : ∀ u, mx = some (.tmp u) → g' u = g u) :
    sliceOp E g' S t x lo hi mx = sliceOp E g S t x lo hi mx := by
  unfold sliceOp
  rw [bound_agree hl, bound_agree hh, bound_agree hm, ev_agree hx, place_agree hx]

/-- an operation does the same where what it names is the same -/
theorem opV_agree {r : Res} (h : opV E c g S o = some r) (hop : ∀ u, Operand.tmp u ∈ o.op.operands.toList → g' u = g u)
    (hsl : ∀ v k ups S1, r = .val v k ups S1 → ∀ u ∈ k.slots, g' u = g u) : opV E c g' S o = some r := by
  cases ho : o.op <;> rw [ho] at hop <;> simp only [opV, ho] at h ⊢
  all_goals try (simp at h; done)
  case move x => rw [ev_agree (fun u hu => hop u (by simp [Op.operands, hu]))]; exact h
  case assign x => rw [ev_agree (fun u hu => hop u (by simp [Op.operands, hu]))]; exact h
  case pick q a b =>
    rw [ev_agree (fun u hu => hop u (by simp [Op.operands, hu]))]
    split at h
    · rename_i t hq
      rw [ev_agree (x := if t then a else b) (fun u hu => hop u (by cases t <;> simp_all [Op.operands]))]
      exact h
    · simp at h
  case alloc e => exact h
  case box e x => rw [ev_agree (fun u hu => hop u (by simp [Op.operands, hu]))]; exact h
  case build t parts => rw [evParts_agree (fun u hu => hop u (by simpa [Op.operands] using hu))]; exact h
  case buildSlice t len parts => rw [evParts_agree (fun u hu => hop u (by simpa [Op.operands] using hu))]; exact h
  case load t a =>
    rw [place_agree (fun u hu => hop u (by simp [Op.operands, hu]))]
    split at h
    · rename_i d n p hd hn hp
      split at h
      · rename_i cs hcs
        have : cellsAt g' S p = some cs := cellsAt_agree hcs fun u hu => by
          simp only [one, Option.map_eq_some_iff] at h
          obtain ⟨⟨y, q⟩, hy, rfl⟩ := h
          obtain ⟨z, hz, hzz⟩ := hy
          simp only [Prod.mk.injEq] at hzz
          exact hsl _ _ _ _ rfl u (by rw [← hzz.2]; exact hu)
        simp only [this]
        exact h
      · simp at h
    · simp at h
  case store t a x =>
    rw [place_agree (fun u hu => hop u (by simp [Op.operands, hu])), ev_agree (fun u hu => hop u (by simp [Op.operands, hu]))]
    split at h
    · rename_i n p v hn hp hv
      split at h
      · rename_i hc
        have : storeAt g' S p v.cells = storeAt g S p v.cells := by
          unfold storeAt
          split
          · rfl
          · rename_i t off
            simp only [Option.map_eq_some_iff] at h
            obtain ⟨⟨k', ups', S'⟩, hs, rfl⟩ := h
            unfold storeAt at hs
            simp only at hs
            split at hs
            · simp only [Option.map_eq_some_iff, Prod.mk.injEq] at hs
              rename_i cs0 hg0
              obtain ⟨cs', hov, rfl, _, _⟩ := hs
              rw [hsl _ _ _ _ rfl t (by simp [Cls.slots]), hg0]
            · simp at hs
          · rfl
        simp only [if_pos hc, this]
        exact h
      · simp at h
    · simp at h
  case nilCheck x =>
    rw [place_agree (fun u hu => hop u (by simp [Op.operands, hu])), ev_agree (fun u hu => hop u (by simp [Op.operands, hu]))]
    split at h
    · rename_i p hp
      split at h
      · rename_i hc
        obtain ⟨cs, hcs⟩ := Option.isSome_iff_exists.1 hc
        have : cellsAt g' S p = some cs := cellsAt_agree hcs fun u hu => by
          simp only [one, Option.map_some, Option.some.injEq] at h
          exact hsl _ _ _ _ h.symm u hu
        simp only [this, Option.isSome_some, if_true]
        exact h
      · simp at h
    · exact h
  case binOp op t x y z =>
    rw [ev_agree (x := x) (fun u hu => hop u (by simp [Op.operands, hu])), ev_agree (x := y) (fun u hu => hop u (by simp [Op.operands, hu]))]; exact h
  case unOp op t x => rw [ev_agree (fun u hu => hop u (by simp [Op.operands, hu]))]; exact h
  case convert s d x => rw [ev_agree (fun u hu => hop u (by simp [Op.operands, hu]))]; exact h
  case makeFunc fn first cap =>
    cases fn <;> simp only at h ⊢ <;> first | (simp at h; done) | skip
    rw [capture_agree (fun u hu => hop u (by simp [Op.operands]; right; simpa using hu))]; exact h
  case makeMap t r => cases r <;> exact h
  case makeSlice t l q =>
    rw [ev_agree (x := l) (fun u hu => hop u (by simp [Op.operands, hu])), ev_agree (x := q) (fun u hu => hop u (by simp [Op.operands, hu]))]; exact h
  case lookup t m q ok =>
    rw [ev_agree (x := m) (fun u hu => hop u (by simp [Op.operands, hu])), ev_agree (x := q) (fun u hu => hop u (by simp [Op.operands, hu]))]; exact h
  case mapUpdate t m q v =>
    rw [ev_agree (x := m) (fun u hu => hop u (by simp [Op.operands, hu])), ev_agree (x := q) (fun u hu => hop u (by simp [Op.operands, hu])), ev_agree (x := v) (fun u hu => hop u (by simp [Op.operands, hu]))]; exact h
  case insert t m q v =>
    rw [ev_agree (x := m) (fun u hu => hop u (by simp [Op.operands, hu])), ev_agree (x := q) (fun u hu => hop u (by simp [Op.operands, hu])), ev_agree (x := v) (fun u hu => hop u (by simp [Op.operands, hu]))]; exact h
  case fieldAddr t x i =>
    rw [place_agree (fun u hu => hop u (by simp [Op.operands, hu]))]
    split at h
    · rename_i fd p hfd hp
      split at h
      · rename_i m cs hsz hcs
        have : cellsAt g' S p = some cs := cellsAt_agree hcs fun u hu => by
          simp only [one, Option.map_some, Option.some.injEq] at h
          exact hsl _ _ _ _ h.symm u hu
        simp only [this, hsz]
        exact h
      · simp at h
    · simp at h
  case indexAddr t x i =>
    rw [place_agree (x := x) (fun u hu => hop u (by simp [Op.operands, hu])), ev_agree (x := x) (fun u hu => hop u (by simp [Op.operands, hu])), ev_agree (x := i) (fun u hu => hop u (by simp [Op.operands, hu]))]
    split at h
    · rename_i q n hi
      split at h
      · exact h
      · split at h
        · rename_i sz p hsz hp
          split at h
          · rename_i hc
            obtain ⟨cs, hcs⟩ := Option.isSome_iff_exists.1 hc.2.2
            have : cellsAt g' S p = some cs := cellsAt_agree hcs fun u hu => by
              simp only [one, Option.map_some, Option.some.injEq] at h
              exact hsl _ _ _ _ h.symm u hu
            rw [if_pos ⟨hc.1, hc.2.1, by rw [this]; rfl⟩]
            exact h
          · simp at h
        · simp at h
      · simp at h
    · simp at h
  case slice t x lo hi mx =>
    rw [sliceOp_agree (fun u hu => hop u (by simp [Op.operands, hu])) (fun u hu => hop u (by simp [Op.operands, hu])) (fun u hu => hop u (by simp [Op.operands, hu])) (fun u hu => hop u (by simp [Op.operands, hu]))]; exact h
  case index t x i =>
    rw [ev_agree (x := x) (fun u hu => hop u (by simp [Op.operands, hu])), ev_agree (x := i) (fun u hu => hop u (by simp [Op.operands, hu]))]; exact h
  case field t x i => rw [ev_agree (fun u hu => hop u (by simp [Op.operands, hu]))]; exact h
  case extract x i => rw [ev_agree (fun u hu => hop u (by simp [Op.operands, hu]))]; exact h
  case makeInterface t x => rw [ev_agree (fun u hu => hop u (by simp [Op.operands, hu]))]; exact h
  case call cl =>
    have hargs : evs E g' cl.args.toList = evs E g cl.args.toList := evs_agree fun u hu => hop u (by simp [Op.operands, Call.operands]; exact .inr (by simpa using hu))
    rw [hargs]
    split at h
    all_goals first | exact h | skip
    rename_i x args hcal hev
    rw [ev_agree (x := x) (fun u hu => hop u (by simp [Op.operands, Call.operands, hcal, hu]))]
    exact h
end
end Go.V

/- What reads the heap only reads. -/
namespace Go.V
section
variable {E : Env} {c : Ctx} {g g' : G} {S S1 : St} {o : Oper}

theorem pure_not {X : Option Val} {v : Option Val} {ups : List (Nat × Val)} (h : pureVal X S = some (.val v .rh ups S1)) : False := by
  have := (pureVal_S h).1; simp at this
theorem one_rh {X : Option (Val × Cls)} {v : Option Val} {k : Cls} {ups : List (Nat × Val)} (h : one X S = some (.val v k ups S1)) : S1 = S ∧ ups = [] ∧ ∃ x, v = some x := by
  obtain ⟨h1, h2, x, h3, _⟩ := one_S h
  exact ⟨h2, h1, x, h3⟩
theorem lay_not {cs : List Val} {dst : Option Nat} {v : Option Val} {ups : List (Nat × Val)} (h : lay E c S dst cs = some (.val v .rh ups S1)) : False := by
  unfold lay at h
  split at h
  · split at h <;> simp at h
  · simp at h

theorem opV_rh {v : Option Val} {ups : List (Nat × Val)} (h : opV E c g S o = some (.val v .rh ups S1)) : S1 = S ∧ ups = [] ∧ ∃ x, v = some x := by
  cases ho : o.op <;> simp only [opV, ho] at h
  all_goals try (simp at h; done)
  case move x => exact (pure_not h).elim
  case assign x => exact (pure_not h).elim
  case pick q a b => split at h <;> first | exact (pure_not h).elim | simp at h
  case alloc e =>
    split at h
    · exact (lay_not h).elim
    · simp at h
  case box e x =>
    split at h
    · split at h
      · exact (lay_not h).elim
      · simp at h
    · simp at h
  case build t parts =>
    split at h
    · split at h
      · split at h
        · exact (pure_not h).elim
        · simp at h
      · split at h
        · exact (pure_not h).elim
        · simp at h
      · simp at h
    · simp at h
  case buildSlice t len parts =>
    split at h
    · split at h
      · split at h
        · exact (pure_not h).elim
        · simp at h
      · simp at h
    · simp at h
  case load t a =>
    split at h
    · split at h
      · exact one_rh h
      · simp at h
    · simp at h
  case store t a x =>
    split at h
    · split at h
      · simp only [Option.map_eq_some_iff, Res.val.injEq] at h
        obtain ⟨⟨k', ups', S'⟩, hs, _, hk, _, _⟩ := h
        unfold storeAt at hs
        split at hs
        · simp at hs
        · split at hs
          · simp only [Option.map_eq_some_iff, Prod.mk.injEq] at hs
            obtain ⟨_, _, rfl, _⟩ := hs
            simp at hk
          · simp at hs
        · split at hs
          · simp only [Option.map_eq_some_iff, Prod.mk.injEq] at hs
            obtain ⟨_, _, rfl, _⟩ := hs
            simp at hk
          · simp at hs
      · simp at h
    · simp at h
  case nilCheck x =>
    split at h
    · split at h
      · exact one_rh h
      · simp at h
    · split at h
      · exact (pure_not h).elim
      · exact (pure_not h).elim
      · simp at h
  case binOp op t x y z =>
    split at h
    · exact (pure_not h).elim
    · simp at h
  case unOp op t x =>
    split at h
    · exact (pure_not h).elim
    · simp at h
  case convert s d x =>
    split at h
    · exact one_rh h
    · simp at h
  case makeFunc fn first cap =>
    cases fn <;> simp only at h <;> first | (simp at h; done) | skip
    split at h
    · split at h <;> simp at h
    · simp at h
  case makeMap t r =>
    cases r <;> simp only at h <;> first | (simp at h; done) | skip
    split at h <;> simp at h
  case makeSlice t l q =>
    split at h
    · simp at h
    · simp at h
  case lookup t m q ok =>
    split at h
    · exact one_rh h
    · simp at h
  case mapUpdate t m q v =>
    split at h <;> simp at h
  case insert t m q v =>
    split at h <;> simp at h
  case fieldAddr t x i =>
    split at h
    · split at h
      · exact one_rh h
      · simp at h
    · simp at h
  case indexAddr t x i =>
    split at h
    · split at h
      · split at h
        · split at h
          · exact (pure_not h).elim
          · simp at h
        · split at h
          · exact one_rh h
          · simp at h
        · simp at h
      · split at h
        · split at h
          · exact one_rh h
          · simp at h
        · simp at h
      · simp at h
    · simp at h
  case slice t x lo hi mx => exact one_rh h
  case index t x i =>
    split at h
    · split at h
      · split at h
        · exact (pure_not h).elim
        · simp at h
      · split at h
        · split at h
          · exact (pure_not h).elim
          · simp at h
        · simp at h
      · simp at h
    · simp at h
  case field t x i =>
    split at h
    · split at h
      · exact (pure_not h).elim
      · simp at h
    · simp at h
  case extract x i =>
    split at h
    · exact (pure_not h).elim
    · simp at h
  case makeInterface t x =>
    split at h
    · simp at h
    · exact (pure_not h).elim
    · simp at h
  case call cl =>
    split at h
    · split at h
      · exact one_rh h
      · simp at h
    · split at h
      · exact (pure_not h).elim
      · simp at h
    · have app : ∀ {X : Option (Val × Cls × St)}, (∀ v k S', X = some (v, k, S') → k = .eh) → (X.map fun (v, k, S') => Res.val (some v) k [] S') = some (.val v .rh ups S1) → False := by
        intro X hX h
        simp only [Option.map_eq_some_iff, Res.val.injEq] at h
        obtain ⟨⟨v', k', S'⟩, hh, _, hk, _, _⟩ := h
        have := hX _ _ _ hh
        simp only at this hk
        rw [this] at hk
        simp at hk
      split at h
      · exact (app (fun _ _ _ => append_cls) h).elim
      · exact (app (fun _ _ _ => append_cls) h).elim
      · simp at h
    · split at h
      · simp at h
      · simp at h
    · split at h
      · simp at h
      · simp at h
    · exact (pure_not h).elim
    · exact (pure_not h).elim
    · split at h <;> simp at h
    · simp at h

theorem pure_far {X : Option Val} {r : Res} (h : pureVal X S = some r) (hr : ∀ v k ups S1, r ≠ .val v k ups S1) : False := by
  simp only [pureVal, Option.map_eq_some_iff] at h
  obtain ⟨_, _, rfl⟩ := h
  exact hr _ _ _ _ rfl
theorem one_far {X : Option (Val × Cls)} {r : Res} (h : one X S = some r) (hr : ∀ v k ups S1, r ≠ .val v k ups S1) : False := by
  simp only [one, Option.map_eq_some_iff] at h
  obtain ⟨⟨_, _⟩, _, rfl⟩ := h
  exact hr _ _ _ _ rfl
theorem map_far {α : Type} {X : Option α} {fn : α → Res} {r : Res} (h : X.map fn = some r) (hf : ∀ x, ∃ v k ups S1, fn x = .val v k ups S1) (hr : ∀ v k ups S1, r ≠ .val v k ups S1) : False := by
  simp only [Option.map_eq_some_iff] at h
  obtain ⟨x, _, rfl⟩ := h
  obtain ⟨_, _, _, _, e⟩ := hf x
  exact hr _ _ _ _ e

/-- other results do not look at the heap at all -/
theorem opV_far {r : Res} (h : opV E c g S o = some r) (hr : ∀ v k ups S1, r ≠ .val v k ups S1) (S2 : St) : opV E c g S2 o = some r := by
  have lay_S : ∀ {z : List Val}, lay E c S o.dst z = some r → lay E c S2 o.dst z = some r := by
    intro z h
    unfold lay at h ⊢
    split at h
    · split at h
      · simp only [Option.some.injEq] at h; exact absurd h.symm (hr _ _ _ _)
      · rename_i hn; simp only [if_neg hn]; exact h
    · simp at h
  cases ho : o.op <;> simp only [opV, ho] at h ⊢
  all_goals try (simp at h; done)
  case move x => exact (pure_far h hr).elim
  case assign x => exact (pure_far h hr).elim
  case pick q a b => split at h <;> first | exact (pure_far h hr).elim | simp at h
  case alloc e =>
    split at h
    · exact lay_S h
    · simp at h
  case box e x =>
    split at h
    · split at h
      · rename_i hc
        simp only [if_pos hc]
        exact lay_S h
      · simp at h
    · simp at h
  case build t parts =>
    split at h
    · split at h
      · split at h
        · exact (pure_far h hr).elim
        · simp at h
      · split at h
        · exact (pure_far h hr).elim
        · simp at h
      · simp at h
    · simp at h
  case buildSlice t len parts =>
    split at h
    · split at h
      · split at h
        · exact (pure_far h hr).elim
        · simp at h
      · simp at h
    · simp at h
  case load t a =>
    split at h
    · split at h
      · exact (one_far h hr).elim
      · simp at h
    · simp at h
  case store t a x =>
    split at h
    · split at h
      · exact (map_far h (fun _ => ⟨_, _, _, _, rfl⟩) hr).elim
      · simp at h
    · simp at h
  case nilCheck x =>
    split at h
    · split at h
      · exact (one_far h hr).elim
      · simp at h
    · split at h
      · exact (pure_far h hr).elim
      · exact (pure_far h hr).elim
      · simp at h
  case binOp op t x y z =>
    split at h
    · exact (pure_far h hr).elim
    · simp at h
  case unOp op t x =>
    split at h
    · exact (pure_far h hr).elim
    · simp at h
  case convert s d x =>
    split at h
    · exact (one_far h hr).elim
    · simp at h
  case makeFunc fn first cap =>
    cases fn <;> simp only at h ⊢ <;> first | (simp at h; done) | skip
    split at h
    · split at h
      all_goals first | (simp at h; done) | (simp only [Option.some.injEq] at h; exact absurd h.symm (hr _ _ _ _))
    · simp at h
  case makeMap t q =>
    cases q <;> simp only at h ⊢ <;> first | (simp at h; done) | skip
    split at h
    · simp only [Option.some.injEq] at h; exact absurd h.symm (hr _ _ _ _)
    · simp at h
  case makeSlice t l q =>
    split at h
    · exact (map_far h (fun _ => ⟨_, _, _, _, rfl⟩) hr).elim
    · simp at h
  case lookup t m q ok =>
    split at h
    · exact (one_far h hr).elim
    · simp at h
  case mapUpdate t m q v =>
    split at h
    · exact (map_far h (fun _ => ⟨_, _, _, _, rfl⟩) hr).elim
    · simp at h
  case insert t m q v =>
    split at h
    · exact (map_far h (fun _ => ⟨_, _, _, _, rfl⟩) hr).elim
    · simp at h
  case fieldAddr t x i =>
    split at h
    · split at h
      · exact (one_far h hr).elim
      · simp at h
    · simp at h
  case indexAddr t x i =>
    split at h
    · split at h
      · split at h
        · split at h
          · exact (pure_far h hr).elim
          · simp at h
        · split at h
          · exact (one_far h hr).elim
          · simp at h
        · simp at h
      · split at h
        · split at h
          · exact (one_far h hr).elim
          · simp at h
        · simp at h
      · simp at h
    · simp at h
  case slice t x lo hi mx => exact (one_far h hr).elim
  case index t x i =>
    split at h
    · split at h
      · split at h
        · exact (pure_far h hr).elim
        · simp at h
      · split at h
        · split at h
          · exact (pure_far h hr).elim
          · simp at h
        · simp at h
      · simp at h
    · simp at h
  case field t x i =>
    split at h
    · split at h
      · exact (pure_far h hr).elim
      · simp at h
    · simp at h
  case extract x i =>
    split at h
    · exact (pure_far h hr).elim
    · simp at h
  case makeInterface t x =>
    split at h
    · simp at h
    · exact (pure_far h hr).elim
    · simp at h
  case call cl =>
    split at h
    · split at h
      · exact (one_far h hr).elim
      · simp at h
    · split at h
      · exact (pure_far h hr).elim
      · simp at h
    · split at h
      · exact (map_far h (fun _ => ⟨_, _, _, _, rfl⟩) hr).elim
      · exact (map_far h (fun _ => ⟨_, _, _, _, rfl⟩) hr).elim
      · simp at h
    · split at h
      · exact (map_far h (fun _ => ⟨_, _, _, _, rfl⟩) hr).elim
      · simp at h
    · split at h
      · exact (map_far h (fun _ => ⟨_, _, _, _, rfl⟩) hr).elim
      · simp at h
    · exact (pure_far h hr).elim
    · exact (pure_far h hr).elim
    · exact h
    · simp at h
end
end Go.V

/- Orders: which operation comes before which. -/
namespace Go.V
section
variable {ops : Array Oper}

/-- whatever s has, it has what has to come before -/
def ClosedIn (ops : Array Oper) (s : Nat → Prop) : Prop := ∀ j, s j → ∀ o, ops[j]? = some o → ∀ e ∈ o.after.toList, Region.binds .any e = true → s e.on
def Good (ops : Array Oper) (i j : Nat) : Prop := i < j ∧ ∀ s, ClosedIn ops s → s j → s i

theorem mask_mem {acc : List Nat} {i : Nat} : ∀ {es : List Edge} {s : Nat}, (es.foldl (fun s e => if Region.binds .any e then s ||| 2 ^ e.on ||| acc.getD e.on 0 else s) s).testBit i = true →
    s.testBit i = true ∨ ∃ e ∈ es, Region.binds .any e = true ∧ (i = e.on ∨ (acc.getD e.on 0).testBit i = true)
  | [], s, h => .inl h
  | e :: es, s, h => by
    simp only [List.foldl_cons] at h
    rcases mask_mem h with h | ⟨e', h1, h2⟩
    · split at h
      · rename_i hb
        simp only [Nat.testBit_or, Bool.or_eq_true, Nat.testBit_two_pow, decide_eq_true_eq] at h
        rcases h with (h | h) | h
        · exact .inl h
        · exact .inr ⟨e, by simp, hb, .inl h.symm⟩
        · exact .inr ⟨e, by simp, hb, .inr h⟩
      · exact .inl h
    · exact .inr ⟨e', List.mem_cons_of_mem _ h1, h2⟩

theorem befT_good : ∀ (l : List Oper) (acc : List Nat), ops.toList.drop acc.length = l → edgesOk l acc.length = true → (∀ j i, (acc.getD j 0).testBit i = true → Good ops i j) →
    ∀ j i, ((befT l acc).getD j 0).testBit i = true → Good ops i j
  | [], acc, _, _, h => h
  | o :: l, acc, hd, he, h => by
    simp only [edgesOk, Bool.and_eq_true, List.all_eq_true, Bool.or_eq_true, Bool.not_eq_true', decide_eq_true_eq] at he
    have ho : ops[acc.length]? = some o := by
      rw [← Array.getElem?_toList]
      have := congrArg (·[0]?) hd
      simpa using this
    simp only [befT]
    refine befT_good l _ (by rw [List.length_append, List.length_singleton, ← List.tail_drop, hd]; rfl) (by simpa using he.2) ?_
    intro j i hj
    rw [List.getD_eq_getElem?_getD] at hj
    rcases Nat.lt_trichotomy j acc.length with lt | rfl | gt
    · rw [List.getElem?_append_left lt, ← List.getD_eq_getElem?_getD] at hj
      exact h j i hj
    · rw [List.getElem?_append_right (Nat.le_refl _)] at hj
      simp only [Nat.sub_self, List.getElem?_cons_zero, Option.getD_some] at hj
      rcases mask_mem hj with hj | ⟨e, h1, h2, h3⟩
      · simp at hj
      · have hlt : e.on < acc.length := by
          rcases he.1 e h1 with hb | hb
          · rw [h2] at hb; simp at hb
          · exact hb
        rcases h3 with rfl | h3
        · exact ⟨hlt, fun s hs hj => hs _ hj o ho e h1 h2⟩
        · obtain ⟨g1, g2⟩ := h e.on i h3
          exact ⟨by omega, fun s hs hj => g2 s hs (hs _ hj o ho e h1 h2)⟩
    · rw [List.getElem?_eq_none (by simp; omega)] at hj
      simp at hj

/-- an order -/
def Lin (ops : Array Oper) : List Nat → Array Bool → Prop
  | [], _ => True
  | i :: l, listed => i ∈ Region.ready .any ops listed ∧ Lin ops l (listed.setIfInBounds i true)

theorem lin_go : ∀ (fuel t : Nat) (listed : Array Bool), Lin ops (Region.linearise.go .any ops fuel t listed []) listed
  | 0, _, _ => trivial
  | fuel + 1, t, listed => by
    simp only [Region.linearise.go]
    change Lin ops (match (Region.ready .any ops listed)[t % (Region.ready .any ops listed).length]? with
      | some i => Region.linearise.go .any ops fuel (t / (Region.ready .any ops listed).length) (listed.setIfInBounds i true) [i]
      | none => [].reverse) listed
    cases hi : (Region.ready .any ops listed)[t % (Region.ready .any ops listed).length]? with
    | none => trivial
    | some i =>
      simp only []
      rw [linearise_go_acc, List.reverse_singleton, List.singleton_append]
      exact ⟨List.mem_of_getElem? hi, lin_go fuel _ _⟩

def cnt (listed : Array Bool) : Nat → Nat
  | 0 => 0
  | n + 1 => cnt listed n + (if listed.getD n true then 0 else 1)
theorem cnt_zero {listed : Array Bool} : ∀ {n : Nat}, cnt listed n = 0 → ∀ i, i < n → listed.getD i true = true
  | n + 1, h, i, hi => by
    simp only [cnt] at h
    rcases Nat.lt_or_ge i n with lt | ge
    · exact cnt_zero (by omega) i lt
    · have : i = n := by omega
      subst this
      cases e : listed.getD i true with
      | true => rfl
      | false => rw [e] at h; simp at h
  | 0, _, _, hi => by omega
theorem getD_set (listed : Array Bool) (i j : Nat) : (listed.setIfInBounds i true).getD j true = if i = j then true else listed.getD j true := by
  rw [Array.getD_eq_getD_getElem?, Array.getD_eq_getD_getElem?, Array.getElem?_setIfInBounds]
  by_cases e : i = j
  · subst e
    simp only [if_true]
    by_cases h : i < listed.size
    · simp [h]
    · simp [h]
  · simp [e]
theorem cnt_set {listed : Array Bool} {i : Nat} (h : listed.getD i true = false) : ∀ {n : Nat}, cnt listed n = cnt (listed.setIfInBounds i true) n + (if i < n then 1 else 0)
  | 0 => by simp [cnt]
  | n + 1 => by
    simp only [cnt]
    rw [cnt_set h (n := n), getD_set]
    by_cases e : i = n
    · subst e; simp [h]
    · rw [if_neg e]
      by_cases h2 : i < n
      · have h3 : i < n + 1 := by omega
        simp only [h2, h3, if_true]; omega
      · have h3 : ¬ i < n + 1 := by omega
        simp only [h2, h3, if_false]; omega

theorem edgesOk_get : ∀ {l : List Oper} {p i : Nat} {o : Oper}, edgesOk l p = true → l[i]? = some o → ∀ e ∈ o.after.toList, Region.binds .any e = true → e.on < p + i
  | o :: l, p, 0, _, h, hi, e, he, hb => by
    simp only [List.getElem?_cons_zero, Option.some.injEq] at hi; subst hi
    simp only [edgesOk, Bool.and_eq_true, List.all_eq_true, Bool.or_eq_true, Bool.not_eq_true', decide_eq_true_eq] at h
    rcases h.1 e he with hn | hn
    · rw [hb] at hn; simp at hn
    · simpa using hn
  | o :: l, p, i + 1, _, h, hi, e, he, hb => by
    simp only [edgesOk, Bool.and_eq_true] at h
    have := edgesOk_get (p := p + 1) (i := i) h.2 (by simpa using hi) e he hb
    omega
  | [], _, _, _, _, hi, _, _, _ => by simp at hi

theorem ready_mem {listed : Array Bool} {i : Nat} : i ∈ Region.ready .any ops listed ↔ i < ops.size ∧ listed.getD i true = false ∧ ∃ o, ops[i]? = some o ∧ ∀ e ∈ o.after.toList, Region.binds .any e = true → listed.getD e.on false = true := by
  unfold Region.ready
  rw [List.mem_filter, List.mem_range]
  constructor
  · rintro ⟨h1, h2⟩
    simp only [Bool.and_eq_true, Bool.not_eq_true'] at h2
    obtain ⟨h2, h3⟩ := h2
    refine ⟨h1, h2, ?_⟩
    cases ho : ops[i]? with
    | none => rw [ho] at h3; simp at h3
    | some o =>
      rw [ho] at h3
      simp only [Option.map_some, Option.getD_some] at h3
      rw [Array.all_eq_true'] at h3
      refine ⟨o, rfl, fun e he hb => ?_⟩
      have := h3 e (by simpa using he)
      simp only [Bool.or_eq_true, Bool.not_eq_true'] at this
      rcases this with hn | hn
      · rw [hb] at hn; simp at hn
      · exact hn
  · rintro ⟨h1, h2, o, ho, h3⟩
    refine ⟨h1, ?_⟩
    rw [ho, h2]
    simp only [Bool.not_false, Bool.true_and, Option.map_some, Option.getD_some]
    rw [Array.all_eq_true']
    intro e he
    simp only [Bool.or_eq_true, Bool.not_eq_true']
    cases hb : Region.binds .any e with
    | false => exact .inl rfl
    | true => exact .inr (h3 e (by simpa using he) hb)

/-- the order has all operations -/
theorem lin_all (he : edgesOk ops.toList 0 = true) : ∀ (fuel t : Nat) (listed : Array Bool), listed.size = ops.size → cnt listed ops.size ≤ fuel →
    ∀ i, i < ops.size → listed.getD i true = false → i ∈ Region.linearise.go .any ops fuel t listed []
  | 0, t, listed, hs, hc, i, hi, hl => by
    have := cnt_zero (listed := listed) (n := ops.size) (by omega) i hi
    rw [hl] at this; simp at this
  | fuel + 1, t, listed, hs, hc, i, hi, hl => by
    simp only [Region.linearise.go]
    change i ∈ (match (Region.ready .any ops listed)[t % (Region.ready .any ops listed).length]? with
      | some i => Region.linearise.go .any ops fuel (t / (Region.ready .any ops listed).length) (listed.setIfInBounds i true) [i]
      | none => [].reverse)
    cases hr : (Region.ready .any ops listed)[t % (Region.ready .any ops listed).length]? with
    | none =>
      exfalso
      have hnil : Region.ready .any ops listed = [] := by
        cases h : Region.ready .any ops listed with
        | nil => rfl
        | cons x xs =>
          rw [h] at hr
          have hlt : t % (x :: xs).length < (x :: xs).length := Nat.mod_lt _ (by simp)
          rw [List.getElem?_eq_getElem hlt] at hr
          simp at hr
      -- the first one not listed is ready
      have : ∀ m, m < ops.size → listed.getD m true = true := by
        intro m
        induction m using Nat.strongRecOn with
        | _ m ih =>
          intro hm
          cases e : listed.getD m true with
          | true => rfl
          | false =>
            exfalso
            have : m ∈ Region.ready .any ops listed := by
              rw [ready_mem]
              obtain ⟨o, ho⟩ : ∃ o, ops[m]? = some o := ⟨_, Array.getElem?_eq_getElem hm⟩
              refine ⟨hm, e, o, ho, fun ed hed hb => ?_⟩
              have h1 := edgesOk_get (i := m) he (by rw [Array.getElem?_toList]; exact ho) ed hed hb
              have h2 := ih ed.on (by omega) (by omega)
              rw [Array.getD_eq_getD_getElem?] at h2 ⊢
              have hlt : ed.on < listed.size := by omega
              rw [Array.getElem?_eq_getElem hlt] at h2 ⊢
              exact h2
            rw [hnil] at this
            simp at this
      rw [this i hi] at hl
      simp at hl
    | some x =>
      simp only []
      rw [linearise_go_acc, List.reverse_singleton, List.singleton_append]
      by_cases e : i = x
      · subst e; simp
      · refine List.mem_cons_of_mem _ (lin_all he fuel _ _ (by simp [hs]) ?_ i hi (by rw [getD_set, if_neg (Ne.symm e)]; exact hl))
        have hx := ready_mem.1 (List.mem_of_getElem? hr)
        have := cnt_set hx.2.1 (n := ops.size)
        rw [if_pos hx.1] at this
        omega
end
end Go.V

/- A region whose order is open comes to the same in every order. -/
namespace Go.V
section
variable {E : Env} {rec : Rec} {c : Ctx}

def Did.U (d : Did) : List (Nat × Val) := d.ups ++ (match d.o.dst with | some t => [(t, d.v)] | none => [])

theorem upsG_append : ∀ (a b : List (Nat × Val)) (g : G), upsG g (a ++ b) = upsG (upsG g a) b
  | [], _, _ => rfl
  | (t, v) :: a, b, g => by simp only [List.cons_append, upsG, upsG_append a b]
theorem upsG_putG (g : G) (ups : List (Nat × Val)) (dst : Option Nat) (v : Val) : putG (upsG g ups) dst v = upsG g (ups ++ (match dst with | some t => [(t, v)] | none => [])) := by
  rw [upsG_append]
  cases dst <;> rfl
theorem Did.W_U (d : Did) (u : Nat) : u ∈ d.W ↔ ∃ v, (u, v) ∈ d.U := by
  unfold Did.W Did.U
  rw [List.mem_append, List.mem_map]
  constructor
  · rintro (h | ⟨⟨a, b⟩, h, rfl⟩)
    · cases hd : d.o.dst with
      | none => rw [hd] at h; simp at h
      | some t => rw [hd] at h; simp at h; subst h; exact ⟨d.v, by simp⟩
    · exact ⟨b, by simp [h]⟩
  · rintro ⟨v, h⟩
    rcases List.mem_append.1 h with h | h
    · exact .inr ⟨_, h, rfl⟩
    · cases hd : d.o.dst with
      | none => rw [hd] at h; simp at h
      | some t => rw [hd] at h; simp at h; left; simp [h.1]

theorem upsG_out {U : List (Nat × Val)} {g : G} {u : Nat} (h : ¬ ∃ v, (u, v) ∈ U) : upsG g U u = g u := by
  rcases upsG_mem U g u with ⟨v, h1, _⟩ | ⟨_, h2⟩
  · exact absurd ⟨v, h1⟩ h
  · exact h2
/-- what was written does not ask what was there -/
theorem upsG_in : ∀ {U : List (Nat × Val)} {g g' : G} {u : Nat}, (∃ v, (u, v) ∈ U) → upsG g U u = upsG g' U u
  | [], _, _, _, h => by obtain ⟨v, hv⟩ := h; simp at hv
  | (t, w) :: U, g, g', u, h => by
    simp only [upsG]
    by_cases hu : ∃ v, (u, v) ∈ U
    · exact upsG_in hu
    · rw [upsG_out hu, upsG_out hu]
      obtain ⟨v', hv⟩ := h
      rcases List.mem_cons.1 hv with hv | hv
      · simp only [Prod.mk.injEq] at hv; simp [hv.1]
      · exact absurd ⟨v', hv⟩ hu

/-- what a wanted operation came to -/
def ActOk (rec : Rec) (E : Env) (c : Ctx) (fr0 : Fr) (d : Did) : Prop :=
  ∃ r, opV E c d.fr.get d.S d.o = some r ∧ match r with
    | .val v k ups S' => d.k = k ∧ d.ups = ups ∧ d.S' = S' ∧ d.v = v.getD (.tup [])
    | .laid cs => d.k = .pure ∧ d.ups = [] ∧ d.S' = d.S ∧ d.v = .lv cs ∧ ∃ t, d.o.dst = some t ∧ noLoc t fr0 = true
    | .call h args => d.k = .eh ∧ d.ups = [] ∧ callV rec E h args d.S = some (d.v, d.S')
    | .yld l args => d.k = .eh ∧ d.ups = [] ∧ yieldV rec E l args d.S = some (d.v, d.S')
def TStep (rec : Rec) (E : Env) (c : Ctx) (all : Array Oper) (fr0 : Fr) (d : Did) (g1 : G) (S1 : St) : Prop :=
  S1 = d.S' ∧ g1 = upsG d.fr.get d.U ∧ dstOk c d.o.dst ∧
    ((wantedV all d.fr.get d.o = some false ∧ d.k = .pure ∧ d.S' = d.S ∧ d.ups = [] ∧ d.v = .tup []) ∨
     (wantedV all d.fr.get d.o = some true ∧ ActOk rec E c fr0 d))

theorem stepT_ok {fr0 fr fr1 : Fr} {S : St} {o : Oper} {d : Did} (h : stepT rec E c fr0 fr S o = some (fr1, d)) :
    d.o = o ∧ d.fr = fr ∧ d.S = S ∧ fr1.get = upsG d.fr.get d.U ∧ dstOk c d.o.dst ∧ ActOk rec E c fr0 d := by
  unfold stepT at h
  split at h
  · rename_i v k ups S' hr
    split at h
    · rename_i fr' hp
      simp only [Option.some.injEq, Prod.mk.injEq] at h
      obtain ⟨rfl, rfl⟩ := h
      obtain ⟨h1, h2⟩ := putO_get hp
      refine ⟨rfl, rfl, rfl, ?_, h2, _, hr, rfl, rfl, rfl, rfl⟩
      rw [h1, get_puts, upsG_putG]; rfl
    · simp at h
  · rename_i cs hr
    split at h
    · rename_i t ht
      split at h
      · rename_i hc
        simp only [Option.some.injEq, Prod.mk.injEq] at h
        obtain ⟨rfl, rfl⟩ := h
        refine ⟨rfl, rfl, rfl, ?_, fun t' ht' => ?_, _, hr, rfl, rfl, rfl, rfl, t, ht, hc.2.2⟩
        · rw [Fr.get_put]
          simp only [Did.U, ht, List.nil_append, upsG]
        · simp only at ht'
          rw [ht] at ht'; simp only [Option.some.injEq] at ht'; subst ht'
          exact ⟨hc.1, hc.2.1⟩
      · simp at h
    · simp at h
  · rename_i q args hr
    split at h
    · rename_i v S1 hv
      split at h
      · rename_i fr' hp
        simp only [Option.some.injEq, Prod.mk.injEq] at h
        obtain ⟨rfl, rfl⟩ := h
        obtain ⟨h1, h2⟩ := putO_get hp
        refine ⟨rfl, rfl, rfl, ?_, h2, _, hr, rfl, rfl, hv⟩
        rw [h1]
        have := upsG_putG fr.get [] o.dst v
        exact this
      · simp at h
    · simp at h
  · rename_i q args hr
    split at h
    · rename_i v S1 hv
      split at h
      · rename_i fr' hp
        simp only [Option.some.injEq, Prod.mk.injEq] at h
        obtain ⟨rfl, rfl⟩ := h
        obtain ⟨h1, h2⟩ := putO_get hp
        refine ⟨rfl, rfl, rfl, ?_, h2, _, hr, rfl, rfl, hv⟩
        rw [h1]
        have := upsG_putG fr.get [] o.dst v
        exact this
      · simp at h
    · simp at h
  · simp at h

def gAt (tr : List Did) (gF : G) (i : Nat) : G := match tr[i]? with | some d => d.fr.get | none => gF
def sAt (tr : List Did) (SF : St) (i : Nat) : St := match tr[i]? with | some d => d.S | none => SF

theorem opsT_ok {all : Array Oper} {fr0 : Fr} : ∀ (l : List Oper) {fr fr' : Fr} {S S' : St} {tr : List Did}, opsT rec E c all fr0 l fr S = some (fr', S', tr) →
    tr.length = l.length ∧ gAt tr fr'.get 0 = fr.get ∧ sAt tr S' 0 = S ∧
      ∀ i d, tr[i]? = some d → l[i]? = some d.o ∧ TStep rec E c all fr0 d (gAt tr fr'.get (i + 1)) (sAt tr S' (i + 1))
  | [], fr, fr', S, S', tr, h => by
    simp only [opsT, Option.some.injEq, Prod.mk.injEq] at h
    obtain ⟨rfl, rfl, rfl⟩ := h
    exact ⟨rfl, rfl, rfl, fun i d hd => by simp at hd⟩
  | o :: l, fr, fr', S, S', tr, h => by
    simp only [opsT] at h
    have shift : ∀ {d0 : Did} {tr' : List Did} {i : Nat}, gAt (d0 :: tr') fr'.get (i + 1) = gAt tr' fr'.get i ∧ sAt (d0 :: tr') S' (i + 1) = sAt tr' S' i := by
      intro d0 tr' i; simp [gAt, sAt]
    split at h
    · rename_i hw
      split at h
      · rename_i fr1 d hs
        split at h
        · rename_i fr2 S2 tr' ht
          simp only [Option.some.injEq, Prod.mk.injEq] at h
          obtain ⟨rfl, rfl, rfl⟩ := h
          obtain ⟨h1, h2, h3, h4⟩ := opsT_ok l ht
          obtain ⟨q1, q2, q3, q4, q5, q6⟩ := stepT_ok hs
          refine ⟨by simp [h1], by simp [gAt, q2], by simp [sAt, q3], fun i e he => ?_⟩
          cases i with
          | zero =>
            simp only [List.getElem?_cons_zero, Option.some.injEq] at he; subst he
            refine ⟨by simp [q1], ?_⟩
            rw [shift.1, shift.2, h2, h3]
            exact ⟨rfl, q4, q5, .inr ⟨by rw [q1, q2]; exact hw, q6⟩⟩
          | succ i =>
            simp only [List.getElem?_cons_succ] at he ⊢
            rw [shift.1, shift.2]
            exact h4 i e he
        · simp at h
      · simp at h
    · rename_i hw
      split at h
      · rename_i fr1 hp
        split at h
        · rename_i fr2 S2 tr' ht
          simp only [Option.some.injEq, Prod.mk.injEq] at h
          obtain ⟨rfl, rfl, rfl⟩ := h
          obtain ⟨h1, h2, h3, h4⟩ := opsT_ok l ht
          obtain ⟨p1, p2⟩ := putO_get hp
          refine ⟨by simp [h1], by simp [gAt], by simp [sAt], fun i e he => ?_⟩
          cases i with
          | zero =>
            simp only [List.getElem?_cons_zero, Option.some.injEq] at he; subst he
            refine ⟨by simp, ?_⟩
            rw [shift.1, shift.2, h2, h3]
            refine ⟨rfl, ?_, p2, .inl ⟨hw, rfl, rfl, rfl, rfl⟩⟩
            rw [p1]
            have := upsG_putG fr.get [] o.dst (.tup [])
            exact this
          | succ i =>
            simp only [List.getElem?_cons_succ] at he ⊢
            rw [shift.1, shift.2]
            exact h4 i e he
        · simp at h
      · simp at h
    · simp at h

theorem drawRow_get {all : Array Oper} {bef : List Nat} {i : Nat} {a : Did} : ∀ {l : List Did} {j m : Nat} {b : Did}, drawRow E c all bef i a j l = true → l[m]? = some b →
    (((bef.getD (j + m) 0).testBit i = true) ∨ (pairOk all a b = true ∧ stableAt E c a b = true)) ∧ lvOk a b = true
  | b :: l, j, 0, _, h, hm => by
    simp only [List.getElem?_cons_zero, Option.some.injEq] at hm; subst hm
    simp only [drawRow, Bool.and_eq_true, Bool.or_eq_true] at h
    exact ⟨h.1.1, h.1.2⟩
  | b :: l, j, m + 1, _, h, hm => by
    simp only [drawRow, Bool.and_eq_true] at h
    have := drawRow_get (j := j + 1) (m := m) h.2 (by simpa using hm)
    rwa [show j + 1 + m = j + (m + 1) by omega] at this
  | [], _, _, _, _, hm => by simp at hm
theorem drawOk_get {all : Array Oper} {bef : List Nat} : ∀ {l : List Did} {p i j : Nat} {a b : Did}, drawOk E c all bef p l = true → i < j → l[i]? = some a → l[j]? = some b →
    (((bef.getD (p + j) 0).testBit (p + i) = true) ∨ (pairOk all a b = true ∧ stableAt E c a b = true)) ∧ lvOk a b = true
  | x :: l, p, 0, j + 1, _, b, h, _, hi, hj => by
    simp only [List.getElem?_cons_zero, Option.some.injEq] at hi; subst hi
    simp only [drawOk, Bool.and_eq_true] at h
    have := drawRow_get h.1.2 (m := j) (by simpa using hj)
    rwa [show p + 1 + j = p + (j + 1) by omega] at this
  | x :: l, p, i + 1, j + 1, a, b, h, hlt, hi, hj => by
    simp only [drawOk, Bool.and_eq_true] at h
    have := drawOk_get (p := p + 1) (i := i) (j := j) h.2 (by omega) (by simpa using hi) (by simpa using hj)
    rwa [show p + 1 + j = p + (j + 1) by omega, show p + 1 + i = p + (i + 1) by omega] at this
  | _, _, _, 0, _, _, _, hlt, _, _ => by omega
  | [], _, 0, _ + 1, _, _, _, _, hi, _ => by simp at hi
  | [], _, _ + 1, _ + 1, _, _, _, _, hi, _ => by simp at hi
theorem drawOk_ups {all : Array Oper} {bef : List Nat} : ∀ {l : List Did} {p i : Nat} {a : Did}, drawOk E c all bef p l = true → l[i]? = some a → upsOk a = true
  | x :: l, p, 0, _, h, hi => by
    simp only [List.getElem?_cons_zero, Option.some.injEq] at hi; subst hi
    simp only [drawOk, Bool.and_eq_true] at h
    exact h.1.1
  | x :: l, p, i + 1, _, h, hi => by
    simp only [drawOk, Bool.and_eq_true] at h
    exact drawOk_ups h.2 (by simpa using hi)
  | [], _, _, _, _, hi => by simp at hi

theorem disj_not {a b : List Nat} (h : disj a b = true) {x : Nat} (ha : x ∈ a) (hb : x ∈ b) : False := by
  have := (List.all_eq_true.1 h) x ha
  simp only [Bool.not_eq_true', List.contains_eq_mem, decide_eq_false_iff_not] at this
  exact this hb
theorem locT_loc {t off : Nat} : t ∈ locT (.loc t off) := by simp [locT, Val.first]
theorem noLoc_get {t : Nat} : ∀ {fr : Fr}, noLoc t fr = true → ∀ u off, fr.get u ≠ some (.loc t off)
  | (s, v) :: r, h, u, off, hu => by
    simp only [noLoc, Bool.and_eq_true] at h
    simp only [Fr.get] at hu
    split at hu
    · simp only [Option.some.injEq] at hu; subst hu
      have := h.1
      simp [Val.first] at this
    · exact noLoc_get h.2 u off hu
  | [], _, _, _, hu => by simp [Fr.get] at hu
end
end Go.V

/- Every order: step by step. -/
namespace Go.V
section
variable {E : Env} {rec : Rec} {c : Ctx} {all : Array Oper} {fr0 : Fr} {tr : List Did} {gF : G} {SF : St}

def Cls.loud : Cls → Bool
  | .eh | .bad => true
  | _ => false

structure Text (rec : Rec) (E : Env) (c : Ctx) (all : Array Oper) (fr0 : Fr) (tr : List Did) (gF : G) (SF : St) : Prop where
  len : tr.length = all.size
  g0 : gAt tr gF 0 = fr0.get
  step : ∀ (i : Nat) (d : Did), tr[i]? = some d → all[i]? = some d.o ∧ TStep rec E c all fr0 d (gAt tr gF (i + 1)) (sAt tr SF (i + 1))
  pair : ∀ (i j : Nat) (a b : Did), i < j → tr[i]? = some a → tr[j]? = some b → (Good all i j ∨ (pairOk all a b = true ∧ stableAt E c a b = true)) ∧ lvOk a b = true
  ups : ∀ (i : Nat) (a : Did), tr[i]? = some a → upsOk a = true

structure Inv (all : Array Oper) (tr : List Did) (gF : G) (SF : St) (l : List Nat) (g : G) (S : St) : Prop where
  F : ∀ (p : Nat), p ≤ tr.length → ∀ (u : Nat), (∀ (j : Nat) (d : Did), tr[j]? = some d → u ∈ d.W → (j ∈ l ↔ j < p)) → g u = gAt tr gF p u
  H : ∀ (p : Nat), p ≤ tr.length → (∀ (j : Nat) (d : Did), tr[j]? = some d → d.k.loud = true → (j ∈ l ↔ j < p)) → S = sAt tr SF p
  D : ClosedIn all (· ∈ l)

theorem gAt_get {i : Nat} {d : Did} (h : tr[i]? = some d) : gAt tr gF i = d.fr.get := by simp [gAt, h]
theorem sAt_get {i : Nat} {d : Did} (h : tr[i]? = some d) : sAt tr SF i = d.S := by simp [sAt, h]

theorem Text.get (T : Text rec E c all fr0 tr gF SF) {i : Nat} (h : i < tr.length) : ∃ d, tr[i]? = some d := ⟨_, List.getElem?_eq_getElem h⟩

/-- what does not act leaves the state -/
theorem TStep.still {d : Did} {g1 : G} {S1 : St} (h : TStep rec E c all fr0 d g1 S1) (hl : d.k.loud = false) : d.S' = d.S := by
  obtain ⟨_, _, _, h | ⟨_, r, hr, hm⟩⟩ := h
  · exact h.2.2.1
  · cases r with
    | val v k ups S' =>
      obtain ⟨h1, h2, h3, h4⟩ := hm
      rw [h3]
      cases k with
      | rh => exact (opV_rh hr).1
      | pure => exact (opV_S hr rfl).1
      | rl t => exact (opV_S hr rfl).1
      | wl t => exact (opV_S hr rfl).1
      | eh => rw [h1] at hl; simp [Cls.loud] at hl
      | bad => rw [h1] at hl; simp [Cls.loud] at hl
    | laid cs => exact hm.2.2.1
    | call q args => rw [hm.1] at hl; simp [Cls.loud] at hl
    | yld l args => rw [hm.1] at hl; simp [Cls.loud] at hl

theorem gAt_const (T : Text rec E c all fr0 tr gF SF) {u a : Nat} : ∀ {b : Nat}, a ≤ b → b ≤ tr.length → (∀ (j : Nat) (d : Did), a ≤ j → j < b → tr[j]? = some d → u ∉ d.W) → gAt tr gF b u = gAt tr gF a u
  | 0, h, _, _ => by have : a = 0 := by omega
                     subst this; rfl
  | b + 1, h, hb, hn => by
    rcases Nat.lt_or_ge b a with lt | ge
    · have : a = b + 1 := by omega
      subst this; rfl
    · obtain ⟨d, hd⟩ := T.get (i := b) (by omega)
      obtain ⟨_, _, hg, _⟩ := T.step b d hd
      rw [hg, upsG_out (fun h => hn b d ge (by omega) hd ((d.W_U u).2 h)), ← gAt_get (gF := gF) hd]
      exact gAt_const T ge (by omega) fun j d h1 h2 => hn j d h1 (by omega)
theorem sAt_const (T : Text rec E c all fr0 tr gF SF) {a : Nat} : ∀ {b : Nat}, a ≤ b → b ≤ tr.length → (∀ (j : Nat) (d : Did), a ≤ j → j < b → tr[j]? = some d → d.k.loud = false) → sAt tr SF b = sAt tr SF a
  | 0, h, _, _ => by have : a = 0 := by omega
                     subst this; rfl
  | b + 1, h, hb, hn => by
    rcases Nat.lt_or_ge b a with lt | ge
    · have : a = b + 1 := by omega
      subst this; rfl
    · obtain ⟨d, hd⟩ := T.get (i := b) (by omega)
      have hst := (T.step b d hd).2
      rw [hst.1, hst.still (hn b d ge (by omega) hd), ← sAt_get (SF := SF) hd]
      exact sAt_const T ge (by omega) fun j d h1 h2 => hn j d h1 (by omega)

theorem pairOk_W {a b : Did} (h : pairOk all a b = true) {u : Nat} (ha : u ∈ a.W) (hb : u ∈ b.W ∨ u ∈ b.R all) : False := by
  simp only [pairOk, Bool.and_eq_true] at h
  exact disj_not h.1.1 ha (List.mem_append.2 hb)
theorem pairOk_R {a b : Did} (h : pairOk all a b = true) {u : Nat} (ha : u ∈ a.R all) (hb : u ∈ b.W) : False := by
  simp only [pairOk, Bool.and_eq_true] at h
  exact disj_not h.1.2 ha hb
theorem pairOk_loud {a b : Did} (h : pairOk all a b = true) (ha : a.k.loud = true) (hb : b.k.loud = true) : False := by
  simp only [pairOk, Bool.and_eq_true] at h
  cases hk : a.k <;> cases hk' : b.k <;> simp_all [Cls.loud, heapOk]

/-- the largest one -/
theorem exists_max {P : Nat → Prop} : ∀ (n : Nat), (∃ x, P x ∧ x < n) → ∃ x, P x ∧ x < n ∧ ∀ y, P y → y < n → y ≤ x
  | 0, h => by obtain ⟨x, _, hx⟩ := h; omega
  | n + 1, h => by
    by_cases hn : P n
    · exact ⟨n, hn, by omega, fun y _ hy => by omega⟩
    · obtain ⟨x, h1, h2⟩ := h
      have hx : x < n := by
        rcases Nat.lt_or_ge x n with h | h
        · exact h
        · have : x = n := by omega
          subst this; exact absurd h1 hn
      obtain ⟨y, p1, p2, p3⟩ := exists_max n ⟨x, h1, hx⟩
      refine ⟨y, p1, by omega, fun z hz hz' => p3 z hz ?_⟩
      rcases Nat.lt_or_ge z n with h | h
      · exact h
      · have : z = n := by omega
        subst this; exact absurd hz hn
theorem exists_min {P : Nat → Prop} : ∀ (n : Nat), P n → ∃ x, P x ∧ ∀ y, P y → x ≤ y := by
  intro n
  induction n using Nat.strongRecOn with
  | _ n ih =>
    intro h
    by_cases hx : ∃ m, m < n ∧ P m
    · obtain ⟨m, h1, h2⟩ := hx; exact ih m h1 h2
    · refine ⟨n, h, fun y hy => ?_⟩
      rcases Nat.lt_or_ge y n with h' | h'
      · exact absurd ⟨y, h', hy⟩ hx
      · exact h'

section step
variable {l : List Nat} {g : G} {S : St} {i : Nat} {d : Did}

theorem pre_in (T : Text rec E c all fr0 tr gF SF) (hI : Inv all tr gF SF l g S) (hi : i ∉ l) (hd : tr[i]? = some d) (hC : ClosedIn all (· ∈ i :: l)) {j : Nat} (h : Good all j i) : j ∈ l := by
  have := h.2 _ hC (by simp)
  rcases List.mem_cons.1 this with rfl | h'
  · exact absurd h.1 (Nat.lt_irrefl _)
  · exact h'
theorem post_out (T : Text rec E c all fr0 tr gF SF) (hI : Inv all tr gF SF l g S) (hi : i ∉ l) (hd : tr[i]? = some d) (hC : ClosedIn all (· ∈ i :: l)) {j : Nat} (h : Good all i j) : j ∉ l := fun hj => hi (h.2 _ hI.D hj)

theorem agree (T : Text rec E c all fr0 tr gF SF) (hI : Inv all tr gF SF l g S) (hi : i ∉ l) (hd : tr[i]? = some d) (hC : ClosedIn all (· ∈ i :: l)) {u : Nat} (hu : u ∈ d.R all) : g u = d.fr.get u := by
  rw [← gAt_get (gF := gF) hd]
  have hlt := (List.getElem?_eq_some_iff.1 hd).1
  refine hI.F i (Nat.le_of_lt hlt) u fun j b hj hw => ?_
  rcases Nat.lt_trichotomy j i with lt | rfl | gt
  · refine ⟨fun _ => lt, fun _ => ?_⟩
    rcases (T.pair j i b d lt hj hd).1 with h | ⟨h, _⟩
    · exact pre_in T hI hi hd hC h
    · exact (pairOk_W h hw (.inr hu)).elim
  · exact ⟨fun h => absurd h hi, fun h => absurd h (Nat.lt_irrefl _)⟩
  · refine ⟨fun h => ?_, fun h => by omega⟩
    rcases (T.pair i j d b gt hd hj).1 with h' | ⟨h', _⟩
    · exact absurd h (post_out T hI hi hd hC h')
    · exact (pairOk_R h' hu hw).elim

/-- the state in which a loud one runs is that of the text -/
theorem loud_state (T : Text rec E c all fr0 tr gF SF) (hI : Inv all tr gF SF l g S) (hi : i ∉ l) (hd : tr[i]? = some d) (hC : ClosedIn all (· ∈ i :: l)) (hl : d.k.loud = true) : S = d.S := by
  rw [← sAt_get (SF := SF) hd]
  have hlt := (List.getElem?_eq_some_iff.1 hd).1
  refine hI.H i (Nat.le_of_lt hlt) fun j b hj hw => ?_
  rcases Nat.lt_trichotomy j i with lt | rfl | gt
  · refine ⟨fun _ => lt, fun _ => ?_⟩
    rcases (T.pair j i b d lt hj hd).1 with h | ⟨h, _⟩
    · exact pre_in T hI hi hd hC h
    · exact (pairOk_loud h hw hl).elim
  · exact ⟨fun h => absurd h hi, fun h => absurd h (Nat.lt_irrefl _)⟩
  · refine ⟨fun h => ?_, fun h => by omega⟩
    rcases (T.pair i j d b gt hd hj).1 with h' | ⟨h', _⟩
    · exact absurd h (post_out T hI hi hd hC h')
    · exact (pairOk_loud h' hl hw).elim

/-- a reading gives the same -/
theorem rh_state (T : Text rec E c all fr0 tr gF SF) (hI : Inv all tr gF SF l g S) (hi : i ∉ l) (hd : tr[i]? = some d) (hC : ClosedIn all (· ∈ i :: l)) (hk : d.k = .rh) : S = d.S ∨ stable E c d S = true := by
  have hlt := (List.getElem?_eq_some_iff.1 hd).1
  have hnl : d.k.loud = false := by rw [hk]; rfl
  -- one that comes behind has run
  by_cases hA : ∃ b, (i < b ∧ b ∈ l ∧ ∃ e, tr[b]? = some e ∧ e.k.loud = true) ∧ b < tr.length
  · obtain ⟨b, ⟨h1, h2, e, he, hel⟩, hbl, hmax⟩ := exists_max _ hA
    have hS : S = sAt tr SF (b + 1) := hI.H (b + 1) (by omega) fun j x hj hx => by
      have hjl := (List.getElem?_eq_some_iff.1 hj).1
      constructor
      · intro hin
        rcases Nat.lt_or_ge b j with gt | le
        · have := hmax j ⟨by omega, hin, x, hj, hx⟩ hjl; omega
        · omega
      · intro hle
        rcases Nat.lt_or_ge j b with lt | ge
        · rcases (T.pair j b x e lt hj he).1 with h | ⟨h, _⟩
          · exact h.2 _ hI.D h2
          · exact (pairOk_loud h hx hel).elim
        · have : j = b := by omega
          subst this; exact h2
    rw [(T.step b e he).2.1] at hS
    rcases (T.pair i b d e h1 hd he).1 with h | ⟨hp, hs⟩
    · exact absurd h2 (post_out T hI hi hd hC h)
    · right
      have hek : e.k = .eh := by
        cases q : e.k <;> rw [q] at hel <;> simp [Cls.loud] at hel
        · simp only [pairOk, hk, q, heapOk, Bool.and_false] at hp
          simp at hp
      simp only [stableAt, hk, hek, Bool.and_eq_true] at hs
      rw [hS]; exact hs.2
  · by_cases hB : ∃ b, b < i ∧ b ∉ l ∧ ∃ e, tr[b]? = some e ∧ e.k.loud = true
    · obtain ⟨b0, hb0⟩ := hB
      obtain ⟨b, ⟨h1, h2, e, he, hel⟩, hmin⟩ := exists_min (P := fun b => b < i ∧ b ∉ l ∧ ∃ e, tr[b]? = some e ∧ e.k.loud = true) b0 hb0
      have hS : S = sAt tr SF b := hI.H b (by omega) fun j x hj hx => by
        have hjl := (List.getElem?_eq_some_iff.1 hj).1
        constructor
        · intro hin
          rcases Nat.lt_trichotomy j b with lt | rfl | gt
          · exact lt
          · exact absurd hin h2
          · rcases (T.pair b j e x gt he hj).1 with h | ⟨h, _⟩
            · exact absurd (h.2 _ hI.D hin) h2
            · exact (pairOk_loud h hel hx).elim
        · intro hlt'
          by_cases hin : j ∈ l
          · exact hin
          · have := hmin j ⟨by omega, hin, x, hj, hx⟩; omega
      rw [sAt_get he] at hS
      rcases (T.pair b i e d h1 he hd).1 with h | ⟨hp, hs⟩
      · exact absurd (pre_in T hI hi hd hC h) h2
      · right
        have hek : e.k = .eh := by
          cases q : e.k <;> rw [q] at hel <;> simp [Cls.loud] at hel
          · simp only [pairOk, hk, q, heapOk, Bool.and_false] at hp
            simp at hp
        simp only [stableAt, hk, hek, Bool.and_eq_true] at hs
        rw [hS]; exact hs.1
    · left
      rw [← sAt_get (SF := SF) hd]
      refine hI.H i (Nat.le_of_lt hlt) fun j x hj hx => ?_
      have hjl := (List.getElem?_eq_some_iff.1 hj).1
      constructor
      · intro hin
        rcases Nat.lt_trichotomy j i with lt | rfl | gt
        · exact lt
        · exact absurd hin hi
        · exact absurd ⟨j, ⟨gt, hin, x, hj, hx⟩, hjl⟩ hA
      · intro hlt'
        by_cases hin : j ∈ l
        · exact hin
        · exact absurd ⟨j, hlt', hin, x, hj, hx⟩ hB
end step
end
end Go.V

/- Every order comes to the same. -/
namespace Go.V
section
variable {E : Env} {rec : Rec} {c : Ctx} {all : Array Oper} {fr0 : Fr} {tr : List Did} {gF : G} {SF : St}
variable {l : List Nat} {g : G} {S : St} {i : Nat} {d : Did}

theorem looks_op {all : Array Oper} {d : Did} {u : Nat} (h : Operand.tmp u ∈ d.o.op.operands.toList) : u ∈ d.R all := by
  unfold Did.R looks
  refine List.mem_append_left _ (List.mem_append_left _ (List.mem_append_left _ ?_))
  rw [List.mem_filterMap]
  exact ⟨.tmp u, h, rfl⟩
theorem looks_slot {all : Array Oper} {d : Did} {u : Nat} (h : u ∈ d.k.slots) : u ∈ d.R all := by
  unfold Did.R
  exact List.mem_append_left _ (List.mem_append_right _ h)
theorem looks_loc {all : Array Oper} {d : Did} {u : Nat} (h : u ∈ locT d.v) : u ∈ d.R all := by
  unfold Did.R
  exact List.mem_append_right _ h

theorem wanted_agree {o : Oper} {g g' : G} (h : ∀ u, u ∈ looks all o → g' u = g u) : wantedV all g' o = wantedV all g o := by
  unfold wantedV
  split
  · rfl
  · rename_i j w hg
    split
    · rename_i p hp
      split
      · rename_i t ht
        rw [h t (by unfold looks; rw [hg]; refine List.mem_append_right _ ?_; simp [hp, ht])]
      · rfl
    · rfl

theorem stable_val {S : St} (h : stable E c d S = true) : ∃ S1, opV E c d.fr.get S d.o = some (.val (some d.v) .rh [] S1) := by
  unfold stable at h
  split at h
  · rename_i v S1 hv
    exact ⟨S1, by rw [hv, Val.beq_eq _ _ h]⟩
  · simp at h

/-- no place of a local that is about to be laid -/
theorem laid_noloc (T : Text rec E c all fr0 tr gF SF) (hI : Inv all tr gF SF l g S) (hi : i ∉ l) (hd : tr[i]? = some d) (hC : ClosedIn all (· ∈ i :: l)) {t : Nat} {cs : List Val} (hdst : d.o.dst = some t) (hv : d.v = .lv cs)
    (h0 : noLoc t fr0 = true) : ∀ u off, g u ≠ some (.loc t off) := by
  intro u off hu
  have htW : t ∈ d.W := by unfold Did.W; rw [hdst]; simp
  by_cases hA : ∃ b, (b ∈ l ∧ ∃ e, tr[b]? = some e ∧ u ∈ e.W) ∧ b < tr.length
  · obtain ⟨b, ⟨h1, e, he, hew⟩, hbl, hmax⟩ := exists_max _ hA
    have hg : g u = gAt tr gF (b + 1) u := hI.F (b + 1) (by omega) u fun j x hj hx => by
      have hjl := (List.getElem?_eq_some_iff.1 hj).1
      constructor
      · intro hin
        have := hmax j ⟨hin, x, hj, hx⟩ hjl; omega
      · intro hle
        rcases Nat.lt_or_ge j b with lt | ge
        · rcases (T.pair j b x e lt hj he).1 with h | ⟨h, _⟩
          · exact h.2 _ hI.D h1
          · exact (pairOk_W h hx (.inl hew)).elim
        · have : j = b := by omega
          subst this; exact h1
    obtain ⟨_, _, hge, _⟩ := T.step b e he
    rw [hge] at hg
    rw [hg] at hu
    rcases upsG_mem e.U e.fr.get u with ⟨w, p1, p2⟩ | ⟨p1, _⟩
    · rw [p2] at hu
      simp only [Option.some.injEq] at hu; subst hu
      unfold Did.U at p1
      rcases List.mem_append.1 p1 with p1 | p1
      · have := (List.all_eq_true.1 (T.ups b e he)) _ p1
        have hl : t ∈ locT (.loc t off) := locT_loc
        simp only [List.isEmpty_iff] at this
        rw [this] at hl; simp at hl
      · have hve : e.v = .loc t off := by
          cases q : e.o.dst with
          | none => rw [q] at p1; simp at p1
          | some s => rw [q] at p1; simp at p1; exact p1.2.symm
        have htl : t ∈ locT e.v := by rw [hve]; exact locT_loc
        rcases Nat.lt_trichotomy b i with lt | rfl | gt
        · have := (T.pair b i e d lt he hd).2
          unfold lvOk at this
          rw [hv, hdst] at this
          simp only [Bool.not_eq_true', List.contains_eq_mem, decide_eq_false_iff_not] at this
          exact this htl
        · exact hi h1
        · rcases (T.pair i b d e gt hd he).1 with h | ⟨h, _⟩
          · exact hi (h.2 _ hI.D h1)
          · exact pairOk_W h htW (.inr (looks_loc htl))
    · exact absurd ((e.W_U u).1 hew) (fun ⟨w, hw⟩ => p1 w hw)
  · have hg : g u = gAt tr gF 0 u := hI.F 0 (Nat.zero_le _) u fun j x hj hx => by
      have hjl := (List.getElem?_eq_some_iff.1 hj).1
      exact ⟨fun hin => absurd ⟨j, ⟨hin, x, hj, hx⟩, hjl⟩ hA, fun h => by omega⟩
    rw [hg, T.g0] at hu
    exact noLoc_get h0 u off hu

/-- ONE MORE OPERATION, in any order. -/
theorem inv_step (T : Text rec E c all fr0 tr gF SF) (hI : Inv all tr gF SF l g S) (hi : i ∉ l) (hd : tr[i]? = some d) (hC : ClosedIn all (· ∈ i :: l)) :
    ∃ g' S', ((wantedV all g d.o = some true ∧ StepR rec E c g S d.o g' S') ∨ (wantedV all g d.o = some false ∧ dstOk c d.o.dst ∧ g' = putG g d.o.dst (.tup []) ∧ S' = S)) ∧
      Inv all tr gF SF (i :: l) g' S' := by
  obtain ⟨ho, hS1, hg1, hdo, hact⟩ := T.step i d hd
  have hst := (T.step i d hd).2
  have hil := (List.getElem?_eq_some_iff.1 hd).1
  have hag : ∀ u, u ∈ d.R all → g u = d.fr.get u := fun u hu => agree T hI hi hd hC hu
  have hw : wantedV all g d.o = wantedV all d.fr.get d.o := wanted_agree fun u hu => hag u (by unfold Did.R; exact List.mem_append_left _ (List.mem_append_left _ hu))
  have hU : ∀ u, u ∈ d.W → upsG g d.U u = gAt tr gF (i + 1) u := fun u hu => by rw [hg1]; exact upsG_in ((d.W_U u).1 hu)
  have hN : ∀ u, u ∉ d.W → upsG g d.U u = g u := fun u hu => upsG_out fun h => hu ((d.W_U u).2 h)
  refine ⟨upsG g d.U, if d.k.loud then d.S' else S, ?_, ?_⟩
  · rw [hw]
    rcases hact with ⟨hwf, hk, _, hups, hv⟩ | ⟨hwt, r, hr, hm⟩
    · right
      refine ⟨hwf, hdo, ?_, by rw [hk]; rfl⟩
      have := upsG_putG g [] d.o.dst (.tup [])
      unfold Did.U
      rw [hups, hv]
      exact this.symm
    · left
      refine ⟨hwt, ?_⟩
      have hop : ∀ u, Operand.tmp u ∈ d.o.op.operands.toList → g u = d.fr.get u := fun u hu => hag u (looks_op hu)
      cases r with
      | val v k ups S2 =>
        obtain ⟨hk, hups, hS2, hv⟩ := hm
        have hsl : ∀ v' k' ups' S1', Res.val v k ups S2 = .val v' k' ups' S1' → ∀ u ∈ k'.slots, g u = d.fr.get u := by
          intro v' k' ups' S1' e u hu
          simp only [Res.val.injEq] at e
          obtain ⟨_, rfl, _, _⟩ := e
          exact hag u (looks_slot (by rw [hk]; exact hu))
        have key : ∃ S3, opV E c g S d.o = some (.val v k ups S3) ∧ S3 = if d.k.loud then d.S' else S := by
          cases hq : k.quiet with
          | true =>
            have h1 := (opV_S hr hq).2 S
            refine ⟨S, opV_agree h1 hop (fun v' k' ups' S1' e => ?_), ?_⟩
            · simp only [Res.val.injEq] at e
              obtain ⟨_, rfl, _, _⟩ := e
              exact fun u hu => hag u (looks_slot (by rw [hk]; exact hu))
            · have : d.k.loud = false := by rw [hk]; cases k <;> simp_all [Cls.quiet, Cls.loud]
              rw [this]; rfl
          | false =>
            by_cases hrh : k = .rh
            · subst hrh
              obtain ⟨_, hups0, x, hx⟩ := opV_rh hr
              subst hx; subst hups0
              rcases rh_state T hI hi hd hC hk with e | e
              · refine ⟨S, ?_, by rw [hk]; rfl⟩
                rw [e]
                have := opV_agree hr hop hsl
                have hs2 := (opV_rh hr).1
                rw [hs2] at this; exact this
              · obtain ⟨S3, h3⟩ := stable_val e
                have hs3 := (opV_rh h3).1
                subst hs3
                simp only [Option.getD_some] at hv
                rw [hv] at h3
                exact ⟨S3, opV_agree h3 hop (by
                  intro v' k' ups' S1' e u hu
                  simp only [Res.val.injEq] at e
                  obtain ⟨_, rfl, _, _⟩ := e
                  simp [Cls.slots] at hu), by rw [hk]; rfl⟩
            · have hl : d.k.loud = true := by rw [hk]; cases k <;> simp_all [Cls.quiet, Cls.loud]
              have := loud_state T hI hi hd hC hl
              subst this
              exact ⟨S2, opV_agree hr hop hsl, by rw [hl, hS2]; rfl⟩
        obtain ⟨S3, h3, e3⟩ := key
        refine ⟨_, h3, e3.symm, ?_, hdo⟩
        rw [← hv, upsG_putG, ← hups]; rfl
      | laid cs =>
        obtain ⟨hk, hups, _, hv, t, ht, hn0⟩ := hm
        have h1 := opV_far hr (fun _ _ _ _ h => by simp at h) S
        have h2 := opV_agree h1 hop (fun _ _ _ _ e => by simp at e)
        refine ⟨_, h2, t, g, ht, (hdo t ht).1, (hdo t ht).2, fun _ _ h => .inl h, laid_noloc T hI hi hd hC ht hv hn0, ?_, by rw [hk]; rfl⟩
        unfold Did.U
        rw [hups, ht, hv]
        rfl
      | call q args =>
        obtain ⟨hk, hups, hcv⟩ := hm
        have hl : d.k.loud = true := by rw [hk]; rfl
        have := loud_state T hI hi hd hC hl
        subst this
        refine ⟨_, opV_agree hr hop (fun _ _ _ _ e => by simp at e), d.v, ?_, ?_, hdo⟩
        · rw [hl]; exact hcv
        · have := upsG_putG g [] d.o.dst d.v
          unfold Did.U; rw [hups]; exact this.symm
      | yld q args =>
        obtain ⟨hk, hups, hcv⟩ := hm
        have hl : d.k.loud = true := by rw [hk]; rfl
        have := loud_state T hI hi hd hC hl
        subst this
        refine ⟨_, opV_agree hr hop (fun _ _ _ _ e => by simp at e), d.v, ?_, ?_, hdo⟩
        · rw [hl]; exact hcv
        · have := upsG_putG g [] d.o.dst d.v
          unfold Did.U; rw [hups]; exact this.symm
  · refine ⟨fun p hp u hu => ?_, fun p hp hu => ?_, hC⟩
    · by_cases hW : u ∈ d.W
      · rw [hU u hW]
        have hip : i < p := (hu i d hd hW).1 (by simp)
        refine (gAt_const T (a := i + 1) (b := p) hip hp fun j x h1 h2 hj hx => ?_).symm
        have hin := (hu j x hj hx).2 h2
        rcases List.mem_cons.1 hin with e | hin
        · omega
        · rcases (T.pair i j d x (by omega) hd hj).1 with h | ⟨h, _⟩
          · exact hi (h.2 _ hI.D hin)
          · exact pairOk_W h hW (.inl hx)
      · rw [hN u hW]
        refine hI.F p hp u fun j x hj hx => ?_
        have hne : j ≠ i := by rintro rfl; rw [hd] at hj; simp only [Option.some.injEq] at hj; subst hj; exact hW hx
        rw [← hu j x hj hx]
        simp [hne]
    · cases hl : d.k.loud with
      | true =>
        simp only [if_true]
        have hip : i < p := (hu i d hd hl).1 (by simp)
        rw [← hS1]
        refine (sAt_const T (a := i + 1) (b := p) hip hp fun j x h1 h2 hj => ?_).symm
        cases hxl : x.k.loud with
        | false => rfl
        | true =>
          exfalso
          have hin := (hu j x hj hxl).2 h2
          rcases List.mem_cons.1 hin with e | hin
          · omega
          · rcases (T.pair i j d x (by omega) hd hj).1 with h | ⟨h, _⟩
            · exact hi (h.2 _ hI.D hin)
            · exact pairOk_loud h hl hxl
      | false =>
        simp only [Bool.false_eq_true, if_false]
        refine hI.H p hp fun j x hj hx => ?_
        have hne : j ≠ i := by rintro rfl; rw [hd] at hj; simp only [Option.some.injEq] at hj; subst hj; rw [hl] at hx; simp at hx
        rw [← hu j x hj hx]
        simp [hne]
end
end Go.V

/- A region whose order is open: the theorem. -/
namespace Go.V
section
variable {E : Env} {rec : Rec} {c : Ctx} {all : Array Oper} {fr0 : Fr} {tr : List Did} {gF : G} {SF : St}

theorem order_ok (T : Text rec E c all fr0 tr gF SF) : ∀ (L : List Nat) (listed : Array Bool) (l : List Nat) (g : G) (S : St), Lin all L listed → listed.size = all.size →
    (∀ j, j < all.size → (listed.getD j true = true ↔ j ∈ l)) → Inv all tr gF SF l g S →
    ∃ g' S', RunL rec E c all L g S g' S' ∧ Inv all tr gF SF (L.reverse ++ l) g' S'
  | [], listed, l, g, S, _, _, _, hI => ⟨g, S, ⟨rfl, rfl⟩, by simpa using hI⟩
  | i :: L, listed, l, g, S, hL, hs, hl, hI => by
    obtain ⟨h1, h2⟩ := hL
    obtain ⟨hi, hn, o, ho, he⟩ := ready_mem.1 h1
    have hil : i ∉ l := fun h => by
      have := (hl i hi).2 h
      rw [hn] at this; simp at this
    obtain ⟨d, hd⟩ := T.get (i := i) (by rw [T.len]; exact hi)
    have hdo := (T.step i d hd).1
    have hC : ClosedIn all (· ∈ i :: l) := by
      intro j hj o' ho' e he' hb
      rcases List.mem_cons.1 hj with rfl | hj
      · rw [ho] at ho'; simp only [Option.some.injEq] at ho'; subst ho'
        have := he e he' hb
        have hlt : e.on < all.size := by
          rw [Array.getD_eq_getD_getElem?] at this
          rcases Nat.lt_or_ge e.on listed.size with h | h
          · omega
          · rw [Array.getElem?_eq_none h] at this; simp at this
        refine List.mem_cons_of_mem _ ((hl e.on hlt).1 ?_)
        rw [Array.getD_eq_getD_getElem?] at this ⊢
        rw [Array.getElem?_eq_getElem (by omega)] at this ⊢
        exact this
      · exact List.mem_cons_of_mem _ (hI.D j hj o' ho' e he' hb)
    obtain ⟨g1, S1, hstep, hI1⟩ := inv_step T hI hil hd hC
    obtain ⟨g', S', hr, hI'⟩ := order_ok T L _ (i :: l) g1 S1 h2 (by simp [hs]) (fun j hj => by
      rw [getD_set]
      by_cases e : i = j
      · subst e; simp
      · rw [if_neg e, hl j hj]; simp [Ne.symm e]) hI1
    refine ⟨g', S', ⟨d.o, hdo, ?_⟩, by simpa using hI'⟩
    rcases hstep with ⟨hw, hs⟩ | ⟨hw, hd', rfl, rfl⟩
    · exact .inl ⟨hw, g1, S1, hs, hr⟩
    · exact .inr ⟨hw, hd', hr⟩

theorem draw_ok {ops : Array Oper} {fr fr' : Fr} {S S' : St} {tr : List Did} (h : opsT rec E c ops fr ops.toList fr S = some (fr', S', tr))
    (he : edgesOk ops.toList 0 = true) (hd : drawOk E c ops (befT ops.toList []) 0 tr = true) (L : List Nat) (hL : ∃ t, L = Region.linearise .any ops t) :
    ∃ g', RunL rec E c ops L fr.get S g' S' ∧ g' = fr'.get := by
  obtain ⟨h1, h2, h3, h4⟩ := opsT_ok ops.toList h
  have hbef := befT_good (ops := ops) ops.toList [] rfl he (fun j i hj => by simp at hj)
  have T : Text rec E c ops fr tr fr'.get S' := {
    len := by simpa using h1
    g0 := h2
    step := fun i d hi => by
      obtain ⟨p1, p2⟩ := h4 i d hi
      exact ⟨by rw [← Array.getElem?_toList]; exact p1, p2⟩
    pair := fun i j a b hij ha hb => by
      obtain ⟨p1, p2⟩ := drawOk_get hd hij ha hb
      simp only [Nat.zero_add] at p1
      exact ⟨p1.imp (hbef j i) id, p2⟩
    ups := fun i a ha => drawOk_ups hd ha }
  have hI0 : Inv ops tr fr'.get S' [] fr.get S := {
    F := fun p hp u hu => by
      rw [← h2]
      refine (gAt_const T (Nat.zero_le p) hp fun j d _ hj hdj hw => ?_).symm
      have := (hu j d hdj hw).2 hj
      simp at this
    H := fun p hp hu => by
      rw [← h3]
      refine (sAt_const T (Nat.zero_le p) hp fun j d _ hj hdj => ?_).symm
      cases hl : d.k.loud with
      | false => rfl
      | true => have := (hu j d hdj hl).2 hj; simp at this
    D := fun j hj => by simp at hj }
  obtain ⟨t, rfl⟩ := hL
  have hsz : (Array.replicate ops.size false).size = ops.size := by simp
  have hnone : ∀ j, j < ops.size → (Array.replicate ops.size false).getD j true = false := fun j hj => by
    rw [Array.getD_eq_getD_getElem?, Array.getElem?_eq_getElem (by simpa using hj)]; simp
  obtain ⟨g', S2, hr, hI⟩ := order_ok T _ _ [] _ _ (lin_go ops.size t (Array.replicate ops.size false)) hsz (fun j hj => by rw [hnone j hj]; simp) hI0
  have hcnt : cnt (Array.replicate ops.size false) ops.size ≤ ops.size := by
    have : ∀ (a : Array Bool) (n : Nat), cnt a n ≤ n := by
      intro a n
      induction n with
      | zero => simp [cnt]
      | succ n ih => simp only [cnt]; split <;> omega
    exact this _ _
  have hall : ∀ j, j < ops.size → j ∈ (Region.linearise.go .any ops ops.size t (Array.replicate ops.size false) []).reverse ++ [] := fun j hj => by
    rw [List.append_nil, List.mem_reverse]
    exact lin_all he _ _ _ hsz hcnt j hj (hnone j hj)
  have hend : ∀ (j : Nat) (d : Did), tr[j]? = some d → (j ∈ (Region.linearise.go .any ops ops.size t (Array.replicate ops.size false) []).reverse ++ [] ↔ j < tr.length) := fun j d hj => by
    have hlt := (List.getElem?_eq_some_iff.1 hj).1
    exact ⟨fun _ => hlt, fun _ => hall j (by rw [← T.len]; exact hlt)⟩
  have hg : g' = fr'.get := by
    funext u
    rw [hI.F tr.length (Nat.le_refl _) u fun j d hj _ => hend j d hj]
    simp [gAt]
  have hS : S2 = S' := by
    rw [hI.H tr.length (Nat.le_refl _) fun j d hj _ => hend j d hj]
    simp [sAt]
  subst hS
  exact ⟨g', hr, hg⟩
end
end Go.V
