/- Rounds of loops over functions. -/
import Derived.Test.YtgnfinbhnoofpaaDoorVD
set_option linter.unusedVariables false
set_option linter.unusedSimpArgs false
set_option linter.unusedSectionVars false
namespace Go.V
section
variable {E : Env} {k k' k0 k1 : K} {S S0 S1 : St} {f n d : Nat} {T : Nat → Prop} {g : G} {tmps : Array Value}

/-- what is noted of a loop changes -/
theorem Sim.setLoop (h : Sim E k S) {l : Nat} {r r' : LoopRec} (hr : S.L[l]? = some r) (hn : LRep E k l r') : Sim E k { S with L := S.L.set l r' } where
  sh := h.sh
  blk := h.blk
  loop := fun l' q hq => by
    simp only [List.getElem?_set] at hq
    split at hq
    · rename_i e; subst e
      split at hq
      · simp only [Option.some.injEq] at hq; subst hq; exact hn
      · simp at hq
    · exact h.loop l' q hq
  ownlt := h.ownlt
  glob := h.glob
  dead := fun c l' hc => by simpa using h.dead c l' hc

/-- a loop is written -/
theorem Sim.writeLoop (h : Sim E k S) {l : Nat} {r r' : LoopRec} (hr : S.L[l]? = some r) (hbut : But k k' (k.lo l)) (hn : k.Le k' → LRep E k' l r') : Sim E k' { S with L := S.L.set l r' } := by
  have ho := (h.loop l r hr).own
  have hle := hbut.le (by rw [ho]; simp)
  refine ⟨?_, ?_, ?_, ?_, ?_, fun c l' hc => by rw [hbut.own] at hc; simpa using h.dead c l' hc⟩
  · intro x; rw [hbut.sh]; exact h.sh x
  · intro x y hx
    have q := h.blk x y hx
    have ne : (k.σ x).1 ≠ k.lo l := by intro e1; have := q.own; rw [e1, ho] at this; simp at this
    exact q.mono hle (by rw [hbut.σ]) (by rw [hbut.room]) (by rw [hbut.own]) (hbut.heap _ ne)
  · intro l' q hq
    simp only [List.getElem?_set] at hq
    split at hq
    · rename_i e; subst e
      split at hq
      · simp only [Option.some.injEq] at hq; subst hq; exact hn hle
      · simp at hq
    · rename_i hne
      have p := h.loop l' q hq
      obtain ⟨tm, de, q1, q2, q3, q4⟩ := p.rep
      have ne : k.lo l' ≠ k.lo l := by
        intro e1
        have := p.own
        rw [e1, ho] at this
        simp only [Option.some.injEq, Own.loop.injEq] at this
        exact hne this
      refine ⟨by rw [hbut.lo, hbut.own]; exact p.own, ⟨tm, de, by rw [hbut.lo, hbut.heap _ ne]; exact q1, ?_, by rw [hbut.tm]; exact q3, q4⟩, p.pend⟩
      intro hbz
      rw [hbut.fid]
      refine (q2 hbz).mono hle fun c t hc => ⟨by rw [hbut.own], hbut.heap c ?_⟩
      intro e1
      rw [e1, ho] at hc; simp at hc
  · intro c o hc
    rw [hbut.own] at hc
    rw [hbut.size]
    exact h.ownlt c o hc
  · intro x cs hg
    exact (h.glob x cs hg).mono hle

theorem setParams_ok : ∀ {ts : List Nat} {vs : List Val} {cvs : List Value} {fr fr' : Fr} {tmps : Array Value}, setParams ts vs fr = some fr' → RepAll k vs cvs → FRep k f fr.get tmps → (∀ t ∈ ts, t < tmps.size) →
    FRep k f fr'.get ((ts.zip cvs).foldl (fun tm x => tm.setIfInBounds x.1 x.2) tmps) ∧ ((ts.zip cvs).foldl (fun tm x => tm.setIfInBounds x.1 x.2) tmps).size = tmps.size ∧ cvs.length = ts.length ∧
      ∀ u, u ∉ ts → ((ts.zip cvs).foldl (fun tm x => tm.setIfInBounds x.1 x.2) tmps).getD u undef = tmps.getD u undef
  | [], [], [], fr, fr', tmps, h, _, hF, _ => by simp only [setParams, Option.some.injEq] at h; subst h; exact ⟨hF, rfl, rfl, fun _ _ => rfl⟩
  | t :: ts, v :: vs, c :: cvs, fr, fr', tmps, h, hr, hF, hlt => by
    simp only [setParams] at h
    simp only [RepAll] at hr
    have hput : FRep k f (fr.put t v).get (tmps.setIfInBounds t c) := by rw [Fr.get_put]; exact hF.put (hlt t (by simp)) (.of hr.1)
    obtain ⟨h1, h2, h3, h4⟩ := setParams_ok h hr.2 hput (fun u hu => by simpa using hlt u (by simp [hu]))
    refine ⟨h1, by simpa using h2, by simp [h3], fun u hu => ?_⟩
    simp only [List.mem_cons, not_or] at hu
    simp only [List.zip_cons_cons, List.foldl_cons]
    rw [h4 u hu.2]
    simp [Array.getD_eq_getD_getElem?, Array.getElem?_setIfInBounds_ne (Ne.symm hu.1)]
  | [], _ :: _, _, _, _, _, h, _, _, _ => by simp [setParams] at h
  | _ :: _, [], _, _, _, _, h, _, _, _ => by simp [setParams] at h
  | [], [], _ :: _, _, _, _, _, hr, _, _ => by simp [RepAll] at hr
  | _ :: _, _ :: _, [], _, _, _, _, hr, _, _ => by simp [RepAll] at hr

theorem mergeFr_get : ∀ {a b c : Fr}, mergeFr a b = some c → ∀ t, (∀ cs, a.get t = some (.lv cs) → ∃ cs', (c.get t = some (.lv cs') ∧ b.get t = some (.lv cs')) ∨ (c.get t = some (.pin cs' 0) ∧ b.get t = some (.pin cs' 0))) ∧
    ((∀ cs, a.get t ≠ some (.lv cs)) → c.get t = a.get t)
  | [], b, c, h, t => by
    simp only [mergeFr, Option.some.injEq] at h; subst h
    exact ⟨fun cs h => by simp [Fr.get] at h, fun _ => rfl⟩
  | (s, v) :: r, b, c, h, t => by
    by_cases hv : ∃ cs, v = .lv cs
    · obtain ⟨cs, rfl⟩ := hv
      simp only [mergeFr] at h
      split at h
      · rename_i c' r' hc hr
        simp only [Option.some.injEq] at h; subst h
        obtain ⟨h1, h2⟩ := mergeFr_get hr t
        by_cases e : s = t
        · subst e
          simp only [Fr.get, if_true]
          exact ⟨fun _ _ => ⟨c', .inl ⟨rfl, hc⟩⟩, fun h => absurd rfl (h cs)⟩
        · simp only [Fr.get, e, if_false]
          exact ⟨h1, h2⟩
      · rename_i c' r' hc hr
        simp only [Option.some.injEq] at h; subst h
        obtain ⟨h1, h2⟩ := mergeFr_get hr t
        by_cases e : s = t
        · subst e
          simp only [Fr.get, if_true]
          exact ⟨fun _ _ => ⟨c', .inr ⟨rfl, hc⟩⟩, fun h => absurd rfl (h cs)⟩
        · simp only [Fr.get, e, if_false]
          exact ⟨h1, h2⟩
      · simp at h
    · have : ∃ r', mergeFr r b = some r' ∧ c = (s, v) :: r' := by
        cases v <;> first | (exact absurd ⟨_, rfl⟩ hv) | (simp only [mergeFr] at h; split at h <;> first | (rename_i r' hr; simp only [Option.some.injEq] at h; exact ⟨r', hr, h.symm⟩) | simp at h)
      obtain ⟨r', hr, rfl⟩ := this
      obtain ⟨h1, h2⟩ := mergeFr_get hr t
      by_cases e : s = t
      · subst e
        simp only [Fr.get, if_true]
        exact ⟨fun cs h => by simp only [Option.some.injEq] at h; exact absurd ⟨cs, h⟩ hv, fun _ => by simp⟩
      · simp only [Fr.get, e, if_false]
        exact ⟨h1, h2⟩

theorem lvKeys_mem : ∀ {a : Fr} {t : Nat} {cs : List Val}, a.get t = some (.lv cs) → t ∈ lvKeys a
  | (s, v) :: r, t, cs, h => by
    simp only [Fr.get] at h
    split at h
    · rename_i e; subst e
      simp only [Option.some.injEq] at h; subst h
      simp [lvKeys]
    · have := lvKeys_mem h
      cases v <;> simp [lvKeys, this]
  | [], _, _, h => by simp [Fr.get] at h

/-- behind a round -/
theorem merge_ok {fr fr2 fr' : Fr} {tm tmps2 : Array Value} (hm : mergeFr fr fr2 = some fr') (hle : k.Le k') (hF : FRep k f fr.get tm) (hF2 : FRep k' f fr2.get tmps2)
    (hfix : ∀ t, t ∈ lvKeys fr → tmps2.getD t undef = tm.getD t undef) : FRep k' f fr'.get tm := by
  intro t v hv
  obtain ⟨h1, h2⟩ := mergeFr_get hm t
  by_cases e : ∃ cs, fr.get t = some (.lv cs)
  · obtain ⟨cs, e⟩ := e
    have hx := hfix t (lvKeys_mem e)
    obtain ⟨cs', ⟨p1, p2⟩ | ⟨p1, p2⟩⟩ := h1 cs e
    · rw [p1] at hv; simp only [Option.some.injEq] at hv; subst hv
      obtain ⟨c, q1, q2, q3⟩ := hF2 t _ p2
      exact ⟨c, by rw [← hx]; exact q1, q2, q3⟩
    · rw [p1] at hv; simp only [Option.some.injEq] at hv; subst hv
      have := hF2 t _ p2
      simp only [SlotRep, hx] at this ⊢
      exact this
  · have hne : ∀ cs, fr.get t ≠ some (.lv cs) := fun cs h => e ⟨cs, h⟩
    rw [h2 hne] at hv
    have := hF t v hv
    cases v with
    | lv cs => exact absurd hv (hne cs)
    | loc s off =>
      intro cs hcs
      obtain ⟨g1, g2⟩ := mergeFr_get hm s
      by_cases e2 : ∃ cs, fr.get s = some (.lv cs)
      · obtain ⟨cs2, e2⟩ := e2; exact this cs2 e2
      · rw [g2 fun cs h => e2 ⟨cs, h⟩] at hcs
        exact absurd ⟨cs, hcs⟩ e2
    | _ => exact Rep.mono hle _ _ this

theorem st_beginRound {P : Program} {fn : FuncId} {l : Nat} {k : List Item} {de : List Deferred} {cs : List Frame} {w : World} {r : Loop} (hl : w.heap[l]? = some (.loop r)) (hr : r.state = .ready) :
    step P (lone (frm fn (some l) tmps (.beginRound :: k) de) cs w) = .next (lone (frm fn (some l) tmps k de) cs { w with heap := w.heap.setIfInBounds l (.loop { r with state := .busy }) }) := by
  have he : (do Option.elim (some l) (stuck "beginRound: no round") Instr.beginRound; pure Next.skip : Sem Next).run P w = .ok .skip { w with heap := w.heap.setIfInBounds l (.loop { r with state := .busy }) } := by
    simp [Instr.beginRound, Instr.getLoop, getObj, setObj, Sem.run, hl, hr, Sem.run_bind]
  exact step_lone_go (by
    simp only [stepG, stepG.exec, frm, stepG.apply, Sem.runT_eq, if_true, GStep.bare_after]
    rw [he]
    simp [Frame.finish])

theorem LK.round {L L1 L2 : List LoopRec} {l : Nat} {r rb rb' r' : LoopRec} (hr : L[l]? = some r) (h1 : LK (L.set l rb) L1) (h2 : LK (L1.set l rb') L2) (hb : rb.busy = true) (hb' : rb'.busy = true) (hr0 : r.busy = false) (hr1 : r'.busy = false) :
    LK L (L2.set l r') := by
  have hlt : l < L.length := (List.getElem?_eq_some_iff.1 hr).1
  have n1 : L1.length = L.length := by rw [h1.eq.1, List.length_set]
  have n2 : L2.length = L.length := by rw [h2.eq.1, List.length_set, n1]
  refine ⟨⟨by rw [List.length_set, n2], ?_⟩, ?_⟩
  · intro x q q' hq hq'
    by_cases e : l = x
    · subst e
      rw [hr] at hq; simp only [Option.some.injEq] at hq; subst hq
      rw [List.getElem?_set, if_pos rfl, if_pos (by omega)] at hq'
      simp only [Option.some.injEq] at hq'; subst hq'
      rw [hr0, hr1]
    · rw [List.getElem?_set, if_neg e] at hq'
      have hx : x < L.length := (List.getElem?_eq_some_iff.1 hq).1
      obtain ⟨q1, hq1⟩ : ∃ q1, L1[x]? = some q1 := ⟨_, List.getElem?_eq_getElem (by omega)⟩
      have a1 := h1.eq.2 x q q1 (by rw [List.getElem?_set, if_neg e]; exact hq) hq1
      have a2 := h2.eq.2 x q1 q' (by rw [List.getElem?_set, if_neg e]; exact hq1) hq'
      exact a2.trans a1
  · intro x q hq hqb
    have e : l ≠ x := by rintro rfl; rw [hr] at hq; simp only [Option.some.injEq] at hq; subst hq; rw [hr0] at hqb; simp at hqb
    rw [List.getElem?_set, if_neg e]
    have a1 := h1.busy x q (by rw [List.getElem?_set, if_neg e]; exact hq) hqb
    exact h2.busy x q (by rw [List.getElem?_set, if_neg e]; exact a1) hqb
end
end Go.V

/- A round of a loop over a function: yield. -/
namespace Go.V
section
variable {E : Env} {k k' k0 k1 : K} {S S0 S1 : St} {f n d : Nat} {T : Nat → Prop} {g : G} {tmps : Array Value}

theorem yield_run {P : Program} {w : World} {l : Nat} {r : Loop} {vs : Array Value} (hl : w.heap[l]? = some (.loop r)) (hs : vs.size = r.params.size) :
    (Instr.yield l vs).run P w = .ok (.round l r.fn ((r.params.toList.zip vs.toList).foldl (fun tm x => tm.setIfInBounds x.1 x.2) r.tmps) r.assign r.body) w := by
  have e : (r.params.zip vs).foldl (fun tmps x => tmps.setIfInBounds x.1 x.2) r.tmps = (r.params.toList.zip vs.toList).foldl (fun tm x => tm.setIfInBounds x.1 x.2) r.tmps := by
    rw [← Array.foldl_toList, Array.toList_zip]
  simp [Instr.yield, Instr.getLoop, getObj, Sem.run, hl, Sem.run_bind, hs]
  rw [← e]
  simp [hs]

theorem FRep.heapLoop (hS : Sim E k S) (hF : FRep k f g tmps) {l : Nat} {r : LoopRec} (hr : S.L[l]? = some r) (hbut : But k k' (k.lo l)) : FRep k' f g tmps := by
  have ho := (hS.loop l r hr).own
  refine hF.mono (hbut.le (by rw [ho]; simp)) fun c t hc => ⟨by rw [hbut.own], hbut.heap c ?_⟩
  rintro rfl
  rw [ho] at hc; simp at hc

/-- YIELD. -/
theorem yieldOk_of_rec {rec : Rec} (hrec : RecOk E rec) {l : Nat} {args : List Val} {v : Val} {S' : St} (hc : yieldV rec E l args S = some (v, S')) : YieldOk E l args S v S' := by
  unfold yieldV at hc
  split at hc
  · rename_i r hr
    split at hc
    · simp at hc
    · rename_i hbd
      simp only [Bool.or_eq_true, not_or, Bool.not_eq_true] at hbd
      obtain ⟨hrb, hrd⟩ := hbd
      split at hc
      · rename_i fn fr0 hfn hfr0
        split at hc
        · rename_i hpar
          split at hc
          · rename_i fr1 S1 h1
            split at hc
            · rename_i j fr2 S2 h2
              split at hc
              · rename_i fr' hm
                simp only [Option.some.injEq, Prod.mk.injEq] at hc
                obtain ⟨rfl, rfl⟩ := hc
                intro k d vs hS hB hBl hA m F cs hw hap
                have q := hS.loop l r hr
                obtain ⟨tm, de, q1, q2, q3, fn', hfn', hsz⟩ := q.rep
                rw [hfn] at hfn'
                simp only [Option.some.injEq] at hfn'; subst hfn'
                have hready : loopState r = .ready := by simp [loopState, hrb, hrd]
                have hlt : l < S.L.length := (List.getElem?_eq_some_iff.1 hr).1
                simp only [List.all_eq_true, Bool.and_eq_true, decide_eq_true_eq, Bool.not_eq_true'] at hpar
                obtain ⟨p1, p2, p3, p4⟩ := setParams_ok (f := k.fid l) hfr0 hA (q2 hrb) (fun t ht => by rw [hsz]; exact (hpar t ht).1)
                let rb : LoopRec := { r with busy := true, begun := false }
                let rb' : LoopRec := { r with busy := true, begun := true }
                let Sb : St := { S with L := S.L.set l rb }
                have hrL : Sb.L[l]? = some rb := by simp only [Sb]; rw [List.getElem?_set, if_pos rfl, if_pos hlt]
                have hSb : Sim E k Sb := hS.setLoop hr ⟨q.own, ⟨tm, de, by rw [q1, hready]; simp [rb, loopState], by simp [rb], q3, fn, hfn, hsz⟩, q.pend⟩
                have old : ∀ {l' : Nat} {r' : LoopRec}, Sb.L[l']? = some r' → (l' = l ∧ r' = rb) ∨ (l' ≠ l ∧ S.L[l']? = some r') := by
                  intro l' r' h
                  simp only [Sb, List.getElem?_set] at h
                  split at h
                  · rename_i e; subst e
                    simp only [Option.some.injEq] at h; exact .inl ⟨rfl, h.symm⟩
                  · rename_i e; exact .inr ⟨Ne.symm e, h⟩
                have hO : FrOk E k Sb (k.fid l) d fn.ntmps (some (k.lo l)) fr0.get ((r.params.toList.zip vs.toList).foldl (fun tm x => tm.setIfInBounds x.1 x.2) tm) [] := {
                  sim := hSb
                  fr := p1
                  size := by rw [p2, hsz]
                  marks := ⟨[], rfl, List.nodup_nil, by simp⟩
                  busy := fun l' r' h hf => by
                    rcases old h with ⟨_, rfl⟩ | ⟨hne, h⟩
                    · rfl
                    · cases hb : r'.busy with
                      | true => rfl
                      | false => exact absurd (hBl.2 l' l r' r h hr hb hrb hf) hne
                  lt := hBl.1 l r hr
                  bound := hB
                  below := ⟨fun l' r' h => by
                    rcases old h with ⟨rfl, _⟩ | ⟨_, h⟩
                    · exact hBl.1 _ _ hr
                    · exact hBl.1 _ _ h, fun l1 l2 r1 r2 h1 h2 b1 b2 hf => by
                    rcases old h1 with ⟨_, rfl⟩ | ⟨_, h1⟩
                    · simp [rb] at b1
                    · rcases old h2 with ⟨_, rfl⟩ | ⟨_, h2⟩
                      · simp [rb] at b2
                      · exact hBl.2 l1 l2 r1 r2 h1 h2 b1 b2 hf⟩
                  ro := fun a ha => by simp only [Option.some.injEq] at ha; exact ⟨l, rb, ha.symm, hrL⟩ }
                obtain ⟨k1, t1, de1, todo1, s1, e1, hO1, w1, hde1⟩ := hrec _ _ _ _ _ _ _ h1 ⟨fn, hfn, rfl⟩ k (k.fid l) d (some (k.lo l)) _ [] [.beginRound, .code r.body] (F :: cs) hO
                simp only [Ends] at e1; subst e1
                have hde1 := hde1 (by simp); subst hde1
                have hr1 : S1.L[l]? = some rb := w1.lk.busy l rb hrL rfl
                obtain ⟨lo1, fid1, tm1⟩ := fid_kept hSb w1.evo hrL
                have x := hO1.sim.loop l rb hr1
                obtain ⟨tmx, dex, x1, _, x3, x4⟩ := x.rep
                have hlt1 : l < S1.L.length := (List.getElem?_eq_some_iff.1 hr1).1
                let k1' : K := { k1 with w := { k1.w with heap := k1.w.heap.setIfInBounds (k1.lo l) (.loop { state := .busy, pending := rb.pending, fn := rb.fn, tmps := tmx, params := rb.params, assign := rb.assign, body := rb.body, defers := dex }) } }
                have hbut1 : But k1 k1' (k1.lo l) := setHeap_but k1 _ _
                have hw1 : k1.lo l < k1.w.heap.size := (Array.getElem?_eq_some_iff.1 x1).1
                have hS1' : Sim E k1' { S1 with L := S1.L.set l rb' } := hO1.sim.writeLoop hr1 hbut1 fun hle => ⟨x.own, ⟨tmx, dex, by
                  simp only [k1']
                  rw [Array.getElem?_setIfInBounds, if_pos rfl, if_pos hw1]
                  simp [rb, rb', loopState], by simp [rb'], x3, x4⟩, x.pend⟩
                have hev1 : Evo k1 k1' (touchF k1 S1.L (k.fid l)) := hbut1.evo (by rw [x.own]; simp) (.inl (by unfold touch; rw [x.own]; trivial))
                have hleq1 : LoopEq S1.L (S1.L.set l rb') := by
                  refine ⟨by simp, fun y a b ha hb => ?_⟩
                  rw [List.getElem?_set] at hb
                  split at hb
                  · rename_i e; subst e
                    rw [hr1] at ha
                    simp only [Option.some.injEq] at ha hb
                    subst ha; subst hb; rfl
                  · rw [ha] at hb; simp only [Option.some.injEq] at hb; rw [hb]
                have hO1' := hO1.after (S' := { S1 with L := S1.L.set l rb' }) hS1' hev1 hleq1 (hO1.fr.heapLoop hO1.sim hr1 hbut1) hO1.size (show Bound k1' d from hO1.bound)
                obtain ⟨k2, t2, de2, todo2, s2, e2, hO2, w2, hde2⟩ := hrec _ _ _ _ _ _ _ h2 ⟨fn, hfn, rfl⟩ k1' (k.fid l) d (some (k.lo l)) _ [] [] (F :: cs) hO1'
                have hde2 := hde2 (by simp); subst hde2
                have hr1' : ({ S1 with L := S1.L.set l rb' } : St).L[l]? = some rb' := by simp only; rw [List.getElem?_set, if_pos rfl, if_pos hlt1]
                have hr2 : S2.L[l]? = some rb' := w2.lk.busy l rb' hr1' rfl
                obtain ⟨lo2, fid2, tm2⟩ := fid_kept hS1' w2.evo hr1'
                have y := hO2.sim.loop l rb' hr2
                obtain ⟨tmy, dey, y1, _, y3, y4⟩ := y.rep
                have hw2 : k2.lo l < k2.w.heap.size := (Array.getElem?_eq_some_iff.1 y1).1
                have elo : k2.lo l = k.lo l := lo2.trans lo1
                have efid : k2.fid l = k.fid l := fid2.trans fid1
                have etm : tmy = tm := by rw [y3, q3]; exact tm2.trans tm1
                subst etm
                let r3 : LoopRec := { r with fr := fr', pending := j, done := j.isSome }
                let k3 : K := { k2 with w := { k2.w with heap := k2.w.heap.setIfInBounds (k2.lo l) (.loop { state := if j.isNone then .ready else .done, pending := j, fn := r.fn, tmps := tmy, params := r.params, assign := r.assign, body := r.body, defers := dey }) } }
                have hbut3 : But k2 k3 (k2.lo l) := setHeap_but k2 _ _
                have hev3 : Evo k2 k3 (touchF k2 S2.L (k.fid l)) := hbut3.evo (by rw [y.own]; simp) (.inl (by unfold touch; rw [y.own]; trivial))
                have a1 : Evo k k1' (touchF k Sb.L (k.fid l)) := w1.evo.transF hSb w1.lk.eq hev1
                have a2 : Evo k k2 (touchF k Sb.L (k.fid l)) := a1.transF hSb (w1.lk.eq.trans hleq1) w2.evo
                have a3 : Evo k k3 (touchF k Sb.L (k.fid l)) := a2.transF hSb ((w1.lk.eq.trans hleq1).trans w2.lk.eq) hev3
                have hevo : Evo k k3 (touch k S.L) := a3.weak fun c hc => by
                  rcases hc with hc | ⟨t, hc⟩
                  · unfold touch at hc ⊢
                    cases ho : k.own c with
                    | none => rw [ho] at hc; exact hc
                    | some o =>
                      rw [ho] at hc
                      cases o with
                      | lv f' t' =>
                        obtain ⟨l', r', g1, g2, g3⟩ := hc
                        rcases old g1 with ⟨_, rfl⟩ | ⟨_, g1⟩
                        · simp [rb] at g2
                        · exact ⟨l', r', g1, g2, g3⟩
                      | _ => exact hc
                  · unfold touch
                    rw [hc]
                    exact ⟨l, r, hr, hrb, rfl⟩
                have hS3 : Sim E k3 { S2 with L := S2.L.set l r3 } := hO2.sim.writeLoop hr2 hbut3 fun hle => ⟨y.own, ⟨tmy, dey, by
                  simp only [k3]
                  rw [Array.getElem?_setIfInBounds, if_pos rfl, if_pos hw2]
                  cases j <;> simp [r3, loopState, hrb], fun _ => by
                  have ef : k3.fid l = k.fid l := efid
                  rw [ef]
                  refine merge_ok hm hevo.le (q2 hrb) (hO2.fr.heapLoop hO2.sim hr2 hbut3) fun t ht => ?_
                  have hct : (lvKeys r.fr).contains t = true := by simpa using ht
                  rw [w2.fixed t hct, w1.fixed t hct, p4 t (fun hin => by rw [(hpar t hin).2] at hct; simp at hct)], y3, fn, hfn, hsz⟩, by
                  intro hd
                  cases j with
                  | none => rfl
                  | some x => simp [r3] at hd⟩
                refine ⟨k3, .bool j.isNone, ?_, by simp [Rep], hS3, hevo, hO2.bound, LK.round hr w1.lk w2.lk rfl rfl hrb (by simp [r3, hrb])⟩
                have hrun := yield_run (P := E.P) (vs := vs) q1 (by have := p3; simpa using this)
                have e2' : (j = none ∧ todo2 = []) ∨ (∃ t, j = some .ret ∧ todo2 = .code .ret :: t) ∨ (∃ id t, j = some (.exit id) ∧ todo2 = .code (.exit id) :: t ∧ exitTo id t = none) := by
                  cases j with
                  | none => exact .inl ⟨rfl, e2⟩
                  | some x =>
                    cases x <;> first | exact e2.elim | skip
                    · rename_i id
                      obtain ⟨t, g1, g2⟩ := e2
                      exact .inr (.inr ⟨id, t, rfl, g1, g2⟩)
                    · obtain ⟨t, g1⟩ := e2
                      exact .inr (.inl ⟨t, rfl, g1⟩)
                have s2' : Steps E.P (lone (frm r.fn (some (k.lo l)) t1 [.code r.body] []) (F :: cs) k1'.w) (lone (frm r.fn (some (k.lo l)) t2 todo2 []) (F :: cs) k2.w) := s2
                have y1' := y1
                rw [elo] at y1'
                have x1' := x1
                rw [lo1] at x1'
                have s3 := st_end_round (P := E.P) (fn := r.fn) (tmps := t2) (de := []) (F := F) (cs := cs) e2' y1'
                have hk1 : k1'.w = { k1.w with heap := k1.w.heap.setIfInBounds (k.lo l) (.loop { state := .busy, pending := rb.pending, fn := rb.fn, tmps := tmx, params := rb.params, assign := rb.assign, body := rb.body, defers := dex }) } := by
                  simp only [k1', lo1]
                have hk3 : k3.w = { k2.w with heap := k2.w.heap.setIfInBounds (k.lo l) (.loop { state := if j.isNone then .ready else .done, pending := j, fn := r.fn, tmps := tmy, params := r.params, assign := r.assign, body := r.body, defers := dey }) } := by
                  simp only [k3, elo]
                rw [hk1] at s2'
                rw [hk3]
                exact .head (hap.round hrun) (s1.trans (.head (st_beginRound x1' (by simp [rb, loopState])) (s2'.trans (.one s3))))
              · simp at hc
            · simp at hc
          · simp at hc
        · simp at hc
      · simp at hc
  · simp at hc
end
end Go.V

/- Loops over functions. -/
namespace Go.V
section
variable {E : Env} {k k' k0 k1 k2 : K} {S S0 S1 S2 : St} {f n d : Nat} {T : Nat → Prop} {g : G} {tmps : Array Value}

theorem keptYH_get {m : Nat} : ∀ {a b : List Block} {i : Nat} {x : Block}, keptYH m a b = true → b[i]? = some x → a[i]? = some x ∨ x.noY m = true
  | [], b, i, x, h, hi => by
    simp only [keptYH, List.all_eq_true] at h
    exact .inr (h x (List.mem_of_getElem? hi))
  | a :: l, b :: r, 0, x, h, hi => by
    simp only [keptYH, Bool.and_eq_true, Bool.or_eq_true] at h
    simp only [List.getElem?_cons_zero, Option.some.injEq] at hi; subst hi
    rcases h.1 with h | h
    · exact .inr h
    · exact .inl (by rw [Block.beq_eq h]; rfl)
  | a :: l, b :: r, i + 1, x, h, hi => by
    simp only [keptYH, Bool.and_eq_true] at h
    simpa using keptYH_get (i := i) h.2 (by simpa using hi)
  | _ :: _, [], _, _, h, _ => by simp [keptYH] at h
theorem frY_get {m : Nat} : ∀ {a b : Fr} {t : Nat} {v : Val}, frY m a b = true → b.get t = some v → a.get t = some v ∨ v.noY m = true
  | (s, u) :: a, (t', w) :: b, t, v, h, hv => by
    simp only [frY, Bool.and_eq_true, Bool.or_eq_true, beq_iff_eq] at h
    obtain ⟨⟨rfl, h1⟩, h2⟩ := h
    simp only [Fr.get] at hv ⊢
    split at hv
    · simp only [Option.some.injEq] at hv; subst hv
      rename_i e; rw [if_pos e]
      rcases h1 with h1 | h1
      · exact .inr h1
      · exact .inl (by rw [Val.beq_eq _ _ h1])
    · rename_i e; rw [if_neg e]; exact frY_get h2 hv
  | [], [], _, _, _, hv => by simp [Fr.get] at hv
  | [], _ :: _, _, _, h, _ => by simp [frY] at h
  | _ :: _, [], _, _, h, _ => by simp [frY] at h
theorem keptYL_get {m : Nat} : ∀ {a b : List LoopRec} {i : Nat} {x y : LoopRec}, keptYL m a b = true → a[i]? = some x → b[i]? = some y → y.busy = true ∨ frY m x.fr y.fr = true
  | a :: l, b :: r, 0, x, y, h, hi, hj => by
    simp only [keptYL, Bool.and_eq_true, Bool.or_eq_true] at h
    simp only [List.getElem?_cons_zero, Option.some.injEq] at hi hj; subst hi; subst hj
    exact h.1
  | a :: l, b :: r, i + 1, x, y, h, hi, hj => by
    simp only [keptYL, Bool.and_eq_true] at h
    exact keptYL_get (i := i) h.2 (by simpa using hi) (by simpa using hj)
  | [], _, _, _, _, _, hi, _ => by simp at hi
  | _ :: _, [], _, _, _, h, _, _ => by simp [keptYL] at h

/-- a loop begins -/
theorem push_loop (hS : Sim E k S) (f : Nat) (L : Loop) {r : LoopRec} (hb : r.busy = false) (hd : r.done = false) (hp : r.pending = none) (hL : L = { state := .ready, pending := none, fn := r.fn, tmps := L.tmps, params := r.params, assign := r.assign, body := r.body, defers := L.defers })
    (hF : FRep k f r.fr.get L.tmps) {fn : Func} (hfn : E.P.funcs[r.fn]? = some fn) (hsz : L.tmps.size = fn.ntmps) :
    let k' : K := { k with lo := fun l => if l = S.L.length then k.w.heap.size else k.lo l, lp := fun l => if l = S.L.length then (f, L.tmps) else k.lp l,
                           own := fun c => if c = k.w.heap.size then some (.loop S.L.length) else k.own c, w := k.w.alloc (.loop L) }
    k.Le k' ∧ Sim E k' { S with L := S.L ++ [r] } ∧ (∀ T, Evo k k' T) := by
  intro k'
  have hold : ∀ {c : Nat}, c < k.w.heap.size → k'.own c = k.own c ∧ k'.w.heap[c]? = k.w.heap[c]? := by
    intro c hc
    refine ⟨by simp only [k']; rw [if_neg (by omega)], ?_⟩
    show (k.w.heap.push _)[c]? = _
    rw [Array.getElem?_push, if_neg (by omega)]
  have hle : k.Le k' := by
    refine ⟨fun b s h => .inl ⟨h, rfl, rfl⟩, fun l hl => ?_, fun c hc hn => ⟨by rw [(hold hc).1]; exact hn, (hold hc).2⟩⟩
    have hne : l ≠ S.L.length := by have := hS.dead _ _ hl; omega
    simp only [k', hne, if_false]
    refine ⟨trivial, ?_, trivial⟩
    have := hS.ownlt _ _ hl
    rw [if_neg (by omega)]; exact hl
  refine ⟨hle, ⟨hS.sh, ?_, ?_, ?_, fun g cs hg => (hS.glob g cs hg).mono hle, ?_⟩, fun T => ⟨hle, rfl, rfl, rfl, by simp [k'], fun c hc _ => hold hc⟩⟩
  · intro b blk hb
    have q := hS.blk b blk hb
    have lt := hS.ownlt _ _ q.own
    exact q.mono hle rfl rfl (hold lt).1 (hold lt).2
  · intro l q hq
    by_cases e : l = S.L.length
    · subst e
      simp only [List.getElem?_append_right (Nat.le_refl _), Nat.sub_self, List.getElem?_cons_zero, Option.some.injEq] at hq
      subst hq
      refine ⟨by simp [k'], ⟨L.tmps, L.defers, ?_, fun _ => ?_, by simp [k', K.tm], fn, hfn, hsz⟩, fun _ => hp⟩
      · simp only [k', if_true]
        show (k.w.heap.push _)[_]? = _
        rw [Array.getElem?_push_size]
        simp only [loopState, hb, hd, hp, Bool.false_eq_true, if_false]
        rw [← hL]
      · have : k'.fid S.L.length = f := by simp [k', K.fid]
        rw [this]
        exact hF.mono hle fun c t hc => hold (hS.ownlt _ _ hc)
    · have lt : l < S.L.length := by
        have := (List.getElem?_eq_some_iff.1 hq).1
        simp at this; omega
      rw [List.getElem?_append_left lt] at hq
      have p := hS.loop l q hq
      obtain ⟨tm, de, q1, q2, q3, q4⟩ := p.rep
      have olt := hS.ownlt _ _ p.own
      refine ⟨by simp only [k', e, if_false]; rw [if_neg (by omega)]; exact p.own, ⟨tm, de, by simp only [k', e, if_false]; exact (hold olt).2.trans q1, fun hbz => ?_, by simp only [k', K.tm, e, if_false]; exact q3, q4⟩, p.pend⟩
      have : k'.fid l = k.fid l := by simp [k', K.fid, e]
      rw [this]
      exact (q2 hbz).mono hle fun c t hc => hold (hS.ownlt _ _ hc)
  · intro c o hc
    show c < (k.w.heap.push _).size
    simp only [k'] at hc
    by_cases e : c = k.w.heap.size
    · simp; omega
    · rw [if_neg e] at hc; have := hS.ownlt c o hc; simp; omega
  · intro c l hc
    simp only [k'] at hc
    simp only [List.length_append, List.length_cons, List.length_nil]
    by_cases e : c = k.w.heap.size
    · rw [if_pos e] at hc; simp only [Option.some.injEq, Own.loop.injEq] at hc; omega
    · rw [if_neg e] at hc; have := hS.dead c l hc; omega

/-- a loop is over -/
def unloop (k : K) (m : Nat) (o : Obj) : K :=
  { k with own := fun c => if k.own c = some (.loop m) then none else k.own c, w := { k.w with heap := k.w.heap.setIfInBounds (k.lo m) o } }

theorem unloop_own {m : Nat} {o : Obj} {c : Nat} (h : k.own c ≠ some (.loop m)) : (unloop k m o).own c = k.own c := by simp only [unloop, h, if_false]
theorem unloop_heap {m : Nat} {o : Obj} {c : Nat} (h : c ≠ k.lo m) : (unloop k m o).w.heap[c]? = k.w.heap[c]? := by
  simp only [unloop]; rw [Array.getElem?_setIfInBounds, if_neg (Ne.symm h)]
theorem unloop_some {m : Nat} {o : Obj} {c : Nat} {x : Own} (h : (unloop k m o).own c = some x) : k.own c = some x ∧ x ≠ .loop m := by
  simp only [unloop] at h
  split at h
  · simp at h
  · rename_i e
    exact ⟨h, by rintro rfl; exact e h⟩

theorem unloop_cut {m : Nat} {o : Obj} (hown : k.own (k.lo m) = some (.loop m)) : Cut k (unloop k m o) (fun _ => True) (· < m) where
  sh := fun b _ => ⟨rfl, rfl, rfl⟩
  lp := fun l hl h => ⟨rfl, by rw [unloop_own (by rw [h]; simp; omega)]; exact h, rfl⟩
  inl := fun c h => ⟨by rw [unloop_own (by rw [h]; simp)]; exact h, unloop_heap (by rintro rfl; rw [hown] at h; simp at h)⟩

theorem unloop_le (hS : Sim E k S) (h : k.Le k2) {m : Nat} (hm : m = S.L.length) {o : Obj} (hown : k2.own (k2.lo m) = some (.loop m)) : k.Le (unloop k2 m o) where
  sh := h.sh
  loop := fun l hl => by
    obtain ⟨h1, h2, h3⟩ := h.loop l hl
    have : l < m := by rw [hm]; exact hS.dead _ _ hl
    exact ⟨h1, by rw [unloop_own (by rw [h2]; simp; omega)]; exact h2, h3⟩
  inl := fun c hc hn => by
    obtain ⟨h1, h2⟩ := h.inl c hc hn
    exact ⟨by rw [unloop_own (by rw [h1]; simp)]; exact h1, (unloop_heap (by rintro rfl; rw [hown] at h1; simp at h1)).trans h2⟩

theorem unloop_evo (hS : Sim E k S) (h : Evo k k2 T) {m : Nat} (hm : m = S.L.length) {o : Obj} (hown : k2.own (k2.lo m) = some (.loop m)) : Evo k (unloop k2 m o) T where
  le := unloop_le hS h.le hm hown
  os := h.os
  tape := h.tape
  output := h.output
  size := by simp only [unloop, Array.size_setIfInBounds]; exact h.size
  keep := fun c hc ht => by
    obtain ⟨h1, h2⟩ := h.keep c hc ht
    have hne : k2.own c ≠ some (.loop m) := by
      intro e
      rw [h1] at e
      have := hS.dead _ _ e
      omega
    exact ⟨(unloop_own hne).trans h1, (unloop_heap (by rintro rfl; exact hne hown)).trans h2⟩

theorem unloop_sim (hS : Sim E k S) (hS2 : Sim E k2 S2) (hle : k.Le k2) {m : Nat} (hm : m = S.L.length) {o : Obj} (hown : k2.own (k2.lo m) = some (.loop m)) (hlen : S2.L.length = m + 1)
    (hblk : ∀ (b : Nat) (blk : Block), S2.H[b]? = some blk → blk.Fine (fun _ => True) (· < m))
    (hloop : ∀ (l : Nat) (r : LoopRec), l < m → S2.L[l]? = some r → r.busy = false → ∀ t v, r.fr.get t = some v → v.Fine (fun _ => True) (· < m)) : Sim E (unloop k2 m o) { S2 with L := S2.L.take m } where
  sh := hS2.sh
  blk := fun b blk hb => by
    have r := hS2.blk b blk hb
    exact r.cutTo (unloop_cut hown) trivial (unloop_own (by rw [r.own]; simp)) (unloop_heap (by intro e; have := r.own; rw [e, hown] at this; simp at this)) (hblk b blk hb)
  loop := fun l r hr => by
    simp only [List.getElem?_take] at hr
    split at hr
    · rename_i hlt
      have p := hS2.loop l r hr
      obtain ⟨tm, de, q1, q2, q3, q4⟩ := p.rep
      have ne : k2.lo l ≠ k2.lo m := by
        intro e; have := p.own; rw [e, hown] at this; simp only [Option.some.injEq, Own.loop.injEq] at this; omega
      refine ⟨by
        show (unloop k2 m o).own (k2.lo l) = _
        rw [unloop_own (by rw [p.own]; simp; omega)]; exact p.own, ⟨tm, de, (unloop_heap ne).trans q1, fun hb => ?_, q3, q4⟩, p.pend⟩
      exact (q2 hb).cutTo (unloop_cut hown) (fun c t hc => ⟨unloop_own (by rw [hc]; simp), unloop_heap (by rintro rfl; rw [hown] at hc; simp at hc)⟩) (hloop l r hlt hr hb)
    · simp at hr
  ownlt := fun c x h => by
    have := hS2.ownlt c x (unloop_some h).1
    simpa only [unloop, Array.size_setIfInBounds] using this
  glob := fun g cs hg => (hS.glob g cs hg).mono (unloop_le hS hle hm hown)
  dead := fun c l h => by
    obtain ⟨h1, h2⟩ := unloop_some h
    have := hS2.dead c l h1
    have hne : l ≠ m := by rintro rfl; exact h2 rfl
    simp only [List.length_take]
    omega

theorem st_endRange {P : Program} {fn : FuncId} {ro : Option Nat} {l : Nat} {k : List Item} {de : List Deferred} {cs : List Frame} {w : World} {r : Loop} (hl : w.heap[l]? = some (.loop r)) (hr : r.state ≠ .busy) :
    step P (lone (frm fn ro tmps (.endRangeFunc l :: k) de) cs w) = .next (lone (frm fn ro tmps ((r.pending.map Item.code).toList ++ k) de) cs { w with heap := w.heap.setIfInBounds l (.loop { r with state := .exhausted }) }) := by
  have he : (Instr.endLoop l).run P w = .ok r.pending { w with heap := w.heap.setIfInBounds l (.loop { r with state := .exhausted }) } := by
    simp [Instr.endLoop, Instr.getLoop, getObj, setObj, Sem.run, hl, hr, Sem.run_bind]
  exact step_lone_go (by simp [stepG, stepG.exec, frm, he])

theorem LK.takeLoop {L L2 : List LoopRec} {r : LoopRec} (h : LK (L ++ [r]) L2) : LK L (L2.take L.length) := by
  have hl : L2.length = L.length + 1 := by rw [h.eq.1]; simp
  refine ⟨⟨by rw [List.length_take]; omega, fun l a b ha hb => ?_⟩, fun l a ha hb => ?_⟩
  · have hlt := (List.getElem?_eq_some_iff.1 ha).1
    rw [List.getElem?_take, if_pos hlt] at hb
    exact h.eq.2 l a b (by rw [List.getElem?_append_left hlt]; exact ha) hb
  · have hlt := (List.getElem?_eq_some_iff.1 ha).1
    rw [List.getElem?_take, if_pos hlt]
    exact h.busy l a (by rw [List.getElem?_append_left hlt]; exact ha) hb
end
end Go.V

/- A loop over a function, from its head to its end. -/
namespace Go.V
section
variable {E : Env} {k k' k0 k1 k2 : K} {S S0 S1 S2 : St} {f n d : Nat} {T : Nat → Prop} {g : G} {tmps : Array Value}

/-- the machine at the head of a loop -/
theorem applies_loop {P : Program} {fn : FuncId} {ro : Option Nat} {items : List Item} {de : List Deferred} {cs : List Frame} {w w1 : World} {fo : Operand} {ps : Array Tmp} {a b : Code} {l : Nat} {mark : List Deferred}
    (he : (Instr.enterLoop fn tmps ps a b ro).run P w = .ok (l, mark) w1) {q : FuncId} {cap : Array Value} (hf : evT tmps fo = .func (.func q) #[] cap) :
    Applies P (lone (frm fn ro tmps (.code (.rangeFunc fo ps a b) :: items) de) cs w) (frm fn ro tmps (.inRangeFunc l :: items) (mark ++ de)) cs (callFunc q (#[.func (.yield l) #[] #[]] ++ cap)) w1 := by
  intro fr' cs' w' hb
  refine step_lone_go ?_
  rw [← hb]
  have hev := frm_eval fn ro tmps (.inRangeFunc l :: items) (mark ++ de)
  simp only [frm] at *
  simp only [stepG, stepG.exec, Sem.runT_eq, he, GStep.bare_after]
  simp only [stepG.apply, Sem.runT_eq, if_true, GStep.bare_after]
  have hrun : (do let d ← resolve (Frame.eval { fn, tmps, todo := .inRangeFunc l :: items, defers := mark ++ de, mode := .run, kind := .normal, roundOf := ro }) { callee := .value fo, args := #[.const (.func (.yield l) #[] #[])], argTypes := #[] } 0; invoke d.target d.args : Sem Next).run P w1 =
      (callFunc q (#[.func (.yield l) #[] #[]] ++ cap)).run P w1 := by
    simp only [hev, resolve, Deferred.ofValue, hf, Sem.run_bind, Sem.run_pure, Result.andThen_ok, invoke]
    simp [evT]
  rw [hrun]

theorem enterLoop_none {P : Program} {fn : FuncId} {ps : Array Tmp} {a b : Code} {w : World} :
    (Instr.enterLoop fn tmps ps a b none).run P w = .ok (w.heap.size + 1, [markD w.heap.size])
      ((w.alloc (.deferred (some []))).alloc (.loop { state := .ready, pending := none, fn, tmps, params := ps, assign := a, body := b, defers := w.heap.size })) := by
  simp [Instr.enterLoop, Sem.run_bind, markD]
theorem enterLoop_some {P : Program} {fn : FuncId} {ps : Array Tmp} {a b : Code} {w : World} {l : Nat} {r : Loop} (hl : w.heap[l]? = some (.loop r)) :
    (Instr.enterLoop fn tmps ps a b (some l)).run P w = .ok (w.heap.size, []) (w.alloc (.loop { state := .ready, pending := none, fn, tmps, params := ps, assign := a, body := b, defers := r.defers })) := by
  simp [Instr.enterLoop, Instr.getLoop, getObj, Sem.run, Sem.run_bind, hl]

theorem new_mark (hS : Sim E k S) (hF : FRep k f g tmps) {de : List Deferred} (hM : Marks k f de) (hB : Bound k d) (hlt : f < d) :
    ∃ k', k'.w = k.w.alloc (.deferred (some [])) ∧ Sim E k' S ∧ (∀ T, Evo k k' T) ∧ FRep k' f g tmps ∧ Marks k' f (markD k.w.heap.size :: de) ∧ Bound k' d := by
  let k' : K := { k with own := fun c => if c = k.w.heap.size then some (.mark f) else k.own c, w := k.w.alloc (.deferred (some [])) }
  have hN : New k k' (some (.mark f)) := {
    lo := rfl
    own := rfl
    lp := rfl
    size := by simp [k']
    os := rfl
    tape := rfl
    output := rfl
    heap := fun c hc => by
      show (k.w.heap.push _)[c]? = _
      rw [Array.getElem?_push, if_neg (by omega)] }
  have hold : ∀ b s, k.sh b = some s → k'.sh b = some s ∧ k'.σ b = k.σ b ∧ k'.room b = k.room b := fun b s hb => ⟨hb, rfl, rfl⟩
  have hle := hN.le hS hold
  refine ⟨k', rfl, hS.new hN rfl rfl rfl, hN.evo hS hold, hF.mono hle fun c t hc => ⟨hN.own_old (hS.ownlt _ _ hc), hN.heap c (hS.ownlt _ _ hc)⟩, ?_, hB.new hN (by simp) (by rintro f' h; simp only [Option.some.injEq, Own.mark.injEq] at h; omega)⟩
  obtain ⟨ms, h1, h2, h3⟩ := hM
  refine ⟨k.w.heap.size :: ms, by rw [h1]; rfl, List.nodup_cons.2 ⟨fun h => ?_, h2⟩, fun m hm => ?_⟩
  · have := hS.ownlt _ _ (h3 _ h).1; omega
  · rcases List.mem_cons.1 hm with rfl | hm
    · refine ⟨by simp [k'], ?_⟩
      show (k.w.heap.push _)[_]? = _
      rw [Array.getElem?_push_size]
    · obtain ⟨p1, p2⟩ := h3 m hm
      have lt := hS.ownlt _ _ p1
      exact ⟨(hN.own_old lt).trans p1, (hN.heap m lt).trans p2⟩

/-- A LOOP OVER A FUNCTION. -/
theorem loop_ok {rec : Rec} (hcall : ∀ h args S v S', callV rec E h args S = some (v, S') → CallOk E h args S v S') {c : Ctx} {fr : Fr} {de : List Deferred} {ro : Option Nat}
    (hO : FrOk E k S f d c.n ro fr.get tmps de) {fo : Operand} {ps : Array Tmp} {a b : Code} {q : FuncId} {cap : List Val} (hf : ev E fr.get fo = some (.fn q cap)) {fn : Func} (hfn : E.P.funcs[c.f]? = some fn) (hn : fn.ntmps = c.n)
    {v : Val} (hc : callV rec E q (.yield S.L.length :: cap) { S with L := S.L ++ [⟨c.f, fr, ps, a, b, false, false, false, none⟩] } = some (v, S2)) {r : LoopRec} (hr : S2.L[S.L.length]? = some r)
    (hrb : r.busy = false) (hkH : keptYH S.L.length S.H S2.H = true) (hkL : keptYL S.L.length S.L S2.L = true) (hkF : frY S.L.length fr r.fr = true) (items : List Item) (cs : List Frame) :
    ∃ k' mark, Steps E.P (lone (frm c.f ro tmps (.code (.rangeFunc fo ps a b) :: items) de) cs k.w) (lone (frm c.f ro tmps ((r.pending.map Item.code).toList ++ items) (mark ++ de)) cs k'.w) ∧
      FrOk E k' { S2 with L := S2.L.take S.L.length } f d c.n ro r.fr.get tmps (mark ++ de) ∧ Went c f k S tmps k' { S2 with L := S2.L.take S.L.length } tmps ∧ (ro ≠ none → mark = []) := by
  -- the loop begins
  have begin : ∃ kA mark, (∀ T, Evo k kA T) ∧ Sim E kA S ∧ FRep kA f fr.get tmps ∧ Marks kA f (mark ++ de) ∧ Bound kA d ∧ (ro ≠ none → mark = []) ∧
      ∃ df, (Instr.enterLoop c.f tmps ps a b ro).run E.P k.w = .ok (kA.w.heap.size, mark) (kA.w.alloc (.loop { state := .ready, pending := none, fn := c.f, tmps, params := ps, assign := a, body := b, defers := df })) := by
    cases hro : ro with
    | none =>
      obtain ⟨kA, hkA, h1, h2, h3, h4, h5⟩ := new_mark hO.sim hO.fr hO.marks hO.bound hO.lt
      refine ⟨kA, [markD k.w.heap.size], h2, h1, h3, h4, h5, fun h => absurd rfl h, k.w.heap.size, ?_⟩
      rw [hkA, enterLoop_none]
      simp
    | some x =>
      obtain ⟨l, q, rfl, hq⟩ := hO.ro x hro
      obtain ⟨tm, de', q1, _⟩ := (hO.sim.loop l q hq).rep
      exact ⟨k, [], fun _ => .refl _ _, hO.sim, hO.fr, hO.marks, hO.bound, fun _ => rfl, de', enterLoop_some q1⟩
  obtain ⟨kA, mark, eA, SA, FA, MA, BA, hmark, df, hent⟩ := begin
  have hfr : Rep k (.fn q cap) (evT tmps fo) := (ev_rep hO.sim hO.fr hf).1
  simp only [Rep] at hfr
  obtain ⟨capv, hfv, hcap⟩ := hfr
  have hap := applies_loop (P := E.P) (fn := c.f) (ro := ro) (items := items) (de := de) (cs := cs) hent hfv
  let L0 : Loop := { state := .ready, pending := none, fn := c.f, tmps, params := ps, assign := a, body := b, defers := df }
  obtain ⟨leB, SB, eB⟩ := push_loop (r := ⟨c.f, fr, ps, a, b, false, false, false, none⟩) SA f L0 rfl rfl rfl rfl FA hfn (by rw [hn]; exact hO.size)
  let kB : K := { kA with lo := fun l => if l = S.L.length then kA.w.heap.size else kA.lo l, lp := fun l => if l = S.L.length then (f, tmps) else kA.lp l,
                          own := fun c => if c = kA.w.heap.size then some (.loop S.L.length) else kA.own c, w := kA.w.alloc (.loop L0) }
  change kA.Le kB at leB
  change Sim E kB _ at SB
  change ∀ T, Evo kA kB T at eB
  have loB : kB.lo S.L.length = kA.w.heap.size := by simp [kB]
  have ownB : kB.own (kB.lo S.L.length) = some (.loop S.L.length) := by rw [loB]; simp [kB]
  have fidB : ∀ l, l < S.L.length → kB.fid l = kA.fid l := fun l hl => by simp [kB, K.fid, Nat.ne_of_lt hl]
  have fidB' : kB.fid S.L.length = f := by simp [kB, K.fid]
  have eKB : ∀ T, Evo k kB T := fun T => (eA T).trans (eB T) fun _ _ _ h => h
  have hbusyA := hO.busy.after hO.sim (eA (fun _ => False)) (.refl S.L)
  have hbelowA := hO.below.after hO.sim (eA (fun _ => False)) (.refl S.L)
  have hBB : Bound kB d := by
    intro x
    simp only [kB]
    by_cases e : x = kA.w.heap.size
    · simp [e]
    · simp only [e, if_false]; exact BA x
  have hbelowB : Below kB { S with L := S.L ++ [⟨c.f, fr, ps, a, b, false, false, false, none⟩] } d := by
    have get : ∀ {l : Nat} {r : LoopRec}, (S.L ++ [⟨c.f, fr, ps, a, b, false, false, false, none⟩])[l]? = some r → (l < S.L.length ∧ S.L[l]? = some r) ∨ l = S.L.length := by
      intro l r h
      rcases Nat.lt_or_ge l S.L.length with lt | ge
      · rw [List.getElem?_append_left lt] at h; exact .inl ⟨lt, h⟩
      · have := (List.getElem?_eq_some_iff.1 h).1
        simp at this
        exact .inr (by omega)
    constructor
    · intro l r h
      rcases get h with ⟨lt, h⟩ | rfl
      · rw [fidB l lt]; exact hbelowA.1 l r h
      · rw [fidB']; exact hO.lt
    · intro l l' r r' h h' hb hb' hff
      rcases get h with ⟨lt, h⟩ | rfl
      · rcases get h' with ⟨lt', h'⟩ | rfl
        · rw [fidB l lt, fidB l' lt'] at hff
          exact hbelowA.2 l l' r r' h h' hb hb' hff
        · rw [fidB l lt, fidB'] at hff
          rw [hbusyA l r h hff] at hb; simp at hb
      · rcases get h' with ⟨lt', h'⟩ | rfl
        · rw [fidB', fidB l' lt'] at hff
          rw [hbusyA l' r' h' hff.symm] at hb'; simp at hb'
        · rfl
  have hargs : RepAll kB (.yield S.L.length :: cap) (#[Value.func (.yield kA.w.heap.size) #[] #[]] ++ capv).toList := by
    rw [Array.toList_append]
    simp only [List.cons_append, List.nil_append, RepAll]
    refine ⟨?_, hcap.mono (eKB (fun _ => False)).le⟩
    simp only [Rep]
    exact ⟨ownB, by rw [loB]⟩
  obtain ⟨k2, cv, s2, _, hS2, e2, hB2, lk2⟩ := hcall _ _ _ _ _ hc kB d _ SB hBB hbelowB hargs _ _ cs ⟨rfl, .inr ⟨_, _, rfl⟩⟩ hap
  -- the loop ends
  have hrB : ({ S with L := S.L ++ [⟨c.f, fr, ps, a, b, false, false, false, none⟩] } : St).L[S.L.length]? = some ⟨c.f, fr, ps, a, b, false, false, false, none⟩ := by simp
  obtain ⟨lo2, fid2, tm2⟩ := fid_kept SB e2 hrB
  have y := hS2.loop _ r hr
  obtain ⟨tmy, dey, y1, y2, y3, _⟩ := y.rep
  have own2 : k2.own (k2.lo S.L.length) = some (.loop S.L.length) := y.own
  have elo : k2.lo S.L.length = kA.w.heap.size := lo2.trans loB
  have etm : tmy = tmps := by rw [y3, tm2]; simp [kB, K.tm]
  subst etm
  have hlen2 : S2.L.length = S.L.length + 1 := by rw [lk2.eq.1]; simp
  have eK2 : Evo k k2 (touchF k S.L f) := (eKB (touchF k S.L f)).trans e2 fun x hx ho ht => by
    unfold touch at ht
    rw [ho] at ht
    cases hox : k.own x with
    | none => rw [hox] at ht; exact ht.elim
    | some o =>
      rw [hox] at ht
      cases o with
      | lv f' t' =>
        obtain ⟨l, q, g1, g2, g3⟩ := ht
        rcases Nat.lt_or_ge l S.L.length with lt | ge
        · simp only at g1
          rw [List.getElem?_append_left lt] at g1
          left
          unfold touch
          rw [hox]
          exact ⟨l, q, g1, g2, by rw [← g3, fidB l lt]; exact ((fid_kept hO.sim (eA (fun _ => False)) g1).2.1).symm⟩
        · have := (List.getElem?_eq_some_iff.1 g1).1
          simp at this
          have : l = S.L.length := by omega
          subst this
          rw [fidB'] at g3
          right
          exact ⟨t', by rw [hox, g3]⟩
      | h _ => left; unfold touch; rw [hox]; trivial
      | loop _ => left; unfold touch; rw [hox]; trivial
      | mark _ => exact ht.elim
  let ob : Obj := .loop { state := .exhausted, pending := r.pending, fn := r.fn, tmps := tmy, params := r.params, assign := r.assign, body := r.body, defers := dey }
  have old2 : ∀ {l : Nat} {r' : LoopRec}, l < S.L.length → S2.L[l]? = some r' → ∃ q, S.L[l]? = some q ∧ r'.busy = q.busy := by
    intro l r' lt h
    obtain ⟨q, hq, e⟩ := lk2.eq.back h
    simp only at hq
    rw [List.getElem?_append_left lt] at hq
    exact ⟨q, hq, e⟩
  have fineF : ∀ t v, r.fr.get t = some v → v.Fine (fun _ => True) (· < S.L.length) := by
    intro t v hv
    rcases frY_get hkF hv with h | h
    · exact ((hO.fr t v h).fine hO.sim).mono (fun _ _ => trivial) (fun _ h => h)
    · exact Val.noY_fine _ _ h
  have hS3 : Sim E (unloop k2 S.L.length ob) { S2 with L := S2.L.take S.L.length } := by
    refine unloop_sim hO.sim hS2 eK2.le rfl own2 hlen2 ?_ ?_
    · intro bb blk hb
      rcases keptYH_get hkH hb with h | h
      · exact ((hO.sim.blk bb blk h).fine hO.sim).mono (fun _ _ => trivial) (fun _ h => h)
      · exact Block.noY_fine h
    · intro l r' lt hr' hb' t v hv
      obtain ⟨q, hq, eb⟩ := old2 lt hr'
      rcases keptYL_get hkL hq hr' with h | h
      · rw [hb'] at h; simp at h
      · rcases frY_get h hv with h | h
        · obtain ⟨tm, _, _, q2, _⟩ := (hO.sim.loop l q hq).rep
          exact ((q2 (by rw [← eb]; exact hb') t v h).fine hO.sim).mono (fun _ _ => trivial) (fun _ h => h)
        · exact Val.noY_fine _ _ h
  have e3 : Evo k (unloop k2 S.L.length ob) (touchF k S.L f) := unloop_evo hO.sim eK2 rfl own2
  have lk3 : LK S.L (S2.L.take S.L.length) := lk2.takeLoop
  have fid2f : k2.fid S.L.length = f := fid2.trans fidB'
  have hF3 : FRep (unloop k2 S.L.length ob) f r.fr.get tmy := by
    have := y2 hrb
    rw [fid2f] at this
    exact this.cutTo (unloop_cut own2) (fun c' t hc' => ⟨unloop_own (by rw [hc']; simp), unloop_heap (by rintro rfl; rw [own2] at hc'; simp at hc')⟩) fineF
  have hM3 : Marks (unloop k2 S.L.length ob) f (mark ++ de) := by
    have h1 : Marks kB f (mark ++ de) := by
      obtain ⟨ms, p1, p2, p3⟩ := MA
      refine ⟨ms, p1, p2, fun m hm => ?_⟩
      obtain ⟨q1, q2⟩ := p3 m hm
      have lt := SA.ownlt _ _ q1
      obtain ⟨g1, g2⟩ := (eB (fun _ => False)).keep m lt (fun h => h)
      exact ⟨g1.trans q1, g2.trans q2⟩
    have h2 : Marks k2 f (mark ++ de) := h1.after SB e2 fun _ h => .inl h
    obtain ⟨ms, p1, p2, p3⟩ := h2
    refine ⟨ms, p1, p2, fun m hm => ?_⟩
    obtain ⟨q1, q2⟩ := p3 m hm
    exact ⟨(unloop_own (by rw [q1]; simp)).trans q1, (unloop_heap (by rintro rfl; rw [own2] at q1; simp at q1)).trans q2⟩
  have hB3 : Bound (unloop k2 S.L.length ob) d := fun x => ⟨fun f' t' h => (hB2 x).1 f' t' (unloop_some h).1, fun f' h => (hB2 x).2 f' (unloop_some h).1⟩
  refine ⟨unloop k2 S.L.length ob, mark, ?_, ?_, ⟨e3, lk3, fun _ _ => rfl⟩, hmark⟩
  · refine s2.trans (.one ?_)
    have hfin : (frm c.f ro tmy (.inRangeFunc kA.w.heap.size :: items) (mark ++ de)).finish cv = frm c.f ro tmy (.endRangeFunc kA.w.heap.size :: items) (mark ++ de) := rfl
    rw [hfin]
    have y1' := y1
    rw [elo] at y1'
    have hns : loopState r ≠ .busy := by
      simp only [loopState, hrb]
      cases r.done <;> simp
    have := st_endRange (P := E.P) (fn := c.f) (ro := ro) (tmps := tmy) (k := items) (de := mark ++ de) (cs := cs) y1' hns
    rw [this]
    simp only [unloop, elo, ob]
  · have := hO.after (S' := { S2 with L := S2.L.take S.L.length }) hS3 e3 lk3.eq hF3 hO.size hB3
    exact { this with marks := hM3 }
end
end Go.V
