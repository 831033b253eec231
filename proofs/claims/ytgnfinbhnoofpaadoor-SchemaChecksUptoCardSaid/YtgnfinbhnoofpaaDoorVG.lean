/- A region whose order is open comes to the same in every order. -/
import Derived.Test.YtgnfinbhnoofpaaDoorVF
set_option linter.unusedVariables false
set_option linter.unusedSimpArgs false
set_option linter.unusedSectionVars false
namespace Go.V
section
variable {E : Env} {rec : Rec} {c : Ctx}

def Did.U (d : Did) : List (Nat × Val) := d.ups ++ (match d.o.dst with | some t => [(t, d.v)] | none => [])

theorem upsG_append : ∀ (a b : List (Nat × Val)) (g : G), upsG g (a ++ b) = upsG (upsG g a) b
  | [], _, _ => rfl
  | (t, v) :: a, b, g => by simp only [List.cons_append, upsG, upsG_append a b]
theorem upsG_putG (g : G) (ups : List (Nat × Val)) (dst : Option Nat) (v : Val) : putG (upsG g ups) dst v = upsG g (ups ++ (match dst with | some t => [(t, v)] | none => [])) := by
  rw [upsG_append]
  cases dst <;> rfl
theorem Did.W_U (d : Did) (u : Nat) : u ∈ d.W ↔ ∃ v, (u, v) ∈ d.U := by
  unfold Did.W Did.U
  rw [List.mem_append, List.mem_map]
  constructor
  · rintro (h | ⟨⟨a, b⟩, h, rfl⟩)
    · cases hd : d.o.dst with
      | none => rw [hd] at h; simp at h
      | some t => rw [hd] at h; simp at h; subst h; exact ⟨d.v, by simp⟩
    · exact ⟨b, by simp [h]⟩
  · rintro ⟨v, h⟩
    rcases List.mem_append.1 h with h | h
    · exact .inr ⟨_, h, rfl⟩
    · cases hd : d.o.dst with
      | none => rw [hd] at h; simp at h
      | some t => rw [hd] at h; simp at h; left; simp [h.1]

theorem upsG_out {U : List (Nat × Val)} {g : G} {u : Nat} (h : ¬ ∃ v, (u, v) ∈ U) : upsG g U u = g u := by
  rcases upsG_mem U g u with ⟨v, h1, _⟩ | ⟨_, h2⟩
  · exact absurd ⟨v, h1⟩ h
  · exact h2
/-- what was written does not ask what was there -/
theorem upsG_in : ∀ {U : List (Nat × Val)} {g g' : G} {u : Nat}, (∃ v, (u, v) ∈ U) → upsG g U u = upsG g' U u
  | [], _, _, _, h => by obtain ⟨v, hv⟩ := h; simp at hv
  | (t, w) :: U, g, g', u, h => by
    simp only [upsG]
    by_cases hu : ∃ v, (u, v) ∈ U
    · exact upsG_in hu
    · rw [upsG_out hu, upsG_out hu]
      obtain ⟨v', hv⟩ := h
      rcases List.mem_cons.1 hv with hv | hv
      · simp only [Prod.mk.injEq] at hv; simp [hv.1]
      · exact absurd ⟨v', hv⟩ hu

/-- what a wanted operation came to -/
def ActOk (rec : Rec) (E : Env) (c : Ctx) (fr0 : Fr) (d : Did) : Prop :=
  ∃ r, opV E c d.fr.get d.S d.o = some r ∧ match r with
    | .val v k ups S' => d.k = k ∧ d.ups = ups ∧ d.S' = S' ∧ d.v = v.getD (.tup [])
    | .laid cs => d.k = .pure ∧ d.ups = [] ∧ d.S' = d.S ∧ d.v = .lv cs ∧ ∃ t, d.o.dst = some t ∧ noLoc t fr0 = true
    | .call h args => d.k = .eh ∧ d.ups = [] ∧ callV rec E h args d.S = some (d.v, d.S')
    | .yld l args => d.k = .eh ∧ d.ups = [] ∧ yieldV rec E l args d.S = some (d.v, d.S')
def TStep (rec : Rec) (E : Env) (c : Ctx) (all : Array Oper) (fr0 : Fr) (d : Did) (g1 : G) (S1 : St) : Prop :=
  S1 = d.S' ∧ g1 = upsG d.fr.get d.U ∧ dstOk c d.o.dst ∧
    ((wantedV all d.fr.get d.o = some false ∧ d.k = .pure ∧ d.S' = d.S ∧ d.ups = [] ∧ d.v = .tup []) ∨
     (wantedV all d.fr.get d.o = some true ∧ ActOk rec E c fr0 d))

theorem stepT_ok {fr0 fr fr1 : Fr} {S : St} {o : Oper} {d : Did} (h : stepT rec E c fr0 fr S o = some (fr1, d)) :
    d.o = o ∧ d.fr = fr ∧ d.S = S ∧ fr1.get = upsG d.fr.get d.U ∧ dstOk c d.o.dst ∧ ActOk rec E c fr0 d := by
  unfold stepT at h
  split at h
  · rename_i v k ups S' hr
    split at h
    · rename_i fr' hp
      simp only [Option.some.injEq, Prod.mk.injEq] at h
      obtain ⟨rfl, rfl⟩ := h
      obtain ⟨h1, h2⟩ := putO_get hp
      refine ⟨rfl, rfl, rfl, ?_, h2, _, hr, rfl, rfl, rfl, rfl⟩
      rw [h1, get_puts, upsG_putG]; rfl
    · simp at h
  · rename_i cs hr
    split at h
    · rename_i t ht
      split at h
      · rename_i hc
        simp only [Option.some.injEq, Prod.mk.injEq] at h
        obtain ⟨rfl, rfl⟩ := h
        refine ⟨rfl, rfl, rfl, ?_, fun t' ht' => ?_, _, hr, rfl, rfl, rfl, rfl, t, ht, hc.2.2⟩
        · rw [Fr.get_put]
          simp only [Did.U, ht, List.nil_append, upsG]
        · simp only at ht'
          rw [ht] at ht'; simp only [Option.some.injEq] at ht'; subst ht'
          exact ⟨hc.1, hc.2.1⟩
      · simp at h
    · simp at h
  · rename_i q args hr
    split at h
    · rename_i v S1 hv
      split at h
      · rename_i fr' hp
        simp only [Option.some.injEq, Prod.mk.injEq] at h
        obtain ⟨rfl, rfl⟩ := h
        obtain ⟨h1, h2⟩ := putO_get hp
        refine ⟨rfl, rfl, rfl, ?_, h2, _, hr, rfl, rfl, hv⟩
        rw [h1]
        have := upsG_putG fr.get [] o.dst v
        exact this
      · simp at h
    · simp at h
  · rename_i q args hr
    split at h
    · rename_i v S1 hv
      split at h
      · rename_i fr' hp
        simp only [Option.some.injEq, Prod.mk.injEq] at h
        obtain ⟨rfl, rfl⟩ := h
        obtain ⟨h1, h2⟩ := putO_get hp
        refine ⟨rfl, rfl, rfl, ?_, h2, _, hr, rfl, rfl, hv⟩
        rw [h1]
        have := upsG_putG fr.get [] o.dst v
        exact this
      · simp at h
    · simp at h
  · simp at h

def gAt (tr : List Did) (gF : G) (i : Nat) : G := match tr[i]? with | some d => d.fr.get | none => gF
def sAt (tr : List Did) (SF : St) (i : Nat) : St := match tr[i]? with | some d => d.S | none => SF

theorem opsT_ok {all : Array Oper} {fr0 : Fr} : ∀ (l : List Oper) {fr fr' : Fr} {S S' : St} {tr : List Did}, opsT rec E c all fr0 l fr S = some (fr', S', tr) →
    tr.length = l.length ∧ gAt tr fr'.get 0 = fr.get ∧ sAt tr S' 0 = S ∧
      ∀ i d, tr[i]? = some d → l[i]? = some d.o ∧ TStep rec E c all fr0 d (gAt tr fr'.get (i + 1)) (sAt tr S' (i + 1))
  | [], fr, fr', S, S', tr, h => by
    simp only [opsT, Option.some.injEq, Prod.mk.injEq] at h
    obtain ⟨rfl, rfl, rfl⟩ := h
    exact ⟨rfl, rfl, rfl, fun i d hd => by simp at hd⟩
  | o :: l, fr, fr', S, S', tr, h => by
    simp only [opsT] at h
    have shift : ∀ {d0 : Did} {tr' : List Did} {i : Nat}, gAt (d0 :: tr') fr'.get (i + 1) = gAt tr' fr'.get i ∧ sAt (d0 :: tr') S' (i + 1) = sAt tr' S' i := by
      intro d0 tr' i; simp [gAt, sAt]
    split at h
    · rename_i hw
      split at h
      · rename_i fr1 d hs
        split at h
        · rename_i fr2 S2 tr' ht
          simp only [Option.some.injEq, Prod.mk.injEq] at h
          obtain ⟨rfl, rfl, rfl⟩ := h
          obtain ⟨h1, h2, h3, h4⟩ := opsT_ok l ht
          obtain ⟨q1, q2, q3, q4, q5, q6⟩ := stepT_ok hs
          refine ⟨by simp [h1], by simp [gAt, q2], by simp [sAt, q3], fun i e he => ?_⟩
          cases i with
          | zero =>
            simp only [List.getElem?_cons_zero, Option.some.injEq] at he; subst he
            refine ⟨by simp [q1], ?_⟩
            rw [shift.1, shift.2, h2, h3]
            exact ⟨rfl, q4, q5, .inr ⟨by rw [q1, q2]; exact hw, q6⟩⟩
          | succ i =>
            simp only [List.getElem?_cons_succ] at he ⊢
            rw [shift.1, shift.2]
            exact h4 i e he
        · simp at h
      · simp at h
    · rename_i hw
      split at h
      · rename_i fr1 hp
        split at h
        · rename_i fr2 S2 tr' ht
          simp only [Option.some.injEq, Prod.mk.injEq] at h
          obtain ⟨rfl, rfl, rfl⟩ := h
          obtain ⟨h1, h2, h3, h4⟩ := opsT_ok l ht
          obtain ⟨p1, p2⟩ := putO_get hp
          refine ⟨by simp [h1], by simp [gAt], by simp [sAt], fun i e he => ?_⟩
          cases i with
          | zero =>
            simp only [List.getElem?_cons_zero, Option.some.injEq] at he; subst he
            refine ⟨by simp, ?_⟩
            rw [shift.1, shift.2, h2, h3]
            refine ⟨rfl, ?_, p2, .inl ⟨hw, rfl, rfl, rfl, rfl⟩⟩
            rw [p1]
            have := upsG_putG fr.get [] o.dst (.tup [])
            exact this
          | succ i =>
            simp only [List.getElem?_cons_succ] at he ⊢
            rw [shift.1, shift.2]
            exact h4 i e he
        · simp at h
      · simp at h
    · simp at h

theorem drawRow_get {all : Array Oper} {bef : List Nat} {i : Nat} {a : Did} : ∀ {l : List Did} {j m : Nat} {b : Did}, drawRow E c all bef i a j l = true → l[m]? = some b →
    (((bef.getD (j + m) 0).testBit i = true) ∨ (pairOk all a b = true ∧ stableAt E c a b = true)) ∧ lvOk a b = true
  | b :: l, j, 0, _, h, hm => by
    simp only [List.getElem?_cons_zero, Option.some.injEq] at hm; subst hm
    simp only [drawRow, Bool.and_eq_true, Bool.or_eq_true] at h
    exact ⟨h.1.1, h.1.2⟩
  | b :: l, j, m + 1, _, h, hm => by
    simp only [drawRow, Bool.and_eq_true] at h
    have := drawRow_get (j := j + 1) (m := m) h.2 (by simpa using hm)
    rwa [show j + 1 + m = j + (m + 1) by omega] at this
  | [], _, _, _, _, hm => by simp at hm
theorem drawOk_get {all : Array Oper} {bef : List Nat} : ∀ {l : List Did} {p i j : Nat} {a b : Did}, drawOk E c all bef p l = true → i < j → l[i]? = some a → l[j]? = some b →
    (((bef.getD (p + j) 0).testBit (p + i) = true) ∨ (pairOk all a b = true ∧ stableAt E c a b = true)) ∧ lvOk a b = true
  | x :: l, p, 0, j + 1, _, b, h, _, hi, hj => by
    simp only [List.getElem?_cons_zero, Option.some.injEq] at hi; subst hi
    simp only [drawOk, Bool.and_eq_true] at h
    have := drawRow_get h.1.2 (m := j) (by simpa using hj)
    rwa [show p + 1 + j = p + (j + 1) by omega] at this
  | x :: l, p, i + 1, j + 1, a, b, h, hlt, hi, hj => by
    simp only [drawOk, Bool.and_eq_true] at h
    have := drawOk_get (p := p + 1) (i := i) (j := j) h.2 (by omega) (by simpa using hi) (by simpa using hj)
    rwa [show p + 1 + j = p + (j + 1) by omega, show p + 1 + i = p + (i + 1) by omega] at this
  | _, _, _, 0, _, _, _, hlt, _, _ => by omega
  | [], _, 0, _ + 1, _, _, _, _, hi, _ => by simp at hi
  | [], _, _ + 1, _ + 1, _, _, _, _, hi, _ => by simp at hi
theorem drawOk_ups {all : Array Oper} {bef : List Nat} : ∀ {l : List Did} {p i : Nat} {a : Did}, drawOk E c all bef p l = true → l[i]? = some a → upsOk a = true
  | x :: l, p, 0, _, h, hi => by
    simp only [List.getElem?_cons_zero, Option.some.injEq] at hi; subst hi
    simp only [drawOk, Bool.and_eq_true] at h
    exact h.1.1
  | x :: l, p, i + 1, _, h, hi => by
    simp only [drawOk, Bool.and_eq_true] at h
    exact drawOk_ups h.2 (by simpa using hi)
  | [], _, _, _, _, hi => by simp at hi

theorem disj_not {a b : List Nat} (h : disj a b = true) {x : Nat} (ha : x ∈ a) (hb : x ∈ b) : False := by
  have := (List.all_eq_true.1 h) x ha
  simp only [Bool.not_eq_true', List.contains_eq_mem, decide_eq_false_iff_not] at this
  exact this hb
theorem locT_loc {t off : Nat} : t ∈ locT (.loc t off) := by simp [locT, Val.first]
theorem noLoc_get {t : Nat} : ∀ {fr : Fr}, noLoc t fr = true → ∀ u off, fr.get u ≠ some (.loc t off)
  | (s, v) :: r, h, u, off, hu => by
    simp only [noLoc, Bool.and_eq_true] at h
    simp only [Fr.get] at hu
    split at hu
    · simp only [Option.some.injEq] at hu; subst hu
      have := h.1
      simp [Val.first] at this
    · exact noLoc_get h.2 u off hu
  | [], _, _, _, hu => by simp [Fr.get] at hu
end
end Go.V

/- Every order: step by step. -/
namespace Go.V
section
variable {E : Env} {rec : Rec} {c : Ctx} {all : Array Oper} {fr0 : Fr} {tr : List Did} {gF : G} {SF : St}

def Cls.loud : Cls → Bool
  | .eh | .bad => true
  | _ => false

structure Text (rec : Rec) (E : Env) (c : Ctx) (all : Array Oper) (fr0 : Fr) (tr : List Did) (gF : G) (SF : St) : Prop where
  len : tr.length = all.size
  g0 : gAt tr gF 0 = fr0.get
  step : ∀ (i : Nat) (d : Did), tr[i]? = some d → all[i]? = some d.o ∧ TStep rec E c all fr0 d (gAt tr gF (i + 1)) (sAt tr SF (i + 1))
  pair : ∀ (i j : Nat) (a b : Did), i < j → tr[i]? = some a → tr[j]? = some b → (Good all i j ∨ (pairOk all a b = true ∧ stableAt E c a b = true)) ∧ lvOk a b = true
  ups : ∀ (i : Nat) (a : Did), tr[i]? = some a → upsOk a = true

structure Inv (all : Array Oper) (tr : List Did) (gF : G) (SF : St) (l : List Nat) (g : G) (S : St) : Prop where
  F : ∀ (p : Nat), p ≤ tr.length → ∀ (u : Nat), (∀ (j : Nat) (d : Did), tr[j]? = some d → u ∈ d.W → (j ∈ l ↔ j < p)) → g u = gAt tr gF p u
  H : ∀ (p : Nat), p ≤ tr.length → (∀ (j : Nat) (d : Did), tr[j]? = some d → d.k.loud = true → (j ∈ l ↔ j < p)) → S = sAt tr SF p
  D : ClosedIn all (· ∈ l)

theorem gAt_get {i : Nat} {d : Did} (h : tr[i]? = some d) : gAt tr gF i = d.fr.get := by simp [gAt, h]
theorem sAt_get {i : Nat} {d : Did} (h : tr[i]? = some d) : sAt tr SF i = d.S := by simp [sAt, h]

theorem Text.get (T : Text rec E c all fr0 tr gF SF) {i : Nat} (h : i < tr.length) : ∃ d, tr[i]? = some d := ⟨_, List.getElem?_eq_getElem h⟩

/-- what does not act leaves the state -/
theorem TStep.still {d : Did} {g1 : G} {S1 : St} (h : TStep rec E c all fr0 d g1 S1) (hl : d.k.loud = false) : d.S' = d.S := by
  obtain ⟨_, _, _, h | ⟨_, r, hr, hm⟩⟩ := h
  · exact h.2.2.1
  · cases r with
    | val v k ups S' =>
      obtain ⟨h1, h2, h3, h4⟩ := hm
      rw [h3]
      cases k with
      | rh => exact (opV_rh hr).1
      | pure => exact (opV_S hr rfl).1
      | rl t => exact (opV_S hr rfl).1
      | wl t => exact (opV_S hr rfl).1
      | eh => rw [h1] at hl; simp [Cls.loud] at hl
      | bad => rw [h1] at hl; simp [Cls.loud] at hl
    | laid cs => exact hm.2.2.1
    | call q args => rw [hm.1] at hl; simp [Cls.loud] at hl
    | yld l args => rw [hm.1] at hl; simp [Cls.loud] at hl

theorem gAt_const (T : Text rec E c all fr0 tr gF SF) {u a : Nat} : ∀ {b : Nat}, a ≤ b → b ≤ tr.length → (∀ (j : Nat) (d : Did), a ≤ j → j < b → tr[j]? = some d → u ∉ d.W) → gAt tr gF b u = gAt tr gF a u
  | 0, h, _, _ => by have : a = 0 := by omega
                     subst this; rfl
  | b + 1, h, hb, hn => by
    rcases Nat.lt_or_ge b a with lt | ge
    · have : a = b + 1 := by omega
      subst this; rfl
    · obtain ⟨d, hd⟩ := T.get (i := b) (by omega)
      obtain ⟨_, _, hg, _⟩ := T.step b d hd
      rw [hg, upsG_out (fun h => hn b d ge (by omega) hd ((d.W_U u).2 h)), ← gAt_get (gF := gF) hd]
      exact gAt_const T ge (by omega) fun j d h1 h2 => hn j d h1 (by omega)
theorem sAt_const (T : Text rec E c all fr0 tr gF SF) {a : Nat} : ∀ {b : Nat}, a ≤ b → b ≤ tr.length → (∀ (j : Nat) (d : Did), a ≤ j → j < b → tr[j]? = some d → d.k.loud = false) → sAt tr SF b = sAt tr SF a
  | 0, h, _, _ => by have : a = 0 := by omega
                     subst this; rfl
  | b + 1, h, hb, hn => by
    rcases Nat.lt_or_ge b a with lt | ge
    · have : a = b + 1 := by omega
      subst this; rfl
    · obtain ⟨d, hd⟩ := T.get (i := b) (by omega)
      have hst := (T.step b d hd).2
      rw [hst.1, hst.still (hn b d ge (by omega) hd), ← sAt_get (SF := SF) hd]
      exact sAt_const T ge (by omega) fun j d h1 h2 => hn j d h1 (by omega)

theorem pairOk_W {a b : Did} (h : pairOk all a b = true) {u : Nat} (ha : u ∈ a.W) (hb : u ∈ b.W ∨ u ∈ b.R all) : False := by
  simp only [pairOk, Bool.and_eq_true] at h
  exact disj_not h.1.1 ha (List.mem_append.2 hb)
theorem pairOk_R {a b : Did} (h : pairOk all a b = true) {u : Nat} (ha : u ∈ a.R all) (hb : u ∈ b.W) : False := by
  simp only [pairOk, Bool.and_eq_true] at h
  exact disj_not h.1.2 ha hb
theorem pairOk_loud {a b : Did} (h : pairOk all a b = true) (ha : a.k.loud = true) (hb : b.k.loud = true) : False := by
  simp only [pairOk, Bool.and_eq_true] at h
  cases hk : a.k <;> cases hk' : b.k <;> simp_all [Cls.loud, heapOk]

/-- the largest one -/
theorem exists_max {P : Nat → Prop} : ∀ (n : Nat), (∃ x, P x ∧ x < n) → ∃ x, P x ∧ x < n ∧ ∀ y, P y → y < n → y ≤ x
  | 0, h => by obtain ⟨x, _, hx⟩ := h; omega
  | n + 1, h => by
    by_cases hn : P n
    · exact ⟨n, hn, by omega, fun y _ hy => by omega⟩
    · obtain ⟨x, h1, h2⟩ := h
      have hx : x < n := by
        rcases Nat.lt_or_ge x n with h | h
        · exact h
        · have : x = n := by omega
          subst this; exact absurd h1 hn
      obtain ⟨y, p1, p2, p3⟩ := exists_max n ⟨x, h1, hx⟩
      refine ⟨y, p1, by omega, fun z hz hz' => p3 z hz ?_⟩
      rcases Nat.lt_or_ge z n with h | h
      · exact h
      · have : z = n := by omega
        subst this; exact absurd hz hn
theorem exists_min {P : Nat → Prop} : ∀ (n : Nat), P n → ∃ x, P x ∧ ∀ y, P y → x ≤ y := by
  intro n
  induction n using Nat.strongRecOn with
  | _ n ih =>
    intro h
    by_cases hx : ∃ m, m < n ∧ P m
    · obtain ⟨m, h1, h2⟩ := hx; exact ih m h1 h2
    · refine ⟨n, h, fun y hy => ?_⟩
      rcases Nat.lt_or_ge y n with h' | h'
      · exact absurd ⟨y, h', hy⟩ hx
      · exact h'

section step
variable {l : List Nat} {g : G} {S : St} {i : Nat} {d : Did}

theorem pre_in (T : Text rec E c all fr0 tr gF SF) (hI : Inv all tr gF SF l g S) (hi : i ∉ l) (hd : tr[i]? = some d) (hC : ClosedIn all (· ∈ i :: l)) {j : Nat} (h : Good all j i) : j ∈ l := by
  have := h.2 _ hC (by simp)
  rcases List.mem_cons.1 this with rfl | h'
  · exact absurd h.1 (Nat.lt_irrefl _)
  · exact h'
theorem post_out (T : Text rec E c all fr0 tr gF SF) (hI : Inv all tr gF SF l g S) (hi : i ∉ l) (hd : tr[i]? = some d) (hC : ClosedIn all (· ∈ i :: l)) {j : Nat} (h : Good all i j) : j ∉ l := fun hj => hi (h.2 _ hI.D hj)

theorem agree (T : Text rec E c all fr0 tr gF SF) (hI : Inv all tr gF SF l g S) (hi : i ∉ l) (hd : tr[i]? = some d) (hC : ClosedIn all (· ∈ i :: l)) {u : Nat} (hu : u ∈ d.R all) : g u = d.fr.get u := by
  rw [← gAt_get (gF := gF) hd]
  have hlt := (List.getElem?_eq_some_iff.1 hd).1
  refine hI.F i (Nat.le_of_lt hlt) u fun j b hj hw => ?_
  rcases Nat.lt_trichotomy j i with lt | rfl | gt
  · refine ⟨fun _ => lt, fun _ => ?_⟩
    rcases (T.pair j i b d lt hj hd).1 with h | ⟨h, _⟩
    · exact pre_in T hI hi hd hC h
    · exact (pairOk_W h hw (.inr hu)).elim
  · exact ⟨fun h => absurd h hi, fun h => absurd h (Nat.lt_irrefl _)⟩
  · refine ⟨fun h => ?_, fun h => by omega⟩
    rcases (T.pair i j d b gt hd hj).1 with h' | ⟨h', _⟩
    · exact absurd h (post_out T hI hi hd hC h')
    · exact (pairOk_R h' hu hw).elim

/-- the state in which a loud one runs is that of the text -/
theorem loud_state (T : Text rec E c all fr0 tr gF SF) (hI : Inv all tr gF SF l g S) (hi : i ∉ l) (hd : tr[i]? = some d) (hC : ClosedIn all (· ∈ i :: l)) (hl : d.k.loud = true) : S = d.S := by
  rw [← sAt_get (SF := SF) hd]
  have hlt := (List.getElem?_eq_some_iff.1 hd).1
  refine hI.H i (Nat.le_of_lt hlt) fun j b hj hw => ?_
  rcases Nat.lt_trichotomy j i with lt | rfl | gt
  · refine ⟨fun _ => lt, fun _ => ?_⟩
    rcases (T.pair j i b d lt hj hd).1 with h | ⟨h, _⟩
    · exact pre_in T hI hi hd hC h
    · exact (pairOk_loud h hw hl).elim
  · exact ⟨fun h => absurd h hi, fun h => absurd h (Nat.lt_irrefl _)⟩
  · refine ⟨fun h => ?_, fun h => by omega⟩
    rcases (T.pair i j d b gt hd hj).1 with h' | ⟨h', _⟩
    · exact absurd h (post_out T hI hi hd hC h')
    · exact (pairOk_loud h' hl hw).elim

/-- a reading gives the same -/
theorem rh_state (T : Text rec E c all fr0 tr gF SF) (hI : Inv all tr gF SF l g S) (hi : i ∉ l) (hd : tr[i]? = some d) (hC : ClosedIn all (· ∈ i :: l)) (hk : d.k = .rh) : S = d.S ∨ stable E c d S = true := by
  have hlt := (List.getElem?_eq_some_iff.1 hd).1
  have hnl : d.k.loud = false := by rw [hk]; rfl
  -- one that comes behind has run
  by_cases hA : ∃ b, (i < b ∧ b ∈ l ∧ ∃ e, tr[b]? = some e ∧ e.k.loud = true) ∧ b < tr.length
  · obtain ⟨b, ⟨h1, h2, e, he, hel⟩, hbl, hmax⟩ := exists_max _ hA
    have hS : S = sAt tr SF (b + 1) := hI.H (b + 1) (by omega) fun j x hj hx => by
      have hjl := (List.getElem?_eq_some_iff.1 hj).1
      constructor
      · intro hin
        rcases Nat.lt_or_ge b j with gt | le
        · have := hmax j ⟨by omega, hin, x, hj, hx⟩ hjl; omega
        · omega
      · intro hle
        rcases Nat.lt_or_ge j b with lt | ge
        · rcases (T.pair j b x e lt hj he).1 with h | ⟨h, _⟩
          · exact h.2 _ hI.D h2
          · exact (pairOk_loud h hx hel).elim
        · have : j = b := by omega
          subst this; exact h2
    rw [(T.step b e he).2.1] at hS
    rcases (T.pair i b d e h1 hd he).1 with h | ⟨hp, hs⟩
    · exact absurd h2 (post_out T hI hi hd hC h)
    · right
      have hek : e.k = .eh := by
        cases q : e.k <;> rw [q] at hel <;> simp [Cls.loud] at hel
        · simp only [pairOk, hk, q, heapOk, Bool.and_false] at hp
          simp at hp
      simp only [stableAt, hk, hek, Bool.and_eq_true] at hs
      rw [hS]; exact hs.2
  · by_cases hB : ∃ b, b < i ∧ b ∉ l ∧ ∃ e, tr[b]? = some e ∧ e.k.loud = true
    · obtain ⟨b0, hb0⟩ := hB
      obtain ⟨b, ⟨h1, h2, e, he, hel⟩, hmin⟩ := exists_min (P := fun b => b < i ∧ b ∉ l ∧ ∃ e, tr[b]? = some e ∧ e.k.loud = true) b0 hb0
      have hS : S = sAt tr SF b := hI.H b (by omega) fun j x hj hx => by
        have hjl := (List.getElem?_eq_some_iff.1 hj).1
        constructor
        · intro hin
          rcases Nat.lt_trichotomy j b with lt | rfl | gt
          · exact lt
          · exact absurd hin h2
          · rcases (T.pair b j e x gt he hj).1 with h | ⟨h, _⟩
            · exact absurd (h.2 _ hI.D hin) h2
            · exact (pairOk_loud h hel hx).elim
        · intro hlt'
          by_cases hin : j ∈ l
          · exact hin
          · have := hmin j ⟨by omega, hin, x, hj, hx⟩; omega
      rw [sAt_get he] at hS
      rcases (T.pair b i e d h1 he hd).1 with h | ⟨hp, hs⟩
      · exact absurd (pre_in T hI hi hd hC h) h2
      · right
        have hek : e.k = .eh := by
          cases q : e.k <;> rw [q] at hel <;> simp [Cls.loud] at hel
          · simp only [pairOk, hk, q, heapOk, Bool.and_false] at hp
            simp at hp
        simp only [stableAt, hk, hek, Bool.and_eq_true] at hs
        rw [hS]; exact hs.1
    · left
      rw [← sAt_get (SF := SF) hd]
      refine hI.H i (Nat.le_of_lt hlt) fun j x hj hx => ?_
      have hjl := (List.getElem?_eq_some_iff.1 hj).1
      constructor
      · intro hin
        rcases Nat.lt_trichotomy j i with lt | rfl | gt
        · exact lt
        · exact absurd hin hi
        · exact absurd ⟨j, ⟨gt, hin, x, hj, hx⟩, hjl⟩ hA
      · intro hlt'
        by_cases hin : j ∈ l
        · exact hin
        · exact absurd ⟨j, hlt', hin, x, hj, hx⟩ hB
end step
end
end Go.V

/- Every order comes to the same. -/
namespace Go.V
section
variable {E : Env} {rec : Rec} {c : Ctx} {all : Array Oper} {fr0 : Fr} {tr : List Did} {gF : G} {SF : St}
variable {l : List Nat} {g : G} {S : St} {i : Nat} {d : Did}

theorem looks_op {all : Array Oper} {d : Did} {u : Nat} (h : Operand.tmp u ∈ d.o.op.operands.toList) : u ∈ d.R all := by
  unfold Did.R looks
  refine List.mem_append_left _ (List.mem_append_left _ (List.mem_append_left _ ?_))
  rw [List.mem_filterMap]
  exact ⟨.tmp u, h, rfl⟩
theorem looks_slot {all : Array Oper} {d : Did} {u : Nat} (h : u ∈ d.k.slots) : u ∈ d.R all := by
  unfold Did.R
  exact List.mem_append_left _ (List.mem_append_right _ h)
theorem looks_loc {all : Array Oper} {d : Did} {u : Nat} (h : u ∈ locT d.v) : u ∈ d.R all := by
  unfold Did.R
  exact List.mem_append_right _ h

theorem wanted_agree {o : Oper} {g g' : G} (h : ∀ u, u ∈ looks all o → g' u = g u) : wantedV all g' o = wantedV all g o := by
  unfold wantedV
  split
  · rfl
  · rename_i j w hg
    split
    · rename_i p hp
      split
      · rename_i t ht
        rw [h t (by unfold looks; rw [hg]; refine List.mem_append_right _ ?_; simp [hp, ht])]
      · rfl
    · rfl

theorem stable_val {S : St} (h : stable E c d S = true) : ∃ S1, opV E c d.fr.get S d.o = some (.val (some d.v) .rh [] S1) := by
  unfold stable at h
  split at h
  · rename_i v S1 hv
    exact ⟨S1, by rw [hv, Val.beq_eq _ _ h]⟩
  · simp at h

/-- no place of a local that is about to be laid -/
theorem laid_noloc (T : Text rec E c all fr0 tr gF SF) (hI : Inv all tr gF SF l g S) (hi : i ∉ l) (hd : tr[i]? = some d) (hC : ClosedIn all (· ∈ i :: l)) {t : Nat} {cs : List Val} (hdst : d.o.dst = some t) (hv : d.v = .lv cs)
    (h0 : noLoc t fr0 = true) : ∀ u off, g u ≠ some (.loc t off) := by
  intro u off hu
  have htW : t ∈ d.W := by unfold Did.W; rw [hdst]; simp
  by_cases hA : ∃ b, (b ∈ l ∧ ∃ e, tr[b]? = some e ∧ u ∈ e.W) ∧ b < tr.length
  · obtain ⟨b, ⟨h1, e, he, hew⟩, hbl, hmax⟩ := exists_max _ hA
    have hg : g u = gAt tr gF (b + 1) u := hI.F (b + 1) (by omega) u fun j x hj hx => by
      have hjl := (List.getElem?_eq_some_iff.1 hj).1
      constructor
      · intro hin
        have := hmax j ⟨hin, x, hj, hx⟩ hjl; omega
      · intro hle
        rcases Nat.lt_or_ge j b with lt | ge
        · rcases (T.pair j b x e lt hj he).1 with h | ⟨h, _⟩
          · exact h.2 _ hI.D h1
          · exact (pairOk_W h hx (.inl hew)).elim
        · have : j = b := by omega
          subst this; exact h1
    obtain ⟨_, _, hge, _⟩ := T.step b e he
    rw [hge] at hg
    rw [hg] at hu
    rcases upsG_mem e.U e.fr.get u with ⟨w, p1, p2⟩ | ⟨p1, _⟩
    · rw [p2] at hu
      simp only [Option.some.injEq] at hu; subst hu
      unfold Did.U at p1
      rcases List.mem_append.1 p1 with p1 | p1
      · have := (List.all_eq_true.1 (T.ups b e he)) _ p1
        have hl : t ∈ locT (.loc t off) := locT_loc
        simp only [List.isEmpty_iff] at this
        rw [this] at hl; simp at hl
      · have hve : e.v = .loc t off := by
          cases q : e.o.dst with
          | none => rw [q] at p1; simp at p1
          | some s => rw [q] at p1; simp at p1; exact p1.2.symm
        have htl : t ∈ locT e.v := by rw [hve]; exact locT_loc
        rcases Nat.lt_trichotomy b i with lt | rfl | gt
        · have := (T.pair b i e d lt he hd).2
          unfold lvOk at this
          rw [hv, hdst] at this
          simp only [Bool.not_eq_true', List.contains_eq_mem, decide_eq_false_iff_not] at this
          exact this htl
        · exact hi h1
        · rcases (T.pair i b d e gt hd he).1 with h | ⟨h, _⟩
          · exact hi (h.2 _ hI.D h1)
          · exact pairOk_W h htW (.inr (looks_loc htl))
    · exact absurd ((e.W_U u).1 hew) (fun ⟨w, hw⟩ => p1 w hw)
  · have hg : g u = gAt tr gF 0 u := hI.F 0 (Nat.zero_le _) u fun j x hj hx => by
      have hjl := (List.getElem?_eq_some_iff.1 hj).1
      exact ⟨fun hin => absurd ⟨j, ⟨hin, x, hj, hx⟩, hjl⟩ hA, fun h => by omega⟩
    rw [hg, T.g0] at hu
    exact noLoc_get h0 u off hu

/-- ONE MORE OPERATION, in any order. -/
theorem inv_step (T : Text rec E c all fr0 tr gF SF) (hI : Inv all tr gF SF l g S) (hi : i ∉ l) (hd : tr[i]? = some d) (hC : ClosedIn all (· ∈ i :: l)) :
    ∃ g' S', ((wantedV all g d.o = some true ∧ StepR rec E c g S d.o g' S') ∨ (wantedV all g d.o = some false ∧ dstOk c d.o.dst ∧ g' = putG g d.o.dst (.tup []) ∧ S' = S)) ∧
      Inv all tr gF SF (i :: l) g' S' := by
  obtain ⟨ho, hS1, hg1, hdo, hact⟩ := T.step i d hd
  have hst := (T.step i d hd).2
  have hil := (List.getElem?_eq_some_iff.1 hd).1
  have hag : ∀ u, u ∈ d.R all → g u = d.fr.get u := fun u hu => agree T hI hi hd hC hu
  have hw : wantedV all g d.o = wantedV all d.fr.get d.o := wanted_agree fun u hu => hag u (by unfold Did.R; exact List.mem_append_left _ (List.mem_append_left _ hu))
  have hU : ∀ u, u ∈ d.W → upsG g d.U u = gAt tr gF (i + 1) u := fun u hu => by rw [hg1]; exact upsG_in ((d.W_U u).1 hu)
  have hN : ∀ u, u ∉ d.W → upsG g d.U u = g u := fun u hu => upsG_out fun h => hu ((d.W_U u).2 h)
  refine ⟨upsG g d.U, if d.k.loud then d.S' else S, ?_, ?_⟩
  · rw [hw]
    rcases hact with ⟨hwf, hk, _, hups, hv⟩ | ⟨hwt, r, hr, hm⟩
    · right
      refine ⟨hwf, hdo, ?_, by rw [hk]; rfl⟩
      have := upsG_putG g [] d.o.dst (.tup [])
      unfold Did.U
      rw [hups, hv]
      exact this.symm
    · left
      refine ⟨hwt, ?_⟩
      have hop : ∀ u, Operand.tmp u ∈ d.o.op.operands.toList → g u = d.fr.get u := fun u hu => hag u (looks_op hu)
      cases r with
      | val v k ups S2 =>
        obtain ⟨hk, hups, hS2, hv⟩ := hm
        have hsl : ∀ v' k' ups' S1', Res.val v k ups S2 = .val v' k' ups' S1' → ∀ u ∈ k'.slots, g u = d.fr.get u := by
          intro v' k' ups' S1' e u hu
          simp only [Res.val.injEq] at e
          obtain ⟨_, rfl, _, _⟩ := e
          exact hag u (looks_slot (by rw [hk]; exact hu))
        have key : ∃ S3, opV E c g S d.o = some (.val v k ups S3) ∧ S3 = if d.k.loud then d.S' else S := by
          cases hq : k.quiet with
          | true =>
            have h1 := (opV_S hr hq).2 S
            refine ⟨S, opV_agree h1 hop (fun v' k' ups' S1' e => ?_), ?_⟩
            · simp only [Res.val.injEq] at e
              obtain ⟨_, rfl, _, _⟩ := e
              exact fun u hu => hag u (looks_slot (by rw [hk]; exact hu))
            · have : d.k.loud = false := by rw [hk]; cases k <;> simp_all [Cls.quiet, Cls.loud]
              rw [this]; rfl
          | false =>
            by_cases hrh : k = .rh
            · subst hrh
              obtain ⟨_, hups0, x, hx⟩ := opV_rh hr
              subst hx; subst hups0
              rcases rh_state T hI hi hd hC hk with e | e
              · refine ⟨S, ?_, by rw [hk]; rfl⟩
                rw [e]
                have := opV_agree hr hop hsl
                have hs2 := (opV_rh hr).1
                rw [hs2] at this; exact this
              · obtain ⟨S3, h3⟩ := stable_val e
                have hs3 := (opV_rh h3).1
                subst hs3
                simp only [Option.getD_some] at hv
                rw [hv] at h3
                exact ⟨S3, opV_agree h3 hop (by
                  intro v' k' ups' S1' e u hu
                  simp only [Res.val.injEq] at e
                  obtain ⟨_, rfl, _, _⟩ := e
                  simp [Cls.slots] at hu), by rw [hk]; rfl⟩
            · have hl : d.k.loud = true := by rw [hk]; cases k <;> simp_all [Cls.quiet, Cls.loud]
              have := loud_state T hI hi hd hC hl
              subst this
              exact ⟨S2, opV_agree hr hop hsl, by rw [hl, hS2]; rfl⟩
        obtain ⟨S3, h3, e3⟩ := key
        refine ⟨_, h3, e3.symm, ?_, hdo⟩
        rw [← hv, upsG_putG, ← hups]; rfl
      | laid cs =>
        obtain ⟨hk, hups, _, hv, t, ht, hn0⟩ := hm
        have h1 := opV_far hr (fun _ _ _ _ h => by simp at h) S
        have h2 := opV_agree h1 hop (fun _ _ _ _ e => by simp at e)
        refine ⟨_, h2, t, g, ht, (hdo t ht).1, (hdo t ht).2, fun _ _ h => .inl h, laid_noloc T hI hi hd hC ht hv hn0, ?_, by rw [hk]; rfl⟩
        unfold Did.U
        rw [hups, ht, hv]
        rfl
      | call q args =>
        obtain ⟨hk, hups, hcv⟩ := hm
        have hl : d.k.loud = true := by rw [hk]; rfl
        have := loud_state T hI hi hd hC hl
        subst this
        refine ⟨_, opV_agree hr hop (fun _ _ _ _ e => by simp at e), d.v, ?_, ?_, hdo⟩
        · rw [hl]; exact hcv
        · have := upsG_putG g [] d.o.dst d.v
          unfold Did.U; rw [hups]; exact this.symm
      | yld q args =>
        obtain ⟨hk, hups, hcv⟩ := hm
        have hl : d.k.loud = true := by rw [hk]; rfl
        have := loud_state T hI hi hd hC hl
        subst this
        refine ⟨_, opV_agree hr hop (fun _ _ _ _ e => by simp at e), d.v, ?_, ?_, hdo⟩
        · rw [hl]; exact hcv
        · have := upsG_putG g [] d.o.dst d.v
          unfold Did.U; rw [hups]; exact this.symm
  · refine ⟨fun p hp u hu => ?_, fun p hp hu => ?_, hC⟩
    · by_cases hW : u ∈ d.W
      · rw [hU u hW]
        have hip : i < p := (hu i d hd hW).1 (by simp)
        refine (gAt_const T (a := i + 1) (b := p) hip hp fun j x h1 h2 hj hx => ?_).symm
        have hin := (hu j x hj hx).2 h2
        rcases List.mem_cons.1 hin with e | hin
        · omega
        · rcases (T.pair i j d x (by omega) hd hj).1 with h | ⟨h, _⟩
          · exact hi (h.2 _ hI.D hin)
          · exact pairOk_W h hW (.inl hx)
      · rw [hN u hW]
        refine hI.F p hp u fun j x hj hx => ?_
        have hne : j ≠ i := by rintro rfl; rw [hd] at hj; simp only [Option.some.injEq] at hj; subst hj; exact hW hx
        rw [← hu j x hj hx]
        simp [hne]
    · cases hl : d.k.loud with
      | true =>
        simp only [if_true]
        have hip : i < p := (hu i d hd hl).1 (by simp)
        rw [← hS1]
        refine (sAt_const T (a := i + 1) (b := p) hip hp fun j x h1 h2 hj => ?_).symm
        cases hxl : x.k.loud with
        | false => rfl
        | true =>
          exfalso
          have hin := (hu j x hj hxl).2 h2
          rcases List.mem_cons.1 hin with e | hin
          · omega
          · rcases (T.pair i j d x (by omega) hd hj).1 with h | ⟨h, _⟩
            · exact hi (h.2 _ hI.D hin)
            · exact pairOk_loud h hl hxl
      | false =>
        simp only [Bool.false_eq_true, if_false]
        refine hI.H p hp fun j x hj hx => ?_
        have hne : j ≠ i := by rintro rfl; rw [hd] at hj; simp only [Option.some.injEq] at hj; subst hj; rw [hl] at hx; simp at hx
        rw [← hu j x hj hx]
        simp [hne]
end
end Go.V

/- A region whose order is open: the theorem. -/
namespace Go.V
section
variable {E : Env} {rec : Rec} {c : Ctx} {all : Array Oper} {fr0 : Fr} {tr : List Did} {gF : G} {SF : St}

theorem order_ok (T : Text rec E c all fr0 tr gF SF) : ∀ (L : List Nat) (listed : Array Bool) (l : List Nat) (g : G) (S : St), Lin all L listed → listed.size = all.size →
    (∀ j, j < all.size → (listed.getD j true = true ↔ j ∈ l)) → Inv all tr gF SF l g S →
    ∃ g' S', RunL rec E c all L g S g' S' ∧ Inv all tr gF SF (L.reverse ++ l) g' S'
  | [], listed, l, g, S, _, _, _, hI => ⟨g, S, ⟨rfl, rfl⟩, by simpa using hI⟩
  | i :: L, listed, l, g, S, hL, hs, hl, hI => by
    obtain ⟨h1, h2⟩ := hL
    obtain ⟨hi, hn, o, ho, he⟩ := ready_mem.1 h1
    have hil : i ∉ l := fun h => by
      have := (hl i hi).2 h
      rw [hn] at this; simp at this
    obtain ⟨d, hd⟩ := T.get (i := i) (by rw [T.len]; exact hi)
    have hdo := (T.step i d hd).1
    have hC : ClosedIn all (· ∈ i :: l) := by
      intro j hj o' ho' e he' hb
      rcases List.mem_cons.1 hj with rfl | hj
      · rw [ho] at ho'; simp only [Option.some.injEq] at ho'; subst ho'
        have := he e he' hb
        have hlt : e.on < all.size := by
          rw [Array.getD_eq_getD_getElem?] at this
          rcases Nat.lt_or_ge e.on listed.size with h | h
          · omega
          · rw [Array.getElem?_eq_none h] at this; simp at this
        refine List.mem_cons_of_mem _ ((hl e.on hlt).1 ?_)
        rw [Array.getD_eq_getD_getElem?] at this ⊢
        rw [Array.getElem?_eq_getElem (by omega)] at this ⊢
        exact this
      · exact List.mem_cons_of_mem _ (hI.D j hj o' ho' e he' hb)
    obtain ⟨g1, S1, hstep, hI1⟩ := inv_step T hI hil hd hC
    obtain ⟨g', S', hr, hI'⟩ := order_ok T L _ (i :: l) g1 S1 h2 (by simp [hs]) (fun j hj => by
      rw [getD_set]
      by_cases e : i = j
      · subst e; simp
      · rw [if_neg e, hl j hj]; simp [Ne.symm e]) hI1
    refine ⟨g', S', ⟨d.o, hdo, ?_⟩, by simpa using hI'⟩
    rcases hstep with ⟨hw, hs⟩ | ⟨hw, hd', rfl, rfl⟩
    · exact .inl ⟨hw, g1, S1, hs, hr⟩
    · exact .inr ⟨hw, hd', hr⟩

theorem draw_ok {ops : Array Oper} {fr fr' : Fr} {S S' : St} {tr : List Did} (h : opsT rec E c ops fr ops.toList fr S = some (fr', S', tr))
    (he : edgesOk ops.toList 0 = true) (hd : drawOk E c ops (befT ops.toList []) 0 tr = true) (L : List Nat) (hL : ∃ t, L = Region.linearise .any ops t) :
    ∃ g', RunL rec E c ops L fr.get S g' S' ∧ g' = fr'.get := by
  obtain ⟨h1, h2, h3, h4⟩ := opsT_ok ops.toList h
  have hbef := befT_good (ops := ops) ops.toList [] rfl he (fun j i hj => by simp at hj)
  have T : Text rec E c ops fr tr fr'.get S' := {
    len := by simpa using h1
    g0 := h2
    step := fun i d hi => by
      obtain ⟨p1, p2⟩ := h4 i d hi
      exact ⟨by rw [← Array.getElem?_toList]; exact p1, p2⟩
    pair := fun i j a b hij ha hb => by
      obtain ⟨p1, p2⟩ := drawOk_get hd hij ha hb
      simp only [Nat.zero_add] at p1
      exact ⟨p1.imp (hbef j i) id, p2⟩
    ups := fun i a ha => drawOk_ups hd ha }
  have hI0 : Inv ops tr fr'.get S' [] fr.get S := {
    F := fun p hp u hu => by
      rw [← h2]
      refine (gAt_const T (Nat.zero_le p) hp fun j d _ hj hdj hw => ?_).symm
      have := (hu j d hdj hw).2 hj
      simp at this
    H := fun p hp hu => by
      rw [← h3]
      refine (sAt_const T (Nat.zero_le p) hp fun j d _ hj hdj => ?_).symm
      cases hl : d.k.loud with
      | false => rfl
      | true => have := (hu j d hdj hl).2 hj; simp at this
    D := fun j hj => by simp at hj }
  obtain ⟨t, rfl⟩ := hL
  have hsz : (Array.replicate ops.size false).size = ops.size := by simp
  have hnone : ∀ j, j < ops.size → (Array.replicate ops.size false).getD j true = false := fun j hj => by
    rw [Array.getD_eq_getD_getElem?, Array.getElem?_eq_getElem (by simpa using hj)]; simp
  obtain ⟨g', S2, hr, hI⟩ := order_ok T _ _ [] _ _ (lin_go ops.size t (Array.replicate ops.size false)) hsz (fun j hj => by rw [hnone j hj]; simp) hI0
  have hcnt : cnt (Array.replicate ops.size false) ops.size ≤ ops.size := by
    have : ∀ (a : Array Bool) (n : Nat), cnt a n ≤ n := by
      intro a n
      induction n with
      | zero => simp [cnt]
      | succ n ih => simp only [cnt]; split <;> omega
    exact this _ _
  have hall : ∀ j, j < ops.size → j ∈ (Region.linearise.go .any ops ops.size t (Array.replicate ops.size false) []).reverse ++ [] := fun j hj => by
    rw [List.append_nil, List.mem_reverse]
    exact lin_all he _ _ _ hsz hcnt j hj (hnone j hj)
  have hend : ∀ (j : Nat) (d : Did), tr[j]? = some d → (j ∈ (Region.linearise.go .any ops ops.size t (Array.replicate ops.size false) []).reverse ++ [] ↔ j < tr.length) := fun j d hj => by
    have hlt := (List.getElem?_eq_some_iff.1 hj).1
    exact ⟨fun _ => hlt, fun _ => hall j (by rw [← T.len]; exact hlt)⟩
  have hg : g' = fr'.get := by
    funext u
    rw [hI.F tr.length (Nat.le_refl _) u fun j d hj _ => hend j d hj]
    simp [gAt]
  have hS : S2 = S' := by
    rw [hI.H tr.length (Nat.le_refl _) fun j d hj _ => hend j d hj]
    simp [sAt]
  subst hS
  exact ⟨g', hr, hg⟩
end
end Go.V
