/- Items alike but for the order of pairs: what the greedy look answers, and that it doesn't matter which of two items comes first. -/
import Derived.Test.YtgnfinbhnoofpaaDoorItem
set_option linter.unusedVariables false
set_option linter.unusedSimpArgs false
set_option linter.unusedSectionVars false
namespace Go.V
/-- the first one that isn't taken and is right is taken -/
def pick {α : Type} (p : α → Bool) : List (Bool × α) → Option (List (Bool × α))
  | [] => none
  | (u, b) :: l => if !u && p b then some ((true, b) :: l) else match pick p l with
    | some l' => some ((u, b) :: l')
    | none => none
def pairsL : List It → List (It × It)
  | x :: y :: l => (x, y) :: pairsL l
  | _ => []
def freshL (l : List It) : List (Bool × It × It) := (pairsL l).map fun p => (false, p)
mutual
def alikeI : It → It → Bool
  | .mk k n s _ l, b => k == b.k && (n == b.n && (s == b.s && (l.length == b.l.length && (if k == 5 && l.length % 2 == 0 then alikeP l (freshL b.l) else alikeL l b.l))))
def alikeL : List It → List It → Bool
  | x :: l, y :: l' => alikeI x y && alikeL l l'
  | _, _ => true
def alikeP : List It → List (Bool × It × It) → Bool
  | x :: y :: l, bs => match pick (fun p => alikeI x p.1 && alikeI y p.2) bs with
    | some bs' => alikeP l bs'
    | none => false
  | _, _ => true
end

section greedy
variable {α : Type}
def free (bs : List (Bool × α)) : List α := (bs.filter fun e => !e.1).map (·.2)
def greedy (R : α → α → Bool) : List α → List (Bool × α) → Bool
  | [], _ => true
  | a :: as, bs => match pick (R a) bs with
    | some bs' => greedy R as bs'
    | none => false
theorem free_cons (u : Bool) (b : α) (l : List (Bool × α)) : free ((u, b) :: l) = if u then free l else b :: free l := by
  cases u <;> simp [free]
theorem pick_none {p : α → Bool} : ∀ {bs : List (Bool × α)}, pick p bs = none → ∀ b ∈ free bs, p b = false
  | [], _, b, hb => by simp [free] at hb
  | (u, c) :: l, h, b, hb => by
    simp only [pick] at h
    split at h
    · simp at h
    · rename_i hc
      split at h
      · simp at h
      · rename_i hn
        rw [free_cons] at hb
        cases u with
        | true => exact pick_none hn b (by simpa using hb)
        | false =>
          simp only [Bool.false_eq_true, if_false, List.mem_cons] at hb
          rcases hb with rfl | hb
          · simpa using hc
          · exact pick_none hn b hb
theorem pick_some {p : α → Bool} : ∀ {bs bs' : List (Bool × α)}, pick p bs = some bs' → ∃ b ∈ free bs, p b = true ∧ (∀ f : α → Bool, (free bs).countP f = (free bs').countP f + if f b then 1 else 0) ∧ ∀ c ∈ free bs', c ∈ free bs
  | [], _, h => by simp [pick] at h
  | (u, c) :: l, bs', h => by
    simp only [pick] at h
    split at h
    · rename_i hc
      simp only [Bool.and_eq_true, Bool.not_eq_true'] at hc
      obtain ⟨rfl, hp⟩ := hc
      cases h
      refine ⟨c, by simp [free_cons], hp, fun f => ?_, fun d hd => ?_⟩
      · simp [free_cons, List.countP_cons]
      · simp only [free_cons, if_true] at hd; simp [free_cons, hd]
    · split at h
      · rename_i l' hl
        cases h
        obtain ⟨b, h1, h2, h3, h4⟩ := pick_some hl
        refine ⟨b, ?_, h2, fun f => ?_, fun d hd => ?_⟩
        · cases u <;> simp [free_cons, h1]
        · have := h3 f
          cases u
          · simp only [free_cons, Bool.false_eq_true, if_false, List.countP_cons, this]; omega
          · simpa [free_cons] using this
        · cases u
          · simp only [free_cons, Bool.false_eq_true, if_false, List.mem_cons] at hd ⊢
            rcases hd with rfl | hd
            · exact .inl rfl
            · exact .inr (h4 d hd)
          · simp only [free_cons, if_true] at hd ⊢; exact h4 d hd
      · simp at h
/-- an equivalence of what is in P -/
structure EqvOn (P : α → Prop) (R : α → α → Bool) : Prop where
  refl : ∀ a, P a → R a a = true
  symm : ∀ a b, P a → P b → R a b = R b a
  trans : ∀ a b c, P a → P b → P c → R a b = true → R b c = true → R a c = true
theorem EqvOn.same {P : α → Prop} {R : α → α → Bool} (e : EqvOn P R) {x a b : α} (hx : P x) (ha : P a) (hb : P b) (h : R a b = true) : R x a = R x b := by
  rw [Bool.eq_iff_iff]
  exact ⟨fun h' => e.trans x a b hx ha hb h' h, fun h' => e.trans x b a hx hb ha h' (by rw [e.symm b a hb ha]; exact h)⟩
theorem countP_len {f : α → Bool} (l : List α) : l.countP f ≤ l.length := List.countP_le_length
theorem greedy_iff {P : α → Prop} {R : α → α → Bool} (e : EqvOn P R) : ∀ {as : List α} {bs : List (Bool × α)}, (∀ a ∈ as, P a) → (∀ b ∈ free bs, P b) → as.length = (free bs).length →
    (greedy R as bs = true ↔ ∀ x, P x → as.countP (R x) = (free bs).countP (R x))
  | [], bs, _, _, hl => by
    have : free bs = [] := List.length_eq_zero_iff.1 hl.symm
    simp [greedy, this]
  | a :: as, bs, ha, hb, hl => by
    simp only [greedy]
    have pa := ha a List.mem_cons_self
    cases hp : pick (R a) bs with
    | none =>
      simp only [Bool.false_eq_true, false_iff]
      intro h
      have h1 := h a pa
      have h2 := pick_none hp
      have h3 : (free bs).countP (R a) = 0 := List.countP_eq_zero.2 fun b hb' => by simp [h2 b hb']
      rw [h3, List.countP_cons, e.refl a pa] at h1
      simp at h1
    | some bs' =>
      obtain ⟨b, h1, h2, h3, h4⟩ := pick_some hp
      have pb := hb b h1
      have hlen : as.length = (free bs').length := by
        have := h3 (fun _ => true)
        simp only [List.countP_true, if_true, List.length_cons] at this hl
        omega
      rw [greedy_iff e (fun a h => ha a (List.mem_cons_of_mem _ h)) (fun c hc => hb c (h4 c hc)) hlen]
      constructor
      · intro h x hx
        rw [List.countP_cons, h3 (R x), h x hx, e.same hx pa pb h2]
      · intro h x hx
        have := h x hx
        rw [List.countP_cons, h3 (R x), e.same hx pa pb h2] at this
        omega
theorem free_fresh (l : List α) : free (l.map fun p => (false, p)) = l := by
  induction l with
  | nil => rfl
  | cons a l ih => simp only [List.map_cons, free_cons, Bool.false_eq_true, if_false, ih]
theorem greedy_symm {P : α → Prop} {R : α → α → Bool} (e : EqvOn P R) {as bs : List α} (ha : ∀ a ∈ as, P a) (hb : ∀ b ∈ bs, P b) (hl : as.length = bs.length) :
    greedy R as (bs.map fun p => (false, p)) = greedy R bs (as.map fun p => (false, p)) := by
  rw [Bool.eq_iff_iff, greedy_iff e ha (by rw [free_fresh]; exact hb) (by rw [free_fresh]; exact hl), greedy_iff e hb (by rw [free_fresh]; exact ha) (by rw [free_fresh]; exact hl.symm)]
  rw [free_fresh, free_fresh]
  exact ⟨fun h x hx => (h x hx).symm, fun h x hx => (h x hx).symm⟩
theorem greedy_refl {P : α → Prop} {R : α → α → Bool} (e : EqvOn P R) {as : List α} (ha : ∀ a ∈ as, P a) : greedy R as (as.map fun p => (false, p)) = true := by
  rw [greedy_iff e ha (by rw [free_fresh]; exact ha) (by rw [free_fresh]), free_fresh]
  exact fun _ _ => rfl
theorem greedy_trans {P : α → Prop} {R : α → α → Bool} (e : EqvOn P R) {as bs cs : List α} (ha : ∀ a ∈ as, P a) (hb : ∀ b ∈ bs, P b) (hc : ∀ c ∈ cs, P c) (h1 : as.length = bs.length) (h2 : bs.length = cs.length)
    (h : greedy R as (bs.map fun p => (false, p)) = true) (h' : greedy R bs (cs.map fun p => (false, p)) = true) : greedy R as (cs.map fun p => (false, p)) = true := by
  rw [greedy_iff e ha (by rw [free_fresh]; exact hb) (by rw [free_fresh]; exact h1), free_fresh] at h
  rw [greedy_iff e hb (by rw [free_fresh]; exact hc) (by rw [free_fresh]; exact h2), free_fresh] at h'
  rw [greedy_iff e ha (by rw [free_fresh]; exact hc) (by rw [free_fresh]; omega), free_fresh]
  exact fun x hx => (h x hx).trans (h' x hx)
end greedy

def alikeR (p q : It × It) : Bool := alikeI p.1 q.1 && alikeI p.2 q.2
theorem alikeP_eq : ∀ (N : Nat) (l : List It) (bs : List (Bool × It × It)), l.length ≤ N → alikeP l bs = greedy alikeR (pairsL l) bs
  | _, [], _, _ => by simp [alikeP, pairsL, greedy]
  | _, [x], _, _ => by simp [alikeP, pairsL, greedy]
  | 0, x :: y :: l, _, h => by simp at h
  | N + 1, x :: y :: l, bs, h => by
    simp only [alikeP, pairsL, greedy]
    have : (fun p : It × It => alikeI x p.1 && alikeI y p.2) = alikeR (x, y) := rfl
    rw [this]
    cases pick (alikeR (x, y)) bs with
    | none => rfl
    | some bs' => exact alikeP_eq N l bs' (by simp only [List.length_cons] at h; omega)
mutual
def It.size : It → Nat
  | .mk _ _ _ _ l => 1 + sizeL l
def sizeL : List It → Nat
  | [] => 0
  | x :: l => x.size + sizeL l
end
theorem sizeL_mem : ∀ {l : List It} {y : It}, y ∈ l → y.size ≤ sizeL l
  | x :: l, y, h => by
    simp only [sizeL]
    rcases List.mem_cons.1 h with rfl | h
    · omega
    · have := sizeL_mem h; omega
theorem pairsL_mem : ∀ {l : List It} {p : It × It}, p ∈ pairsL l → p.1 ∈ l ∧ p.2 ∈ l
  | [], _, h => by simp [pairsL] at h
  | [x], _, h => by simp [pairsL] at h
  | x :: y :: l, p, h => by
    simp only [pairsL, List.mem_cons] at h
    rcases h with rfl | h
    · simp
    · have := pairsL_mem h; simp [this]
theorem pairsL_len : ∀ l : List It, (pairsL l).length = l.length / 2
  | [] => rfl
  | [x] => by simp [pairsL]
  | x :: y :: l => by simp only [pairsL, List.length_cons, pairsL_len l]; omega

def smaller (N : Nat) (x : It) : Prop := x.size < N
theorem eqvR {N : Nat} (e : EqvOn (smaller N) alikeI) : EqvOn (fun p : It × It => smaller N p.1 ∧ smaller N p.2) alikeR where
  refl a h := by simp [alikeR, e.refl _ h.1, e.refl _ h.2]
  symm a b h h' := by simp only [alikeR]; rw [e.symm _ _ h.1 h'.1, e.symm _ _ h.2 h'.2]
  trans a b c h h' h'' h1 h2 := by
    simp only [alikeR, Bool.and_eq_true] at h1 h2 ⊢
    exact ⟨e.trans _ _ _ h.1 h'.1 h''.1 h1.1 h2.1, e.trans _ _ _ h.2 h'.2 h''.2 h1.2 h2.2⟩
theorem alikeL_eqv {N : Nat} (e : EqvOn (smaller N) alikeI) :
    (∀ l : List It, (∀ x ∈ l, smaller N x) → alikeL l l = true) ∧ (∀ l m : List It, (∀ x ∈ l, smaller N x) → (∀ x ∈ m, smaller N x) → alikeL l m = alikeL m l) ∧
    (∀ l m r : List It, l.length = m.length → m.length = r.length → (∀ x ∈ l, smaller N x) → (∀ x ∈ m, smaller N x) → (∀ x ∈ r, smaller N x) → alikeL l m = true → alikeL m r = true → alikeL l r = true) := by
  refine ⟨fun l h => ?_, fun l => ?_, fun l => ?_⟩
  · induction l with
    | nil => simp [alikeL]
    | cons x l ih => simp only [alikeL, e.refl x (h x List.mem_cons_self), ih fun y hy => h y (List.mem_cons_of_mem _ hy), Bool.and_self]
  · induction l with
    | nil => intro m _ _; cases m <;> simp [alikeL]
    | cons x l ih =>
      intro m h h'
      cases m with
      | nil => simp [alikeL]
      | cons y m => simp only [alikeL]; rw [e.symm x y (h x List.mem_cons_self) (h' y List.mem_cons_self), ih m (fun z hz => h z (List.mem_cons_of_mem _ hz)) (fun z hz => h' z (List.mem_cons_of_mem _ hz))]
  · induction l with
    | nil => intro m r _ _ _ _ _ _ _; simp [alikeL]
    | cons x l ih =>
      intro m r h1 h2 hl hm hr a b
      match m, r with
      | [], _ => simp at h1
      | _ :: _, [] => simp at h2
      | y :: m, z :: r =>
        simp only [alikeL, Bool.and_eq_true, List.length_cons, Nat.add_right_cancel_iff] at *
        exact ⟨e.trans x y z (hl x List.mem_cons_self) (hm y List.mem_cons_self) (hr z List.mem_cons_self) a.1 b.1, ih m r h1 h2 (fun w hw => hl w (List.mem_cons_of_mem _ hw)) (fun w hw => hm w (List.mem_cons_of_mem _ hw)) (fun w hw => hr w (List.mem_cons_of_mem _ hw)) a.2 b.2⟩

theorem alikeI_mk (k n : Int) (s : List UInt8) (q : Q) (l : List It) (k' n' : Int) (s' : List UInt8) (q' : Q) (l' : List It) :
    alikeI (.mk k n s q l) (.mk k' n' s' q' l') = (k == k' && (n == n' && (s == s' && (l.length == l'.length && (if k == 5 && l.length % 2 == 0 then greedy alikeR (pairsL l) ((pairsL l').map fun p => (false, p)) else alikeL l l'))))) := by
  simp only [alikeI, It.k, It.n, It.s, It.l, freshL]
  rw [alikeP_eq _ _ _ (Nat.le_refl _)]

theorem alike_eqv : ∀ N : Nat, EqvOn (smaller N) alikeI
  | 0 => ⟨fun _ h => absurd h (Nat.not_lt_zero _), fun _ _ h => absurd h (Nat.not_lt_zero _), fun _ _ _ h => absurd h (Nat.not_lt_zero _)⟩
  | N + 1 => by
    have e := alike_eqv N
    have eR := eqvR e
    obtain ⟨l1, l2, l3⟩ := alikeL_eqv e
    have hs : ∀ {k n : Int} {s : List UInt8} {q : Q} {l : List It}, smaller (N + 1) (.mk k n s q l) → (∀ x ∈ l, smaller N x) := by
      intro k n s q l h x hx
      simp only [smaller, It.size] at h ⊢
      have := sizeL_mem hx
      omega
    have hp : ∀ {l : List It}, (∀ x ∈ l, smaller N x) → ∀ p ∈ pairsL l, smaller N p.1 ∧ smaller N p.2 := fun h p hp => ⟨h _ (pairsL_mem hp).1, h _ (pairsL_mem hp).2⟩
    refine ⟨fun a ha => ?_, fun a b ha hb => ?_, fun a b c ha hb hc h1 h2 => ?_⟩
    · cases a with
      | mk k n s q l =>
        rw [alikeI_mk]
        simp only [beq_self_eq_true, Bool.true_and]
        split
        · exact greedy_refl eR (hp (hs ha))
        · exact l1 l (hs ha)
    · cases a with
      | mk k n s q l => cases b with
        | mk k' n' s' q' l' =>
          rw [alikeI_mk, alikeI_mk]
          by_cases hk : k = k'
          · subst hk
            by_cases hl : l.length = l'.length
            · rw [← hl]
              have a1 : (n == n') = (n' == n) := BEq.comm
              have a2 : (s == s') = (s' == s) := BEq.comm
              rw [a1, a2]
              congr 4
              split
              · exact greedy_symm eR (hp (hs ha)) (hp (hs hb)) (by rw [pairsL_len, pairsL_len, hl])
              · exact l2 l l' (hs ha) (hs hb)
            · have b1 : (l.length == l'.length) = false := by simp [hl]
              have b2 : (l'.length == l.length) = false := by simp [Ne.symm hl]
              simp [b1, b2]
          · have b1 : (k == k') = false := by simp [hk]
            have b2 : (k' == k) = false := by simp [Ne.symm hk]
            simp [b1, b2]
    · cases a with
      | mk k n s q l => cases b with
        | mk k' n' s' q' l' => cases c with
          | mk k'' n'' s'' q'' l'' =>
            rw [alikeI_mk] at *
            simp only [Bool.and_eq_true, beq_iff_eq] at h1 h2
            obtain ⟨rfl, rfl, rfl, hl1, h1⟩ := h1
            obtain ⟨rfl, rfl, rfl, hl2, h2⟩ := h2
            simp only [beq_self_eq_true, Bool.true_and, hl1.trans hl2]
            rw [hl1] at h1
            split at h1
            · rename_i hc5
              rw [if_pos hc5] at h2
              rw [← hl2, if_pos (by simpa using hc5)]
              exact greedy_trans eR (hp (hs ha)) (hp (hs hb)) (hp (hs hc)) (by rw [pairsL_len, pairsL_len, hl1]) (by rw [pairsL_len, pairsL_len, hl2]) h1 h2
            · rename_i hc5
              rw [if_neg hc5] at h2
              rw [← hl2, if_neg (by simpa using hc5)]
              exact l3 l l' l'' hl1 hl2 (hs ha) (hs hb) (hs hc) h1 h2
/-- which of two items comes first doesn't matter -/
theorem alike_symm (a b : It) : alikeI a b = alikeI b a :=
  (alike_eqv (max a.size b.size + 1)).symm a b (by simp only [smaller]; omega) (by simp only [smaller]; omega)
end Go.V
