/- Check (item) and Check (ullageref08) answer the same. -/
import Derived.Test.YtgnfinbhnoofpaaDoorWrongR
import Derived.Test.YtgnfinbhnoofpaaDoorTwice
import Derived.Test.YtgnfinbhnoofpaaDoorValid
import Derived.Test.YtgnfinbhnoofpaaDoorCheck2
import Derived.Test.YtgnfinbhnoofpaaDoorDepthEq
set_option linter.unusedVariables false
set_option linter.unusedSimpArgs false
set_option linter.unusedSectionVars false
open Go Go.V
set_option maxRecDepth 100000
set_option linter.unusedSimpArgs false
namespace Go.V.W
/-- what is wrong with an item by itself -/
def wrI (y : It) : Int := wrongI y.k y.n.toNat y.s y.l.length (validU y.s) (twA [] (evens y.l))
theorem wrI_mk (k : Int) (N : Nat) (s : List UInt8) (q : Q) (l : List It) : wrI (.mk k N s q l) = wrongI k N s l.length (validU s) (twA [] (evens l)) := rfl
/-- an item within bounds -/
def okI (x : It) : Prop := x.wf ∧ (itemsI x).length ≤ 2 ^ 30 ∧ ∀ y ∈ itemsI x, y.s.length ≤ 2 ^ 60
theorem wfL_mem : ∀ {l : List It} {y : It}, wfL l → y ∈ l → y.wf
  | x :: l, y, h, hm => by
    simp only [wfL] at h
    rcases List.mem_cons.1 hm with rfl | hm
    · exact h.1
    · exact wfL_mem h.2 hm
theorem itemsL_sub : ∀ {l : List It} {y : It}, y ∈ l → ∀ z ∈ itemsI y, z ∈ itemsL l
  | x :: l, y, hm, z, hz => by
    simp only [itemsL, List.mem_append]
    rcases List.mem_cons.1 hm with rfl | hm
    · exact .inl hz
    · exact .inr (itemsL_sub hm z hz)
theorem okI_child {k n : Int} {s : List UInt8} {q : Q} {l : List It} (h : okI (.mk k n s q l)) : ∀ y ∈ l, okI y := by
  intro y hy
  obtain ⟨h1, h2, h3⟩ := h
  simp only [itemsI, List.length_cons] at h2
  have := itemsL_mem hy
  refine ⟨?_, by omega, fun z hz => h3 z ?_⟩
  · simp only [It.wf] at h1; exact wfL_mem h1.2.2.2.2 hy
  · simp only [itemsI, List.mem_cons]; exact .inr (itemsL_sub hy z hz)
mutual
theorem okI_items : ∀ {x : It}, okI x → ∀ y ∈ itemsI x, okI y
  | .mk k n s q l, h, y, hy => by
    simp only [itemsI, List.mem_cons] at hy
    rcases hy with rfl | hy
    · exact h
    · exact okI_itemsL (okI_child h) y hy
theorem okI_itemsL : ∀ {l : List It}, (∀ x ∈ l, okI x) → ∀ y ∈ itemsL l, okI y
  | [], _, y, hy => by simp [itemsL] at hy
  | x :: l, h, y, hy => by
    simp only [itemsL, List.mem_append] at hy
    rcases hy with hy | hy
    · exact okI_items (h x List.mem_cons_self) y hy
    · exact okI_itemsL (fun z hz => h z (List.mem_cons_of_mem _ hz)) y hy
end
theorem okI_len {k n : Int} {s : List UInt8} {q : Q} {l : List It} (h : okI (.mk k n s q l)) : l.length ≤ 2 ^ 29 * 2 := by
  have := h.2.1
  simp only [itemsI, List.length_cons] at this
  have := length_itemsL l
  omega
theorem w81 (y : It) (h : okI y) (S : St) : Go.V.Call E0 81 [.agg (encI y)] S (.int .i64 (wrI y)) S := by
  cases y with
  | mk k n s q l =>
    have hl := okI_len h
    have hs : s.length ≤ 2 ^ 60 := h.2.2 (.mk k n s q l) (by simp [itemsI])
    have hwf := h.1
    simp only [It.wf] at hwf
    obtain ⟨N, rfl⟩ : ∃ N : Nat, n = N := ⟨n.toNat, by omega⟩
    have hN : N < 2 ^ 64 := by omega
    have h112 := c112 s hs S
    have h113 := c113 q l ((l.length + 1) / 2) (by omega) (by omega) S (fun x hx y S => c146 (2 ^ 30) x y (okI_child h x hx).2.1 (by omega) S)
    rw [encI_mk]
    exact c81 k N hN s q l S _ _ h112 h113
theorem form_out {k n : Int} {s : List UInt8} {len : Nat} (h : k < 0 ∨ 8 < k) : formI k n s len = false := by
  unfold formI
  have a0 : (k == 0) = false := by simp; omega
  have a1 : (k == 1) = false := by simp; omega
  have a2 : (k == 2) = false := by simp; omega
  have a3 : (k == 3) = false := by simp; omega
  have a4 : (k == 4) = false := by simp; omega
  have a5 : (k == 5) = false := by simp; omega
  have a6 : (k == 6) = false := by simp; omega
  have a7 : (k == 7) = false := by simp; omega
  have a8 : (k == 8) = false := by simp; omega
  simp [a0, a1, a2, a3, a4, a5, a6, a7, a8]
theorem w82 (y : It) (h : okI y) (S : St) : Go.V.Call E0 82 [.agg (encI y)] S (.int .i64 (wrI y)) S := by
  cases y with
  | mk k n s q l =>
    have hl := okI_len h
    have hs60 : s.length ≤ 2 ^ 60 := h.2.2 (.mk k n s q l) (by simp [itemsI])
    have hwf := h.1
    simp only [It.wf] at hwf
    obtain ⟨N, rfl⟩ : ∃ N : Nat, n = N := ⟨n.toNat, by omega⟩
    have hN : N < 2 ^ 64 := by omega
    have hcall : ∀ x ∈ l, ∀ y S, Go.V.Call E0 115 [.agg (encI x), .agg (encI y)] S (.bool (alikeI x y)) S := fun x hx y S => c115 (2 ^ 30) x y (okI_child h x hx).2.1 (by omega) S
    clear hwf h
    rw [encI_mk]
    have fin : ∀ v, wrI (.mk k N s q l) = v → Go.V.Call E0 82 [.agg (i4 k N s l q)] S (.int .i64 v) S → Go.V.Call E0 82 [.agg (i4 k N s l q)] S (.int .i64 (wrI (.mk k N s q l))) S := fun v e h => by rw [e]; exact h
    by_cases klo : k < 0
    · exact fin 11 (by simp [wrI, wrongI, It.k, form_out (.inl klo)]) (w82_lo N s q l k klo S)
    by_cases khi : 8 < k
    · exact fin 11 (by simp [wrI, wrongI, It.k, form_out (.inr khi)]) (w82_hi N s q l k khi S)
    have hk : k = 0 ∨ k = 1 ∨ k = 2 ∨ k = 3 ∨ k = 4 ∨ k = 5 ∨ k = 6 ∨ k = 7 ∨ k = 8 := by omega
    have len0 : (l.length : Int) = 0 ↔ l.length = 0 := by omega
    have len1 : (l.length : Int) = 1 ↔ l.length = 1 := by omega
    have n0 : (N : Int) = 0 ↔ N = 0 := by omega
    rcases hk with rfl | rfl | rfl | rfl | rfl | rfl | rfl | rfl | rfl
    · by_cases hs : s = []
      · by_cases hl0 : l.length = 0
        · exact fin 0 (by simp [wrI, wrongI, formI, It.k, It.s, It.l, It.n, hs, hl0]) (w82_0_o N s q l hs (len0.2 hl0) S)
        · exact fin 11 (by simp [wrI, wrongI, formI, It.k, It.s, It.l, It.n, hs, hl0]) (w82_0_l N s q l hs (fun h => hl0 (len0.1 h)) S)
      · exact fin 11 (by simp [wrI, wrongI, formI, It.k, It.s, It.l, It.n, hs]) (w82_0_s N s q l hs S)
    · by_cases hs : s = []
      · by_cases hl0 : l.length = 0
        · exact fin 0 (by simp [wrI, wrongI, formI, It.k, It.s, It.l, It.n, hs, hl0]) (w82_1_o N s q l hs (len0.2 hl0) S)
        · exact fin 11 (by simp [wrI, wrongI, formI, It.k, It.s, It.l, It.n, hs, hl0]) (w82_1_l N s q l hs (fun h => hl0 (len0.1 h)) S)
      · exact fin 11 (by simp [wrI, wrongI, formI, It.k, It.s, It.l, It.n, hs]) (w82_1_s N s q l hs S)
    · by_cases hn : N = 0
      · by_cases hl0 : l.length = 0
        · exact fin 0 (by simp [wrI, wrongI, formI, It.k, It.s, It.l, It.n, hn, hl0]) (w82_2_o N s q l (n0.2 hn) (len0.2 hl0) S)
        · exact fin 11 (by simp [wrI, wrongI, formI, It.k, It.s, It.l, It.n, hn, hl0]) (w82_2_l N s q l (n0.2 hn) (fun h => hl0 (len0.1 h)) S)
      · exact fin 11 (by simp [wrI, wrongI, formI, It.k, It.s, It.l, It.n, hn]) (w82_2_n N s q l (fun h => hn (n0.1 h)) S)
    · by_cases hn : N = 0
      · by_cases hl0 : l.length = 0
        · refine fin (if (firstV s).2 then 0 else 6) ?_ (w82_3_o N s q l (n0.2 hn) (len0.2 hl0) (firstV s).1 (firstV s).2 (fun S => c75 s hs60 S) S)
          rw [first_valid]
          cases hv : validU s <;> simp [wrI, wrongI, formI, It.k, It.s, It.l, It.n, hn, hl0, hv]
        · exact fin 11 (by simp [wrI, wrongI, formI, It.k, It.s, It.l, It.n, hn, hl0]) (w82_3_l N s q l (n0.2 hn) (fun h => hl0 (len0.1 h)) S)
      · exact fin 11 (by simp [wrI, wrongI, formI, It.k, It.s, It.l, It.n, hn]) (w82_3_n N s q l (fun h => hn (n0.1 h)) S)
    · by_cases hs : s = []
      · by_cases hn : N = 0
        · exact fin 0 (by simp [wrI, wrongI, formI, It.k, It.s, It.l, It.n, hs, hn]) (w82_4_o N s q l hs (n0.2 hn) S)
        · exact fin 11 (by simp [wrI, wrongI, formI, It.k, It.s, It.l, It.n, hs, hn]) (w82_4_n N s q l hs (fun h => hn (n0.1 h)) S)
      · exact fin 11 (by simp [wrI, wrongI, formI, It.k, It.s, It.l, It.n, hs]) (w82_4_s N s q l hs S)
    · by_cases hs : s = []
      · by_cases hn : N = 0
        · have e3 : (l.length : Int).tmod 2 = ((l.length % 2 : Nat) : Int) := (Int.ofNat_tmod l.length 2).symm
          by_cases hev : l.length % 2 = 0
          · refine fin (e14 (twR (evens l))) ?_ (w82_5_o N s q l hs (n0.2 hn) (by rw [e3]; omega) (l.length / 2) (by omega) (by omega) S hcall)
            rw [← tw_eq]
            cases ht : twA [] (evens l) <;> simp [wrI, wrongI, formI, It.k, It.s, It.l, It.n, hs, hn, hev, ht, e14]
          · exact fin 11 (by simp [wrI, wrongI, formI, It.k, It.s, It.l, It.n, hs, hn, hev]) (w82_5_l N s q l hs (n0.2 hn) (by rw [e3]; omega) S)
        · exact fin 11 (by simp [wrI, wrongI, formI, It.k, It.s, It.l, It.n, hs, hn]) (w82_5_n N s q l hs (fun h => hn (n0.1 h)) S)
      · exact fin 11 (by simp [wrI, wrongI, formI, It.k, It.s, It.l, It.n, hs]) (w82_5_s N s q l hs S)
    · by_cases hs : s = []
      · by_cases hl1 : l.length = 1
        · exact fin 0 (by simp [wrI, wrongI, formI, It.k, It.s, It.l, It.n, hs, hl1]) (w82_6_o N s q l hs (len1.2 hl1) S)
        · exact fin 11 (by simp [wrI, wrongI, formI, It.k, It.s, It.l, It.n, hs, hl1]) (w82_6_l N s q l hs (fun h => hl1 (len1.1 h)) S)
      · exact fin 11 (by simp [wrI, wrongI, formI, It.k, It.s, It.l, It.n, hs]) (w82_6_s N s q l hs S)
    · by_cases hs : s = []
      · by_cases hl0 : l.length = 0
        · by_cases ha : (N : Int) > 255
          · exact fin 15 (by simp [wrI, wrongI, formI, It.k, It.s, It.l, It.n, hs, hl0, ha]) (w82_7_a N s q l hs (len0.2 hl0) ha S)
          · by_cases hb : (N : Int) > 23
            · by_cases hc : (N : Int) < 32
              · exact fin 15 (by have n1 : 24 ≤ N := (by omega); have n2 : N < 32 := (by omega); rw [wrI_mk]; simp [wrongI, formI, hs, hl0]; (try simp only [decide_eq_true_eq, decide_eq_false_iff_not]); omega) (w82_7_b N s q l hs (len0.2 hl0) hb hc S)
              · exact fin 0 (by have n1 : ¬ N < 32 := (by omega); have n2 : ¬ 255 < N := (by omega); rw [wrI_mk]; simp [wrongI, formI, hs, hl0]; (try simp only [decide_eq_true_eq, decide_eq_false_iff_not]); omega) (w82_7_d N s q l hs (len0.2 hl0) hc ha S)
            · exact fin 0 (by have n1 : ¬ 24 ≤ N := (by omega); have n2 : ¬ 255 < N := (by omega); rw [wrI_mk]; simp [wrongI, formI, hs, hl0]; (try simp only [decide_eq_true_eq, decide_eq_false_iff_not]); omega) (w82_7_c N s q l hs (len0.2 hl0) hb S)
        · exact fin 11 (by simp [wrI, wrongI, formI, It.k, It.s, It.l, It.n, hs, hl0]) (w82_7_l N s q l hs (fun h => hl0 (len0.1 h)) S)
      · exact fin 11 (by simp [wrI, wrongI, formI, It.k, It.s, It.l, It.n, hs]) (w82_7_s N s q l hs S)
    · by_cases hs : s = []
      · by_cases hl0 : l.length = 0
        · cases hnan : nanN N with
          | false => exact fin 0 (by simp [wrI, wrongI, formI, It.k, It.s, It.l, It.n, hs, hl0, hnan]) (w82_8_a N s q l hs (len0.2 hl0) (fun S => by have := c114 N S; rwa [hnan] at this) S)
          | true =>
            by_cases hq : (N : Int) = 9221120237041090560
            · exact fin 0 (by simp [wrI, wrongI, formI, It.k, It.s, It.l, It.n, hs, hl0, hnan, hq]) (w82_8_c N s q l hs (len0.2 hl0) hq (fun S => by have := c114 N S; rwa [hnan] at this) S)
            · exact fin 15 (by simp [wrI, wrongI, formI, It.k, It.s, It.l, It.n, hs, hl0, hnan, hq]) (w82_8_b N s q l hs (len0.2 hl0) hq (fun S => by have := c114 N S; rwa [hnan] at this) S)
        · exact fin 11 (by simp [wrI, wrongI, formI, It.k, It.s, It.l, It.n, hs, hl0]) (w82_8_l N s q l hs (fun h => hl0 (len0.1 h)) S)
      · exact fin 11 (by simp [wrI, wrongI, formI, It.k, It.s, It.l, It.n, hs]) (w82_8_s N s q l hs S)
/-- CHECK, both of them -/
def chkI (x : It) : Int := checkI wrI x
theorem check24 (x : It) (h : okI x) (S : St) : Go.V.Call E0 24 [.agg (encI x)] S (.int .i64 (chkI x)) S :=
  c24 (P := okI) (fun _ _ _ _ _ h => okI_child h) (fun y hy S => w81 y hy S) x h h.2.1 S
theorem check25 (x : It) (h : okI x) (S : St) : Go.V.Call E0 25 [.agg (encI x)] S (.int .i64 (chkI x)) S := by
  have := c25 wrI x h.2.1 (fun y hy S => w82 y (okI_items h y hy) S) S
  rw [check_eq wrI x h.2.1] at this
  exact this
end Go.V.W
