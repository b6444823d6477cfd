/- Plain mathematics of weighted sums of placed points. No program in sight. -/
import Derived.Test.YtgnjconhbloocaaShMath
namespace Go.Proofs.Ytgnjconhbloocaa.Fx

/-- The sum of the first k weights. -/
def tot (ws : List Int) : Nat → Int
  | 0 => 0
  | k + 1 => tot ws k + ws.getD k 0
/-- A vector with w times another one added. -/
def V3.addw (s : V3) (w : Int) (v : V3) : V3 := ⟨s.a + w * v.a, s.b + w * v.b, s.c + w * v.c, s.d + w * v.d, s.e + w * v.e, s.f + w * v.f⟩
/-- The weighted sum of the first k vectors. -/
def comb (L : List V3) (ws : List Int) : Nat → V3
  | 0 => V3.zero
  | k + 1 => (comb L ws k).addw (ws.getD k 0) (L.getD k V3.zero)
/-- Whether all weights and their sum are in order. -/
def okW (ws : List Int) : Bool := (ws.all fun x => decide (0 ≤ x ∧ x ≤ 65536)) && decide (1 ≤ tot ws ws.length ∧ tot ws ws.length ≤ 65536)
def combOk (L : List V3) (ws : List Int) : Bool := placedB L && decide (ws.length = L.length) && okW ws
def combV (L : List V3) (ws : List Int) : V3 := if combOk L ws then comb L ws L.length else V3.zero
def combT (L : List V3) (ws : List Int) : Int := if combOk L ws then tot ws L.length else 0

theorem okW_all {ws : List Int} (h : okW ws = true) (k : Nat) (hk : k < ws.length) : 0 ≤ ws.getD k 0 ∧ ws.getD k 0 ≤ 65536 := by
  unfold okW at h
  simp only [Bool.and_eq_true, List.all_eq_true, decide_eq_true_eq] at h
  have := h.1 ws[k] (List.getElem_mem hk)
  rw [List.getD_eq_getElem?_getD, List.getElem?_eq_getElem hk]
  exact this
theorem okW_tot {ws : List Int} (h : okW ws = true) : 1 ≤ tot ws ws.length ∧ tot ws ws.length ≤ 65536 := by
  unfold okW at h
  simp only [Bool.and_eq_true, decide_eq_true_eq] at h
  exact h.2
theorem okW_stop (ws : List Int) (k : Nat) (hk : k < ws.length) (h : ¬ (0 ≤ ws.getD k 0 ∧ ws.getD k 0 ≤ 65536)) : okW ws = false := by
  by_cases e : okW ws = true
  · exact absurd (okW_all e k hk) h
  · simpa using e
theorem okW_not (ws : List Int) (h : ¬ (1 ≤ tot ws ws.length ∧ tot ws ws.length ≤ 65536)) : okW ws = false := by
  by_cases e : okW ws = true
  · exact absurd (okW_tot e) h
  · simpa using e
theorem okW_yes (ws : List Int) (h : ∀ k : Nat, k < ws.length → 0 ≤ ws.getD k 0 ∧ ws.getD k 0 ≤ 65536) (ht : 1 ≤ tot ws ws.length ∧ tot ws ws.length ≤ 65536) : okW ws = true := by
  unfold okW
  simp only [Bool.and_eq_true, List.all_eq_true, decide_eq_true_eq]
  refine ⟨fun x hx => ?_, ht⟩
  obtain ⟨k, hk, rfl⟩ := List.mem_iff_getElem.1 hx
  have := h k hk
  rw [List.getD_eq_getElem?_getD, List.getElem?_eq_getElem hk] at this
  exact this

/-- The sums of weights that are not negative do not decrease. -/
theorem tot_mono (ws : List Int) (n : Nat) (h : ∀ k : Nat, k < n → 0 ≤ ws.getD k 0) : ∀ (d k : Nat), k + d ≤ n → tot ws k ≤ tot ws (k + d)
  | 0, k, _ => Int.le_refl _
  | d + 1, k, hk => by
    have h1 := tot_mono ws n h d k (by omega)
    have h2 := h (k + d) (by omega)
    show tot ws k ≤ tot ws (k + d) + ws.getD (k + d) 0
    omega
theorem tot_bd (ws : List Int) : ∀ (k : Nat), (∀ i : Nat, i < k → 0 ≤ ws.getD i 0 ∧ ws.getD i 0 ≤ 65536) → 0 ≤ tot ws k ∧ tot ws k ≤ 65536 * k
  | 0, _ => by simp [tot]
  | k + 1, h => by
    have h1 := tot_bd ws k (fun i hi => h i (by omega))
    have h2 := h k (by omega)
    show 0 ≤ tot ws k + ws.getD k 0 ∧ tot ws k + ws.getD k 0 ≤ 65536 * ((k + 1 : Nat) : Int)
    omega
/-- A weight that the reference refuses is refused by the sums too. -/
theorem okW_over (ws : List Int) (k : Nat) (hk : k < ws.length) (h : ws.getD k 0 < 0 ∨ 65536 - tot ws k < ws.getD k 0) : okW ws = false := by
  by_cases e : okW ws = true
  · exfalso
    have ha := fun i hi => okW_all e i hi
    have ht := okW_tot e
    rcases h with h | h
    · have := ha k hk; omega
    · have := tot_mono ws ws.length (fun i hi => (ha i hi).1) (ws.length - (k + 1)) (k + 1) (by omega)
      rw [show k + 1 + (ws.length - (k + 1)) = ws.length by omega] at this
      have e2 : tot ws (k + 1) = tot ws k + ws.getD k 0 := rfl
      omega
  · simpa using e

/-- All entries of a vector are within a bound. -/
def V3.within (v : V3) (B : Int) : Prop := (-B ≤ v.a ∧ v.a ≤ B) ∧ (-B ≤ v.b ∧ v.b ≤ B) ∧ (-B ≤ v.c ∧ v.c ≤ B) ∧ (-B ≤ v.d ∧ v.d ≤ B) ∧ (-B ≤ v.e ∧ v.e ≤ B) ∧ (-B ≤ v.f ∧ v.f ≤ B)
theorem within_lo {v : V3} {B : Int} (h : v.within B) (j : Nat) : -B ≤ v.lo j ∧ v.lo j ≤ B := by
  obtain ⟨h1, h2, h3, h4, h5, h6⟩ := h
  match j with
  | 0 => exact h1
  | 1 => exact h3
  | n + 2 => exact h5
theorem within_hi {v : V3} {B : Int} (h : v.within B) (j : Nat) : -B ≤ v.hi j ∧ v.hi j ≤ B := by
  obtain ⟨h1, h2, h3, h4, h5, h6⟩ := h
  match j with
  | 0 => exact h2
  | 1 => exact h4
  | n + 2 => exact h6
theorem reach_within {v : V3} (h : reachB v = true) : v.within 268435456 := by
  unfold reachB at h
  simp only [Bool.and_eq_true, near_true] at h
  unfold V3.within
  omega
theorem wmul_bd (w x B : Int) (hw0 : 0 ≤ w) (hw1 : w ≤ 65536) (hB : 0 ≤ B) (hx : -B ≤ x ∧ x ≤ B) : -(65536 * B) ≤ w * x ∧ w * x ≤ 65536 * B := by
  have h1 := Int.mul_le_mul_of_nonneg_left hx.1 hw0
  have h2 := Int.mul_le_mul_of_nonneg_left hx.2 hw0
  have h3 := Int.mul_le_mul_of_nonneg_right hw1 hB
  rw [Int.mul_neg] at h1
  omega
theorem comb_bd (L : List V3) (ws : List Int) : ∀ (k : Nat), (∀ i : Nat, i < k → 0 ≤ ws.getD i 0 ∧ ws.getD i 0 ≤ 65536) → (∀ i : Nat, i < k → reachB (L.getD i V3.zero) = true) → (comb L ws k).within (17592186044416 * k)
  | 0, _, _ => by simp [comb, V3.zero, V3.within]
  | k + 1, h, hr => by
    have h1 := comb_bd L ws k (fun i hi => h i (by omega)) (fun i hi => hr i (by omega))
    have h2 := h k (by omega)
    have h3 := reach_within (hr k (by omega))
    show ((comb L ws k).addw (ws.getD k 0) (L.getD k V3.zero)).within (17592186044416 * ((k + 1 : Nat) : Int))
    generalize comb L ws k = s at *
    generalize ws.getD k 0 = w at *
    generalize L.getD k V3.zero = v at *
    obtain ⟨a1, a2, a3, a4, a5, a6⟩ := h1
    obtain ⟨b1, b2, b3, b4, b5, b6⟩ := h3
    have m := fun x hx => wmul_bd w x 268435456 h2.1 h2.2 (by omega) hx
    have m1 := m _ b1; have m2 := m _ b2; have m3 := m _ b3; have m4 := m _ b4; have m5 := m _ b5; have m6 := m _ b6
    unfold V3.within V3.addw
    simp only
    omega

/-- The first j intervals of s with w times those of v added. -/
def mixV (s : V3) (w : Int) (v : V3) (j : Nat) : V3 :=
  ⟨if 0 < j then s.a + w * v.a else s.a, if 0 < j then s.b + w * v.b else s.b, if 1 < j then s.c + w * v.c else s.c, if 1 < j then s.d + w * v.d else s.d, if 2 < j then s.e + w * v.e else s.e, if 2 < j then s.f + w * v.f else s.f⟩
def V3.arr (v : V3) : Array Value := #[.int .i64 v.a, .int .i64 v.b, .int .i64 v.c, .int .i64 v.d, .int .i64 v.e, .int .i64 v.f]
theorem mixV_zero (s : V3) (w : Int) (v : V3) : mixV s w v 0 = s := rfl
theorem mixV_three (s : V3) (w : Int) (v : V3) : mixV s w v 3 = s.addw w v := rfl
theorem mixV_lo (s : V3) (w : Int) (v : V3) : ∀ j : Nat, j < 3 → (mixV s w v j).arr[j * 2]? = some (.int .i64 (s.lo j)) ∧ (mixV s w v j).arr[j * 2 + 1]? = some (.int .i64 (s.hi j))
  | 0, _ => ⟨rfl, rfl⟩
  | 1, _ => ⟨rfl, rfl⟩
  | 2, _ => ⟨rfl, rfl⟩
theorem mixV_half (s : V3) (w : Int) (v : V3) (u : Value) : ∀ j : Nat, j < 3 → ((mixV s w v j).arr.setIfInBounds (j * 2) u)[j * 2 + 1]? = some (.int .i64 (s.hi j))
  | 0, _ => rfl
  | 1, _ => rfl
  | 2, _ => rfl
theorem mixV_next (s : V3) (w : Int) (v : V3) : ∀ j : Nat, j < 3 → (((mixV s w v j).arr.setIfInBounds (j * 2) (.int .i64 (s.lo j + w * v.lo j))).setIfInBounds (j * 2 + 1) (.int .i64 (s.hi j + w * v.hi j))) = (mixV s w v (j + 1)).arr
  | 0, _ => rfl
  | 1, _ => rfl
  | 2, _ => rfl

end Go.Proofs.Ytgnjconhbloocaa.Fx
