/- Plain mathematics of the box around placed points. No program in sight. -/
import Derived.Test.YtgnjconhbloocaaCombMath
namespace Go.Proofs.Ytgnjconhbloocaa.Fx

/-- The least one of the lower ends j of the first k + 1 points, and the greatest one of the upper ends. -/
def mnL (L : List V3) (j : Nat) : Nat → Int
  | 0 => (L.getD 0 V3.zero).lo j
  | k + 1 => min (mnL L j k) ((L.getD (k + 1) V3.zero).lo j)
def mxL (L : List V3) (j : Nat) : Nat → Int
  | 0 => (L.getD 0 V3.zero).hi j
  | k + 1 => max (mxL L j k) ((L.getD (k + 1) V3.zero).hi j)
def boundOk (L : List V3) (r : Int) : Bool := placedB L && decide (0 ≤ r ∧ r ≤ 1048576)
/-- The vector of three pairs of ends. -/
def ofEnds (lo hi : Nat → Int) : V3 := ⟨lo 0, hi 0, lo 1, hi 1, lo 2, hi 2⟩
def boundV (L : List V3) (r : Int) : V3 := if boundOk L r then ofEnds (fun j => mnL L j (L.length - 1) - r) (fun j => mxL L j (L.length - 1) + r) else V3.zero

theorem boundOk_1 {L : List V3} {r : Int} (h : placedB L = false) : boundOk L r = false := by unfold boundOk; rw [h]; rfl
theorem boundOk_2 {L : List V3} {r : Int} (h : ¬ (0 ≤ r ∧ r ≤ 1048576)) : boundOk L r = false := by unfold boundOk; simp [h]
theorem boundOk_yes {L : List V3} {r : Int} (h : placedB L = true) (h2 : 0 ≤ r ∧ r ≤ 1048576) : boundOk L r = true := by unfold boundOk; simp [h, h2]
theorem boundV_no {L : List V3} {r : Int} (h : boundOk L r = false) : boundV L r = V3.zero := by unfold boundV; rw [h]; rfl
theorem boundV_yes {L : List V3} {r : Int} (h : boundOk L r = true) : boundV L r = ofEnds (fun j => mnL L j (L.length - 1) - r) (fun j => mxL L j (L.length - 1) + r) := by unfold boundV; rw [h]; rfl
theorem ofEnds_lo (lo hi : Nat → Int) : ∀ j : Nat, j < 3 → (ofEnds lo hi).lo j = lo j ∧ (ofEnds lo hi).hi j = hi j
  | 0, _ => ⟨rfl, rfl⟩
  | 1, _ => ⟨rfl, rfl⟩
  | 2, _ => ⟨rfl, rfl⟩

theorem mnL_bd (L : List V3) (j : Nat) (hj : j < 3) : ∀ (k : Nat), (∀ i : Nat, i ≤ k → reachB (L.getD i V3.zero) = true) → (-268435456 ≤ mnL L j k ∧ mnL L j k ≤ (L.getD 0 V3.zero).lo j) ∧ ((L.getD 0 V3.zero).hi j ≤ mxL L j k ∧ mxL L j k ≤ 268435456) ∧ (L.getD 0 V3.zero).lo j ≤ (L.getD 0 V3.zero).hi j
  | 0, h => by
    have := near_true.1 (reachB_at (h 0 (Nat.le_refl _)) j hj)
    simp only [mnL, mxL]
    omega
  | k + 1, h => by
    have h1 := mnL_bd L j hj k (fun i hi => h i (by omega))
    have h2 := near_true.1 (reachB_at (h (k + 1) (Nat.le_refl _)) j hj)
    simp only [mnL, mxL]
    omega

theorem mnL_le (L : List V3) (j : Nat) : ∀ (k i : Nat), i ≤ k → mnL L j k ≤ (L.getD i V3.zero).lo j ∧ (L.getD i V3.zero).hi j ≤ mxL L j k
  | 0, i, h => by obtain rfl : i = 0 := by omega
                  exact ⟨Int.le_refl _, Int.le_refl _⟩
  | k + 1, i, h => by
    simp only [mnL, mxL]
    by_cases e : i = k + 1
    · subst e; omega
    · have := mnL_le L j k i (by omega); omega
theorem mnL_at (L : List V3) (j : Nat) : ∀ (k : Nat), (∃ i : Nat, i ≤ k ∧ mnL L j k = (L.getD i V3.zero).lo j) ∧ (∃ i : Nat, i ≤ k ∧ mxL L j k = (L.getD i V3.zero).hi j)
  | 0 => ⟨⟨0, Nat.le_refl _, rfl⟩, ⟨0, Nat.le_refl _, rfl⟩⟩
  | k + 1 => by
    obtain ⟨⟨i, hi, ei⟩, ⟨m, hm, em⟩⟩ := mnL_at L j k
    simp only [mnL, mxL]
    constructor
    · by_cases c : mnL L j k ≤ (L.getD (k + 1) V3.zero).lo j
      · exact ⟨i, by omega, by omega⟩
      · exact ⟨k + 1, by omega, by omega⟩
    · by_cases c : (L.getD (k + 1) V3.zero).hi j ≤ mxL L j k
      · exact ⟨m, by omega, by omega⟩
      · exact ⟨k + 1, by omega, by omega⟩

/-- The least one of x and the first k numbers of a list. -/
def lst (x : Int) (ys : List Int) : Nat → Int
  | 0 => x
  | k + 1 => min (lst x ys k) (ys.getD k 0)
theorem lst_mn (L : List V3) (j : Nat) (ys : List Int) : ∀ (k : Nat), (∀ i : Nat, i < k → ys.getD i 0 = (L.getD (i + 1) V3.zero).lo j) → lst ((L.getD 0 V3.zero).lo j) ys k = mnL L j k
  | 0, _ => rfl
  | k + 1, h => by
    have h1 := lst_mn L j ys k (fun i hi => h i (by omega))
    simp only [lst, mnL]
    rw [h1, h k (by omega)]
theorem lst_mx (L : List V3) (j : Nat) (ys : List Int) : ∀ (k : Nat), (∀ i : Nat, i < k → ys.getD i 0 = -(L.getD (i + 1) V3.zero).hi j) → lst (-(L.getD 0 V3.zero).hi j) ys k = -mxL L j k
  | 0, _ => rfl
  | k + 1, h => by
    have h1 := lst_mx L j ys k (fun i hi => h i (by omega))
    simp only [lst, mxL]
    rw [h1, h k (by omega)]
    omega

/-- The cells of an array of eight numbers: the first i are those of f, the others are 0. -/
def cells8 (f : Nat → Int) (i : Nat) : Array Value :=
  #[.int .i64 (if 0 < i then f 0 else 0), .int .i64 (if 1 < i then f 1 else 0), .int .i64 (if 2 < i then f 2 else 0), .int .i64 (if 3 < i then f 3 else 0), .int .i64 (if 4 < i then f 4 else 0), .int .i64 (if 5 < i then f 5 else 0), .int .i64 (if 6 < i then f 6 else 0), .int .i64 (if 7 < i then f 7 else 0)]
theorem cells8_next (f : Nat → Int) : ∀ i : Nat, i < 8 → (cells8 f i).setIfInBounds i (.int .i64 (f i)) = cells8 f (i + 1)
  | 0, _ => rfl
  | 1, _ => rfl
  | 2, _ => rfl
  | 3, _ => rfl
  | 4, _ => rfl
  | 5, _ => rfl
  | 6, _ => rfl
  | 7, _ => rfl
theorem cells8_any (f : Nat → Int) (i : Nat) : ∀ m : Nat, m < 8 → (cells8 f i)[m]? = some (.int .i64 (if m < i then f m else 0))
  | 0, _ => rfl
  | 1, _ => rfl
  | 2, _ => rfl
  | 3, _ => rfl
  | 4, _ => rfl
  | 5, _ => rfl
  | 6, _ => rfl
  | 7, _ => rfl
theorem cells8_at (f : Nat → Int) (i m : Nat) (hi : i ≤ 8) (hm : m < i) : (cells8 f i)[m]? = some (.int .i64 (f m)) := by
  rw [cells8_any f i m (by omega), if_pos hm]

/-- Ends that are laid so far. -/
def endsTo (lo hi : Nat → Int) (j : Nat) : V3 := ⟨if 0 < j then lo 0 else 0, if 0 < j then hi 0 else 0, if 1 < j then lo 1 else 0, if 1 < j then hi 1 else 0, if 2 < j then lo 2 else 0, if 2 < j then hi 2 else 0⟩
theorem endsTo_zero (lo hi : Nat → Int) : endsTo lo hi 0 = V3.zero := rfl
theorem endsTo_three (lo hi : Nat → Int) : endsTo lo hi 3 = ofEnds lo hi := rfl
theorem endsTo_next (lo hi : Nat → Int) : ∀ j : Nat, j < 3 → (((endsTo lo hi j).arr.setIfInBounds (j * 2) (.int .i64 (lo j))).setIfInBounds (j * 2 + 1) (.int .i64 (hi j))) = (endsTo lo hi (j + 1)).arr
  | 0, _ => rfl
  | 1, _ => rfl
  | 2, _ => rfl
end Go.Proofs.Ytgnjconhbloocaa.Fx
