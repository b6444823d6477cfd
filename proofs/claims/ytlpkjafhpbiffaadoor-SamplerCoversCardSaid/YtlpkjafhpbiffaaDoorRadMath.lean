/- Plain mathematics of radical inverses: their first digits say which residue the index has. No program in sight. -/
import Derived.Test.YtlpkjafhpbiffaaDoorSampMath
namespace Go.Proofs.YtlpkjafhpbiffaaDoor.Fx

theorem radN_lin {b : Int} (hb : 2 ≤ b) : ∀ (m : Nat) (i n d : Int), i ≤ m → 0 ≤ i → radN b i n d = (n * (radN b i 0 1).2 + (radN b i 0 1).1, d * (radN b i 0 1).2)
  | 0, i, n, d, hi, h0 => by
    rw [radN_end _ _ _ _ (by omega), radN_end _ _ _ _ (by omega)]; simp
  | m + 1, i, n, d, hi, h0 => by
    by_cases hp : 0 < i
    · have hq : i / b < i := Int.ediv_lt_self_of_pos_of_ne_one hp (by omega)
      have hq0 := Int.ediv_nonneg h0 (show 0 ≤ b by omega)
      have ih := fun n d => radN_lin hb m (i / b) n d (by omega) hq0
      rw [radN_step b i n d hb hp, radN_step b i 0 1 hb hp, ih, ih (0 * b + i % b) (1 * b)]
      generalize (radN b (i / b) 0 1).1 = N
      generalize (radN b (i / b) 0 1).2 = D
      refine Prod.ext ?_ ?_
      · simp only [Int.zero_mul, Int.zero_add, Int.one_mul]
        rw [Int.add_mul, Int.mul_assoc]; omega
      · simp only [Int.one_mul]
        rw [Int.mul_assoc]
    · rw [radN_end _ _ _ _ (by omega), radN_end _ _ _ _ (by omega)]; simp

/-- Numerator and denominator of the radical inverse of a number. -/
def rN (b i : Int) : Int := (radN b i 0 1).1
def rD (b i : Int) : Int := (radN b i 0 1).2

theorem rad_eq (b i : Int) (h0 : 0 ≤ i) (h1 : i < 4294967296) : rad b i = (rN b i, rD b i) := by
  unfold rad rN rD
  rw [Int.emod_eq_of_lt h0 h1]

theorem r_zero (b : Int) : rN b 0 = 0 ∧ rD b 0 = 1 := by
  unfold rN rD
  rw [radN_end _ _ _ _ (by omega)]
  exact ⟨rfl, rfl⟩

theorem r_step {b i : Int} (hb : 2 ≤ b) (hi : 0 < i) : rN b i = i % b * rD b (i / b) + rN b (i / b) ∧ rD b i = b * rD b (i / b) := by
  have hq0 := Int.ediv_nonneg (show 0 ≤ i by omega) (show 0 ≤ b by omega)
  unfold rN rD
  rw [radN_step b i 0 1 hb hi, radN_lin hb (i / b).toNat _ _ _ (by omega) hq0]
  simp

theorem r_bd {b : Int} (hb : 2 ≤ b) : ∀ (m : Nat) (i : Int), i ≤ m → 0 ≤ i → 0 ≤ rN b i ∧ rN b i < rD b i ∧ 1 ≤ rD b i ∧ (0 < i → rD b i ≤ b * i)
  | 0, i, hm, h0 => by
    obtain rfl : i = 0 := by omega
    obtain ⟨h1, h2⟩ := r_zero b
    rw [h1, h2]; omega
  | m + 1, i, hm, h0 => by
    by_cases hp : 0 < i
    · have hq : i / b < i := Int.ediv_lt_self_of_pos_of_ne_one hp (by omega)
      have hq0 := Int.ediv_nonneg h0 (show 0 ≤ b by omega)
      obtain ⟨i1, i2, i3, i4⟩ := r_bd hb m (i / b) (by omega) hq0
      obtain ⟨s1, s2⟩ := r_step hb hp
      have e0 := Int.emod_nonneg i (show b ≠ 0 by omega)
      have e1 := Int.emod_lt_of_pos i (show 0 < b by omega)
      have p0 := Int.mul_nonneg e0 (show 0 ≤ rD b (i / b) by omega)
      have p1 := Int.mul_le_mul_of_nonneg_right (show i % b + 1 ≤ b by omega) (show 0 ≤ rD b (i / b) by omega)
      rw [Int.add_mul] at p1
      have p2 := Int.mul_le_mul_of_nonneg_left i3 (show 0 ≤ b by omega)
      refine ⟨by omega, by omega, by omega, fun _ => ?_⟩
      rw [s2]
      refine Int.mul_le_mul_of_nonneg_left ?_ (by omega)
      by_cases hz : 0 < i / b
      · have := i4 hz
        have e2 := Int.mul_ediv_add_emod i b
        omega
      · have : i / b = 0 := by omega
        rw [this, (r_zero b).2]; omega
    · obtain rfl : i = 0 := by omega
      obtain ⟨h1, h2⟩ := r_zero b
      rw [h1, h2]; omega

/-- The number that the first a digits of the radical inverse of i make. -/
def dig (b : Int) (a : Nat) (i : Int) : Int := rN b i * b ^ a / rD b i

theorem bpow_pos {b : Int} (hb : 2 ≤ b) (a : Nat) : 0 < b ^ a := Int.pow_pos (by omega)

theorem dig_bd {b : Int} (hb : 2 ≤ b) (a : Nat) (i : Int) (h0 : 0 ≤ i) : 0 ≤ dig b a i ∧ dig b a i < b ^ a := by
  obtain ⟨h1, h2, h3, _⟩ := r_bd hb i.toNat i (by omega) h0
  have := frac_bd (rN b i) (b ^ a) (rD b i) h1 h2 (bpow_pos hb a)
  exact this

theorem dig_step {b : Int} (hb : 2 ≤ b) (a : Nat) (i : Int) (h0 : 0 ≤ i) : dig b (a + 1) i = i % b * b ^ a + dig b a (i / b) := by
  have hq0 := Int.ediv_nonneg h0 (show 0 ≤ b by omega)
  obtain ⟨h1, h2, h3, _⟩ := r_bd hb (i / b).toNat (i / b) (by omega) hq0
  have e : rN b i * b ^ (a + 1) * rD b (i / b) = (i % b * rD b (i / b) + rN b (i / b)) * b ^ a * rD b i := by
    by_cases hp : 0 < i
    · obtain ⟨s1, s2⟩ := r_step hb hp
      rw [s1, s2, Int.pow_succ]
      ac_rfl
    · obtain rfl : i = 0 := by omega
      obtain ⟨z1, z2⟩ := r_zero b
      have : (0 : Int) / b = 0 := by simp
      rw [this, z1, z2]; simp
  obtain ⟨g1, g2, g3, _⟩ := r_bd hb i.toNat i (by omega) h0
  unfold dig
  have k : rN b i * b ^ (a + 1) / rD b i = (i % b * rD b (i / b) + rN b (i / b)) * b ^ a / rD b (i / b) := by
    have x1 := Int.mul_ediv_mul_of_pos_left (rN b i * b ^ (a + 1)) (rD b i) (show 0 < rD b (i / b) by omega)
    have x2 := Int.mul_ediv_mul_of_pos_left ((i % b * rD b (i / b) + rN b (i / b)) * b ^ a) (rD b (i / b)) (show 0 < rD b i by omega)
    rw [← x1, ← x2, e, Int.mul_comm (rD b (i / b)) (rD b i)]
  rw [k, Int.add_mul, Int.mul_assoc, Int.mul_comm (rD b (i / b)) (b ^ a), ← Int.mul_assoc, Int.mul_comm (i % b * b ^ a), Int.mul_add_ediv_left _ _ (by omega)]

theorem dig_zero {b : Int} (hb : 2 ≤ b) (i : Int) (h0 : 0 ≤ i) : dig b 0 i = 0 := by
  have := dig_bd hb 0 i h0
  rw [Int.pow_zero] at this
  omega

theorem emod_two (i b c : Int) (hb : 0 < b) (hc : 0 < c) : i % (b * c) = i % b + b * (i / b % c) := by
  have e0 := Int.emod_nonneg i (show b ≠ 0 by omega)
  have e1 := Int.emod_lt_of_pos i hb
  have f0 := Int.emod_nonneg (i / b) (show c ≠ 0 by omega)
  have f1 := Int.emod_lt_of_pos (i / b) hc
  have g1 := Int.mul_ediv_add_emod i b
  have g2 := Int.mul_ediv_add_emod (i / b) c
  have g3 : i = (i % b + b * (i / b % c)) + b * c * (i / b / c) := by
    have : b * (i / b) = b * c * (i / b / c) + b * (i / b % c) := by
      rw [Int.mul_assoc, ← Int.mul_add, g2]
    omega
  have h0 := Int.mul_nonneg (show 0 ≤ b by omega) f0
  have h1 := Int.mul_le_mul_of_nonneg_left (show i / b % c + 1 ≤ c by omega) (show 0 ≤ b by omega)
  rw [Int.mul_add] at h1
  have h2 : (i % b + b * (i / b % c) + b * c * (i / b / c)) % (b * c) = (i % b + b * (i / b % c)) % (b * c) := Int.add_mul_emod_self_left _ _ _
  rw [← g3] at h2
  rw [h2, Int.emod_eq_of_lt (by omega) (by omega)]

/-- Two indexes with the same first digits have the same residue. -/
theorem dig_inj {b : Int} (hb : 2 ≤ b) : ∀ (a : Nat) (i j : Int), 0 ≤ i → 0 ≤ j → dig b a i = dig b a j → i % b ^ a = j % b ^ a
  | 0, i, j, hi, hj, h => by rw [Int.pow_zero]; omega
  | a + 1, i, j, hi, hj, h => by
    rw [dig_step hb a i hi, dig_step hb a j hj] at h
    have qi := Int.ediv_nonneg hi (show 0 ≤ b by omega)
    have qj := Int.ediv_nonneg hj (show 0 ≤ b by omega)
    have bi := dig_bd hb a (i / b) qi
    have bj := dig_bd hb a (j / b) qj
    have hp := bpow_pos hb a
    have e1 : i % b = j % b := by
      have x : ∀ p q r : Int, 0 ≤ q → q < b ^ a → (p * b ^ a + q) / b ^ a = p := fun p q _ h0 h1 => by
        rw [Int.mul_comm, Int.mul_add_ediv_left _ _ (by omega), Int.ediv_eq_zero_of_lt h0 h1]; omega
      have := congrArg (· / b ^ a) h
      simp only [x _ _ 0 bi.1 bi.2, x _ _ 0 bj.1 bj.2] at this
      exact this
    rw [e1] at h
    have e2 := dig_inj hb a (i / b) (j / b) qi qj (by omega)
    rw [Int.pow_succ, Int.mul_comm, emod_two i b _ (by omega) hp, emod_two j b _ (by omega) hp, e1, e2]

/-- Which of the numbers below n are among f 0 .. f (i - 1), as cells. -/
def seen (f : Nat → Nat) (n i : Nat) : Array Value := ((List.range n).map fun j => Value.bool ((List.range i).any fun t => f t == j)).toArray

theorem seen_size (f : Nat → Nat) (n i : Nat) : (seen f n i).size = n := by simp [seen]

theorem seen_zero (f : Nat → Nat) (n : Nat) : seen f n 0 = Array.replicate n (.bool false) := by
  unfold seen
  apply Array.ext
  · simp
  · intro i h1 h2
    simp

theorem seen_get (f : Nat → Nat) (n i : Nat) (hn : f i < n) (h : ∀ t, t < i → f t ≠ f i) : (seen f n i)[f i]? = some (.bool false) := by
  unfold seen
  simp only [List.getElem?_toArray, List.getElem?_map, List.getElem?_range hn, Option.map_some]
  congr 2
  rw [List.any_eq_false]
  intro t ht
  have := h t (List.mem_range.1 ht)
  simpa using this

theorem seen_next (f : Nat → Nat) (n i : Nat) : (seen f n i).setIfInBounds (f i) (.bool true) = seen f n (i + 1) := by
  apply Array.ext
  · simp [seen]
  · intro j h1 h2
    have hj : j < n := by simpa [seen] using h2
    by_cases e : f i = j
    · subst e
      simp [seen, List.range_succ]
    · simp [seen, Array.getElem_setIfInBounds, e, List.range_succ]

end Go.Proofs.YtlpkjafhpbiffaaDoor.Fx
