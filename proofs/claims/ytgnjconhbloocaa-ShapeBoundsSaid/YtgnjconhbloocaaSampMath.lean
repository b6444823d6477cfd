/- Plain mathematics of the sampler: what its functions compute. No program in sight. -/
import Derived.Test.YtgnjconhbloocaaMath
import Derived.Test.YtgnjconhbloocaaRowMath
import Derived.Laws.Bits64
import Derived.Laws.BitsAllLaws
namespace Go.Proofs.Ytgnjconhbloocaa.Fx

/-- The steps of the generator splitmix64. -/
def mix0 (s i : Int) : Int := IntKind.u64.wrap (s + IntKind.u64.wrap (IntKind.u64.wrap (i + 1) * 11400714819323198485))
def mix1 (z : Int) : Int := IntKind.u64.wrap (bits .xor .u64 z (z / 1073741824) * 13787848793156543929)
def mix2 (z : Int) : Int := IntKind.u64.wrap (bits .xor .u64 z (z / 134217728) * 10723151780598845931)
def mix3 (z : Int) : Int := bits .xor .u64 z (z / 2147483648)
def word (s i : Int) : Int := mix3 (mix2 (mix1 (mix0 s i)))

/-- The number at a fraction of an interval. -/
def spread (w lo hi : Int) : Int := if vb lo hi then lo + w * (hi - lo + 1) / 18446744073709551616 else lo
def place (n d lo hi : Int) : Int := if vb lo hi ∧ n < d then lo + n * (hi - lo + 1) / d else lo

theorem place_yes {n d lo hi : Int} (h : vb lo hi = true) (hn : n < d) : place n d lo hi = lo + n * (hi - lo + 1) / d := by unfold place; rw [if_pos ⟨h, hn⟩]
theorem place_not {n d lo hi : Int} (hn : ¬ n < d) : place n d lo hi = lo := by unfold place; rw [if_neg (fun h => hn h.2)]
theorem place_no {n d lo hi : Int} (h : vb lo hi = false) : place n d lo hi = lo := by unfold place; rw [if_neg (fun h' => by rw [h] at h'; exact absurd h'.1 (by decide))]

theorem u64_wrap_bd (x : Int) : 0 ≤ IntKind.u64.wrap x ∧ IntKind.u64.wrap x < 18446744073709551616 := by rw [IntKind.wrap_u64]; omega

theorem frac_bd (a n c : Int) (ha0 : 0 ≤ a) (hac : a < c) (hn : 0 < n) : 0 ≤ a * n / c ∧ a * n / c < n := by
  have hc : 0 < c := by omega
  have h1 := Int.mul_lt_mul_of_pos_right hac hn
  refine ⟨Int.ediv_nonneg (Int.mul_nonneg ha0 (by omega)) (by omega), ?_⟩
  rw [Int.ediv_lt_iff_lt_mul hc, Int.mul_comm n c]
  exact h1

theorem high_lt (a n c : Int) (ha0 : 0 ≤ a) (hac : a < c) (hn : 0 < n) (hn1 : n ≤ 18446744073709551616) : 0 ≤ a * n / 18446744073709551616 ∧ a * n / 18446744073709551616 < c := by
  have h1 := Int.mul_le_mul_of_nonneg_left hn1 ha0
  refine ⟨Int.ediv_nonneg (Int.mul_nonneg ha0 (by omega)) (by omega), ?_⟩
  omega

/-- The table of primes; 0 beyond it. -/
def primes : List Int := [2, 3, 5, 7, 11, 13, 17, 19, 23, 29]
def prime (k : Int) : Int := if k < 0 then 0 else primes.getD k.toNat 0
theorem prime_big (k : Int) (h : 10 ≤ k) : prime k = 0 := by
  unfold prime
  rw [if_neg (by omega), List.getD_eq_getElem?_getD, List.getElem?_eq_none (by simp [primes]; omega)]
  rfl

/-- The radical inverse: what the loop makes of what is left of the index, the numerator and the denominator. -/
def radN (b i n d : Int) : Int × Int := if h : 2 ≤ b ∧ 0 < i then radN b (i / b) (n * b + i % b) (d * b) else (n, d)
termination_by i.toNat
decreasing_by
  have : i / b < i := Int.ediv_lt_self_of_pos_of_ne_one h.2 (by omega) |> fun h => h
  have := Int.ediv_nonneg (show 0 ≤ i by omega) (show 0 ≤ b by omega)
  omega
def rad (b i : Int) : Int × Int := radN b (i % 4294967296) 0 1

theorem radN_step (b i n d : Int) (hb : 2 ≤ b) (hi : 0 < i) : radN b i n d = radN b (i / b) (n * b + i % b) (d * b) := by
  rw [radN, dif_pos ⟨hb, hi⟩]
theorem radN_end (b i n d : Int) (h : ¬ (2 ≤ b ∧ 0 < i)) : radN b i n d = (n, d) := by
  rw [radN, dif_neg h]
theorem rad_small (b i : Int) (h : b < 2) : rad b i = (0, 1) := by unfold rad; exact radN_end _ _ _ _ (by omega)

/-- What holds at the head of each round of the loop that makes the radical inverse of i: j is left, n / d is made. -/
def RadAt (b i j n d : Int) : Prop := radN b j n d = rad b i ∧ 0 ≤ j ∧ j * d ≤ i % 4294967296 ∧ 0 ≤ n ∧ n < d ∧ 1 ≤ d ∧ d < 18446744073709551616 ∧ (d = 1 ∨ j = 0 ∨ b ≤ i % 4294967296)

theorem radAt_start (b i : Int) (hb : 2 ≤ b) (hb1 : b < 18446744073709551616) (hi : 0 ≤ i) : RadAt b i (i % 4294967296) 0 1 :=
  ⟨rfl, by omega, by omega, by omega, by omega, by omega, by omega, .inl rfl⟩

theorem radAt_bd {b i j n d : Int} (h : RadAt b i j n d) : 0 ≤ j ∧ j < 4294967296 ∧ 0 ≤ n ∧ n < d ∧ 1 ≤ d ∧ d < 18446744073709551616 := by
  obtain ⟨_, h1, h2, h3, h4, h5, h6, h7⟩ := h
  have : j * 1 ≤ j * d := Int.mul_le_mul_of_nonneg_left h5 h1
  omega

theorem radAt_room {b i j n d : Int} (hb : 2 ≤ b) (hb1 : b < 18446744073709551616) (h : RadAt b i j n d) (hj : 0 < j) :
    0 ≤ n * b ∧ n * b < 18446744073709551616 ∧ 0 ≤ j % b ∧ n * b + j % b < 18446744073709551616 ∧ 0 ≤ d * b ∧ d * b < 18446744073709551616 ∧ (0 ≤ j / b ∧ j / b < j) := by
  obtain ⟨_, h1, h2, h3, h4, h5, h6, h7⟩ := h
  have g1 : 1 * d ≤ j * d := Int.mul_le_mul_of_nonneg_right (by omega) (by omega)
  have g2 : d * b < 18446744073709551616 := by
    rcases h7 with rfl | h7 | h7
    · omega
    · omega
    · have := Int.mul_le_mul (show d ≤ 4294967295 by omega) (show b ≤ 4294967295 by omega) (by omega) (by omega)
      omega
  have g3 : 0 ≤ n * b := Int.mul_nonneg h3 (by omega)
  have g4 : (n + 1) * b ≤ d * b := Int.mul_le_mul_of_nonneg_right (by omega) (by omega)
  rw [Int.add_mul] at g4
  have g5 := Int.emod_nonneg j (show b ≠ 0 by omega)
  have g6 := Int.emod_lt_of_pos j (show 0 < b by omega)
  have g7 := Int.ediv_nonneg h1 (show 0 ≤ b by omega)
  have g8 : j / b < j := Int.ediv_lt_self_of_pos_of_ne_one hj (by omega)
  omega

theorem radAt_next {b i j n d : Int} (hb : 2 ≤ b) (hb1 : b < 18446744073709551616) (h : RadAt b i j n d) (hj : 0 < j) : RadAt b i (j / b) (n * b + j % b) (d * b) := by
  have hr := radAt_room hb hb1 h hj
  obtain ⟨h0, h1, h2, h3, h4, h5, h6, h7⟩ := h
  have g4 : (n + 1) * b ≤ d * b := Int.mul_le_mul_of_nonneg_right (by omega) (by omega)
  rw [Int.add_mul] at g4
  have g6 := Int.emod_lt_of_pos j (show 0 < b by omega)
  have g9 : 1 * b ≤ d * b := Int.mul_le_mul_of_nonneg_right (by omega) (by omega)
  have g10 : j / b * b ≤ j := by have := Int.mul_ediv_add_emod j b; rw [Int.mul_comm] at this; omega
  have g11 : j / b * b * d ≤ j * d := Int.mul_le_mul_of_nonneg_right g10 (by omega)
  have g12 : j / b * (d * b) = j / b * b * d := by rw [Int.mul_comm d b, Int.mul_assoc]
  refine ⟨by rw [← radN_step b j n d hb hj]; exact h0, by omega, by omega, by omega, by omega, by omega, by omega, ?_⟩
  by_cases hq : j / b = 0
  · exact .inr (.inl hq)
  · refine .inr (.inr ?_)
    have g13 : 1 * b ≤ j / b * b := Int.mul_le_mul_of_nonneg_right (by omega) (by omega)
    have g14 : j * 1 ≤ j * d := Int.mul_le_mul_of_nonneg_left h5 h1
    omega

theorem radAt_end {b i j n d : Int} (h : RadAt b i j n d) (hj : j ≤ 0) : rad b i = (n, d) := by rw [← h.1, radN_end _ _ _ _ (by omega)]

theorem radN_bd {b i : Int} (hb : 2 ≤ b) (hb1 : b < 18446744073709551616) : ∀ (m : Nat) (j n d : Int), j ≤ m → RadAt b i j n d → 0 ≤ (radN b j n d).1 ∧ (radN b j n d).1 < (radN b j n d).2 ∧ (radN b j n d).2 < 18446744073709551616
  | 0, j, n, d, hj, h => by
    rw [radN_end _ _ _ _ (by omega)]
    obtain ⟨_, _, h1, h2, h3, h4⟩ := radAt_bd h
    exact ⟨h1, h2, h4⟩
  | m + 1, j, n, d, hj, h => by
    by_cases hp : 0 < j
    · rw [radN_step _ _ _ _ hb hp]
      have hr := radAt_room hb hb1 h hp
      exact radN_bd hb hb1 m _ _ _ (by omega) (radAt_next hb hb1 h hp)
    · rw [radN_end _ _ _ _ (by omega)]
      obtain ⟨_, _, h1, h2, h3, h4⟩ := radAt_bd h
      exact ⟨h1, h2, h4⟩

theorem rad_bd (b i : Int) (hb1 : b < 18446744073709551616) (hi : 0 ≤ i) : 0 ≤ (rad b i).1 ∧ (rad b i).1 < (rad b i).2 ∧ (rad b i).2 < 18446744073709551616 := by
  by_cases h : b < 2
  · rw [rad_small b i h]; decide
  · exact radN_bd (i := i) (by omega) hb1 (i % 4294967296).toNat _ _ _ (by omega) (radAt_start b i (by omega) hb1 hi)

theorem prime_bd (k : Int) : 0 ≤ prime k ∧ prime k < 30 := by
  unfold prime
  split
  · omega
  · by_cases h : k.toNat < 10
    · have : ∀ j : Nat, j < 10 → 0 ≤ primes.getD j 0 ∧ primes.getD j 0 < 30 := by decide
      exact this _ h
    · rw [List.getD_eq_getElem?_getD, List.getElem?_eq_none (by simp [primes]; omega)]
      decide

theorem mix3_bd (z : Int) (h0 : 0 ≤ z) (h1 : z < 18446744073709551616) : 0 ≤ mix3 z ∧ mix3 z < 18446744073709551616 := by
  unfold mix3
  rw [u64_xor z (z / 2147483648) h0 h1 (by omega) (by omega)]
  have : z.toNat ^^^ (z / 2147483648).toNat < 2 ^ 64 := Nat.xor_lt_two_pow (by omega) (by omega)
  omega

theorem word_bd (s i : Int) : 0 ≤ word s i ∧ word s i < 18446744073709551616 := by
  unfold word
  have := u64_wrap_bd (bits .xor .u64 (mix1 (mix0 s i)) (mix1 (mix0 s i) / 134217728) * 10723151780598845931)
  exact mix3_bd _ this.1 this.2

/-- Number j of sample number i. -/
def haltonAt (L : List (Int × Int)) (i : Int) (j : Nat) : Int := place (rad (prime j) i).1 (rad (prime j) i).2 (L.getD j (0, 0)).1 (L.getD j (0, 0)).2
def uniformAt (L : List (Int × Int)) (s i : Int) (j : Nat) : Int := spread (word s (IntKind.u64.wrap (IntKind.u64.wrap (i * L.length) + j))) (L.getD j (0, 0)).1 (L.getD j (0, 0)).2
def halton (L : List (Int × Int)) (i : Int) : List Int := if boxB L then (List.range L.length).map (haltonAt L i) else []
def uniform (L : List (Int × Int)) (s i : Int) : List Int := if boxB L then (List.range L.length).map (uniformAt L s i) else []

/-- The cells of the numbers f 0 .. f (k - 1). -/
def cellsOf (f : Nat → Int) (k : Nat) : List Value := (List.range k).map fun j => Value.int .i64 (f j)
theorem cellsOf_zero (f : Nat → Int) : cellsOf f 0 = [] := rfl
theorem cellsOf_next (f : Nat → Int) (k : Nat) : cellsOf f (k + 1) = cellsOf f k ++ [.int .i64 (f k)] := by unfold cellsOf; rw [List.range_succ, List.map_append]; rfl
theorem cellsOf_len (f : Nat → Int) (k : Nat) : (cellsOf f k).length = k := by simp [cellsOf]
theorem cellsOf_get (f : Nat → Int) (k j : Nat) (h : j < k) : (cellsOf f k)[j]? = some (.int .i64 (f j)) := by simp [cellsOf, h]

end Go.Proofs.Ytgnjconhbloocaa.Fx
