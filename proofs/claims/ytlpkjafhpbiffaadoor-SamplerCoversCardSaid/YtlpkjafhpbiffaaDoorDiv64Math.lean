/- Plain mathematics of the division of a number of two digits by one of one digit (base 2^32, two steps), as bits.Div64 does it. No program in sight. -/
import Derived.Test.YtlpkjafhpbiffaaDoorMath
namespace Go.Proofs.YtlpkjafhpbiffaaDoor.Fx

/-- The state at the head of the search for a digit: q is an estimate from above, r the rest that belongs to it. -/
def Est (u u1 y1 y0 q r : Int) : Prop := 0 ≤ q ∧ 0 ≤ r ∧ r < 4294967296 ∧ q * y1 + r = u ∧ (u * 4294967296 + u1) / (y1 * 4294967296 + y0) ≤ q ∧ q ≤ 4294967297

/-- The digits are in range, the divisor is normalized, the number is less than the divisor times the base. -/
structure Digits (u u1 y1 y0 : Int) : Prop where
  u0 : 0 ≤ u
  u10 : 0 ≤ u1
  u11 : u1 < 4294967296
  y10 : 2147483648 ≤ y1
  y11 : y1 < 4294967296
  y00 : 0 ≤ y0
  y01 : y0 < 4294967296
  lt : u < y1 * 4294967296 + y0

theorem est_start {u u1 y1 y0 : Int} (h : Digits u u1 y1 y0) : Est u u1 y1 y0 (u / y1) (u - u / y1 * y1) := by
  obtain ⟨u0, u10, u11, y10, y11, y00, y01, lt⟩ := h
  have e := Int.mul_ediv_add_emod u y1
  have r0 := Int.emod_nonneg u (show y1 ≠ 0 by omega)
  have r1 := Int.emod_lt_of_pos u (show 0 < y1 by omega)
  rw [Int.mul_comm] at e
  have q0 : 0 ≤ u / y1 := Int.ediv_nonneg u0 (by omega)
  refine ⟨q0, by omega, by omega, by omega, ?_, ?_⟩
  · -- the quotient by the whole divisor is at most that by its first digit
    have hp : 0 < y1 * 4294967296 + y0 := by omega
    apply Int.le_of_lt_add_one
    rw [Int.ediv_lt_iff_lt_mul hp]
    have : (u / y1 + 1) * (y1 * 4294967296 + y0) = (u / y1 * y1) * 4294967296 + y1 * 4294967296 + (u / y1 + 1) * y0 := by grind
    rw [this]
    have hn : 0 ≤ (u / y1 + 1) * y0 := Int.mul_nonneg (by omega) y00
    omega
  · have : u / y1 < 4294967298 := by
      rw [Int.ediv_lt_iff_lt_mul (by omega)]
      omega
    omega

theorem digit_lt {u u1 y1 y0 : Int} (h : Digits u u1 y1 y0) : 0 ≤ (u * 4294967296 + u1) / (y1 * 4294967296 + y0) ∧ (u * 4294967296 + u1) / (y1 * 4294967296 + y0) < 4294967296 := by
  obtain ⟨u0, u10, u11, y10, y11, y00, y01, lt⟩ := h
  have hp : 0 < y1 * 4294967296 + y0 := by omega
  refine ⟨Int.ediv_nonneg (by omega) (by omega), ?_⟩
  rw [Int.ediv_lt_iff_lt_mul hp]
  omega

/-- The estimate times the divisor. -/
theorem est_prod (u y1 y0 q r : Int) (h : q * y1 + r = u) : q * (y1 * 4294967296 + y0) = (u - r) * 4294967296 + q * y0 := by
  have : q * (y1 * 4294967296 + y0) = q * y1 * 4294967296 + q * y0 := by grind
  rw [this]
  have e : q * y1 = u - r := by omega
  rw [e]

/-- The test says that the estimate is too great: then it is. -/
theorem est_too {u u1 y1 y0 q r : Int} (hd : Digits u u1 y1 y0) (h : Est u u1 y1 y0 q r) (c : 4294967296 ≤ q ∨ 4294967296 * r + u1 < q * y0) : (u * 4294967296 + u1) / (y1 * 4294967296 + y0) ≤ q - 1 := by
  have hq := digit_lt hd
  obtain ⟨u0, u10, u11, y10, y11, y00, y01, lt⟩ := hd
  obtain ⟨q0, r0, r1, e, hle, h5⟩ := h
  rcases c with c | c
  · omega
  · have hp : 0 < y1 * 4294967296 + y0 := by omega
    have e2 := est_prod u y1 y0 q r e
    have : (u * 4294967296 + u1) / (y1 * 4294967296 + y0) < q := by
      rw [Int.ediv_lt_iff_lt_mul hp, e2]
      omega
    omega

theorem est_pos {u u1 y1 y0 q r : Int} (hd : Digits u u1 y1 y0) (h : Est u u1 y1 y0 q r) (c : 4294967296 ≤ q ∨ 4294967296 * r + u1 < q * y0) : 1 ≤ q := by
  have := est_too hd h c
  have := (digit_lt hd).1
  omega

/-- One round: the estimate goes down by one; the rest grows by the divisor's first digit. -/
theorem est_next {u u1 y1 y0 q r : Int} (hd : Digits u u1 y1 y0) (h : Est u u1 y1 y0 q r) (c : 4294967296 ≤ q ∨ 4294967296 * r + u1 < q * y0) (hr : r + y1 < 4294967296) : Est u u1 y1 y0 (q - 1) (r + y1) := by
  have h1 := est_too hd h c
  have h2 := est_pos hd h c
  obtain ⟨q0, r0, r1, e, hle, h5⟩ := h
  have hy := hd.y10
  refine ⟨by omega, by omega, hr, ?_, h1, by omega⟩
  have : (q - 1) * y1 = q * y1 - y1 := by rw [Int.sub_mul]; omega
  omega

/-- The end by the test: the estimate is the digit. -/
theorem est_end {u u1 y1 y0 q r : Int} (hd : Digits u u1 y1 y0) (h : Est u u1 y1 y0 q r) (c : q * y0 ≤ 4294967296 * r + u1) : q = (u * 4294967296 + u1) / (y1 * 4294967296 + y0) := by
  obtain ⟨u0, u10, u11, y10, y11, y00, y01, lt⟩ := hd
  obtain ⟨q0, r0, r1, e, hle, h5⟩ := h
  have hp : 0 < y1 * 4294967296 + y0 := by omega
  have e2 := est_prod u y1 y0 q r e
  have : q ≤ (u * 4294967296 + u1) / (y1 * 4294967296 + y0) := by
    rw [Int.le_ediv_iff_mul_le hp, e2]
    omega
  omega

/-- The end by the rest: one less than the estimate is the digit. -/
theorem est_break {u u1 y1 y0 q r : Int} (hd : Digits u u1 y1 y0) (h : Est u u1 y1 y0 q r) (c : 4294967296 ≤ q ∨ 4294967296 * r + u1 < q * y0) (hr : 4294967296 ≤ r + y1) : q - 1 = (u * 4294967296 + u1) / (y1 * 4294967296 + y0) := by
  have h1 := est_too hd h c
  have h2 := est_pos hd h c
  obtain ⟨u0, u10, u11, y10, y11, y00, y01, lt⟩ := hd
  obtain ⟨q0, r0, r1, e, hle, h5⟩ := h
  have hp : 0 < y1 * 4294967296 + y0 := by omega
  have e1 : (q - 1) * y1 + (r + y1) = u := by
    have : (q - 1) * y1 = q * y1 - y1 := by rw [Int.sub_mul]; omega
    omega
  have e2 := est_prod u y1 y0 (q - 1) (r + y1) e1
  have hm : (q - 1) * y0 ≤ 4294967296 * 4294967295 := by
    have := Int.mul_le_mul (show q - 1 ≤ 4294967296 by omega) (show y0 ≤ 4294967295 by omega) y00 (by omega)
    omega
  have : q - 1 ≤ (u * 4294967296 + u1) / (y1 * 4294967296 + y0) := by
    rw [Int.le_ediv_iff_mul_le hp, e2]
    omega
  omega

/-- What is left after a digit is less than the divisor. -/
theorem rest_bd {u u1 y1 y0 : Int} (hd : Digits u u1 y1 y0) : 0 ≤ u * 4294967296 + u1 - (u * 4294967296 + u1) / (y1 * 4294967296 + y0) * (y1 * 4294967296 + y0) ∧ u * 4294967296 + u1 - (u * 4294967296 + u1) / (y1 * 4294967296 + y0) * (y1 * 4294967296 + y0) < y1 * 4294967296 + y0 := by
  have hp : 0 < y1 * 4294967296 + y0 := by have := hd.y10; have := hd.y00; omega
  have e := Int.mul_ediv_add_emod (u * 4294967296 + u1) (y1 * 4294967296 + y0)
  have r0 := Int.emod_nonneg (u * 4294967296 + u1) (show y1 * 4294967296 + y0 ≠ 0 by omega)
  have r1 := Int.emod_lt_of_pos (u * 4294967296 + u1) hp
  rw [Int.mul_comm] at e
  omega

/-- Two digits are the whole quotient. -/
theorem two_digits (u u1 u0 Y : Int) (hY : 0 < Y) :
    (u * 4294967296 + u1) / Y * 4294967296 + ((u * 4294967296 + u1 - (u * 4294967296 + u1) / Y * Y) * 4294967296 + u0) / Y = ((u * 4294967296 + u1) * 4294967296 + u0) / Y := by
  generalize u * 4294967296 + u1 = A
  have e : A * 4294967296 + u0 = ((A - A / Y * Y) * 4294967296 + u0) + Y * (A / Y * 4294967296) := by
    have : Y * (A / Y * 4294967296) = A / Y * Y * 4294967296 := by grind
    rw [this, Int.sub_mul]; omega
  rw [e, Int.add_mul_ediv_left _ _ (by omega)]
  omega

/-- A quotient does not change if both numbers are multiplied by a power of two. -/
theorem norm_div (N y : Int) (s : Nat) : N * 2 ^ s / (y * 2 ^ s) = N / y := Int.mul_ediv_mul_of_pos_left N y (pow_pos s)

theorem shl_split (lo : Int) (s : Nat) (hs : s ≤ 64) : lo * 2 ^ s = lo / 2 ^ (64 - s) * 18446744073709551616 + lo * 2 ^ s % 18446744073709551616 := by
  have e : (18446744073709551616 : Int) = 2 ^ (64 - s) * 2 ^ s := by rw [← Int.pow_add, show 64 - s + s = 64 from by omega]; rfl
  have h : lo * 2 ^ s / 18446744073709551616 = lo / 2 ^ (64 - s) := by
    rw [e]; exact Int.mul_ediv_mul_of_pos_left lo (2 ^ (64 - s)) (pow_pos s)
  omega

theorem or_join (hi lo : Int) (s : Nat) (hs : s ≤ 64) (h0 : 0 ≤ hi * 2 ^ s) (h1 : hi * 2 ^ s < 18446744073709551616) (hl0 : 0 ≤ lo) (hl1 : lo < 18446744073709551616) :
    bits .or .u64 (hi * 2 ^ s) (lo / 2 ^ (64 - s)) = hi * 2 ^ s + lo / 2 ^ (64 - s) := by
  have e : (18446744073709551616 : Int) = 2 ^ s * 2 ^ (64 - s) := by rw [← Int.pow_add, show s + (64 - s) = 64 from by omega]; rfl
  have hd : lo / 2 ^ (64 - s) < 2 ^ s := by rw [Int.ediv_lt_iff_lt_mul (pow_pos (64 - s)), ← e]; exact hl1
  have hd0 : 0 ≤ lo / 2 ^ (64 - s) := Int.ediv_nonneg hl0 (Int.le_of_lt (pow_pos (64 - s)))
  have hle : (2 : Int) ^ s ≤ 18446744073709551616 := (pow_bd s 64 hs).2
  exact bits_join .u64 64 (by decide) (fun n a b => IntWalk.u64_in n ⟨a, by have : n < 18446744073709551616 := b; omega⟩) s _ _ h0 (Int.mul_emod_left hi (2 ^ s)) h1 hd0 hd (by show _ < (18446744073709551616 : Int); omega)

theorem div64_parts (hi lo y : Int) (s : Nat) (hs : s ≤ 63) (hh : 0 ≤ hi) (hhy : hi < y) (hl0 : 0 ≤ lo) (hl1 : lo < 18446744073709551616) (n0 : 9223372036854775808 ≤ y * 2 ^ s) (n1 : y * 2 ^ s < 18446744073709551616) :
    Digits (hi * 2 ^ s + lo / 2 ^ (64 - s)) (lo * 2 ^ s % 18446744073709551616 / 4294967296) (y * 2 ^ s / 4294967296) (y * 2 ^ s % 4294967296) ∧
    (((hi * 2 ^ s + lo / 2 ^ (64 - s)) * 4294967296 + lo * 2 ^ s % 18446744073709551616 / 4294967296) * 4294967296 + lo * 2 ^ s % 18446744073709551616 % 4294967296) / (y * 2 ^ s) = (hi * 18446744073709551616 + lo) / y := by
  have hp := pow_pos s
  have sp := shl_split lo s (by omega)
  have g0 : 0 ≤ hi * 2 ^ s := Int.mul_nonneg hh (by omega)
  have d0 : 0 ≤ lo / 2 ^ (64 - s) := Int.ediv_nonneg hl0 (Int.le_of_lt (pow_pos (64 - s)))
  have big : (hi * 18446744073709551616 + lo) * 2 ^ s < y * 2 ^ s * 18446744073709551616 := by
    have h1 : hi * 18446744073709551616 + lo < y * 18446744073709551616 := by omega
    have h2 := Int.mul_lt_mul_of_pos_right h1 hp
    have e : y * 18446744073709551616 * 2 ^ s = y * 2 ^ s * 18446744073709551616 := by grind
    omega
  have e1 : (hi * 18446744073709551616 + lo) * 2 ^ s = hi * 2 ^ s * 18446744073709551616 + lo * 2 ^ s := by grind
  refine ⟨⟨by omega, by omega, by omega, by omega, by omega, by omega, by omega, by omega⟩, ?_⟩
  rw [← norm_div (hi * 18446744073709551616 + lo) y s, e1]
  congr 1
  omega

end Go.Proofs.YtlpkjafhpbiffaaDoor.Fx
