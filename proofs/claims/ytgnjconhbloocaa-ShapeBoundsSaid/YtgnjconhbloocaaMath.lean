/- Plain mathematics of the fixed-point numbers: clamping, shifting, quotients and roots of integers. No program in sight. -/
import Derived.WalkKit
namespace Go.Proofs.Ytgnjconhbloocaa.Fx
open Go.RowKit

/-! ### Clamp -/
def clamp (a : Int) : Int := if a < -2147483648 then -2147483648 else if 2147483648 < a then 2147483648 else a

theorem clamp_bd (a : Int) : -2147483648 ≤ clamp a ∧ clamp a ≤ 2147483648 := by unfold clamp; split <;> (try split) <;> omega
theorem clamp_id (a : Int) (h0 : -2147483648 ≤ a) (h1 : a ≤ 2147483648) : clamp a = a := by unfold clamp; rw [if_neg (by omega), if_neg (by omega)]
theorem clamp_clamp (a : Int) : clamp (clamp a) = clamp a := clamp_id _ (clamp_bd a).1 (clamp_bd a).2
theorem clamp_mono (a b : Int) (h : a ≤ b) : clamp a ≤ clamp b := by unfold clamp; repeat' split <;> omega
theorem clamp_neg (a : Int) : clamp (-a) = -clamp a := by unfold clamp; repeat' split <;> omega
theorem clamp_nonneg (a : Int) (h : 0 ≤ a) : 0 ≤ clamp a := by unfold clamp; repeat' split <;> omega
theorem clamp_zero_iff (a : Int) : clamp a = 0 ↔ a = 0 := by unfold clamp; repeat' split <;> omega

/-! ### Products of bounded numbers -/
theorem mul_bd (B : Nat) (a b : Int) (A : Nat) (ha0 : -(A : Int) ≤ a) (ha1 : a ≤ A) (hb0 : -(B : Int) ≤ b) (hb1 : b ≤ B) : -((A * B : Nat) : Int) ≤ a * b ∧ a * b ≤ ((A * B : Nat) : Int) := by
  have h : (a * b).natAbs ≤ A * B := by
    rw [Int.natAbs_mul]
    exact Nat.mul_le_mul (by omega) (by omega)
  omega

/-- The product of two clamped numbers is at most 2^62. -/
theorem mul_clamp_bd (a b : Int) : -4611686018427387904 ≤ clamp a * clamp b ∧ clamp a * clamp b ≤ 4611686018427387904 := by
  have ha := clamp_bd a
  have hb := clamp_bd b
  have h := mul_bd 2147483648 (clamp a) (clamp b) 2147483648 (by omega) (by omega) (by omega) (by omega)
  omega

/-! ### Floor and ceiling -/
def ce (a b : Int) : Int := -((-a) / b)

theorem ce_eq (a b : Int) (hb : 0 < b) : ce a b = if a % b = 0 then a / b else a / b + 1 := by
  unfold ce
  have h1 := Int.mul_ediv_add_emod a b
  have h2 := Int.emod_nonneg a (Int.ne_of_gt hb)
  have h3 := Int.emod_lt_of_pos a hb
  split
  · rename_i h
    have : -a = b * (-(a / b)) := by rw [Int.mul_neg]; omega
    rw [this, Int.mul_ediv_cancel_left _ (Int.ne_of_gt hb)]
    omega
  · rename_i h
    have : -a = (b - a % b) + b * (-(a / b) - 1) := by
      rw [Int.mul_sub, Int.mul_neg]; omega
    rw [this, Int.add_mul_ediv_left _ _ (Int.ne_of_gt hb), Int.ediv_eq_zero_of_lt (by omega) (by omega)]
    omega

theorem fl_bd (a b : Int) (hb : 0 < b) (ha0 : -9223372036854775808 ≤ a) (ha1 : a ≤ 9223372036854775807) : -9223372036854775808 ≤ a / b ∧ a / b ≤ 9223372036854775807 := by
  constructor
  · rw [Int.le_ediv_iff_mul_le hb]
    have : (-9223372036854775808 : Int) * b ≤ -9223372036854775808 * 1 := Int.mul_le_mul_of_nonpos_left (by omega) (by omega)
    omega
  · by_cases h : 0 ≤ a
    · exact Int.le_trans (Int.ediv_le_self b h) ha1
    · have : a / b < 0 := Int.ediv_neg_of_neg_of_pos (by omega) hb
      omega

theorem ce_bd (a b : Int) (hb : 0 < b) (ha0 : -9223372036854775808 ≤ a) (ha1 : a ≤ 9223372036854775807) : -9223372036854775808 ≤ ce a b ∧ ce a b ≤ 9223372036854775807 := by
  unfold ce
  constructor
  · by_cases h : 0 ≤ -a
    · have := Int.ediv_le_self b h; omega
    · have : (-a) / b < 0 := Int.ediv_neg_of_neg_of_pos (by omega) hb
      omega
  · have h2 : (-9223372036854775807 : Int) ≤ (-a) / b := by
      rw [Int.le_ediv_iff_mul_le hb]
      have : (-9223372036854775807 : Int) * b ≤ -9223372036854775807 * 1 := Int.mul_le_mul_of_nonpos_left (by omega) (by omega)
      omega
    omega

/-- Go's quotient and remainder by a positive number, corrected downward, is the floor. -/
theorem tdiv_floor (a b : Int) (hb : 0 < b) : (if a.tmod b < 0 then a.tdiv b - 1 else a.tdiv b) = a / b := by
  by_cases ha : 0 ≤ a
  · rw [if_neg (by have := Int.tmod_nonneg b ha; omega), Int.tdiv_eq_ediv_of_nonneg ha]
  · have e := Int.mul_tdiv_add_tmod a b
    have h1 : a.tmod b ≤ 0 := by have := Int.tmod_nonneg (a := -a) b (by omega); rw [Int.neg_tmod] at this; omega
    have h2 : -b < a.tmod b := by have := Int.tmod_lt_of_pos (-a) hb; rw [Int.neg_tmod] at this; omega
    by_cases hz : a.tmod b < 0
    · rw [if_pos hz]
      have : a = (b + a.tmod b) + b * (a.tdiv b - 1) := by rw [Int.mul_sub]; omega
      have e2 : a / b = ((b + a.tmod b) + b * (a.tdiv b - 1)) / b := congrArg (· / b) this
      rw [e2, Int.add_mul_ediv_left _ _ (Int.ne_of_gt hb), Int.ediv_eq_zero_of_lt (by omega) (by omega)]
      omega
    · rw [if_neg hz]
      have : a = b * a.tdiv b := by omega
      have e2 : a / b = (b * a.tdiv b) / b := congrArg (· / b) this
      rw [e2, Int.mul_ediv_cancel_left _ (Int.ne_of_gt hb)]

/-- .. and corrected upward, the ceiling. -/
theorem tdiv_ceil (a b : Int) (hb : 0 < b) : (if 0 < a.tmod b then a.tdiv b + 1 else a.tdiv b) = ce a b := by
  have h := tdiv_floor (-a) b hb
  rw [Int.neg_tmod, Int.neg_tdiv] at h
  unfold ce
  rw [← h]
  by_cases hz : 0 < a.tmod b
  · rw [if_pos hz, if_pos (by omega)]; omega
  · rw [if_neg hz, if_neg (by omega)]; omega

theorem floor_way1 (a b : Int) (hb : 0 < b) (ha0 : -9223372036854775808 ≤ a) (ha1 : a ≤ 9223372036854775807) (h : a.tmod b < 0) : wrap64 (a.tdiv b - 1) = a / b := by
  have e := tdiv_floor a b hb
  rw [if_pos h] at e
  rw [e]; exact IntWalk.wrap64_in _ (fl_bd a b hb ha0 ha1)
theorem floor_way2 (a b : Int) (hb : 0 < b) (h : 0 ≤ a.tmod b) : a.tdiv b = a / b := by
  have e := tdiv_floor a b hb
  rw [if_neg (by omega)] at e
  exact e
theorem ceil_way1 (a b : Int) (hb : 0 < b) (ha0 : -9223372036854775808 ≤ a) (ha1 : a ≤ 9223372036854775807) (h : 0 < a.tmod b) : wrap64 (a.tdiv b + 1) = ce a b := by
  have e := tdiv_ceil a b hb
  rw [if_pos h] at e
  rw [e]; exact IntWalk.wrap64_in _ (ce_bd a b hb ha0 ha1)
theorem ceil_way2 (a b : Int) (hb : 0 < b) (h : a.tmod b ≤ 0) : a.tdiv b = ce a b := by
  have e := tdiv_ceil a b hb
  rw [if_neg (by omega)] at e
  exact e

/-! ### Shifts -/
theorem pow_pos (n : Nat) : (0 : Int) < 2 ^ n := Int.pow_pos (by omega)
def sup (a : Int) (n : Nat) : Int := ce a (2 ^ n)

theorem shl_back (a : Int) (n : Nat) (hn : n ≤ 64) (ha0 : -9223372036854775808 ≤ a) (ha1 : a ≤ 9223372036854775807) : wrap64 (a / 2 ^ n * 2 ^ n) = a ↔ a % 2 ^ n = 0 := by
  have hp := pow_pos n
  have h1 := Int.mul_ediv_add_emod a (2 ^ n)
  have h2 := Int.emod_nonneg a (Int.ne_of_gt hp)
  have h3 := Int.emod_lt_of_pos a hp
  rw [Int.mul_comm] at h1
  by_cases h64 : n = 64
  · subst h64
    unfold wrap64
    omega
  · have e : (9223372036854775808 : Int) = 2 ^ (63 - n) * 2 ^ n := by
      rw [← Int.pow_add, show 63 - n + n = 63 from by omega]; rfl
    have h4 : -(2 ^ (63 - n)) ≤ a / 2 ^ n := by
      rw [Int.le_ediv_iff_mul_le hp, Int.neg_mul, ← e]; omega
    have h5 : -(2 ^ (63 - n)) * 2 ^ n ≤ a / 2 ^ n * 2 ^ n := Int.mul_le_mul_of_nonneg_right h4 (by omega)
    rw [Int.neg_mul, ← e] at h5
    rw [IntWalk.wrap64_in _ ⟨h5, by omega⟩]
    omega

theorem ediv_ediv_nn (a b c : Int) (h : 0 ≤ b) : a / b / c = a / (b * c) := by
  rw [Int.ediv_ediv, if_neg (by omega), Int.sub_zero]

theorem div2_pow (a : Int) (n : Nat) : a / 2 ^ n / 2 = a / 2 ^ (n + 1) := by
  rw [ediv_ediv_nn _ _ _ (Int.le_of_lt (pow_pos n)), Int.pow_succ]

theorem ce2_pow (a : Int) (n : Nat) : ce (sup a n) 2 = sup a (n + 1) := by
  unfold sup ce
  rw [Int.neg_neg, div2_pow]

theorem sup_zero (a : Int) : sup a 0 = a := by simp [sup, ce]

theorem sdown_add (a : Int) (m n : Nat) : a / 2 ^ m / 2 ^ n = a / 2 ^ (m + n) := by
  rw [ediv_ediv_nn _ _ _ (Int.le_of_lt (pow_pos m)), Int.pow_add]

theorem sup_add (a : Int) (m n : Nat) : sup (sup a m) n = sup a (m + n) := by
  unfold sup ce
  rw [Int.neg_neg, sdown_add]

theorem big_shift (a : Int) (n : Nat) (hn : 64 ≤ n) (ha0 : -18446744073709551616 ≤ a) (ha1 : a < 18446744073709551616) : a / 2 ^ n = a / 2 ^ 64 := by
  have : a / 2 ^ n = a / 2 ^ 64 / 2 ^ (n - 64) := by rw [sdown_add, show 64 + (n - 64) = n from by omega]
  rw [this]
  have hp := pow_pos (n - 64)
  by_cases h : 0 ≤ a
  · rw [show a / 2 ^ 64 = 0 from by omega]; exact Int.zero_ediv _
  · rw [show a / 2 ^ 64 = -1 from by omega]
    rw [Int.ediv_eq_iff_of_pos hp]; omega

theorem cap_shift (a : Int) (n : Nat) (ha0 : -9223372036854775808 ≤ a) (ha1 : a ≤ 9223372036854775807) : a / 2 ^ min n 64 = a / 2 ^ n := by
  by_cases h : n ≤ 64
  · rw [Nat.min_eq_left h]
  · rw [Nat.min_eq_right (by omega), big_shift a n (by omega) (by omega) (by omega)]

theorem cap_sup (a : Int) (n : Nat) (ha0 : -9223372036854775808 ≤ a) (ha1 : a ≤ 9223372036854775807) : sup a (min n 64) = sup a n := by
  unfold sup ce
  by_cases h : n ≤ 64
  · rw [Nat.min_eq_left h]
  · rw [Nat.min_eq_right (by omega), big_shift (-a) n (by omega) (by omega) (by omega)]

theorem shr_bd (a : Int) (n : Nat) (ha0 : -9223372036854775808 ≤ a) (ha1 : a ≤ 9223372036854775807) : -9223372036854775808 ≤ a / 2 ^ n ∧ a / 2 ^ n ≤ 9223372036854775807 := fl_bd a _ (pow_pos n) ha0 ha1

theorem sup_eq (a : Int) (n : Nat) : sup a n = if a % 2 ^ n = 0 then a / 2 ^ n else a / 2 ^ n + 1 := ce_eq a _ (pow_pos n)

theorem sup_bd (a : Int) (n : Nat) (ha0 : -9223372036854775808 ≤ a) (ha1 : a ≤ 9223372036854775807) : -9223372036854775808 ≤ sup a n ∧ sup a n ≤ 9223372036854775807 := by
  by_cases hn : n = 0
  · subst hn; rw [sup_zero]; omega
  · have hp := pow_pos (n - 1)
    have e : (2 : Int) ^ n = 2 ^ (n - 1) * 2 := by rw [← Int.pow_succ, show (n - 1).succ = n from by omega]
    have h := shr_bd (a / 2) (n - 1) (by omega) (by omega)
    have h2 : a / 2 ^ n = a / 2 / 2 ^ (n - 1) := by
      rw [e, Int.mul_comm, ediv_ediv_nn _ _ _ (by omega)]
    have h3 : a / 2 ^ n < 9223372036854775807 := by
      rw [h2]
      by_cases h0 : 0 ≤ a / 2
      · have := Int.ediv_le_self (2 ^ (n - 1)) h0; omega
      · have := Int.ediv_neg_of_neg_of_pos (a := a / 2) (by omega) hp; omega
    rw [sup_eq]
    split <;> omega

theorem sup_way1 (a : Int) (n : Nat) (hn : n ≤ 64) (ha0 : -9223372036854775808 ≤ a) (ha1 : a ≤ 9223372036854775807) (h : (wrap64 (a / 2 ^ n * 2 ^ n) != a) = true) : wrap64 (a / 2 ^ n + 1) = sup a n := by
  have hz : ¬ a % 2 ^ n = 0 := fun hz => by have := (shl_back a n hn ha0 ha1).2 hz; simp [this] at h
  have e := sup_eq a n
  rw [if_neg hz] at e
  have hb := sup_bd a n ha0 ha1
  rw [← e, IntWalk.wrap64_in _ ⟨hb.1, hb.2⟩]

theorem sup_way2 (a : Int) (n : Nat) (hn : n ≤ 64) (ha0 : -9223372036854775808 ≤ a) (ha1 : a ≤ 9223372036854775807) (h : (wrap64 (a / 2 ^ n * 2 ^ n) != a) = false) : a / 2 ^ n = sup a n := by
  have hz : a % 2 ^ n = 0 := (shl_back a n hn ha0 ha1).1 (by simpa using h)
  rw [sup_eq, if_pos hz]

/-- The shifts as functions of Go's count. -/
def sd (a k : Int) : Int := a / 2 ^ min k.toNat 64
def su (a k : Int) : Int := sup a (min k.toNat 64)
theorem sd_bd (a k : Int) (ha0 : -9223372036854775808 ≤ a) (ha1 : a ≤ 9223372036854775807) : -9223372036854775808 ≤ sd a k ∧ sd a k ≤ 9223372036854775807 := shr_bd a _ ha0 ha1
theorem su_bd (a k : Int) (ha0 : -9223372036854775808 ≤ a) (ha1 : a ≤ 9223372036854775807) : -9223372036854775808 ≤ su a k ∧ su a k ≤ 9223372036854775807 := sup_bd a _ ha0 ha1
theorem sd_sd (a x y : Int) (ha0 : -9223372036854775808 ≤ a) (ha1 : a ≤ 9223372036854775807) (hx : 0 ≤ x) (hy : 0 ≤ y) : sd (sd a x) y = sd a (x + y) := by
  have hb := sd_bd a x ha0 ha1
  unfold sd at *
  rw [cap_shift _ y.toNat hb.1 hb.2, cap_shift a x.toNat ha0 ha1, cap_shift a (x + y).toNat ha0 ha1, sdown_add, show x.toNat + y.toNat = (x + y).toNat from by omega]
theorem su_su (a x y : Int) (ha0 : -9223372036854775808 ≤ a) (ha1 : a ≤ 9223372036854775807) (hx : 0 ≤ x) (hy : 0 ≤ y) : su (su a x) y = su a (x + y) := by
  have hb := su_bd a x ha0 ha1
  unfold su at *
  rw [cap_sup _ y.toNat hb.1 hb.2, cap_sup a x.toNat ha0 ha1, cap_sup a (x + y).toNat ha0 ha1, sup_add, show x.toNat + y.toNat = (x + y).toNat from by omega]

/-! ### Products and quotients -/
def mulDown (a b : Int) : Int := clamp a * clamp b / 65536
def mulUp (a b : Int) : Int := ce (clamp a * clamp b) 65536
theorem mulDown_bd (a b : Int) : -70368744177664 ≤ mulDown a b ∧ mulDown a b ≤ 70368744177664 := by have := mul_clamp_bd a b; unfold mulDown; omega
theorem mulUp_bd (a b : Int) : -70368744177664 ≤ mulUp a b ∧ mulUp a b ≤ 70368744177664 := by have := mul_clamp_bd a b; unfold mulUp ce; omega

/-- The quotient of the clamped numbers, rounded down; 0 for a divisor 0. -/
def divDown (a b : Int) : Int := if clamp b < 0 then (-(clamp a * 65536)) / (-clamp b) else clamp a * 65536 / clamp b
def divUp (a b : Int) : Int := if clamp b < 0 then ce (-(clamp a * 65536)) (-clamp b) else ce (clamp a * 65536) (clamp b)

theorem divDown_eq (a b : Int) : divDown a b = if clamp b < 0 then (-(clamp a * 65536)) / (-clamp b) else clamp a * 65536 / clamp b := rfl
theorem divUp_eq (a b : Int) : divUp a b = if clamp b < 0 then ce (-(clamp a * 65536)) (-clamp b) else ce (clamp a * 65536) (clamp b) := rfl

/-- Go's quotient, corrected where the signs differ and there is a rest. -/
theorem tdiv_down (x y : Int) (hy : y ≠ 0) : (if x.tmod y ≠ 0 ∧ ((x < 0 ∧ 0 ≤ y) ∨ (0 ≤ x ∧ y < 0)) then x.tdiv y - 1 else x.tdiv y) = if y < 0 then (-x) / (-y) else x / y := by
  by_cases hn : y < 0
  · rw [if_pos hn]
    have h := tdiv_floor (-x) (-y) (by omega)
    rw [Int.neg_tmod, Int.tmod_neg, Int.neg_tdiv, Int.tdiv_neg, Int.neg_neg] at h
    rw [← h]
    by_cases hx : 0 ≤ x
    · have := Int.tmod_nonneg y hx
      by_cases hz : x.tmod y = 0
      · rw [if_neg (by omega), if_neg (by omega)]
      · rw [if_pos (by omega), if_pos (by omega)]
    · have : x.tmod y ≤ 0 := by have := Int.tmod_nonneg (a := -x) y (by omega); rw [Int.neg_tmod] at this; omega
      rw [if_neg (by omega), if_neg (by omega)]
  · rw [if_neg hn]
    have h := tdiv_floor x y (by omega)
    rw [← h]
    by_cases hx : 0 ≤ x
    · have := Int.tmod_nonneg y hx
      rw [if_neg (by omega), if_neg (by omega)]
    · have : x.tmod y ≤ 0 := by have := Int.tmod_nonneg (a := -x) y (by omega); rw [Int.neg_tmod] at this; omega
      by_cases hz : x.tmod y = 0
      · rw [if_neg (by omega), if_neg (by omega)]
      · rw [if_pos (by omega), if_pos (by omega)]

theorem tdiv_up (x y : Int) (hy : y ≠ 0) : (if x.tmod y ≠ 0 ∧ ((x < 0 ∧ y < 0) ∨ (0 ≤ x ∧ 0 ≤ y)) then x.tdiv y + 1 else x.tdiv y) = if y < 0 then ce (-x) (-y) else ce x y := by
  by_cases hx0 : x = 0
  · subst hx0; simp [ce]
  have h := tdiv_down (-x) y hy
  rw [Int.neg_tmod, Int.neg_tdiv] at h
  have e : (if y < 0 then ce (-x) (-y) else ce x y) = -(if y < 0 then (- -x) / (-y) else (-x) / y) := by unfold ce; split <;> rfl
  rw [e, ← h]
  by_cases c : x.tmod y ≠ 0 ∧ ((x < 0 ∧ y < 0) ∨ (0 ≤ x ∧ 0 ≤ y))
  · rw [if_pos c, if_pos (by omega)]; omega
  · rw [if_neg c, if_neg (by omega)]; omega

theorem tdiv_bd (x y : Int) (hx0 : -140737488355328 ≤ x) (hx1 : x ≤ 140737488355328) : -140737488355328 ≤ x.tdiv y ∧ x.tdiv y ≤ 140737488355328 := by
  have h : (x.tdiv y).natAbs ≤ x.natAbs := by rw [Int.natAbs_tdiv]; exact Nat.div_le_self _ _
  omega

theorem divDown_bd (a b : Int) : -140737488355329 ≤ divDown a b ∧ divDown a b ≤ 140737488355328 := by
  have ha := clamp_bd a
  by_cases hb : clamp b = 0
  · unfold divDown; rw [hb]; simp
  · have h := tdiv_down (clamp a * 65536) (clamp b) hb
    have q := tdiv_bd (clamp a * 65536) (clamp b) (by omega) (by omega)
    unfold divDown
    rw [← h]
    split <;> omega

theorem divUp_bd (a b : Int) : -140737488355328 ≤ divUp a b ∧ divUp a b ≤ 140737488355329 := by
  have ha := clamp_bd a
  by_cases hb : clamp b = 0
  · unfold divUp; rw [hb]; simp [ce]
  · have h := tdiv_up (clamp a * 65536) (clamp b) hb
    have q := tdiv_bd (clamp a * 65536) (clamp b) (by omega) (by omega)
    unfold divUp
    rw [← h]
    split <;> omega

/-! ### Roots -/
def rootN : Nat → Nat
  | 0 => 0
  | n + 1 => if (rootN n + 1) * (rootN n + 1) ≤ n + 1 then rootN n + 1 else rootN n
/-- The greatest number whose square is at most n; 0 for a negative n. -/
def root (n : Int) : Int := rootN n.toNat

theorem rootN_spec (n : Nat) : rootN n * rootN n ≤ n ∧ n < (rootN n + 1) * (rootN n + 1) := by
  induction n with
  | zero => simp [rootN]
  | succ n ih =>
    rw [rootN]
    split
    · rename_i h
      refine ⟨h, ?_⟩
      have : (rootN n + 1 + 1) * (rootN n + 1 + 1) = (rootN n + 1) * (rootN n + 1) + 2 * (rootN n + 1) + 1 := by grind
      omega
    · omega

theorem root_spec (n : Int) (h : 0 ≤ n) : 0 ≤ root n ∧ root n * root n ≤ n ∧ n < (root n + 1) * (root n + 1) := by
  have hs := rootN_spec n.toNat
  unfold root
  refine ⟨by omega, ?_, ?_⟩
  · have : ((rootN n.toNat * rootN n.toNat : Nat) : Int) ≤ n := by omega
    simpa using this
  · have : n < (((rootN n.toNat + 1) * (rootN n.toNat + 1) : Nat) : Int) := by omega
    simpa using this

theorem root_neg (n : Int) (h : n ≤ 0) : root n = 0 := by unfold root; rw [show n.toNat = 0 from by omega]; rfl

theorem sq_lt {r s : Int} (hr : 0 ≤ r) (hs : 0 ≤ s) (h : r * r < s * s) : r < s := by
  by_cases c : r < s
  · exact c
  · have : s * s ≤ r * r := Int.mul_le_mul (by omega) (by omega) hs hr
    omega

theorem sq_mono {r s : Int} (hr : 0 ≤ r) (h : r ≤ s) : r * r ≤ s * s := Int.mul_le_mul h h hr (by omega)

theorem root_unique (n r : Int) (hr : 0 ≤ r) (h1 : r * r ≤ n) (h2 : n < (r + 1) * (r + 1)) : r = root n := by
  have h0 : 0 ≤ n := Int.le_trans (Int.mul_nonneg hr hr) h1
  obtain ⟨g0, g1, g2⟩ := root_spec n h0
  have a := sq_lt hr (by omega : 0 ≤ root n + 1) (by omega)
  have b := sq_lt g0 (by omega : 0 ≤ r + 1) (by omega)
  omega

theorem root_lt (n : Int) (B : Int) (hB : 0 ≤ B) (h : n < B * B) (h0 : 0 ≤ n) : root n < B := by
  obtain ⟨g0, g1, g2⟩ := root_spec n h0
  exact sq_lt g0 hB (by omega)

theorem root_bd (n : Int) (h : n ≤ 9223372036854775807) : 0 ≤ root n ∧ root n ≤ 3037000499 := by
  by_cases h0 : 0 ≤ n
  · have := root_lt n 3037000500 (by omega) (by omega) h0
    have := (root_spec n h0).1
    omega
  · rw [root_neg n (by omega)]; omega

def rootUp (n : Int) : Int := if root n * root n < n then root n + 1 else root n
theorem rootUp_bd (n : Int) (h : n ≤ 9223372036854775807) : 0 ≤ rootUp n ∧ rootUp n ≤ 3037000500 := by
  have := root_bd n h
  unfold rootUp; split <;> omega

theorem rootUp_neg (n : Int) (h : n ≤ 0) : rootUp n = 0 := by unfold rootUp; rw [root_neg n h, if_neg (by omega)]

theorem root_sq_bd (n : Int) (h : n ≤ 9223372036854775807) : 0 ≤ root n * root n ∧ root n * root n ≤ 9223372036854775807 := by
  by_cases h0 : 0 ≤ n
  · obtain ⟨g0, g1, g2⟩ := root_spec n h0
    exact ⟨Int.mul_nonneg g0 g0, by omega⟩
  · rw [root_neg n (by omega)]; omega

def sq (a : Int) : Int := max (clamp a) 0 * 65536
theorem sq_bd (a : Int) : 0 ≤ sq a ∧ sq a ≤ 140737488355328 := by have := clamp_bd a; unfold sq; omega
def sqrtDown (a : Int) : Int := root (sq a)
def sqrtUp (a : Int) : Int := rootUp (sq a)

/-! ### The program's loop for the root -/
/-- The state after some rounds: the root so far and the next step 2^e. -/
def RootAt (n R : Int) (e : Nat) : Prop := 0 ≤ R ∧ R * R ≤ n ∧ n < (R + 2 ^ e) * (R + 2 ^ e) ∧ R + 2 ^ e ≤ 4294967296

theorem pow_le_32 (e : Nat) (he : e ≤ 32) : (2 : Int) ^ e ≤ 4294967296 := by
  have : (4294967296 : Int) = 2 ^ e * 2 ^ (32 - e) := by rw [← Int.pow_add, show e + (32 - e) = 32 from by omega]; rfl
  rw [this]
  have h1 := pow_pos e
  have h2 := pow_pos (32 - e)
  have : (2 : Int) ^ e * 1 ≤ 2 ^ e * 2 ^ (32 - e) := Int.mul_le_mul_of_nonneg_left (by omega) (by omega)
  omega

theorem rootAt_start (n : Int) (e len : Nat) (h0 : 0 < n) (hl : n < 2 ^ len) (h1 : len ≤ 2 * e) (he : e ≤ 32) : RootAt n 0 e := by
  refine ⟨by omega, by omega, ?_, ?_⟩
  · have : (2 : Int) ^ len ≤ 2 ^ (2 * e) := by
      have hm := Nat.pow_le_pow_right (show 0 < 2 by omega) h1
      have : ((2 ^ len : Nat) : Int) ≤ ((2 ^ (2 * e) : Nat) : Int) := by omega
      simpa using this
    have e2 : (2 : Int) ^ (2 * e) = 2 ^ e * 2 ^ e := by rw [← Int.pow_add, show 2 * e = e + e from by omega]
    rw [e2] at this
    simp only [Int.zero_add]
    omega
  · have := pow_le_32 e he; omega

theorem rootAt_next (n R : Int) (e : Nat) (h : RootAt n R (e + 1)) : 1 ≤ R + 2 ^ e ∧ R + 2 ^ e < 4294967296 ∧ 0 ≤ (R + 2 ^ e) * (R + 2 ^ e) ∧ (R + 2 ^ e) * (R + 2 ^ e) < 18446744073709551616 ∧
    ((R + 2 ^ e) * (R + 2 ^ e) ≤ n → RootAt n (R + 2 ^ e) e) ∧ (n < (R + 2 ^ e) * (R + 2 ^ e) → RootAt n R e) := by
  obtain ⟨h0, h1, h2, h3⟩ := h
  have hp := pow_pos e
  have e1 : (2 : Int) ^ (e + 1) = 2 ^ e + 2 ^ e := by rw [Int.pow_succ]; omega
  rw [e1] at h2 h3
  have hlt : R + 2 ^ e < 4294967296 := by omega
  refine ⟨by omega, hlt, Int.mul_nonneg (by omega) (by omega), ?_, fun c => ⟨by omega, c, ?_, by omega⟩, fun c => ⟨h0, h1, c, by omega⟩⟩
  · have := sq_mono (r := R + 2 ^ e) (s := 4294967295) (by omega) (by omega)
    omega
  · rw [show R + 2 ^ e + 2 ^ e = R + (2 ^ e + 2 ^ e) from by omega]; exact h2

theorem rootAt_end (n R : Int) (h : RootAt n R 0) : R = root n := by
  obtain ⟨h0, h1, h2, _⟩ := h
  exact root_unique n R h0 h1 (by simpa using h2)

/-! ### The reference's loop for the root -/
def Between (n low high : Int) : Prop := 1 ≤ low ∧ low < high ∧ high ≤ 4294967296 ∧ low * low ≤ n ∧ n < high * high

theorem between_start (n : Int) (h0 : 1 ≤ n) (h1 : n ≤ 9223372036854775807) : Between n 1 4294967296 := ⟨by omega, by omega, by omega, by omega, by omega⟩
theorem between_low (n l h m : Int) (hb : Between n l h) (h1 : l < m) (h2 : m < h) (c : m ≤ n / m) : Between n m h := by
  obtain ⟨b0, b1, b2, b3, b4⟩ := hb
  exact ⟨by omega, by omega, by omega, (Int.le_ediv_iff_mul_le (by omega)).1 c, b4⟩
theorem between_high (n l h m : Int) (hb : Between n l h) (h1 : l < m) (h2 : m < h) (c : n / m < m) : Between n l m := by
  obtain ⟨b0, b1, b2, b3, b4⟩ := hb
  refine ⟨by omega, by omega, by omega, b3, ?_⟩
  exact (Int.ediv_lt_iff_lt_mul (by omega)).1 c
theorem between_end (n l h : Int) (hb : Between n l h) (c : h - l ≤ 1) : l = root n := by
  obtain ⟨b0, b1, b2, b3, b4⟩ := hb
  obtain rfl : h = l + 1 := by omega
  exact root_unique n l (by omega) b3 b4

/-! ### Laws of products and quotients -/
theorem ce_fl (P : Int) : (ce P 65536 - P / 65536 = 0 ↔ P % 65536 = 0) ∧ (ce P 65536 - P / 65536 = 1 ↔ ¬ P % 65536 = 0) := by unfold ce; omega
theorem tmod_zero (P : Int) (d : Int) : P.tmod d = 0 ↔ P % d = 0 := ⟨fun h => Int.emod_eq_zero_of_dvd (Int.dvd_of_tmod_eq_zero h), fun h => Int.tmod_eq_zero_of_dvd (Int.dvd_of_emod_eq_zero h)⟩

theorem mulDown_mono (a b c : Int) (hb : 0 ≤ b) (h : a ≤ c) : mulDown a b ≤ mulDown c b := by
  unfold mulDown
  have := Int.mul_le_mul_of_nonneg_right (clamp_mono a c h) (clamp_nonneg b hb)
  omega
theorem mulUp_mono (a b c : Int) (hb : 0 ≤ b) (h : a ≤ c) : mulUp b a ≤ mulUp b c := by
  unfold mulUp ce
  have := Int.mul_le_mul_of_nonneg_left (clamp_mono a c h) (clamp_nonneg b hb)
  omega
theorem mulUp_neg (a b : Int) : mulUp a b = -mulDown (-a) b := by
  unfold mulUp mulDown ce; rw [clamp_neg, Int.neg_mul]
theorem divUp_neg (a b : Int) : divUp a b = -divDown (-a) b := by
  unfold divUp divDown ce; rw [clamp_neg]
  split
  · rw [Int.neg_mul]
  · rw [Int.neg_mul]

theorem inverse (x y : Int) (hx : clamp x = x) (hy : clamp y = y) (h1 : 1 ≤ y) (hq : clamp (divDown x y) = divDown x y) : mulDown (divDown x y) y ≤ x ∧ x - mulDown (divDown x y) y ≤ y / 65536 + 1 := by
  have e : divDown x y = x * 65536 / y := by unfold divDown; rw [hx, hy, if_neg (by omega)]
  have m := Int.mul_ediv_add_emod (x * 65536) y
  have n1 := Int.emod_nonneg (x * 65536) (show y ≠ 0 by omega)
  have n2 := Int.emod_lt_of_pos (x * 65536) (show 0 < y by omega)
  have e2 : mulDown (divDown x y) y = y * (x * 65536 / y) / 65536 := by unfold mulDown; rw [hq, hy, e, Int.mul_comm]
  rw [e2]
  generalize y * (x * 65536 / y) = P at *
  omega

/-! ### Rounding into a range -/
theorem tmod_bd (n k : Int) (hk : 0 < k) : -k < n.tmod k ∧ n.tmod k < k := by
  refine ⟨?_, Int.tmod_lt_of_pos n hk⟩
  have := Int.tmod_lt_of_pos (-n) hk
  rw [Int.neg_tmod] at this; omega
theorem tmod_emod_neg (n k : Int) (hk : 0 < k) (h : n.tmod k < 0) : n.tmod k + k = n % k := by
  have e1 := Int.mul_tdiv_add_tmod n k
  have b := tmod_bd n k hk
  have : n % k = (n.tmod k + k) % k := by
    rw [Int.add_emod_right]
    have e2 : n = n.tmod k + k * n.tdiv k := by omega
    have e3 : n % k = (n.tmod k + k * n.tdiv k) % k := congrArg (· % k) e2
    rw [e3, Int.add_mul_emod_self_left]
  rw [this, Int.emod_eq_of_lt (by omega) (by omega)]
theorem tmod_emod_pos (n k : Int) (hk : 0 < k) (h : 0 ≤ n.tmod k) : n.tmod k = n % k := by
  have e1 := Int.mul_tdiv_add_tmod n k
  have b := tmod_bd n k hk
  have e2 : n = n.tmod k + k * n.tdiv k := by omega
  have e3 : n % k = (n.tmod k + k * n.tdiv k) % k := congrArg (· % k) e2
  rw [e3, Int.add_mul_emod_self_left, Int.emod_eq_of_lt h (by omega)]
theorem pow_bd (n m : Nat) (h : n ≤ m) : (1 : Int) ≤ 2 ^ n ∧ (2 : Int) ^ n ≤ 2 ^ m := by
  have h1 := pow_pos n
  have hm := Nat.pow_le_pow_right (show 0 < 2 by omega) h
  have : ((2 ^ n : Nat) : Int) ≤ ((2 ^ m : Nat) : Int) := by omega
  rw [Int.natCast_pow, Int.natCast_pow] at this
  exact ⟨by omega, this⟩

end Go.Proofs.Ytgnjconhbloocaa.Fx
