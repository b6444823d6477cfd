/- Contracts of Root, RootUp, SqrtDown and SqrtUp of package fixed and of their references. -/
import Derived.Test.YtlpkjafhpbiffaaDoorFixed
import Derived.Test.YtlpkjafhpbiffaaDoorShelf
import Derived.Deep.QuietTactic
import Derived.BigQuiet
namespace Go.Proofs.YtlpkjafhpbiffaaDoor
open Go.RowKit

namespace Fx
theorem bitLenAux_lt (f x : Nat) (h : x < 2 ^ f) : x < 2 ^ Lib.bitLenAux f x := by
  induction f generalizing x with
  | zero => simpa [Lib.bitLenAux] using h
  | succ f ih =>
    rw [Lib.bitLenAux]
    split
    · subst_vars; simp
    · have := ih (x / 2) (by rw [Nat.pow_succ] at h; omega)
      rw [Nat.pow_add]; omega
theorem bitLenAux_le (f x k : Nat) (h : x < 2 ^ k) : Lib.bitLenAux f x ≤ k := by
  induction f generalizing x k with
  | zero => simp [Lib.bitLenAux]
  | succ f ih =>
    rw [Lib.bitLenAux]
    split
    · omega
    · match k with
      | 0 => simp at h; omega
      | k + 1 =>
        have := ih (x / 2) k (by rw [Nat.pow_succ] at h; omega)
        omega
theorem bitLen_lt (x : Nat) (h : x < 18446744073709551616) : x < 2 ^ Lib.bitLen x := bitLenAux_lt 64 x h
theorem bitLen_63 (x : Nat) (h : x < 9223372036854775808) : Lib.bitLen x ≤ 63 := bitLenAux_le 64 x 63 h
theorem bitLen_64 (x : Nat) (h : x < 18446744073709551616) : Lib.bitLen x ≤ 64 := bitLenAux_le 64 x 64 h
theorem bitLenAux_low (f x : Nat) (h : 0 < x) (hx : x < 2 ^ f) : 2 ^ Lib.bitLenAux f x ≤ 2 * x := by
  induction f generalizing x with
  | zero => simp at hx; omega
  | succ f ih =>
    rw [Lib.bitLenAux, if_neg (by omega)]
    by_cases c : x / 2 = 0
    · rw [c]
      have : Lib.bitLenAux f 0 = 0 := by cases f <;> simp [Lib.bitLenAux]
      rw [this]; omega
    · have := ih (x / 2) (by omega) (by rw [Nat.pow_succ] at hx; omega)
      rw [Nat.pow_add]; omega
theorem bitLen_low (x : Nat) (h : 0 < x) (hx : x < 18446744073709551616) : 2 ^ Lib.bitLen x ≤ 2 * x := bitLenAux_low 64 x h hx
/-- The normalized divisor. -/
theorem norm_bd (y : Int) (h0 : 0 < y) (h1 : y < 18446744073709551616) : 64 - Lib.bitLen y.toNat ≤ 63 ∧ 9223372036854775808 ≤ y * 2 ^ (64 - Lib.bitLen y.toNat) ∧ y * 2 ^ (64 - Lib.bitLen y.toNat) < 18446744073709551616 := by
  have a1 := bitLen_lt y.toNat (by omega)
  have a2 := bitLen_low y.toNat (by omega) (by omega)
  have a3 := bitLen_64 y.toNat (by omega)
  generalize Lib.bitLen y.toNat = L at *
  have e : 2 ^ L * 2 ^ (64 - L) = 18446744073709551616 := by rw [← Nat.pow_add, show L + (64 - L) = 64 from by omega]
  have hp : 0 < 2 ^ (64 - L) := Nat.two_pow_pos _
  have hL : 1 ≤ L := by
    by_cases c : L = 0
    · subst c; simp at a1; omega
    · omega
  obtain ⟨n, rfl⟩ := Int.eq_ofNat_of_zero_le (show 0 ≤ y by omega)
  simp only [Int.toNat_natCast] at *
  have b1 : n * 2 ^ (64 - L) < 18446744073709551616 := by rw [← e]; exact Nat.mul_lt_mul_of_pos_right a1 hp
  have b2 : 18446744073709551616 ≤ 2 * (n * 2 ^ (64 - L)) := by rw [← e, ← Nat.mul_assoc]; exact Nat.mul_le_mul_right _ a2
  have c : ((n * 2 ^ (64 - L) : Nat) : Int) = (n : Int) * 2 ^ (64 - L) := by rw [Int.natCast_mul, Int.natCast_pow]; rfl
  refine ⟨by omega, ?_, ?_⟩
  · rw [← c]; omega
  · rw [← c]; omega
theorem and_low (z : Int) (h0 : 0 ≤ z) (h1 : z < 18446744073709551616) : bits .and .u64 z 4294967295 = z % 4294967296 := and_low32 z h0 h1
theorem lt_pow_bitLen (n : Int) (h0 : 0 ≤ n) (h1 : n ≤ 9223372036854775807) : n < 2 ^ Lib.bitLen n.toNat := by
  have := bitLen_lt n.toNat (by omega)
  have h : ((n.toNat : Nat) : Int) < ((2 ^ Lib.bitLen n.toNat : Nat) : Int) := by omega
  rw [Int.natCast_pow, Int.toNat_of_nonneg h0] at h
  exact h
end Fx

















end Go.Proofs.YtlpkjafhpbiffaaDoor
