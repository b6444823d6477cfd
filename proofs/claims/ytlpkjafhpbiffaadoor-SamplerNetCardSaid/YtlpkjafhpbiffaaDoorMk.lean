/- Contracts of the makers of intervals: Round, Interval, Part. -/
import Derived.Test.YtlpkjafhpbiffaaDoorIv3
namespace Go.Proofs.YtlpkjafhpbiffaaDoor
open Go.RowKit

/-- A valid interval is returned, and nothing that was there has changed. -/
def SomeIv (w : World) (e : Ending) (w' : World) : Prop := ∃ l h : Int, Fx.vb l h = true ∧ e = .returned (.agg #[.int .i64 l, .int .i64 h]) ∧ Below w.heap.size w w'

/-- A part of the interval from a to b is returned. -/
def PartOf (a b : Int) (w : World) (e : Ending) (w' : World) : Prop := ∃ l h : Int, a ≤ l ∧ l ≤ h ∧ h ≤ b ∧ e = .returned (.agg #[.int .i64 l, .int .i64 h]) ∧ Below w.heap.size w w'

theorem round_any (n k : Int) (w : World) (hk : 0 < k) (hk1 : k ≤ 9223372036854775807) :
    Calls Tryd.prog 18 #[.int .i64 n, .int .i64 k] w fun e w' => e = .returned (.int .i64 (n % k)) ∧ w = w' := by
  have b1 := Fx.tmod_bd n k hk
  by_cases c : n.tmod k < 0
  · have HE := Lib.hid (Fx.tmod_emod_neg n k hk c)
    go_enter Tryd.func18, Tryd.ntmps18
    go_wp2
    all_goals go_ret
    all_goals exact ⟨ret_int HE.out, rfl⟩
  · have HE := Lib.hid (Fx.tmod_emod_pos n k hk (by omega))
    by_cases c0 : 0 ≤ n
    · have HE2 := Lib.hid (Int.tmod_eq_emod_of_nonneg (b := k) c0)
      have h1 := Int.emod_nonneg n (show k ≠ 0 by omega)
      go_enter Tryd.func18, Tryd.ntmps18
      go_wp2
      go_ret
      exact ⟨rfl, rfl⟩
    · go_enter Tryd.func18, Tryd.ntmps18
      go_wp2
      go_ret
      exact ⟨ret_int HE.out, rfl⟩

theorem interval_any (a b : Int) (w : World) :
    Calls Tryd.prog 24 #[.int .i64 a, .int .i64 b] w (SomeIv w) := by
  have r0 := Int.emod_nonneg (a / 8) (show (27 : Int) ≠ 0 by omega)
  have r1 := Int.emod_lt_of_pos (a / 8) (show (0 : Int) < 27 by omega)
  have hp : (1 : Int) ≤ 2 ^ (4 + a / 8 % 27).toNat ∧ (2 : Int) ^ (4 + a / 8 % 27).toNat ≤ 1073741824 := Fx.pow_bd _ 30 (by omega)
  go_enter Tryd.func24, Tryd.ntmps24
  go_wp2_with fail
  refine (round_any _ _ _ (by omega) (by omega)).mono ?_
  rintro e w' ⟨rfl, rfl⟩
  go_wp2_with fail
  generalize (2 : Int) ^ (4 + a / 8 % 27).toNat = P at *
  refine (round_any _ _ _ (by omega) (by omega)).mono ?_
  rintro e w' ⟨rfl, rfl⟩
  have s0 := Int.emod_nonneg a (show (2 * P + 1 : Int) ≠ 0 by omega)
  have s1 := Int.emod_lt_of_pos a (show (0 : Int) < 2 * P + 1 by omega)
  have t0 := Int.emod_nonneg b (show (2 * P + 1 : Int) ≠ 0 by omega)
  have t1 := Int.emod_lt_of_pos b (show (0 : Int) < 2 * P + 1 by omega)
  generalize a % (2 * P + 1) = x at *
  go_wp2_with fail
  refine (round_any _ _ _ (by omega) (by omega)).mono ?_
  rintro e w' ⟨rfl, rfl⟩
  generalize b % (2 * P + 1) = y at *
  have v0 := Int.emod_nonneg (b / 2) (show (1 + P / 8 : Int) ≠ 0 by omega)
  have v1 := Int.emod_lt_of_pos (b / 2) (show (0 : Int) < 1 + P / 8 by omega)
  go_wp2_with (first | (go_at_call 18; refine (round_any _ _ _ (by omega) (by omega)).mono ?_; rintro e w' ⟨rfl, rfl⟩) | (go_at_call 38; refine (rclamp_any _ _).mono ?_; rintro e w' ⟨rfl, rfl⟩))
  · have c1 := Fx.clamp_bd (x - P)
    have c2 := Fx.clamp_bd (x - P + b / 2 % (1 + P / 8))
    exact bodyPost_ret (v := .agg #[.int .i64 (min (Fx.clamp (x - P)) (Fx.clamp (x - P + b / 2 % (1 + P / 8)))), .int .i64 (max (Fx.clamp (x - P)) (Fx.clamp (x - P + b / 2 % (1 + P / 8))))]) (by simp [results, Tryd.results24, go_sem]) rfl ⟨_, _, by unfold Fx.vb; simp only [decide_eq_true_eq]; omega, rfl, (Below.refl _ _).alloc (Nat.le_refl _) _⟩
  · have c1 := Fx.clamp_bd (x - P)
    have c2 := Fx.clamp_bd (y - P)
    exact bodyPost_ret (v := .agg #[.int .i64 (min (Fx.clamp (x - P)) (Fx.clamp (y - P))), .int .i64 (max (Fx.clamp (x - P)) (Fx.clamp (y - P)))]) (by simp [results, Tryd.results24, go_sem]) rfl ⟨_, _, by unfold Fx.vb; simp only [decide_eq_true_eq]; omega, rfl, (Below.refl _ _).alloc (Nat.le_refl _) _⟩

end Go.Proofs.YtlpkjafhpbiffaaDoor
