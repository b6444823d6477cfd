/- Contracts of the functions of package fixed and of their references: what each call returns, and that it leaves the world alone. -/
import Derived.Test.YtllnkaoofecmiaaProg
import Derived.Test.YtllnkaoofecmiaaMath
import Derived.WalkKit
import Derived.WalkSpells
import Derived.WalkLawsBesides
import Derived.Lib.Hide
namespace Go.Proofs.Ytllnkaoofecmiaa
open Go.RowKit

theorem ret_int {k : IntKind} {a b : Int} (h : a = b) : Ending.returned (.int k a) = .returned (.int k b) := by rw [h]

theorem clamp_any (a : Int) (w : World) :
    Calls Try.prog 22 #[.int .i64 a] w fun e w' => e = .returned (.int .i64 (Fx.clamp a)) ∧ w = w' := by
  go_enter Try.func22, Try.ntmps22
  go_wp2
  all_goals go_ret
  all_goals refine ⟨ret_int ?_, rfl⟩
  all_goals (unfold Fx.clamp; repeat' split) <;> omega

theorem rclamp_any (a : Int) (w : World) :
    Calls Try.prog 19 #[.int .i64 a] w fun e w' => e = .returned (.int .i64 (Fx.clamp a)) ∧ w = w' := by
  go_enter Try.func19, Try.ntmps19
  go_wp2
  all_goals go_ret
  all_goals refine ⟨ret_int ?_, rfl⟩
  all_goals (unfold Fx.clamp; repeat' split) <;> omega

theorem sdown_any (a k : Int) (w : World) :
    Calls Try.prog 15 #[.int .i64 a, .int .i64 k] w fun e w' => e = .returned (.int .i64 (a / 2 ^ min k.toNat 64)) ∧ w = w' := by
  by_cases hk : k < 0
  · go_enter Try.func15, Try.ntmps15
    go_wp2
    go_ret
    refine ⟨ret_int ?_, rfl⟩
    rw [show k.toNat = 0 from by omega]; simp
  · go_enter Try.func15, Try.ntmps15
    go_wp2
    go_ret
    exact ⟨rfl, rfl⟩

theorem sup_any (a k : Int) (w : World) (h0 : -9223372036854775808 ≤ a) (h1 : a ≤ 9223372036854775807) :
    Calls Try.prog 17 #[.int .i64 a, .int .i64 k] w fun e w' => e = .returned (.int .i64 (Fx.sup a (min k.toNat 64))) ∧ w = w' := by
  by_cases hk : k < 0
  · go_enter Try.func17, Try.ntmps17
    go_wp2
    go_ret
    refine ⟨ret_int ?_, rfl⟩
    rw [show k.toNat = 0 from by omega]; exact (Fx.sup_zero a).symm
  · go_enter Try.func17, Try.ntmps17
    go_wp2
    · go_ret
      exact ⟨ret_int (Fx.sup_way1 a _ (Nat.min_le_right _ _) h0 h1 ‹_›), rfl⟩
    · go_ret
      exact ⟨ret_int (Fx.sup_way2 a _ (Nat.min_le_right _ _) h0 h1 ‹_›), rfl⟩

theorem sd_any (a k : Int) (w : World) :
    Calls Try.prog 15 #[.int .i64 a, .int .i64 k] w fun e w' => e = .returned (.int .i64 (Fx.sd a k)) ∧ w = w' := sdown_any a k w
theorem su_any (a k : Int) (w : World) (h0 : -9223372036854775808 ≤ a) (h1 : a ≤ 9223372036854775807) :
    Calls Try.prog 17 #[.int .i64 a, .int .i64 k] w fun e w' => e = .returned (.int .i64 (Fx.su a k)) ∧ w = w' := sup_any a k w h0 h1
theorem sdown16 (a : Int) (w : World) :
    Calls Try.prog 15 #[.int .i64 a, .int .i64 16] w fun e w' => e = .returned (.int .i64 (a / 65536)) ∧ w = w' := sdown_any a 16 w
theorem sup16 (a : Int) (w : World) (h0 : -9223372036854775808 ≤ a) (h1 : a ≤ 9223372036854775807) :
    Calls Try.prog 17 #[.int .i64 a, .int .i64 16] w fun e w' => e = .returned (.int .i64 (Fx.ce a 65536)) ∧ w = w' := sup_any a 16 w h0 h1

theorem mulDown_any (a b : Int) (w : World) :
    Calls Try.prog 21 #[.int .i64 a, .int .i64 b] w fun e w' => e = .returned (.int .i64 (Fx.mulDown a b)) ∧ w = w' := by
  have hp := Fx.mul_clamp_bd a b
  go_enter Try.func21, Try.ntmps21
  go_wp2_with fail
  refine (clamp_any a _).mono ?_
  rintro e w' ⟨rfl, rfl⟩
  go_wp2_with fail
  refine (clamp_any b _).mono ?_
  rintro e w' ⟨rfl, rfl⟩
  go_wp2_with fail
  refine (sdown16 _ _).mono ?_
  rintro e w' ⟨rfl, rfl⟩
  go_wp2_with fail
  go_ret
  exact ⟨rfl, rfl⟩

theorem mulUp_any (a b : Int) (w : World) :
    Calls Try.prog 24 #[.int .i64 a, .int .i64 b] w fun e w' => e = .returned (.int .i64 (Fx.mulUp a b)) ∧ w = w' := by
  have hp := Fx.mul_clamp_bd a b
  go_enter Try.func24, Try.ntmps24
  go_wp2_with fail
  refine (clamp_any a _).mono ?_
  rintro e w' ⟨rfl, rfl⟩
  go_wp2_with fail
  refine (clamp_any b _).mono ?_
  rintro e w' ⟨rfl, rfl⟩
  go_wp2_with fail
  refine (sup16 _ _ (by omega) (by omega)).mono ?_
  rintro e w' ⟨rfl, rfl⟩
  go_wp2_with fail
  go_ret
  exact ⟨rfl, rfl⟩

theorem floor_any (a b : Int) (w : World) (h0 : -9223372036854775808 ≤ a) (h1 : a ≤ 9223372036854775807) (hb : 0 < b) :
    Calls Try.prog 35 #[.int .i64 a, .int .i64 b] w fun e w' => e = .returned (.int .i64 (a / b)) ∧ w = w' := by
  go_enter Try.func35, Try.ntmps35
  go_wp2
  · go_ret
    exact ⟨ret_int (Fx.floor_way1 a b hb h0 h1 ‹_›), rfl⟩
  · go_ret
    exact ⟨ret_int (Fx.floor_way2 a b hb ‹_›), rfl⟩

theorem ceil_any (a b : Int) (w : World) (h0 : -9223372036854775808 ≤ a) (h1 : a ≤ 9223372036854775807) (hb : 0 < b) :
    Calls Try.prog 36 #[.int .i64 a, .int .i64 b] w fun e w' => e = .returned (.int .i64 (Fx.ce a b)) ∧ w = w' := by
  go_enter Try.func36, Try.ntmps36
  go_wp2
  · go_ret
    exact ⟨ret_int (Fx.ceil_way1 a b hb h0 h1 ‹_›), rfl⟩
  · go_ret
    exact ⟨ret_int (Fx.ceil_way2 a b hb ‹_›), rfl⟩

theorem rmulDown_any (a b : Int) (w : World) :
    Calls Try.prog 23 #[.int .i64 a, .int .i64 b] w fun e w' => e = .returned (.int .i64 (Fx.mulDown a b)) ∧ w = w' := by
  have hp := Fx.mul_clamp_bd a b
  go_enter Try.func23, Try.ntmps23
  go_wp2_with fail
  refine (rclamp_any a _).mono ?_
  rintro e w' ⟨rfl, rfl⟩
  go_wp2_with fail
  refine (rclamp_any b _).mono ?_
  rintro e w' ⟨rfl, rfl⟩
  go_wp2_with fail
  refine (floor_any _ _ _ (by omega) (by omega) (by omega)).mono ?_
  rintro e w' ⟨rfl, rfl⟩
  go_wp2_with fail
  go_ret
  exact ⟨rfl, rfl⟩

theorem rmulUp_any (a b : Int) (w : World) :
    Calls Try.prog 25 #[.int .i64 a, .int .i64 b] w fun e w' => e = .returned (.int .i64 (Fx.mulUp a b)) ∧ w = w' := by
  have hp := Fx.mul_clamp_bd a b
  go_enter Try.func25, Try.ntmps25
  go_wp2_with fail
  refine (rclamp_any a _).mono ?_
  rintro e w' ⟨rfl, rfl⟩
  go_wp2_with fail
  refine (rclamp_any b _).mono ?_
  rintro e w' ⟨rfl, rfl⟩
  go_wp2_with fail
  refine (ceil_any _ _ _ (by omega) (by omega) (by omega)).mono ?_
  rintro e w' ⟨rfl, rfl⟩
  go_wp2_with fail
  go_ret
  exact ⟨rfl, rfl⟩

theorem rsdown_any (a k : Int) (w : World) (h0 : -9223372036854775808 ≤ a) (h1 : a ≤ 9223372036854775807) :
    Calls Try.prog 16 #[.int .i64 a, .int .i64 k] w fun e w' => e = .returned (.int .i64 (a / 2 ^ min k.toNat 64)) ∧ w = w' := by
  go_enter Try.func16, Try.ntmps16
  go_wp2
  go_loop [0, 5] (fun x i => ∃ j : Nat, j ≤ min k.toNat 64 ∧ i = .int .i64 j ∧ x = .int .i64 (a / 2 ^ j)) (fun _ i => 64 - (intOf i).toNat)
  case atStart => exact ⟨0, Nat.zero_le _, rfl, by simp⟩
  case round =>
    obtain ⟨j, hj, rfl, rfl⟩ := hrel
    have hb := Fx.shr_bd a j h0 h1
    by_cases c : (j : Int) < k ∧ j < 64
    · obtain ⟨c1, c2⟩ := c
      go_wp2_with (go_at_call 35; refine (floor_any _ _ _ (by omega) (by omega) (by omega)).mono ?_; rintro e w' ⟨rfl, rfl⟩)
      go_round
      case rel => exact ⟨j + 1, by omega, by go_num, by rw [← Fx.div2_pow]⟩
      case measure => simp [intOf]; omega
    · have e : min k.toNat 64 = j := by omega
      have E := Lib.hid e; clear e
      by_cases c1 : (j : Int) < k
      · have c2 : 64 ≤ j := by omega
        go_wp2
        go_ret
        exact ⟨ret_int (by rw [E.out]), rfl⟩
      · go_wp2
        go_ret
        exact ⟨ret_int (by rw [E.out]), rfl⟩

theorem rsup_any (a k : Int) (w : World) (h0 : -9223372036854775808 ≤ a) (h1 : a ≤ 9223372036854775807) :
    Calls Try.prog 18 #[.int .i64 a, .int .i64 k] w fun e w' => e = .returned (.int .i64 (Fx.sup a (min k.toNat 64))) ∧ w = w' := by
  go_enter Try.func18, Try.ntmps18
  go_wp2
  go_loop [0, 5] (fun x i => ∃ j : Nat, j ≤ min k.toNat 64 ∧ i = .int .i64 j ∧ x = .int .i64 (Fx.sup a j)) (fun _ i => 64 - (intOf i).toNat)
  case atStart => exact ⟨0, Nat.zero_le _, rfl, by rw [Fx.sup_zero]⟩
  case round =>
    obtain ⟨j, hj, rfl, rfl⟩ := hrel
    have hb := Fx.sup_bd a j h0 h1
    by_cases c : (j : Int) < k ∧ j < 64
    · obtain ⟨c1, c2⟩ := c
      go_wp2_with (go_at_call 36; refine (ceil_any _ _ _ (by omega) (by omega) (by omega)).mono ?_; rintro e w' ⟨rfl, rfl⟩)
      go_round
      case rel => exact ⟨j + 1, by omega, by go_num, by rw [Fx.ce2_pow]⟩
      case measure => simp [intOf]; omega
    · have e : min k.toNat 64 = j := by omega
      have E := Lib.hid e; clear e
      by_cases c1 : (j : Int) < k
      · have c2 : 64 ≤ j := by omega
        go_wp2
        go_ret
        exact ⟨ret_int (by rw [E.out]), rfl⟩
      · go_wp2
        go_ret
        exact ⟨ret_int (by rw [E.out]), rfl⟩
theorem rsd_any (a k : Int) (w : World) (h0 : -9223372036854775808 ≤ a) (h1 : a ≤ 9223372036854775807) : Calls Try.prog 16 #[.int .i64 a, .int .i64 k] w fun e w' => e = .returned (.int .i64 (Fx.sd a k)) ∧ w = w' := rsdown_any a k w h0 h1
theorem rsu_any (a k : Int) (w : World) (h0 : -9223372036854775808 ≤ a) (h1 : a ≤ 9223372036854775807) : Calls Try.prog 18 #[.int .i64 a, .int .i64 k] w fun e w' => e = .returned (.int .i64 (Fx.su a k)) ∧ w = w' := rsup_any a k w h0 h1
end Go.Proofs.Ytllnkaoofecmiaa
