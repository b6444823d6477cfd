/- Contracts of DivDown and DivUp of package fixed and of their references. -/
import Derived.Test.YtllnkaoofecmiaaFixed
namespace Go.Proofs.Ytllnkaoofecmiaa
open Go.RowKit

theorem ret_pair {k : IntKind} {a b : Int} {c : Bool} (h : a = b) : Ending.returned (.tuple #[.int k a, .bool c]) = .returned (.tuple #[.int k b, .bool c]) := by rw [h]

theorem divDown_yes (a b : Int) (w : World) (hb : Fx.clamp b ≠ 0) :
    Calls Try.prog 20 #[.int .i64 a, .int .i64 b] w fun e w' => e = .returned (.tuple #[.int .i64 (Fx.divDown a b), .bool true]) ∧ w = w' := by
  have h1 := Fx.clamp_bd a
  have h2 := Fx.clamp_bd b
  have hz : (Fx.clamp b == 0) = false := beq_eq_false_iff_ne.2 hb
  have HT := Lib.hid (Fx.tdiv_down (Fx.clamp a * 65536) (Fx.clamp b) hb)
  have HF := Lib.hid (Fx.divDown_eq a b)
  have hq := Fx.tdiv_bd (Fx.clamp a * 65536) (Fx.clamp b) (by omega) (by omega)
  go_enter Try.func20, Try.ntmps20
  go_wp2_with fail
  refine (clamp_any a _).mono ?_
  rintro e w' ⟨rfl, rfl⟩
  go_wp2_with fail
  refine (clamp_any b _).mono ?_
  rintro e w' ⟨rfl, rfl⟩
  generalize Fx.clamp b = y at *
  generalize Fx.clamp a = x at *
  by_cases cx : x < 0
  · have bx : decide (x * 65536 < 0) = true := by simp; omega
    by_cases cy : y < 0
    · have dy : decide (y < 0) = true := by simp; omega
      by_cases ct : (x * 65536).tmod y = 0
      · have bt : ((x * 65536).tmod y != 0) = false := by simp [ct]
        have CT := Lib.hid ct; clear ct
        go_wp2
        go_ret2
        exact ⟨ret_pair (by rw [HF.out, ← HT.out, if_neg (by have := CT.out; omega)]), rfl⟩
      · have bt : ((x * 65536).tmod y != 0) = true := by simp [ct]
        have CT := Lib.hid ct; clear ct
        go_wp2
        go_ret2
        exact ⟨ret_pair (by rw [HF.out, ← HT.out, if_neg (by have := CT.out; omega)]), rfl⟩
    · have dy : decide (y < 0) = false := by simp; omega
      by_cases ct : (x * 65536).tmod y = 0
      · have bt : ((x * 65536).tmod y != 0) = false := by simp [ct]
        have CT := Lib.hid ct; clear ct
        go_wp2
        go_ret2
        exact ⟨ret_pair (by rw [HF.out, ← HT.out, if_neg (by have := CT.out; omega)]), rfl⟩
      · have bt : ((x * 65536).tmod y != 0) = true := by simp [ct]
        have CT := Lib.hid ct; clear ct
        go_wp2
        go_ret2
        exact ⟨ret_pair (by rw [HF.out, ← HT.out, if_pos (by have := CT.out; omega)]), rfl⟩
  · have bx : decide (x * 65536 < 0) = false := by simp; omega
    rw [Int.tdiv_eq_ediv_of_nonneg (by omega)] at HT hq
    rw [Int.tmod_eq_emod_of_nonneg (by omega)] at HT
    by_cases cy : y < 0
    · have dy : decide (y < 0) = true := by simp; omega
      have ed := Int.tdiv_eq_ediv_of_nonneg (a := x * 65536) (b := y) (by omega)
      by_cases ct : x * 65536 % y = 0
      · have bt : (x * 65536 % y != 0) = false := by simp [ct]
        have CT := Lib.hid ct; clear ct
        go_wp2
        go_ret2
        exact ⟨ret_pair (by rw [HF.out, ← HT.out, if_neg (by have := CT.out; omega)]), rfl⟩
      · have bt : (x * 65536 % y != 0) = true := by simp [ct]
        have CT := Lib.hid ct; clear ct
        go_wp2
        go_ret2
        exact ⟨ret_pair (by rw [HF.out, ← HT.out, if_pos (by have := CT.out; omega)]), rfl⟩
    · have dy : decide (y < 0) = false := by simp; omega
      by_cases ct : x * 65536 % y = 0
      · have bt : (x * 65536 % y != 0) = false := by simp [ct]
        have CT := Lib.hid ct; clear ct
        go_wp2
        go_ret2
        exact ⟨ret_pair (by rw [HF.out, ← HT.out, if_neg (by have := CT.out; omega)]), rfl⟩
      · have bt : (x * 65536 % y != 0) = true := by simp [ct]
        have CT := Lib.hid ct; clear ct
        go_wp2
        go_ret2
        exact ⟨ret_pair (by rw [HF.out, ← HT.out, if_neg (by have := CT.out; omega)]), rfl⟩

theorem divDown_no (a b : Int) (w : World) (hb : Fx.clamp b = 0) :
    Calls Try.prog 20 #[.int .i64 a, .int .i64 b] w fun e w' => e = .returned (.tuple #[.int .i64 0, .bool false]) ∧ w = w' := by
  have h1 := Fx.clamp_bd a
  have hz : (Fx.clamp b == 0) = true := by simp [hb]
  clear hb
  go_enter Try.func20, Try.ntmps20
  go_wp2_with fail
  refine (clamp_any a _).mono ?_
  rintro e w' ⟨rfl, rfl⟩
  go_wp2_with fail
  refine (clamp_any b _).mono ?_
  rintro e w' ⟨rfl, rfl⟩
  go_wp2
  go_ret2
  exact ⟨rfl, rfl⟩

theorem divUp_yes (a b : Int) (w : World) (hb : Fx.clamp b ≠ 0) :
    Calls Try.prog 33 #[.int .i64 a, .int .i64 b] w fun e w' => e = .returned (.tuple #[.int .i64 (Fx.divUp a b), .bool true]) ∧ w = w' := by
  have h1 := Fx.clamp_bd a
  have h2 := Fx.clamp_bd b
  have hz : (Fx.clamp b == 0) = false := beq_eq_false_iff_ne.2 hb
  have HT := Lib.hid (Fx.tdiv_up (Fx.clamp a * 65536) (Fx.clamp b) hb)
  have HF := Lib.hid (Fx.divUp_eq a b)
  have hq := Fx.tdiv_bd (Fx.clamp a * 65536) (Fx.clamp b) (by omega) (by omega)
  go_enter Try.func33, Try.ntmps33
  go_wp2_with fail
  refine (clamp_any a _).mono ?_
  rintro e w' ⟨rfl, rfl⟩
  go_wp2_with fail
  refine (clamp_any b _).mono ?_
  rintro e w' ⟨rfl, rfl⟩
  generalize Fx.clamp b = y at *
  generalize Fx.clamp a = x at *
  by_cases cx : x < 0
  · have bx : decide (x * 65536 < 0) = true := by simp; omega
    by_cases cy : y < 0
    · have dy : decide (y < 0) = true := by simp; omega
      by_cases ct : (x * 65536).tmod y = 0
      · have bt : ((x * 65536).tmod y != 0) = false := by simp [ct]
        have CT := Lib.hid ct; clear ct
        go_wp2
        go_ret2
        exact ⟨ret_pair (by rw [HF.out, ← HT.out, if_neg (by have := CT.out; omega)]), rfl⟩
      · have bt : ((x * 65536).tmod y != 0) = true := by simp [ct]
        have CT := Lib.hid ct; clear ct
        go_wp2
        go_ret2
        exact ⟨ret_pair (by rw [HF.out, ← HT.out, if_pos (by have := CT.out; omega)]), rfl⟩
    · have dy : decide (y < 0) = false := by simp; omega
      by_cases ct : (x * 65536).tmod y = 0
      · have bt : ((x * 65536).tmod y != 0) = false := by simp [ct]
        have CT := Lib.hid ct; clear ct
        go_wp2
        go_ret2
        exact ⟨ret_pair (by rw [HF.out, ← HT.out, if_neg (by have := CT.out; omega)]), rfl⟩
      · have bt : ((x * 65536).tmod y != 0) = true := by simp [ct]
        have CT := Lib.hid ct; clear ct
        go_wp2
        go_ret2
        exact ⟨ret_pair (by rw [HF.out, ← HT.out, if_neg (by have := CT.out; omega)]), rfl⟩
  · have bx : decide (x * 65536 < 0) = false := by simp; omega
    rw [Int.tdiv_eq_ediv_of_nonneg (by omega)] at HT hq
    rw [Int.tmod_eq_emod_of_nonneg (by omega)] at HT
    by_cases cy : y < 0
    · have dy : decide (y < 0) = true := by simp; omega
      have ed := Int.tdiv_eq_ediv_of_nonneg (a := x * 65536) (b := y) (by omega)
      by_cases ct : x * 65536 % y = 0
      · have bt : (x * 65536 % y != 0) = false := by simp [ct]
        have CT := Lib.hid ct; clear ct
        go_wp2
        go_ret2
        exact ⟨ret_pair (by rw [HF.out, ← HT.out, if_neg (by have := CT.out; omega)]), rfl⟩
      · have bt : (x * 65536 % y != 0) = true := by simp [ct]
        have CT := Lib.hid ct; clear ct
        go_wp2
        go_ret2
        exact ⟨ret_pair (by rw [HF.out, ← HT.out, if_neg (by have := CT.out; omega)]), rfl⟩
    · have dy : decide (y < 0) = false := by simp; omega
      by_cases ct : x * 65536 % y = 0
      · have bt : (x * 65536 % y != 0) = false := by simp [ct]
        have CT := Lib.hid ct; clear ct
        go_wp2
        go_ret2
        exact ⟨ret_pair (by rw [HF.out, ← HT.out, if_neg (by have := CT.out; omega)]), rfl⟩
      · have bt : (x * 65536 % y != 0) = true := by simp [ct]
        have CT := Lib.hid ct; clear ct
        go_wp2
        go_ret2
        exact ⟨ret_pair (by rw [HF.out, ← HT.out, if_pos (by have := CT.out; omega)]), rfl⟩

theorem divUp_no (a b : Int) (w : World) (hb : Fx.clamp b = 0) :
    Calls Try.prog 33 #[.int .i64 a, .int .i64 b] w fun e w' => e = .returned (.tuple #[.int .i64 0, .bool false]) ∧ w = w' := by
  have h1 := Fx.clamp_bd a
  have hz : (Fx.clamp b == 0) = true := by simp [hb]
  clear hb
  go_enter Try.func33, Try.ntmps33
  go_wp2_with fail
  refine (clamp_any a _).mono ?_
  rintro e w' ⟨rfl, rfl⟩
  go_wp2_with fail
  refine (clamp_any b _).mono ?_
  rintro e w' ⟨rfl, rfl⟩
  go_wp2
  go_ret2
  exact ⟨rfl, rfl⟩

theorem rdivDown_yes (a b : Int) (w : World) (hb : Fx.clamp b ≠ 0) :
    Calls Try.prog 37 #[.int .i64 a, .int .i64 b] w fun e w' => e = .returned (.tuple #[.int .i64 (Fx.divDown a b), .bool true]) ∧ w = w' := by
  have h1 := Fx.clamp_bd a
  have h2 := Fx.clamp_bd b
  have hz : (Fx.clamp b == 0) = false := beq_eq_false_iff_ne.2 hb
  have HF := Lib.hid (Fx.divDown_eq a b)
  go_enter Try.func37, Try.ntmps37
  go_wp2_with fail
  refine (rclamp_any a _).mono ?_
  rintro e w' ⟨rfl, rfl⟩
  go_wp2_with fail
  refine (rclamp_any b _).mono ?_
  rintro e w' ⟨rfl, rfl⟩
  generalize Fx.clamp b = y at *
  generalize Fx.clamp a = x at *
  by_cases cy : y < 0
  · go_wp2_with (go_at_call 35; refine (floor_any _ _ _ (by omega) (by omega) (by omega)).mono ?_; rintro e w' ⟨rfl, rfl⟩)
    go_ret2
    exact ⟨ret_pair (by rw [HF.out, if_pos cy, Int.ediv_neg]), rfl⟩
  · go_wp2_with (go_at_call 35; refine (floor_any _ _ _ (by omega) (by omega) (by omega)).mono ?_; rintro e w' ⟨rfl, rfl⟩)
    go_ret2
    exact ⟨ret_pair (by rw [HF.out, if_neg (by omega)]), rfl⟩

theorem rdivDown_no (a b : Int) (w : World) (hb : Fx.clamp b = 0) :
    Calls Try.prog 37 #[.int .i64 a, .int .i64 b] w fun e w' => e = .returned (.tuple #[.int .i64 0, .bool false]) ∧ w = w' := by
  have h1 := Fx.clamp_bd a
  have hz : (Fx.clamp b == 0) = true := by simp [hb]
  clear hb
  go_enter Try.func37, Try.ntmps37
  go_wp2_with fail
  refine (rclamp_any a _).mono ?_
  rintro e w' ⟨rfl, rfl⟩
  go_wp2_with fail
  refine (rclamp_any b _).mono ?_
  rintro e w' ⟨rfl, rfl⟩
  go_wp2
  go_ret2
  exact ⟨rfl, rfl⟩

theorem rdivUp_yes (a b : Int) (w : World) (hb : Fx.clamp b ≠ 0) :
    Calls Try.prog 38 #[.int .i64 a, .int .i64 b] w fun e w' => e = .returned (.tuple #[.int .i64 (Fx.divUp a b), .bool true]) ∧ w = w' := by
  have h1 := Fx.clamp_bd a
  have h2 := Fx.clamp_bd b
  have hz : (Fx.clamp b == 0) = false := beq_eq_false_iff_ne.2 hb
  have HF := Lib.hid (Fx.divUp_eq a b)
  go_enter Try.func38, Try.ntmps38
  go_wp2_with fail
  refine (rclamp_any a _).mono ?_
  rintro e w' ⟨rfl, rfl⟩
  go_wp2_with fail
  refine (rclamp_any b _).mono ?_
  rintro e w' ⟨rfl, rfl⟩
  generalize Fx.clamp b = y at *
  generalize Fx.clamp a = x at *
  by_cases cy : y < 0
  · go_wp2_with (go_at_call 36; refine (ceil_any _ _ _ (by omega) (by omega) (by omega)).mono ?_; rintro e w' ⟨rfl, rfl⟩)
    go_ret2
    exact ⟨ret_pair (by rw [HF.out, if_pos cy]), rfl⟩
  · go_wp2_with (go_at_call 36; refine (ceil_any _ _ _ (by omega) (by omega) (by omega)).mono ?_; rintro e w' ⟨rfl, rfl⟩)
    go_ret2
    exact ⟨ret_pair (by rw [HF.out, if_neg (by omega)]), rfl⟩

theorem rdivUp_no (a b : Int) (w : World) (hb : Fx.clamp b = 0) :
    Calls Try.prog 38 #[.int .i64 a, .int .i64 b] w fun e w' => e = .returned (.tuple #[.int .i64 0, .bool false]) ∧ w = w' := by
  have h1 := Fx.clamp_bd a
  have hz : (Fx.clamp b == 0) = true := by simp [hb]
  clear hb
  go_enter Try.func38, Try.ntmps38
  go_wp2_with fail
  refine (rclamp_any a _).mono ?_
  rintro e w' ⟨rfl, rfl⟩
  go_wp2_with fail
  refine (rclamp_any b _).mono ?_
  rintro e w' ⟨rfl, rfl⟩
  go_wp2
  go_ret2
  exact ⟨rfl, rfl⟩

end Go.Proofs.Ytllnkaoofecmiaa
