/- Contracts of the functions of package fixed and of their references: what each call returns, and that it leaves the world alone. -/
import Derived.Test.YtgnjconhbloocaaProg
import Derived.Test.YtgnjconhbloocaaMath
import Derived.WalkKit
import Derived.WalkSpells
import Derived.WalkLawsBesides
import Derived.Lib.Hide
namespace Go.Proofs.Ytgnjconhbloocaa
open Go.RowKit

/-- Go's min and max of integers, as Lean's own. -/
theorem ite_min (x y : Int) : (if y < x then y else x) = min x y := by omega
theorem ite_max (x y : Int) : (if x < y then y else x) = max x y := by omega

@[go_sem high] theorem run_min2m {P : Program} {w : World} (ts : Array TypeId) (t : TypeId) (k k' : IntKind) (x y : Int) : (Builtin.min_ ts t #[.int k x, .int k' y]).run P w = .ok (.int k (min x y)) w := by
  rw [run_min_int2, ite_min]

@[go_sem high] theorem run_max2m {P : Program} {w : World} (ts : Array TypeId) (t : TypeId) (k k' : IntKind) (x y : Int) : (Builtin.max_ ts t #[.int k x, .int k' y]).run P w = .ok (.int k (max x y)) w := by
  rw [run_max_int2]; show Result.ok (Value.int k (if x < y then y else x)) w = _; rw [ite_max]

theorem ret_int {k : IntKind} {a b : Int} (h : a = b) : Ending.returned (.int k a) = .returned (.int k b) := by rw [h]

theorem clamp_any (a : Int) (w : World) :
    Calls Try.prog 89 #[.int .i64 a] w fun e w' => e = .returned (.int .i64 (Fx.clamp a)) ∧ w = w' := by
  go_enter Try.func89, Try.ntmps89
  go_wp2
  all_goals go_ret
  all_goals refine ⟨ret_int ?_, rfl⟩
  all_goals (unfold Fx.clamp; repeat' split) <;> omega

theorem rclamp_any (a : Int) (w : World) :
    Calls Try.prog 67 #[.int .i64 a] w fun e w' => e = .returned (.int .i64 (Fx.clamp a)) ∧ w = w' := by
  go_enter Try.func67, Try.ntmps67
  go_wp2
  all_goals go_ret
  all_goals refine ⟨ret_int ?_, rfl⟩
  all_goals (unfold Fx.clamp; repeat' split) <;> omega

theorem sdown_any (a k : Int) (w : World) :
    Calls Try.prog 69 #[.int .i64 a, .int .i64 k] w fun e w' => e = .returned (.int .i64 (a / 2 ^ min k.toNat 64)) ∧ w = w' := by
  by_cases hk : k < 0
  · go_enter Try.func69, Try.ntmps69
    go_wp2
    go_ret
    refine ⟨ret_int ?_, rfl⟩
    rw [show k.toNat = 0 from by omega]; simp
  · go_enter Try.func69, Try.ntmps69
    go_wp2
    go_ret
    exact ⟨rfl, rfl⟩

theorem sup_any (a k : Int) (w : World) (h0 : -9223372036854775808 ≤ a) (h1 : a ≤ 9223372036854775807) :
    Calls Try.prog 97 #[.int .i64 a, .int .i64 k] w fun e w' => e = .returned (.int .i64 (Fx.sup a (min k.toNat 64))) ∧ w = w' := by
  by_cases hk : k < 0
  · go_enter Try.func97, Try.ntmps97
    go_wp2
    go_ret
    refine ⟨ret_int ?_, rfl⟩
    rw [show k.toNat = 0 from by omega]; exact (Fx.sup_zero a).symm
  · go_enter Try.func97, Try.ntmps97
    go_wp2
    · go_ret
      exact ⟨ret_int (Fx.sup_way1 a _ (Nat.min_le_right _ _) h0 h1 ‹_›), rfl⟩
    · go_ret
      exact ⟨ret_int (Fx.sup_way2 a _ (Nat.min_le_right _ _) h0 h1 ‹_›), rfl⟩

theorem sd_any (a k : Int) (w : World) :
    Calls Try.prog 69 #[.int .i64 a, .int .i64 k] w fun e w' => e = .returned (.int .i64 (Fx.sd a k)) ∧ w = w' := sdown_any a k w
theorem su_any (a k : Int) (w : World) (h0 : -9223372036854775808 ≤ a) (h1 : a ≤ 9223372036854775807) :
    Calls Try.prog 97 #[.int .i64 a, .int .i64 k] w fun e w' => e = .returned (.int .i64 (Fx.su a k)) ∧ w = w' := sup_any a k w h0 h1
theorem sdown16 (a : Int) (w : World) :
    Calls Try.prog 69 #[.int .i64 a, .int .i64 16] w fun e w' => e = .returned (.int .i64 (a / 65536)) ∧ w = w' := sdown_any a 16 w
theorem sup16 (a : Int) (w : World) (h0 : -9223372036854775808 ≤ a) (h1 : a ≤ 9223372036854775807) :
    Calls Try.prog 97 #[.int .i64 a, .int .i64 16] w fun e w' => e = .returned (.int .i64 (Fx.ce a 65536)) ∧ w = w' := sup_any a 16 w h0 h1





theorem floor_any (a b : Int) (w : World) (h0 : -9223372036854775808 ≤ a) (h1 : a ≤ 9223372036854775807) (hb : 0 < b) :
    Calls Try.prog 70 #[.int .i64 a, .int .i64 b] w fun e w' => e = .returned (.int .i64 (a / b)) ∧ w = w' := by
  go_enter Try.func70, Try.ntmps70
  go_wp2
  · go_ret
    exact ⟨ret_int (Fx.floor_way1 a b hb h0 h1 ‹_›), rfl⟩
  · go_ret
    exact ⟨ret_int (Fx.floor_way2 a b hb ‹_›), rfl⟩

theorem ceil_any (a b : Int) (w : World) (h0 : -9223372036854775808 ≤ a) (h1 : a ≤ 9223372036854775807) (hb : 0 < b) :
    Calls Try.prog 86 #[.int .i64 a, .int .i64 b] w fun e w' => e = .returned (.int .i64 (Fx.ce a b)) ∧ w = w' := by
  go_enter Try.func86, Try.ntmps86
  go_wp2
  · go_ret
    exact ⟨ret_int (Fx.ceil_way1 a b hb h0 h1 ‹_›), rfl⟩
  · go_ret
    exact ⟨ret_int (Fx.ceil_way2 a b hb ‹_›), rfl⟩







end Go.Proofs.Ytgnjconhbloocaa
