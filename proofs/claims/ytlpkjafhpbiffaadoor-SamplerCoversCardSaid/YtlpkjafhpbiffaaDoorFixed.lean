/- Contracts of the functions of package fixed and of their references: what each call returns, and that it leaves the world alone. -/
import Derived.Test.YtlpkjafhpbiffaaDoorProg
import Derived.Test.YtlpkjafhpbiffaaDoorMath
import Derived.WalkKit
import Derived.WalkSpells
import Derived.WalkLawsBesides
import Derived.Lib.Hide
namespace Go.Proofs.YtlpkjafhpbiffaaDoor
open Go.RowKit

/-- Go's min and max of integers, as Lean's own. -/
theorem ite_min (x y : Int) : (if y < x then y else x) = min x y := by omega
theorem ite_max (x y : Int) : (if x < y then y else x) = max x y := by omega

@[go_sem high] theorem run_min2m {P : Program} {w : World} (ts : Array TypeId) (t : TypeId) (k k' : IntKind) (x y : Int) : (Builtin.min_ ts t #[.int k x, .int k' y]).run P w = .ok (.int k (min x y)) w := by
  rw [run_min_int2, ite_min]

@[go_sem high] theorem run_max2m {P : Program} {w : World} (ts : Array TypeId) (t : TypeId) (k k' : IntKind) (x y : Int) : (Builtin.max_ ts t #[.int k x, .int k' y]).run P w = .ok (.int k (max x y)) w := by
  rw [run_max_int2]; show Result.ok (Value.int k (if x < y then y else x)) w = _; rw [ite_max]

theorem ret_int {k : IntKind} {a b : Int} (h : a = b) : Ending.returned (.int k a) = .returned (.int k b) := by rw [h]



theorem rclamp_any (a : Int) (w : World) :
    Calls Tryd.prog 38 #[.int .i64 a] w fun e w' => e = .returned (.int .i64 (Fx.clamp a)) ∧ w = w' := by
  go_enter Tryd.func38, Tryd.ntmps38
  go_wp2
  all_goals go_ret
  all_goals refine ⟨ret_int ?_, rfl⟩
  all_goals (unfold Fx.clamp; repeat' split) <;> omega





















end Go.Proofs.YtlpkjafhpbiffaaDoor
