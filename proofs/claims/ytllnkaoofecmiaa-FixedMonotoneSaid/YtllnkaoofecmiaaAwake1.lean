/- The sanity check of the laws on package fixed returns true; small facts that all these laws use. -/
import Derived.Test.YtllnkaoofecmiaaFixed
import Derived.Test.YtllnkaoofecmiaaDiv
import Derived.Test.YtllnkaoofecmiaaRoot
import Derived.OpenShut
namespace Go.Proofs.Ytllnkaoofecmiaa
open Go.RowKit

theorem i64_bd {a : Int} (h : (Lit.int .i64 a).wf = true) : -9223372036854775808 ≤ a ∧ a ≤ 9223372036854775807 := by
  simpa [Lit.wf, IntKind.min, IntKind.max, IntKind.signed, IntKind.bits] using h
theorem u8_bd {a : Int} (h : (Lit.int .u8 a).wf = true) : 0 ≤ a ∧ a ≤ 255 := by
  simpa [Lit.wf, IntKind.min, IntKind.max, IntKind.signed, IntKind.bits] using h
theorem below_drewN' (w : World) (k : Nat) : Below w.heap.size w (w.drewN k) := ⟨rfl, rfl, rfl, Nat.le_refl _, fun _ _ => rfl⟩
theorem ret_true {c : Bool} (h : c = true) : Ending.returned (.bool c) = .returned (.bool true) := by rw [h]

theorem awake_any (w : World) :
    Calls Try.prog 14 #[] w fun e w' => e = .returned (.bool true) ∧ ∃ k, w' = w.drewN k := by
  have h1 : (Fx.mulDown 98304 32768 == 49152) = true := by decide
  have h2 : (Fx.root 15 == 3) = true := by decide
  go_enter Try.func14, Try.ntmps14
  go_wp2_with fail
  refine (mulDown_any _ _ _).mono ?_
  rintro e w' ⟨rfl, rfl⟩
  go_wp2_with fail
  refine (root_any _ _ (by omega)).mono ?_
  rintro e w' ⟨rfl, k, rfl⟩
  go_wp2_with fail
  go_ret
  exact ⟨rfl, _, rfl⟩
end Go.Proofs.Ytllnkaoofecmiaa
