/- Contracts of the functions of package interval, of their references and of the makers of intervals: each returns what the plain function says, and changes nothing that was there. -/
import Derived.Test.YtlpkjafhpbiffaaDoorFixed
import Derived.Test.YtlpkjafhpbiffaaDoorIvMath
import Derived.Deep.QuietTactic
import Derived.BigQuiet
namespace Go.Proofs.YtlpkjafhpbiffaaDoor
open Go.RowKit

theorem bcell {W w1 : World} (hb : Below W.heap.size W w1) : (∀ b o, b < W.heap.size → w1.cell? ⟨b, o, none⟩ = W.cell? ⟨b, o, none⟩) ∧ (∀ b o, b < W.heap.size → w1.frozen? ⟨b, o, none⟩ = W.frozen? ⟨b, o, none⟩) :=
  ⟨fun b o h => hb.cell (p := ⟨b, o, none⟩) h, fun b o h => hb.frozen (p := ⟨b, o, none⟩) h⟩

theorem ret_iv {a b c d : Int} (h1 : a = c) (h2 : b = d) : Ending.returned (.agg #[.int .i64 a, .int .i64 b]) = .returned (.agg #[.int .i64 c, .int .i64 d]) := by rw [h1, h2]

theorem ret_bool {a b : Bool} (h : a = b) : Ending.returned (.bool a) = .returned (.bool b) := by rw [h]

theorem valid_any (l h : Int) (w : World) :
    Calls Tryd.prog 52 #[.agg #[.int .i64 l, .int .i64 h]] w fun e w' => e = .returned (.bool (Fx.vb l h)) ∧ Below w.heap.size w w' := by
  by_cases c0 : -2147483648 ≤ l
  · by_cases c1 : l ≤ h
    · by_cases c2 : h ≤ 2147483648
      · have hd : decide (h ≤ 2147483648) = true := by simpa using c2
        go_enter Tryd.func52, Tryd.ntmps52
        go_wp2
        go_ret
        exact ⟨ret_bool (by unfold Fx.vb; simp; omega), (Below.refl _ _).alloc (Nat.le_refl _) _⟩
      · have hd : decide (h ≤ 2147483648) = false := by simpa using c2
        go_enter Tryd.func52, Tryd.ntmps52
        go_wp2
        go_ret
        exact ⟨ret_bool (by unfold Fx.vb; simp; omega), (Below.refl _ _).alloc (Nat.le_refl _) _⟩
    · have hd : decide (l ≤ h) = false := by simpa using c1
      go_enter Tryd.func52, Tryd.ntmps52
      go_wp2
      go_ret
      exact ⟨ret_bool (by unfold Fx.vb; simp; omega), (Below.refl _ _).alloc (Nat.le_refl _) _⟩
  · have hd : decide (-2147483648 ≤ l) = false := by simpa using c0
    go_enter Tryd.func52, Tryd.ntmps52
    go_wp2
    go_ret
    exact ⟨ret_bool (by unfold Fx.vb; simp; omega), (Below.refl _ _).alloc (Nat.le_refl _) _⟩

theorem valid_yes (l h : Int) (w : World) (hv : Fx.vb l h = true) :
    Calls Tryd.prog 52 #[.agg #[.int .i64 l, .int .i64 h]] w fun e w' => e = .returned (.bool true) ∧ Below w.heap.size w w' := by
  rw [← hv]; exact valid_any l h w

theorem valid_no (l h : Int) (w : World) (hv : Fx.vb l h = false) :
    Calls Tryd.prog 52 #[.agg #[.int .i64 l, .int .i64 h]] w fun e w' => e = .returned (.bool false) ∧ Below w.heap.size w w' := by
  rw [← hv]; exact valid_any l h w

theorem rvalid_any (l h : Int) (w : World) :
    Calls Tryd.prog 53 #[.agg #[.int .i64 l, .int .i64 h]] w fun e w' => e = .returned (.bool (Fx.vb l h)) ∧ Below w.heap.size w w' := by
  by_cases c0 : -2147483648 ≤ l
  · by_cases c1 : l ≤ h
    · by_cases c2 : h ≤ 2147483648
      · have hd : decide (h ≤ 2147483648) = true := by simpa using c2
        go_enter Tryd.func53, Tryd.ntmps53
        go_wp2
        go_ret
        exact ⟨ret_bool (by unfold Fx.vb; simp; omega), (Below.refl _ _).alloc (Nat.le_refl _) _⟩
      · have hd : decide (h ≤ 2147483648) = false := by simpa using c2
        go_enter Tryd.func53, Tryd.ntmps53
        go_wp2
        go_ret
        exact ⟨ret_bool (by unfold Fx.vb; simp; omega), (Below.refl _ _).alloc (Nat.le_refl _) _⟩
    · have hd : decide (l ≤ h) = false := by simpa using c1
      go_enter Tryd.func53, Tryd.ntmps53
      go_wp2
      go_ret
      exact ⟨ret_bool (by unfold Fx.vb; simp; omega), (Below.refl _ _).alloc (Nat.le_refl _) _⟩
  · have hd : decide (-2147483648 ≤ l) = false := by simpa using c0
    go_enter Tryd.func53, Tryd.ntmps53
    go_wp2
    go_ret
    exact ⟨ret_bool (by unfold Fx.vb; simp; omega), (Below.refl _ _).alloc (Nat.le_refl _) _⟩

theorem rvalid_yes (l h : Int) (w : World) (hv : Fx.vb l h = true) :
    Calls Tryd.prog 53 #[.agg #[.int .i64 l, .int .i64 h]] w fun e w' => e = .returned (.bool true) ∧ Below w.heap.size w w' := by
  rw [← hv]; exact rvalid_any l h w

theorem rvalid_no (l h : Int) (w : World) (hv : Fx.vb l h = false) :
    Calls Tryd.prog 53 #[.agg #[.int .i64 l, .int .i64 h]] w fun e w' => e = .returned (.bool false) ∧ Below w.heap.size w w' := by
  rw [← hv]; exact rvalid_any l h w

























end Go.Proofs.YtlpkjafhpbiffaaDoor
