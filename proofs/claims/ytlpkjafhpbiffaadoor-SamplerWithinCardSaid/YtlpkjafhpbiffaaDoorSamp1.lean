/- Contracts of the functions of package sampler that make numbers, and of their references. -/
import Derived.Test.YtlpkjafhpbiffaaDoorDiv64
import Derived.Test.YtlpkjafhpbiffaaDoorIv
import Derived.Test.YtlpkjafhpbiffaaDoorSampMath
import Derived.Defers
import Derived.Recover
namespace Go.Proofs.YtlpkjafhpbiffaaDoor
open Go.RowKit
set_option linter.unusedVariables false

theorem below_drewN' (w : World) (k : Nat) : Below w.heap.size w (w.drewN k) := ⟨rfl, rfl, rfl, Nat.le_refl _, fun _ _ => rfl⟩
theorem below_drewN2 {B : Nat} {W w : World} (h : Below B W w) (k : Nat) : Below B W (w.drewN k) := ⟨h.1, h.2, h.3, h.4, h.5⟩

theorem word_any (s i : Int) (w : World) :
    Calls Tryd.prog 22 #[.int .u64 s, .int .u64 i] w fun e w' => e = .returned (.int .u64 (Fx.word s i)) ∧ w' = w := by
  go_enter Tryd.func22, Tryd.ntmps22
  go_wp2
  go_ret
  exact ⟨rfl, rfl⟩

theorem rword_any (s i : Int) (w : World) :
    Calls Tryd.prog 23 #[.int .u64 s, .int .u64 i] w fun e w' => e = .returned (.int .u64 (Fx.word s i)) ∧ w' = w := by
  go_enter Tryd.func23, Tryd.ntmps23
  go_wp2
  go_ret
  exact ⟨rfl, rfl⟩

theorem isRange_any (l h : Int) (w : World) :
    Calls Tryd.prog 39 #[.int .i64 l, .int .i64 h] w fun e w' => e = .returned (.bool (Fx.vb l h)) ∧ Below w.heap.size w w' := by
  go_enter Tryd.func39, Tryd.ntmps39
  go_wp2_with (go_at_call 52; refine (valid_any l h _).mono ?_; rintro e w' ⟨rfl, hb⟩)
  go_ret
  exact ⟨rfl, hb⟩

theorem bounded_any (l h : Int) (w : World) :
    Calls Tryd.prog 41 #[.int .i64 l, .int .i64 h] w fun e w' => e = .returned (.bool (Fx.vb l h)) ∧ Below w.heap.size w w' := by
  go_enter Tryd.func41, Tryd.ntmps41
  go_wp2_with (go_at_call 53; refine (rvalid_any l h _).mono ?_; rintro e w' ⟨rfl, hb⟩)
  go_ret
  exact ⟨rfl, hb⟩

theorem isRange_yes (l h : Int) (w : World) (hv : Fx.vb l h = true) :
    Calls Tryd.prog 39 #[.int .i64 l, .int .i64 h] w fun e w' => e = .returned (.bool true) ∧ Below w.heap.size w w' := by
  rw [← hv]; exact isRange_any l h w

theorem isRange_no (l h : Int) (w : World) (hv : Fx.vb l h = false) :
    Calls Tryd.prog 39 #[.int .i64 l, .int .i64 h] w fun e w' => e = .returned (.bool false) ∧ Below w.heap.size w w' := by
  rw [← hv]; exact isRange_any l h w

theorem bounded_yes (l h : Int) (w : World) (hv : Fx.vb l h = true) :
    Calls Tryd.prog 41 #[.int .i64 l, .int .i64 h] w fun e w' => e = .returned (.bool true) ∧ Below w.heap.size w w' := by
  rw [← hv]; exact bounded_any l h w

theorem bounded_no (l h : Int) (w : World) (hv : Fx.vb l h = false) :
    Calls Tryd.prog 41 #[.int .i64 l, .int .i64 h] w fun e w' => e = .returned (.bool false) ∧ Below w.heap.size w w' := by
  rw [← hv]; exact bounded_any l h w

theorem mul64_int (x y : Int) (w : World) (hx0 : 0 ≤ x) (hx1 : x < 18446744073709551616) (hy0 : 0 ≤ y) (hy1 : y < 18446744073709551616) :
    Calls Tryd.prog 40 #[.int .u64 x, .int .u64 y] w fun e w' => e = .returned (.tuple #[.int .u64 (x * y / 18446744073709551616), .int .u64 (x * y % 18446744073709551616)]) ∧ w' = w := by
  obtain ⟨a, rfl⟩ := Int.eq_ofNat_of_zero_le hx0
  obtain ⟨b, rfl⟩ := Int.eq_ofNat_of_zero_le hy0
  have := mul64_any a b (by omega) (by omega) w
  simpa using this

theorem spread_any (x l h : Int) (w : World) (hx0 : 0 ≤ x) (hx1 : x < 18446744073709551616) :
    Calls Tryd.prog 25 #[.int .u64 x, .int .i64 l, .int .i64 h] w fun e w' => e = .returned (.int .i64 (Fx.spread x l h)) ∧ Below w.heap.size w w' := by
  by_cases hv : Fx.vb l h = true
  · have hV := Lib.hid hv
    have hv' := Fx.vb_true.1 hv
    clear hv
    have hf := Fx.frac_bd x (h - l + 1) 18446744073709551616 hx0 hx1 (by omega)
    go_enter Tryd.func25, Tryd.ntmps25
    go_wp2_with (first
      | (go_at_call 39; refine (isRange_yes l h _ hV.out).mono ?_; rintro e w' ⟨rfl, hb⟩)
      | (go_at_call 40; refine (mul64_int x (h - l + 1) _ hx0 hx1 (by omega) (by omega)).mono ?_; rintro e w2 ⟨rfl, rfl⟩))
    go_ret
    exact ⟨by simp only [Fx.spread, hV.out, if_true]; rfl, hb⟩
  · have hv : Fx.vb l h = false := by simpa using hv
    have hV := Lib.hid hv
    clear hv
    go_enter Tryd.func25, Tryd.ntmps25
    go_wp2_with (go_at_call 39; refine (isRange_no l h _ hV.out).mono ?_; rintro e w' ⟨rfl, hb⟩)
    go_ret
    exact ⟨by simp [Fx.spread, hV.out], hb⟩

theorem rspread_any (x l h : Int) (w : World) (hx0 : 0 ≤ x) (hx1 : x < 18446744073709551616) :
    Calls Tryd.prog 26 #[.int .u64 x, .int .i64 l, .int .i64 h] w fun e w' => e = .returned (.int .i64 (Fx.spread x l h)) ∧ Below w.heap.size w w' := by
  by_cases hv : Fx.vb l h = true
  · have hV := Lib.hid hv
    have hv' := Fx.vb_true.1 hv
    clear hv
    have hf := Fx.frac_bd x (h - l + 1) 18446744073709551616 hx0 hx1 (by omega)
    go_enter Tryd.func26, Tryd.ntmps26
    go_wp2_with (first
      | (go_at_call 41; refine (bounded_yes l h _ hV.out).mono ?_; rintro e w' ⟨rfl, hb⟩)
      | (go_at_call 40; refine (mul64_int x (h - l + 1) _ hx0 hx1 (by omega) (by omega)).mono ?_; rintro e w2 ⟨rfl, rfl⟩))
    go_ret
    exact ⟨by simp only [Fx.spread, hV.out, if_true]; rfl, hb⟩
  · have hv : Fx.vb l h = false := by simpa using hv
    have hV := Lib.hid hv
    clear hv
    go_enter Tryd.func26, Tryd.ntmps26
    go_wp2_with (go_at_call 41; refine (bounded_no l h _ hV.out).mono ?_; rintro e w' ⟨rfl, hb⟩)
    go_ret
    exact ⟨by simp [Fx.spread, hV.out], hb⟩

theorem rplace_any (n d l h : Int) (w : World) (hn0 : 0 ≤ n) (hn1 : n < 18446744073709551616) (hd0 : 0 ≤ d) (hd1 : d < 18446744073709551616) :
    Calls Tryd.prog 28 #[.int .u64 n, .int .u64 d, .int .i64 l, .int .i64 h] w fun e w' => e = .returned (.int .i64 (Fx.place n d l h)) ∧ Below w.heap.size w w' := by
  by_cases hv : Fx.vb l h = true
  · have hV := Lib.hid hv
    have hv' := Fx.vb_true.1 hv
    clear hv
    by_cases hnd : n < d
    · have hf := Fx.frac_bd n (h - l + 1) d hn0 hnd (by omega)
      have hq := Fx.high_lt n (h - l + 1) d hn0 hnd (by omega) (by omega)
      have hj : n * (h - l + 1) / 18446744073709551616 * 18446744073709551616 + n * (h - l + 1) % 18446744073709551616 = n * (h - l + 1) := by omega
      have HJ := Lib.hid hj; clear hj
      have b1 : decide (d ≤ n) = false := by simp; omega
      go_enter Tryd.func28, Tryd.ntmps28
      go_wp2_with (first
        | (go_at_call 41; refine (bounded_yes l h _ hV.out).mono ?_; rintro e w' ⟨rfl, hb⟩)
        | (go_at_call 40; refine (mul64_int n (h - l + 1) _ hn0 hn1 (by omega) (by omega)).mono ?_; rintro e w2 ⟨rfl, rfl⟩)
        | (go_at_call 43; refine (div64_any _ _ d _ hq.1 hq.2 (by omega) (by omega) hd1).mono ?_; rw [HJ.out]; rintro e w2 ⟨r, k, rfl, rfl⟩))
      go_ret
      exact ⟨by rw [Fx.place_yes hV.out hnd]; rfl, by first | exact hb | exact below_drewN2 hb _⟩
    · have b1 : decide (d ≤ n) = true := by simp; omega
      go_enter Tryd.func28, Tryd.ntmps28
      go_wp2_with (go_at_call 41; refine (bounded_yes l h _ hV.out).mono ?_; rintro e w' ⟨rfl, hb⟩)
      go_ret
      exact ⟨by rw [Fx.place_not (by omega)]; rfl, hb⟩
  · have hv : Fx.vb l h = false := by simpa using hv
    have hV := Lib.hid hv
    clear hv
    go_enter Tryd.func28, Tryd.ntmps28
    go_wp2_with (go_at_call 41; refine (bounded_no l h _ hV.out).mono ?_; rintro e w' ⟨rfl, hb⟩)
    go_ret
    exact ⟨by rw [Fx.place_no hV.out]; rfl, hb⟩
end Go.Proofs.YtlpkjafhpbiffaaDoor
