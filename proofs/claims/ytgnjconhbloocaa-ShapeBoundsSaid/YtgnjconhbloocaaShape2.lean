/- Whether a list of points is placed, by the reference. -/
import Derived.Test.YtgnjconhbloocaaShape1
namespace Go.Proofs.Ytgnjconhbloocaa
open Go.RowKit
set_option linter.unusedVariables false

theorem reached_yes (x : Fx.V3) (w : World) (h : Fx.reachB x = true) :
    Calls Try.prog 51 #[.agg #[.int .i64 x.a, .int .i64 x.b, .int .i64 x.c, .int .i64 x.d, .int .i64 x.e, .int .i64 x.f]] w fun e w' => e = .returned (.bool true) ∧ Below w.heap.size w w' := by
  rw [← h]; exact reached_any x w
theorem reached_no (x : Fx.V3) (w : World) (h : Fx.reachB x = false) :
    Calls Try.prog 51 #[.agg #[.int .i64 x.a, .int .i64 x.b, .int .i64 x.c, .int .i64 x.d, .int .i64 x.e, .int .i64 x.f]] w fun e w' => e = .returned (.bool false) ∧ Below w.heap.size w w' := by
  rw [← h]; exact reached_any x w

theorem placed_not {L : List Fx.V3} (h : Fx.allR L = false) : Fx.placedB L = false := by unfold Fx.placedB; rw [h]; simp

set_option maxHeartbeats 1000000 in
theorem rplaced_any (v : Value) (L : List Fx.V3) (w : World) (hI : VSl w v L) :
    Calls Try.prog 35 #[v] w fun e w' => e = .returned (.bool (Fx.placedB L)) ∧ Below w.heap.size w w' := by
  obtain ⟨a, c, rfl, hl, hI⟩ := hI
  go_enter Try.func35, Try.ntmps35
  have HI := Lib.hid hI; clear hI
  go_wp2_with fail
  go_loopw [3] (fun iv wr => ∃ k : Nat, k ≤ L.length ∧ k ≤ 9 ∧ iv = .int .i64 k ∧ Hid (Fx.allR (L.take k) = true) ∧ Below w.heap.size w wr) (fun iv _ => 9 - (intOf iv).toNat)
  case atStart => exact ⟨0, Nat.zero_le _, by omega, rfl, Lib.hid (by simp [Fx.allR]), Below.refl _ _⟩
  case round =>
    obtain ⟨k, hk, hk9, rfl, hA, hb⟩ := hrel
    by_cases hlt : k < L.length
    · by_cases hk8 : k ≤ 8
      · obtain ⟨b, o, hab, hJ⟩ := HI.out (by omega)
        subst hab
        obtain ⟨c0, c1, c2, c3, c4, c5⟩ := (hJ.ext hb).at_ k hlt
        have HN := Lib.hid (Fx.allR_next L k hlt hA.out)
        have HS := Lib.hid (Fx.allR_stop L k hlt)
        clear hJ
        generalize L.getD k Fx.V3.zero = x at *
        have d1 : decide ((k : Int) ≤ 8) = true := by simp; omega
        by_cases hr : Fx.reachB x = true
        · have HR := Lib.hid hr
          have HN' := Lib.hid (HN.out hr)
          clear hr
          go_wp2_with (go_at_call 51; refine (reached_yes x _ HR.out).mono ?_; rintro e w1 ⟨rfl, hb1⟩)
          go_roundw
          case rel => exact ⟨k + 1, by omega, by omega, by go_num, HN', ext_trans hb hb1⟩
          case measure => simp [intOf]; omega
        · have hr : Fx.reachB x = false := by simpa using hr
          have HR := Lib.hid hr
          have HF := Lib.hid (placed_not (HS.out hr))
          clear hr
          go_wp2_with (go_at_call 51; refine (reached_no x _ HR.out).mono ?_; rintro e w1 ⟨rfl, hb1⟩)
          go_ret
          exact ⟨ret_bool HF.out.symm, ext_trans hb hb1⟩
      · have d1 : decide ((k : Int) ≤ 8) = false := by simp; omega
        have d2 : decide ((L.length : Int) ≤ 8) = false := by simp; omega
        have d3 : decide ((1 : Int) ≤ (L.length : Int)) = true := by simp; omega
        have HF := Lib.hid (Fx.placedB_long L (by omega))
        go_wp2_with fail
        go_ret
        exact ⟨ret_bool HF.out.symm, hb⟩
    · have HA := Lib.hid (Fx.allR_end L k (by omega) hA.out)
      by_cases h1 : L.length < 1
      · have d3 : decide ((1 : Int) ≤ (L.length : Int)) = false := by simp; omega
        have HF := Lib.hid (Fx.placedB_short L h1)
        go_wp2_with fail
        go_ret
        exact ⟨ret_bool HF.out.symm, hb⟩
      · have d3 : decide ((1 : Int) ≤ (L.length : Int)) = true := by simp; omega
        by_cases h8 : L.length ≤ 8
        · have d4 : decide ((L.length : Int) ≤ 8) = true := by simp; omega
          have HF := Lib.hid ((Fx.placedB_eq L (by omega) h8).trans HA.out)
          go_wp2_with fail
          go_ret
          exact ⟨ret_bool HF.out.symm, hb⟩
        · have d4 : decide ((L.length : Int) ≤ 8) = false := by simp; omega
          have HF := Lib.hid (Fx.placedB_long L (by omega))
          go_wp2_with fail
          go_ret
          exact ⟨ret_bool HF.out.symm, hb⟩

theorem placed_yes (v : Value) (L : List Fx.V3) (w : World) (hI : VSl w v L) (h : Fx.placedB L = true) :
    Calls Try.prog 32 #[v] w fun e w' => e = .returned (.bool true) ∧ Below w.heap.size w w' := by
  rw [← h]; exact placed_any v L w hI
theorem placed_no (v : Value) (L : List Fx.V3) (w : World) (hI : VSl w v L) (h : Fx.placedB L = false) :
    Calls Try.prog 32 #[v] w fun e w' => e = .returned (.bool false) ∧ Below w.heap.size w w' := by
  rw [← h]; exact placed_any v L w hI
theorem rplaced_yes (v : Value) (L : List Fx.V3) (w : World) (hI : VSl w v L) (h : Fx.placedB L = true) :
    Calls Try.prog 35 #[v] w fun e w' => e = .returned (.bool true) ∧ Below w.heap.size w w' := by
  rw [← h]; exact rplaced_any v L w hI
theorem rplaced_no (v : Value) (L : List Fx.V3) (w : World) (hI : VSl w v L) (h : Fx.placedB L = false) :
    Calls Try.prog 35 #[v] w fun e w' => e = .returned (.bool false) ∧ Below w.heap.size w w' := by
  rw [← h]; exact rplaced_any v L w hI
end Go.Proofs.Ytgnjconhbloocaa
