/- Contract of math/bits.Div64: the quotient of hi * 2^64 + lo by y, for hi less than y. -/
import Derived.Test.YtlpkjafhpbiffaaDoorDiv64Math
import Derived.Test.YtlpkjafhpbiffaaDoorFixed
import Derived.Test.YtlpkjafhpbiffaaDoorRoot
import Derived.Test.YtlpkjafhpbiffaaDoorShelf
import Derived.Test.YtlpkjafhpbiffaaDoorShelf2
import Derived.Deep.QuietTactic
import Derived.BigQuiet
import Derived.Deep.DeepCutAuto
import Derived.Deep.CutBlock
namespace Go.Proofs.YtlpkjafhpbiffaaDoor
open Go.RowKit

/-- The quotient is returned, with some rest. -/
def Div64Post (q : Int) (w : World) (e : Ending) (w' : World) : Prop := ∃ (r : Int) (k : Nat), e = .returned (.tuple #[.int .u64 q, .int .u64 r]) ∧ w' = w.drewN k

theorem div64_small (lo y : Int) (w : World) (hl0 : 0 ≤ lo) (hl1 : lo < 18446744073709551616) (hy0 : 0 < y) (hy1 : y < 18446744073709551616) :
    Calls Tryd.prog 43 #[.int .u64 0, .int .u64 lo, .int .u64 y] w (Div64Post (lo / y) w) := by
  have b1 : (y == 0) = false := by simp; omega
  have b2 : decide (y ≤ 0) = false := by simp; omega
  go_enter Tryd.func43, Tryd.ntmps43
  go_wp2
  go_quiet (fail)
  go_wp2
  go_ret2
  exact ⟨_, _, rfl, rfl⟩

set_option maxRecDepth 100000 in
set_option maxHeartbeats 1000000 in
theorem div64_big (hi lo y : Int) (w : World) (hh0 : 0 < hi) (hhy : hi < y) (hl0 : 0 ≤ lo) (hl1 : lo < 18446744073709551616) (hy1 : y < 18446744073709551616) :
    Calls Tryd.prog 43 #[.int .u64 hi, .int .u64 lo, .int .u64 y] w (Div64Post ((hi * 18446744073709551616 + lo) / y) w) := by
  have b1 : (y == 0) = false := by simp; omega
  have b2 : decide (y ≤ hi) = false := by simp; omega
  have b3 : (hi == 0) = false := by simp; omega
  go_enter Tryd.func43, Tryd.ntmps43
  go_wp2_with fail
  refine (lz64_any _ _ (by omega) (by omega)).mono ?_
  rintro e w' ⟨rfl, rfl⟩
  obtain ⟨s, hs, hs0⟩ : ∃ s : Nat, 64 - (Lib.bitLen y.toNat : Int) = s ∧ s = 64 - Lib.bitLen y.toNat := by
    have := Fx.bitLen_64 y.toNat (by omega)
    exact ⟨64 - Lib.bitLen y.toNat, by omega, rfl⟩
  obtain ⟨hs1, n0, n1⟩ := Fx.norm_bd y (by omega) (by omega)
  rw [← hs0] at hs1 n0 n1
  rw [hs]
  clear hs hs0
  have hp := Fx.pow_pos s
  have g1 : hi * 2 ^ s < y * 2 ^ s := Int.mul_lt_mul_of_pos_right hhy hp
  have g0 : 0 ≤ hi * 2 ^ s := Int.mul_nonneg (by omega) (by omega)
  have ha := Fx.and_low (y * 2 ^ s) (by omega) (by omega)
  go_upto_region 15 with fail
  obtain ⟨hD, hQ⟩ := Fx.div64_parts hi lo y s hs1 (by omega) hhy hl0 hl1 n0 n1
  rw [Fx.or_join hi lo s (by omega) g0 (by omega) hl0 hl1, IntKind.wrap_u64, Fx.and_low (lo * 2 ^ s % 18446744073709551616) (by omega) (by omega)]
  have HQ := Lib.hid hQ
  clear hQ ha g0 g1 hp hhy hh0 hl0 hl1 b1 b2 b3
  have hW0 : 0 ≤ lo * 2 ^ s % 18446744073709551616 := by omega
  have hW1 : lo * 2 ^ s % 18446744073709551616 < 18446744073709551616 := by omega
  generalize lo * 2 ^ s % 18446744073709551616 = W10 at *
  generalize hi * 2 ^ s + lo / 2 ^ (64 - s) = U at *
  generalize y * 2 ^ s = Y at *
  have hY : Y / 4294967296 * 4294967296 + Y % 4294967296 = Y := by omega
  have hU00 : 0 ≤ W10 % 4294967296 := by omega
  have hU01 : W10 % 4294967296 < 4294967296 := by omega
  generalize W10 % 4294967296 = U0 at *
  generalize W10 / 4294967296 = U1 at *
  generalize Y / 4294967296 = Y1 at *
  generalize Y % 4294967296 = Y0 at *
  clear hW0 hW1
  have HY := Lib.hid hY; clear hY
  obtain ⟨d1, d2, d3, d4, d5, d6, d7, d8⟩ := id hD
  have HE := Lib.hid (Fx.est_start hD)
  have HD := Lib.hid hD; clear hD
  have hdq := Int.ediv_nonneg d1 (show 0 ≤ Y1 by omega)
  have hE := HE.out
  obtain ⟨e1, e2, e3, e4, e5, e6⟩ := hE
  have hp1 : 0 ≤ U / Y1 * Y1 := Int.mul_nonneg hdq (by omega)
  have hp2 : U / Y1 * Y1 ≤ U := by omega
  clear e4 e5
  go_upto_block 0 with fail
  clear e1 e2 e3 e6 hp1 hp2 hdq
  go_cut [15] (fun q wx => q = .int .u64 ((U * 4294967296 + U1) / (Y1 * 4294967296 + Y0)) ∧ wx = w')
  case first =>
    go_wp2_with fail
    go_loopg [15, 16] 4294967298 (fun n qv rv wr => ∃ (q r : Int), Hid (Fx.Est U U1 Y1 Y0 q r) ∧ q ≤ n ∧ qv = .int .u64 q ∧ rv = .int .u64 r ∧ wr = w')
    case atStart => exact ⟨_, _, HE, by have := HE.out.2.2.2.2.2; omega, rfl, rfl, rfl⟩
    case round =>
      obtain ⟨q, r, hE, hn, rfl, rfl, rfl⟩ := hrel
      have q0 := hE.out.1
      have r0 := hE.out.2.1
      have r1 := hE.out.2.2.1
      have q1 := hE.out.2.2.2.2.2
      have hm0 : 0 ≤ q * Y0 := Int.mul_nonneg q0 d6
      by_cases c : 4294967296 ≤ q ∨ 4294967296 * r + U1 < q * Y0
      · have p1 := Fx.est_pos HD.out hE.out c
        by_cases c2 : 4294967296 ≤ r + Y1
        · have HB := Lib.hid (Fx.est_break HD.out hE.out c c2)
          have b5 : decide (4294967296 ≤ r + Y1) = true := by simp [c2]
          by_cases c1 : 4294967296 ≤ q
          · have b4 : decide (4294967296 ≤ q) = true := by simp [c1]
            go_wp2_with fail
            go_meet
            exact ⟨by rw [HB.out], rfl⟩
          · have c3 : 4294967296 * r + U1 < q * Y0 := by omega
            have b4 : decide (4294967296 ≤ q) = false := by simp [c1]
            have b6 : decide (4294967296 * r + U1 < q * Y0) = true := by simp [c3]
            have hm1 : q * Y0 < 18446744073709551616 := by
              have := Int.mul_le_mul (show q ≤ 4294967295 by omega) (show Y0 ≤ 4294967295 by omega) d6 (by omega)
              omega
            go_wp2_with fail
            go_meet
            exact ⟨by rw [HB.out], rfl⟩
        · have HN := Lib.hid (Fx.est_next HD.out hE.out c (by omega))
          have b5 : decide (4294967296 ≤ r + Y1) = false := by simp [c2]
          by_cases c1 : 4294967296 ≤ q
          · have b4 : decide (4294967296 ≤ q) = true := by simp [c1]
            go_wp2_with fail
            go_roundg (q - 1).toNat
            case measure => omega
            case rel => exact ⟨_, _, HN, by omega, rfl, rfl, rfl⟩
          · have c3 : 4294967296 * r + U1 < q * Y0 := by omega
            have b4 : decide (4294967296 ≤ q) = false := by simp [c1]
            have b6 : decide (4294967296 * r + U1 < q * Y0) = true := by simp [c3]
            have hm1 : q * Y0 < 18446744073709551616 := by
              have := Int.mul_le_mul (show q ≤ 4294967295 by omega) (show Y0 ≤ 4294967295 by omega) d6 (by omega)
              omega
            go_wp2_with fail
            go_roundg (q - 1).toNat
            case measure => omega
            case rel => exact ⟨_, _, HN, by omega, rfl, rfl, rfl⟩
      · have HB := Lib.hid (Fx.est_end HD.out hE.out (by omega))
        have b4 : decide (4294967296 ≤ q) = false := by simp; omega
        have b6 : decide (4294967296 * r + U1 < q * Y0) = false := by simp; omega
        have hm1 : q * Y0 < 18446744073709551616 := by
          have := Int.mul_le_mul (show q ≤ 4294967295 by omega) (show Y0 ≤ 4294967295 by omega) d6 (by omega)
          omega
        go_wp2_with fail
        go_meet
        exact ⟨by rw [HB.out], rfl⟩
  case rest =>
    obtain ⟨rfl, rfl⟩ := hcut
    have hq := Fx.digit_lt HD.out
    have hr := Fx.rest_bd HD.out
    have HT := Lib.hid (Fx.two_digits U U1 U0 (Y1 * 4294967296 + Y0) (by omega))
    have hY := HY.out
    rw [hY] at hq hr HT ⊢
    clear hY
    generalize (U * 4294967296 + U1) / Y = q1 at *
    go_upto_region 22 with fail
    have hw : IntKind.u64.wrap (IntKind.u64.wrap (IntKind.u64.wrap (U * 4294967296) + U1) - IntKind.u64.wrap (q1 * Y)) = U * 4294967296 + U1 - q1 * Y := by
      simp only [IntKind.wrap_u64]; omega
    rw [hw]
    clear hw
    generalize IntKind.u64.wrap (IntKind.u64.wrap (U * 4294967296) + U1) = z1
    generalize IntKind.u64.wrap (U * 4294967296) = z2
    generalize IntKind.u64.wrap (q1 * Y) = z3
    generalize U * 4294967296 + U1 - q1 * Y = V at *
    have hD2 : Fx.Digits V U0 Y1 Y0 := ⟨hr.1, hU00, hU01, d4, d5, d6, d7, by have := HY.out; omega⟩
    obtain ⟨f1, f2, f3, f4, f5, f6, f7, f8⟩ := id hD2
    have HE2 := Lib.hid (Fx.est_start hD2)
    have HD2 := Lib.hid hD2; clear hD2
    have hdq := Int.ediv_nonneg f1 (show 0 ≤ Y1 by omega)
    obtain ⟨e1, e2, e3, e4, e5, e6⟩ := HE2.out
    have hp1 : 0 ≤ V / Y1 * Y1 := Int.mul_nonneg hdq (by omega)
    have hp2 : V / Y1 * Y1 ≤ V := by omega
    clear e4 e5
    go_upto_block 2 with fail
    clear e1 e2 e3 e6 hp1 hp2 hdq
    go_cut [18] (fun q wx => q = .int .u64 ((V * 4294967296 + U0) / (Y1 * 4294967296 + Y0)) ∧ wx = wc)
    case first =>
      go_wp2_with fail
      go_loopg [18, 16] 4294967298 (fun n qv rv wr => ∃ (q r : Int), Hid (Fx.Est V U0 Y1 Y0 q r) ∧ q ≤ n ∧ qv = .int .u64 q ∧ rv = .int .u64 r ∧ wr = wc)
      case atStart => exact ⟨_, _, HE2, by have := HE2.out.2.2.2.2.2; omega, rfl, rfl, rfl⟩
      case round =>
        obtain ⟨q, r, hE, hn, rfl, rfl, rfl⟩ := hrel
        have q0 := hE.out.1
        have r0 := hE.out.2.1
        have r1 := hE.out.2.2.1
        have q1 := hE.out.2.2.2.2.2
        have hm0 : 0 ≤ q * Y0 := Int.mul_nonneg q0 f6
        by_cases c : 4294967296 ≤ q ∨ 4294967296 * r + U0 < q * Y0
        · have p1 := Fx.est_pos HD2.out hE.out c
          by_cases c2 : 4294967296 ≤ r + Y1
          · have HB := Lib.hid (Fx.est_break HD2.out hE.out c c2)
            have b5 : decide (4294967296 ≤ r + Y1) = true := by simp [c2]
            by_cases c1 : 4294967296 ≤ q
            · have b4 : decide (4294967296 ≤ q) = true := by simp [c1]
              go_wp2_with fail
              go_meet
              exact ⟨by rw [HB.out], rfl⟩
            · have c3 : 4294967296 * r + U0 < q * Y0 := by omega
              have b4 : decide (4294967296 ≤ q) = false := by simp [c1]
              have b6 : decide (4294967296 * r + U0 < q * Y0) = true := by simp [c3]
              have hm1 : q * Y0 < 18446744073709551616 := by
                have := Int.mul_le_mul (show q ≤ 4294967295 by omega) (show Y0 ≤ 4294967295 by omega) f6 (by omega)
                omega
              go_wp2_with fail
              go_meet
              exact ⟨by rw [HB.out], rfl⟩
          · have HN := Lib.hid (Fx.est_next HD2.out hE.out c (by omega))
            have b5 : decide (4294967296 ≤ r + Y1) = false := by simp [c2]
            by_cases c1 : 4294967296 ≤ q
            · have b4 : decide (4294967296 ≤ q) = true := by simp [c1]
              go_wp2_with fail
              go_roundg (q - 1).toNat
              case measure => omega
              case rel => exact ⟨_, _, HN, by omega, rfl, rfl, rfl⟩
            · have c3 : 4294967296 * r + U0 < q * Y0 := by omega
              have b4 : decide (4294967296 ≤ q) = false := by simp [c1]
              have b6 : decide (4294967296 * r + U0 < q * Y0) = true := by simp [c3]
              have hm1 : q * Y0 < 18446744073709551616 := by
                have := Int.mul_le_mul (show q ≤ 4294967295 by omega) (show Y0 ≤ 4294967295 by omega) f6 (by omega)
                omega
              go_wp2_with fail
              go_roundg (q - 1).toNat
              case measure => omega
              case rel => exact ⟨_, _, HN, by omega, rfl, rfl, rfl⟩
        · have HB := Lib.hid (Fx.est_end HD2.out hE.out (by omega))
          have b4 : decide (4294967296 ≤ q) = false := by simp; omega
          have b6 : decide (4294967296 * r + U0 < q * Y0) = false := by simp; omega
          have hm1 : q * Y0 < 18446744073709551616 := by
            have := Int.mul_le_mul (show q ≤ 4294967295 by omega) (show Y0 ≤ 4294967295 by omega) f6 (by omega)
            omega
          go_wp2_with fail
          go_meet
          exact ⟨by rw [HB.out], rfl⟩
    case rest =>
      obtain ⟨rfl, rfl⟩ := hcut
      have hq2 := Fx.digit_lt HD2.out
      rw [HY.out] at hq2 ⊢
      have HF := Lib.hid (HT.out.trans HQ.out)
      generalize (V * 4294967296 + U0) / Y = q2 at *
      go_wp2_with fail
      go_ret2
      rw [HF.out]
      exact ⟨_, 0, rfl, rfl⟩

/-- The quotient for every number whose quotient fits. -/
theorem div64_any (hi lo y : Int) (w : World) (hh0 : 0 ≤ hi) (hhy : hi < y) (hl0 : 0 ≤ lo) (hl1 : lo < 18446744073709551616) (hy1 : y < 18446744073709551616) :
    Calls Tryd.prog 43 #[.int .u64 hi, .int .u64 lo, .int .u64 y] w (Div64Post ((hi * 18446744073709551616 + lo) / y) w) := by
  by_cases h : hi = 0
  · subst h
    have := div64_small lo y w hl0 hl1 hhy hy1
    simpa using this
  · exact div64_big hi lo y w (by omega) hhy hl0 hl1 hy1
end Go.Proofs.YtlpkjafhpbiffaaDoor
