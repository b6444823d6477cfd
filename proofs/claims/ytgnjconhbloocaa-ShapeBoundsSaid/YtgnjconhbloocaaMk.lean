/- Contracts of the makers of intervals: Round, Interval, Part. -/
import Derived.Test.YtgnjconhbloocaaIv3
namespace Go.Proofs.Ytgnjconhbloocaa
open Go.RowKit

/-- A valid interval is returned, and nothing that was there has changed. -/
def SomeIv (w : World) (e : Ending) (w' : World) : Prop := ∃ l h : Int, Fx.vb l h = true ∧ e = .returned (.agg #[.int .i64 l, .int .i64 h]) ∧ Below w.heap.size w w'

/-- A part of the interval from a to b is returned. -/
def PartOf (a b : Int) (w : World) (e : Ending) (w' : World) : Prop := ∃ l h : Int, a ≤ l ∧ l ≤ h ∧ h ≤ b ∧ e = .returned (.agg #[.int .i64 l, .int .i64 h]) ∧ Below w.heap.size w w'

theorem round_any (n k : Int) (w : World) (hk : 0 < k) (hk1 : k ≤ 9223372036854775807) :
    Calls Try.prog 17 #[.int .i64 n, .int .i64 k] w fun e w' => e = .returned (.int .i64 (n % k)) ∧ w = w' := by
  have b1 := Fx.tmod_bd n k hk
  by_cases c : n.tmod k < 0
  · have HE := Lib.hid (Fx.tmod_emod_neg n k hk c)
    go_enter Try.func17, Try.ntmps17
    go_wp2
    all_goals go_ret
    all_goals exact ⟨ret_int HE.out, rfl⟩
  · have HE := Lib.hid (Fx.tmod_emod_pos n k hk (by omega))
    by_cases c0 : 0 ≤ n
    · have HE2 := Lib.hid (Int.tmod_eq_emod_of_nonneg (b := k) c0)
      have h1 := Int.emod_nonneg n (show k ≠ 0 by omega)
      go_enter Try.func17, Try.ntmps17
      go_wp2
      go_ret
      exact ⟨rfl, rfl⟩
    · go_enter Try.func17, Try.ntmps17
      go_wp2
      go_ret
      exact ⟨ret_int HE.out, rfl⟩



theorem part_any (a b m n : Int) (w : World) (hv : Fx.vb a b = true) :
    Calls Try.prog 25 #[.agg #[.int .i64 a, .int .i64 b], .int .i64 m, .int .i64 n] w (PartOf a b w) := by
  obtain ⟨u0, u1, u2⟩ := Fx.vb_true.1 hv
  clear hv
  have s0 := Int.emod_nonneg m (show (b - a + 1 : Int) ≠ 0 by omega)
  have s1 := Int.emod_lt_of_pos m (show (0 : Int) < b - a + 1 by omega)
  have t0 := Int.emod_nonneg (n / 2) (show (b - a + 1 : Int) ≠ 0 by omega)
  have t1 := Int.emod_lt_of_pos (n / 2) (show (0 : Int) < b - a + 1 by omega)
  go_enter Try.func25, Try.ntmps25
  go_wp2_with fail
  go_quiet ((go_at_call 17; exact qsame (round_any _ _ _ (by omega) (by omega))))
  have hb1 := below_drewN (Below.refl ((w.alloc (.cells #[.int .i64 a, .int .i64 b] 32)).alloc (.cells #[.int .i64 0, .int .i64 0] 32)).heap.size ((w.alloc (.cells #[.int .i64 a, .int .i64 b] 32)).alloc (.cells #[.int .i64 0, .int .i64 0] 32))) nq
  generalize ((w.alloc (.cells #[.int .i64 a, .int .i64 b] 32)).alloc (.cells #[.int .i64 0, .int .i64 0] 32)).drewN nq = w1 at *
  obtain ⟨hc1, hf1⟩ := bcell hb1
  have hz1 := hb1.size
  try simp at hz1
  have hz1b : w.heap.size + 1 < w1.heap.size := by omega
  have hz1a : w.heap.size < w1.heap.size := by omega
  go_wp2_with fail
  · exact bodyPost_ret (v := .agg #[.int .i64 (a + m % (b - a + 1)), .int .i64 (a + m % (b - a + 1))]) (by simp [results, Try.results25, go_sem, *]) rfl ⟨_, _, by omega, by omega, by omega, rfl, (by repeat (first | exact Below.refl _ _ | refine Below.setCell ?_ (by first | (simp; done) | (simp; omega) | omega) _ | refine Below.alloc ?_ (by first | (simp; done) | (simp; omega) | omega) _ | refine below_drewN ?_ _ | refine Below.trans ?_ (Below.mono ‹Below _ _ _› (by first | (simp; done) | (simp; omega) | omega))))⟩
  · go_quiet ((go_at_call 17; exact qsame (round_any _ _ _ (by omega) (by omega))))
    have hb2 := below_drewN hb1 nq
    generalize w1.drewN nq = w2 at *
    clear hb1 hc1 hf1 hz1 hz1a hz1b
    clear w1
    obtain ⟨hc2, hf2⟩ := bcell hb2
    have hz2 := hb2.size
    try simp at hz2
    have hz2b : w.heap.size + 1 < w2.heap.size := by omega
    have hz2a : w.heap.size < w2.heap.size := by omega
    generalize hx : m % (b - a + 1) = x at *
    generalize hy : n / 2 % (b - a + 1) = y at *
    clear hx hy
    go_wp2_with fail
    exact bodyPost_ret (v := .agg #[.int .i64 (min (a + x) (a + y)), .int .i64 (max (a + x) (a + y))]) (by simp [results, Try.results25, go_sem, *]) rfl ⟨_, _, by omega, by omega, by omega, rfl, (by repeat (first | exact Below.refl _ _ | refine Below.setCell ?_ (by first | (simp; done) | (simp; omega) | omega) _ | refine Below.alloc ?_ (by first | (simp; done) | (simp; omega) | omega) _ | refine below_drewN ?_ _ | refine Below.trans ?_ (Below.mono ‹Below _ _ _› (by first | (simp; done) | (simp; omega) | omega))))⟩
end Go.Proofs.Ytgnjconhbloocaa
