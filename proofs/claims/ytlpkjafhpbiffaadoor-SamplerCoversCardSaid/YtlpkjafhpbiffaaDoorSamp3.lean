/- Contract of sampler.Radical. -/
import Derived.Test.YtlpkjafhpbiffaaDoorSamp2
import Derived.RegionTactic
import Derived.ChangeAlike
namespace Go.Proofs.YtlpkjafhpbiffaaDoor
open Go.RowKit
set_option linter.unusedVariables false

theorem radical_any (b i : Int) (w : World) (hb0 : 0 ≤ b) (hb1 : b < 18446744073709551616) (hi0 : 0 ≤ i) (hi1 : i < 18446744073709551616) :
    Calls Tryd.prog 13 #[.int .u64 b, .int .u64 i] w fun e w' => e = .returned (.tuple #[.int .u64 (Fx.rad b i).1, .int .u64 (Fx.rad b i).2]) ∧ Below w.heap.size w w' := by
  have hmf : ∀ (fn : Fn) (first cap : Array Value) (w : World), (Instr.makeFunc fn first cap).run Tryd.prog w = .ok (.func fn first cap) w := fun _ _ _ _ => rfl
  by_cases h2 : b < 2
  · go_enter_defers Tryd.func13, Tryd.ntmps13
    go_wp2
    go_region
    all_goals go_wp2
    refine leaves_cons (f := 32) (args := #[.pointer (some ⟨w.heap.size, 0, none⟩), .pointer (some ⟨w.heap.size + 1, 0, none⟩)]) (by simp) (by simp [go_sem]) ?_
    refine (radical_idle ⟨w.heap.size, 0, none⟩ ⟨w.heap.size + 1, 0, none⟩ _).mono ?_
    rintro e u' w'' ⟨rfl, rfl, rfl⟩
    simp [Leaves, settle, results, Tryd.results13, go_sem, *]
    exact ⟨by rw [Fx.rad_small b i (by omega)]; exact ⟨rfl, rfl⟩, (by repeat (first | assumption | exact ext_refl _ | refine ext_alloc ?_ _ | refine ext_drewN ?_ _ | refine ext_drew ?_ | refine ext_set ?_ (by first | (simp; done) | (simp; omega) | omega) _ | refine ext_trans ?_ ‹Below _ _ _›))⟩
  · go_enter_defers Tryd.func13, Tryd.ntmps13
    go_wp2
    go_loopw [1] (fun iv wr => ∃ j n d : Int, Hid (Fx.RadAt b i j n d) ∧ iv = .int .u64 j ∧ Whole wr w.heap.size 22 #[.int .u64 n] ∧ Whole wr (w.heap.size + 1) 22 #[.int .u64 d] ∧ Below w.heap.size w wr) (fun iv _ => (intOf iv).toNat)
    case atStart => exact ⟨_, _, _, Fx.radAt_start b i (by omega) hb1 hi0, rfl, (Whole.new _ _ _).alloc _, by have := Whole.new (w.alloc (.cells #[.int .u64 0] 22)) 22 #[.int .u64 1]; simpa using this, (by repeat (first | assumption | exact ext_refl _ | refine ext_alloc ?_ _ | refine ext_drewN ?_ _ | refine ext_drew ?_ | refine ext_set ?_ (by first | (simp; done) | (simp; omega) | omega) _ | refine ext_trans ?_ ‹Below _ _ _›))⟩
    case round =>
      obtain ⟨j, n, d, hR, rfl, hn, hd, hbel⟩ := hrel
      obtain ⟨j0, j1, n0, n1, d0, d1⟩ := Fx.radAt_bd hR.out
      have cn := hn.cell 0
      have cd := hd.cell 0
      have fn := hn.frozen 0
      have fd := hd.frozen 0
      simp at cn cd
      by_cases c : 0 < j
      · obtain ⟨e1, e2, e3, e4, e5, e6, e7⟩ := Fx.radAt_room (by omega) hb1 hR.out c
        have HN := Lib.hid (Fx.radAt_next (by omega) hb1 hR.out c)
        have Hn := Lib.hid hn
        have Hd := Lib.hid hd
        clear hn hd
        go_wp2
        go_region
        all_goals go_wp2
        all_goals go_roundw
        case rel => exact ⟨_, _, _, HN, rfl, (by have := (Hn.out.store 0 (.int .u64 (n * b + j % b))).far (p := ⟨w.heap.size + 1, 0, none⟩) (by simp) (.int .u64 (d * b)); simpa using this.drew), (by have := (Hd.out.far (p := ⟨w.heap.size, 0, none⟩) (by simp) (.int .u64 (n * b + j % b))).store 0 (.int .u64 (d * b)); simpa using this.drew), (by repeat (first | assumption | exact ext_refl _ | refine ext_alloc ?_ _ | refine ext_drewN ?_ _ | refine ext_drew ?_ | refine ext_set ?_ (by first | (simp; done) | (simp; omega) | omega) _ | refine ext_trans ?_ ‹Below _ _ _›))⟩
        case measure => simp [intOf]; omega
      · have HE := Lib.hid (Fx.radAt_end hR.out (by omega))
        clear hn hd
        go_wp2
        go_region
        all_goals go_wp2
        refine leaves_cons (f := 32) (args := #[.pointer (some ⟨w.heap.size, 0, none⟩), .pointer (some ⟨w.heap.size + 1, 0, none⟩)]) (by simp) (by simp [go_sem]) ?_
        refine (radical_idle ⟨w.heap.size, 0, none⟩ ⟨w.heap.size + 1, 0, none⟩ _).mono ?_
        rintro e u' w'' ⟨rfl, rfl, rfl⟩
        simp [Leaves, settle, results, Tryd.results13, go_sem, *]
        exact ⟨by rw [HE.out]; exact ⟨rfl, rfl⟩, (by repeat (first | assumption | exact ext_refl _ | refine ext_alloc ?_ _ | refine ext_drewN ?_ _ | refine ext_drew ?_ | refine ext_set ?_ (by first | (simp; done) | (simp; omega) | omega) _ | refine ext_trans ?_ ‹Below _ _ _›))⟩

theorem rprime_at : ∀ (j : Nat) (_ : j < 10) (w : World), (Instr.index 56 (.agg #[.int .u64 2, .int .u64 3, .int .u64 5, .int .u64 7, .int .u64 11, .int .u64 13, .int .u64 17, .int .u64 19, .int .u64 23, .int .u64 29]) (.int .i64 (j : Int))).run Tryd.prog w = .ok (.int .u64 (Fx.prime j)) w
  | 0, _, w => by kernel_rfl
  | 1, _, w => by kernel_rfl
  | 2, _, w => by kernel_rfl
  | 3, _, w => by kernel_rfl
  | 4, _, w => by kernel_rfl
  | 5, _, w => by kernel_rfl
  | 6, _, w => by kernel_rfl
  | 7, _, w => by kernel_rfl
  | 8, _, w => by kernel_rfl
  | 9, _, w => by kernel_rfl
  | n + 10, h, _ => absurd h (by omega)

theorem rprime_any (k : Int) (w : World) :
    Calls Tryd.prog 17 #[.int .i64 k] w fun e w' => e = .returned (.int .u64 (Fx.prime k)) ∧ Below w.heap.size w w' := by
  by_cases h0 : k < 0
  · go_enter Tryd.func17, Tryd.ntmps17
    go_wp2
    go_ret
    exact ⟨ret_int (by rw [Fx.prime, if_pos h0]), (by repeat (first | assumption | exact ext_refl _ | refine ext_alloc ?_ _ | refine ext_drewN ?_ _ | refine ext_drew ?_ | refine ext_set ?_ (by first | (simp; done) | (simp; omega) | omega) _ | refine ext_trans ?_ ‹Below _ _ _›))⟩
  · by_cases h1 : k < 10
    · obtain ⟨j, rfl⟩ := Int.eq_ofNat_of_zero_le (show 0 ≤ k by omega)
      have hj : j < 10 := by omega
      have hd : decide ((10 : Int) ≤ (j : Int)) = false := by simp; omega
      clear h0
      have hix := fun w => rprime_at j hj w
      go_enter Tryd.func17, Tryd.ntmps17
      go_wp2
      go_ret
      exact ⟨rfl, (by repeat (first | assumption | exact ext_refl _ | refine ext_alloc ?_ _ | refine ext_drewN ?_ _ | refine ext_drew ?_ | refine ext_set ?_ (by first | (simp; done) | (simp; omega) | omega) _ | refine ext_trans ?_ ‹Below _ _ _›))⟩
    · have hd : decide ((10 : Int) ≤ k) = true := by simp; omega
      go_enter Tryd.func17, Tryd.ntmps17
      go_wp2
      go_ret
      exact ⟨ret_int (Fx.prime_big k (by omega)).symm, (by repeat (first | assumption | exact ext_refl _ | refine ext_alloc ?_ _ | refine ext_drewN ?_ _ | refine ext_drew ?_ | refine ext_set ?_ (by first | (simp; done) | (simp; omega) | omega) _ | refine ext_trans ?_ ‹Below _ _ _›))⟩
end Go.Proofs.YtlpkjafhpbiffaaDoor
