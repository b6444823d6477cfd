/- Contracts of sampler's functions that defer: Place, Prime. No panic comes up in them, so the deferred closures do nothing. -/
import Derived.Test.YtlpkjafhpbiffaaDoorSamp1
import Derived.Test.YtlpkjafhpbiffaaDoorMem
import Derived.Outline
namespace Go.Proofs.YtlpkjafhpbiffaaDoor
open Go.RowKit
set_option linter.unusedVariables false

theorem prime_idle (p : Addr) (w : World) :
    CallsD Tryd.prog 33 #[.pointer (some p)] .returning w fun e u' w' => e = .returned (.tuple #[]) ∧ u' = .returning ∧ w' = w := by
  refine callsD_of_wpS Tryd.func33 rfl fun c₀ cs hu => ?_
  apply wpS_seq
  apply wpS_region
  simp [wpOpsS, go_sem, recoverD, hu, Tryd.ntmps33, Exit.thenS]
  refine wpS_cond (t := false) (by simp [Act.eval, Array.replicate]) ?_
  simp only [Bool.false_eq_true, if_false]
  refine wpS_of_wp (wp_skip ?_)
  cases c₀
  simp_all [bodyPostS, results, Tryd.results33]

theorem place_idle (p q : Addr) (w : World) :
    CallsD Tryd.prog 42 #[.pointer (some p), .pointer (some q)] .returning w fun e u' w' => e = .returned (.tuple #[]) ∧ u' = .returning ∧ w' = w := by
  refine callsD_of_wpS Tryd.func42 rfl fun c₀ cs hu => ?_
  apply wpS_seq
  apply wpS_region
  simp [wpOpsS, go_sem, recoverD, hu, Tryd.ntmps42, Exit.thenS]
  refine wpS_cond (t := false) (by simp [Act.eval, Array.replicate]) ?_
  simp only [Bool.false_eq_true, if_false]
  refine wpS_of_wp (wp_skip ?_)
  cases c₀
  simp_all [bodyPostS, results, Tryd.results42]

theorem radical_idle (p q : Addr) (w : World) :
    CallsD Tryd.prog 32 #[.pointer (some p), .pointer (some q)] .returning w fun e u' w' => e = .returned (.tuple #[]) ∧ u' = .returning ∧ w' = w := by
  refine callsD_of_wpS Tryd.func32 rfl fun c₀ cs hu => ?_
  apply wpS_seq
  apply wpS_region
  simp [wpOpsS, go_sem, recoverD, hu, Tryd.ntmps32, Exit.thenS]
  refine wpS_cond (t := false) (by simp [Act.eval, Array.replicate]) ?_
  simp only [Bool.false_eq_true, if_false]
  refine wpS_of_wp (wp_skip ?_)
  cases c₀
  simp_all [bodyPostS, results, Tryd.results32]

/-- The table of primes lies in its variable. -/
def PTab (w : World) : Prop := ∀ i : Nat, i < 10 → w.cell? ⟨0, i, none⟩ = some (.int .u64 (Fx.prime i))

theorem PTab.ext {w w' : World} (h : PTab w) (hb : Below w.heap.size w w') (hz : 0 < w.heap.size) : PTab w' := fun i hi => (hb.cell (p := ⟨_, i, none⟩) hz).trans (h i hi)

theorem prime_any (k : Int) (w : World) (hT : PTab w) (hz : 0 < w.heap.size) :
    Calls Tryd.prog 16 #[.int .i64 k] w fun e w' => e = .returned (.int .u64 (Fx.prime k)) ∧ Below w.heap.size w w' := by
  have hmf : ∀ (fn : Fn) (first cap : Array Value) (w : World), (Instr.makeFunc fn first cap).run Tryd.prog w = .ok (.func fn first cap) w := fun _ _ _ _ => rfl
  by_cases h0 : k < 0
  · go_enter_defers Tryd.func16, Tryd.ntmps16
    go_wp2
    refine leaves_cons (f := 33) (args := #[.pointer (some ⟨w.heap.size, 0, none⟩)]) (by simp) (by simp [go_sem]) ?_
    refine (prime_idle ⟨w.heap.size, 0, none⟩ _).mono ?_
    rintro e u' w'' ⟨rfl, rfl, rfl⟩
    simp [Leaves, settle, results, Tryd.results16, go_sem]
    exact ⟨by rw [Fx.prime, if_pos h0], (by repeat (first | assumption | exact ext_refl _ | refine ext_alloc ?_ _ | refine ext_drewN ?_ _ | refine ext_drew ?_ | refine ext_set ?_ (by first | (simp; done) | (simp; omega) | omega) _ | refine ext_trans ?_ ‹Below _ _ _›))⟩
  · by_cases h1 : k < 10
    · obtain ⟨j, rfl⟩ := Int.eq_ofNat_of_zero_le (show 0 ≤ k by omega)
      have hj : j < 10 := by omega
      have hc := hT j hj
      have hd : decide ((10 : Int) ≤ (j : Int)) = false := by simp; omega
      clear h0 hT
      go_enter_defers Tryd.func16, Tryd.ntmps16
      go_wp2
      refine leaves_cons (f := 33) (args := #[.pointer (some ⟨w.heap.size, 0, none⟩)]) (by simp) (by simp [go_sem]) ?_
      refine (prime_idle ⟨w.heap.size, 0, none⟩ _).mono ?_
      rintro e u' w'' ⟨rfl, rfl, rfl⟩
      simp [Leaves, settle, results, Tryd.results16, go_sem]
      exact (by repeat (first | assumption | exact ext_refl _ | refine ext_alloc ?_ _ | refine ext_drewN ?_ _ | refine ext_drew ?_ | refine ext_set ?_ (by first | (simp; done) | (simp; omega) | omega) _ | refine ext_trans ?_ ‹Below _ _ _›))
    · have hd : decide ((10 : Int) ≤ k) = true := by simp; omega
      go_enter_defers Tryd.func16, Tryd.ntmps16
      go_wp2
      refine leaves_cons (f := 33) (args := #[.pointer (some ⟨w.heap.size, 0, none⟩)]) (by simp) (by simp [go_sem]) ?_
      refine (prime_idle ⟨w.heap.size, 0, none⟩ _).mono ?_
      rintro e u' w'' ⟨rfl, rfl, rfl⟩
      simp [Leaves, settle, results, Tryd.results16, go_sem]
      exact ⟨(Fx.prime_big k (by omega)).symm, (by repeat (first | assumption | exact ext_refl _ | refine ext_alloc ?_ _ | refine ext_drewN ?_ _ | refine ext_drew ?_ | refine ext_set ?_ (by first | (simp; done) | (simp; omega) | omega) _ | refine ext_trans ?_ ‹Below _ _ _›))⟩

theorem place_any (n d l h : Int) (w : World) (hn0 : 0 ≤ n) (hn1 : n < 18446744073709551616) (hd0 : 0 ≤ d) (hd1 : d < 18446744073709551616) :
    Calls Tryd.prog 27 #[.int .u64 n, .int .u64 d, .int .i64 l, .int .i64 h] w fun e w' => e = .returned (.int .i64 (Fx.place n d l h)) ∧ Below w.heap.size w w' := by
  have hmf : ∀ (fn : Fn) (first cap : Array Value) (w : World), (Instr.makeFunc fn first cap).run Tryd.prog w = .ok (.func fn first cap) w := fun _ _ _ _ => rfl
  by_cases hv : Fx.vb l h = true
  · have hV := Lib.hid hv
    have hv' := Fx.vb_true.1 hv
    clear hv
    by_cases hnd : n < d
    · have hf := Fx.frac_bd n (h - l + 1) d hn0 hnd (by omega)
      have hq := Fx.high_lt n (h - l + 1) d hn0 hnd (by omega) (by omega)
      have hj : n * (h - l + 1) / 18446744073709551616 * 18446744073709551616 + n * (h - l + 1) % 18446744073709551616 = n * (h - l + 1) := by omega
      have HJ := Lib.hid hj; clear hj
      have b1 : decide (d ≤ n) = false := by simp; omega
      go_enter_defers Tryd.func27, Tryd.ntmps27
      go_wp2_with (first
        | (go_at_call 39; refine (isRange_yes l h _ hV.out).mono ?_; rintro e w' ⟨rfl, hb⟩; obtain ⟨hc, hf⟩ := bcell hb; have hz : w.heap.size + 1 < w'.heap.size := (by have := hb.size; simp at this; omega))
        | (go_at_call 40; refine (mul64_int n (h - l + 1) _ hn0 hn1 (by omega) (by omega)).mono ?_; rintro e w2 ⟨rfl, rfl⟩)
        | (go_at_call 43; refine (div64_any _ _ d _ hq.1 hq.2 (by omega) (by omega) hd1).mono ?_; rw [HJ.out]; rintro e w2 ⟨r, k, rfl, rfl⟩))
      refine leaves_cons (f := 42) (args := #[.pointer (some ⟨w.heap.size, 0, none⟩), .pointer (some ⟨w.heap.size + 1, 0, none⟩)]) (by simp) (by simp [go_sem]) ?_
      refine (place_idle ⟨w.heap.size, 0, none⟩ ⟨w.heap.size + 1, 0, none⟩ _).mono ?_
      rintro e u' w'' ⟨rfl, rfl, rfl⟩
      simp [Leaves, settle, results, Tryd.results27, go_sem, *]
      exact ⟨(Fx.place_yes hV.out hnd).symm, (by repeat (first | assumption | exact ext_refl _ | refine ext_alloc ?_ _ | refine ext_drewN ?_ _ | refine ext_drew ?_ | refine ext_set ?_ (by first | (simp; done) | (simp; omega) | omega) _ | refine ext_trans ?_ ‹Below _ _ _›))⟩
    · have b1 : decide (d ≤ n) = true := by simp; omega
      go_enter_defers Tryd.func27, Tryd.ntmps27
      go_wp2_with (go_at_call 39; refine (isRange_yes l h _ hV.out).mono ?_; rintro e w' ⟨rfl, hb⟩; obtain ⟨hc, hf⟩ := bcell hb; have hz : w.heap.size + 1 < w'.heap.size := (by have := hb.size; simp at this; omega))
      refine leaves_cons (f := 42) (args := #[.pointer (some ⟨w.heap.size, 0, none⟩), .pointer (some ⟨w.heap.size + 1, 0, none⟩)]) (by simp) (by simp [go_sem]) ?_
      refine (place_idle ⟨w.heap.size, 0, none⟩ ⟨w.heap.size + 1, 0, none⟩ _).mono ?_
      rintro e u' w'' ⟨rfl, rfl, rfl⟩
      simp [Leaves, settle, results, Tryd.results27, go_sem, *]
      exact ⟨(Fx.place_not (by omega)).symm, (by repeat (first | assumption | exact ext_refl _ | refine ext_alloc ?_ _ | refine ext_drewN ?_ _ | refine ext_drew ?_ | refine ext_set ?_ (by first | (simp; done) | (simp; omega) | omega) _ | refine ext_trans ?_ ‹Below _ _ _›))⟩
  · have hv : Fx.vb l h = false := by simpa using hv
    have hV := Lib.hid hv
    clear hv
    go_enter_defers Tryd.func27, Tryd.ntmps27
    go_wp2_with (go_at_call 39; refine (isRange_no l h _ hV.out).mono ?_; rintro e w' ⟨rfl, hb⟩; obtain ⟨hc, hf⟩ := bcell hb; have hz : w.heap.size + 1 < w'.heap.size := (by have := hb.size; simp at this; omega))
    refine leaves_cons (f := 42) (args := #[.pointer (some ⟨w.heap.size, 0, none⟩), .pointer (some ⟨w.heap.size + 1, 0, none⟩)]) (by simp) (by simp [go_sem]) ?_
    refine (place_idle ⟨w.heap.size, 0, none⟩ ⟨w.heap.size + 1, 0, none⟩ _).mono ?_
    rintro e u' w'' ⟨rfl, rfl, rfl⟩
    simp [Leaves, settle, results, Tryd.results27, go_sem, *]
    exact ⟨(Fx.place_no hV.out).symm, (by repeat (first | assumption | exact ext_refl _ | refine ext_alloc ?_ _ | refine ext_drewN ?_ _ | refine ext_drew ?_ | refine ext_set ?_ (by first | (simp; done) | (simp; omega) | omega) _ | refine ext_trans ?_ ‹Below _ _ _›))⟩

theorem ret_u2 {a b c d : Int} (h1 : a = c) (h2 : b = d) : Ending.returned (.tuple #[.int .u64 a, .int .u64 b]) = .returned (.tuple #[.int .u64 c, .int .u64 d]) := by rw [h1, h2]

theorem rradical_any (b i : Int) (w : World) (hb0 : 0 ≤ b) (hb1 : b < 18446744073709551616) (hi0 : 0 ≤ i) (hi1 : i < 18446744073709551616) :
    Calls Tryd.prog 14 #[.int .u64 b, .int .u64 i] w fun e w' => e = .returned (.tuple #[.int .u64 (Fx.rad b i).1, .int .u64 (Fx.rad b i).2]) ∧ w' = w := by
  by_cases h2 : b < 2
  · go_enter Tryd.func14, Tryd.ntmps14
    go_wp2
    go_ret2
    exact ⟨ret_u2 (by rw [Fx.rad_small b i (by omega)]) (by rw [Fx.rad_small b i (by omega)]), rfl⟩
  · go_enter Tryd.func14, Tryd.ntmps14
    go_wp2
    go_loop [1, 6, 7] (fun iv nv dv => ∃ j n d : Int, Hid (Fx.RadAt b i j n d) ∧ iv = .int .u64 j ∧ nv = .int .u64 n ∧ dv = .int .u64 d) (fun iv _ _ => (intOf iv).toNat)
    case atStart => exact ⟨_, _, _, Fx.radAt_start b i (by omega) hb1 hi0, rfl, rfl, rfl⟩
    case round =>
      obtain ⟨j, n, d, hR, rfl, rfl, rfl⟩ := hrel
      obtain ⟨j0, j1, n0, n1, d0, d1⟩ := Fx.radAt_bd hR.out
      by_cases c : 0 < j
      · obtain ⟨e1, e2, e3, e4, e5, e6, e7⟩ := Fx.radAt_room (by omega) hb1 hR.out c
        have HN := Lib.hid (Fx.radAt_next (by omega) hb1 hR.out c)
        go_wp2
        go_round
        case rel => exact ⟨_, _, _, HN, rfl, rfl, rfl⟩
        case measure => simp [intOf]; omega
      · have HE := Lib.hid (Fx.radAt_end hR.out (by omega))
        go_wp2
        go_ret2
        exact ⟨ret_u2 (by rw [HE.out]) (by rw [HE.out]), rfl⟩
end Go.Proofs.YtlpkjafhpbiffaaDoor
