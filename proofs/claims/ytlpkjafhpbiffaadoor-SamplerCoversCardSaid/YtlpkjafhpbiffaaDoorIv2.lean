/- Contracts of package interval, second part: negation, membership, middle, width, intersection, scaling. -/
import Derived.Test.YtlpkjafhpbiffaaDoorIv
import Derived.StillTailTactics
namespace Go.Proofs.YtlpkjafhpbiffaaDoor
open Go.RowKit

theorem ret_ivb {a b c d : Int} {x y : Bool} (h1 : a = c) (h2 : b = d) (h3 : x = y) : Ending.returned (.tuple #[.agg #[.int .i64 a, .int .i64 b], .bool x]) = .returned (.tuple #[.agg #[.int .i64 c, .int .i64 d], .bool y]) := by rw [h1, h2, h3]

















theorem rhas_any (a b x : Int) (w : World) :
    Calls Tryd.prog 48 #[.agg #[.int .i64 a, .int .i64 b], .int .i64 x] w fun e w' => e = .returned (.bool (Fx.hasB a b x)) ∧ Below w.heap.size w w' := by
  by_cases h : Fx.vb a b = true
  · have H := Lib.hid h; clear h
    by_cases c1 : a ≤ x
    · by_cases c2 : x ≤ b
      · have HR : Hid (Fx.hasB a b x = true) := Lib.hid (by unfold Fx.hasB; rw [H.out]; simp; omega)
        have d0 : decide (a ≤ x) = true := by simp; omega
        have d1 : decide (x ≤ b) = true := by simp; omega
        go_enter Tryd.func48, Tryd.ntmps48
        go_wp2_with fail
        refine (rvalid_yes _ _ _ H.out).mono ?_
        rintro e w1 ⟨rfl, hb1⟩
        obtain ⟨hc1, hf1⟩ := bcell hb1
        have hz1 := hb1.size
        try simp at hz1
        have hz1a : w.heap.size < w1.heap.size := by omega
        go_wp2_with fail
        go_ret
        exact ⟨ret_bool HR.out.symm, (by repeat (first | exact Below.refl _ _ | refine Below.setCell ?_ (by first | (simp; done) | (simp; omega) | omega) _ | refine Below.alloc ?_ (by first | (simp; done) | (simp; omega) | omega) _ | refine below_drewN ?_ _ | refine Below.trans ?_ (Below.mono ‹Below _ _ _› (by first | (simp; done) | (simp; omega) | omega))))⟩
      · have HR : Hid (Fx.hasB a b x = false) := Lib.hid (by unfold Fx.hasB; rw [H.out]; simp; omega)
        have d0 : decide (a ≤ x) = true := by simp; omega
        have d1 : decide (x ≤ b) = false := by simp; omega
        go_enter Tryd.func48, Tryd.ntmps48
        go_wp2_with fail
        refine (rvalid_yes _ _ _ H.out).mono ?_
        rintro e w1 ⟨rfl, hb1⟩
        obtain ⟨hc1, hf1⟩ := bcell hb1
        have hz1 := hb1.size
        try simp at hz1
        have hz1a : w.heap.size < w1.heap.size := by omega
        go_wp2_with fail
        go_ret
        exact ⟨ret_bool HR.out.symm, (by repeat (first | exact Below.refl _ _ | refine Below.setCell ?_ (by first | (simp; done) | (simp; omega) | omega) _ | refine Below.alloc ?_ (by first | (simp; done) | (simp; omega) | omega) _ | refine below_drewN ?_ _ | refine Below.trans ?_ (Below.mono ‹Below _ _ _› (by first | (simp; done) | (simp; omega) | omega))))⟩
    · have HR : Hid (Fx.hasB a b x = false) := Lib.hid (by unfold Fx.hasB; rw [H.out]; simp; omega)
      have d0 : decide (a ≤ x) = false := by simp; omega
      go_enter Tryd.func48, Tryd.ntmps48
      go_wp2_with fail
      refine (rvalid_yes _ _ _ H.out).mono ?_
      rintro e w1 ⟨rfl, hb1⟩
      obtain ⟨hc1, hf1⟩ := bcell hb1
      have hz1 := hb1.size
      try simp at hz1
      have hz1a : w.heap.size < w1.heap.size := by omega
      go_wp2_with fail
      go_ret
      exact ⟨ret_bool HR.out.symm, (by repeat (first | exact Below.refl _ _ | refine Below.setCell ?_ (by first | (simp; done) | (simp; omega) | omega) _ | refine Below.alloc ?_ (by first | (simp; done) | (simp; omega) | omega) _ | refine below_drewN ?_ _ | refine Below.trans ?_ (Below.mono ‹Below _ _ _› (by first | (simp; done) | (simp; omega) | omega))))⟩
  · have H := Lib.hid (show Fx.vb a b = false by simpa using h); clear h
    have HR : Hid (Fx.hasB a b x = false) := Lib.hid (by unfold Fx.hasB; rw [H.out]; rfl)
    go_enter Tryd.func48, Tryd.ntmps48
    go_wp2_with fail
    refine (rvalid_no _ _ _ H.out).mono ?_
    rintro e w1 ⟨rfl, hb1⟩
    obtain ⟨hc1, hf1⟩ := bcell hb1
    have hz1 := hb1.size
    try simp at hz1
    have hz1a : w.heap.size < w1.heap.size := by omega
    go_wp2_with fail
    go_ret
    exact ⟨ret_bool HR.out.symm, (by repeat (first | exact Below.refl _ _ | refine Below.setCell ?_ (by first | (simp; done) | (simp; omega) | omega) _ | refine Below.alloc ?_ (by first | (simp; done) | (simp; omega) | omega) _ | refine below_drewN ?_ _ | refine Below.trans ?_ (Below.mono ‹Below _ _ _› (by first | (simp; done) | (simp; omega) | omega))))⟩





end Go.Proofs.YtlpkjafhpbiffaaDoor
