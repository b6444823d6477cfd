/- Contracts of package interval, second part: negation, membership, middle, width, intersection, scaling. -/
import Derived.Test.YtgnjconhbloocaaIv
import Derived.StillTailTactics
namespace Go.Proofs.Ytgnjconhbloocaa
open Go.RowKit

theorem ret_ivb {a b c d : Int} {x y : Bool} (h1 : a = c) (h2 : b = d) (h3 : x = y) : Ending.returned (.tuple #[.agg #[.int .i64 a, .int .i64 b], .bool x]) = .returned (.tuple #[.agg #[.int .i64 c, .int .i64 d], .bool y]) := by rw [h1, h2, h3]



theorem rneg_any (a b : Int) (w : World) :
    Calls Try.prog 74 #[.agg #[.int .i64 a, .int .i64 b]] w fun e w' => e = .returned (.agg #[.int .i64 (Fx.negLo a b), .int .i64 (Fx.negHi a b)]) ∧ Below w.heap.size w w' := by
  by_cases h : Fx.vb a b = true
  · have H := Lib.hid h; clear h
    obtain ⟨u0, u1, u2⟩ := Fx.vb_true.1 H.out
    go_enter Try.func74, Try.ntmps74
    go_wp2_with fail
    refine (rvalid_yes _ _ _ H.out).mono ?_
    rintro e w1 ⟨rfl, hb1⟩
    obtain ⟨hc1, hf1⟩ := bcell hb1
    have hz1 := hb1.size
    try simp at hz1
    have hz1b : w.heap.size + 1 < w1.heap.size := by omega
    have hz1a : w.heap.size < w1.heap.size := by omega
    go_wp2_with fail
    exact bodyPost_ret (v := .agg #[.int .i64 (-b), .int .i64 (-a)]) (by simp [results, Try.results74, go_sem, *]) rfl ⟨ret_iv (Fx.ite_yes H.out _) (Fx.ite_yes H.out _), (by repeat (first | exact Below.refl _ _ | refine Below.setCell ?_ (by first | (simp; done) | (simp; omega) | omega) _ | refine Below.alloc ?_ (by first | (simp; done) | (simp; omega) | omega) _ | refine below_drewN ?_ _ | refine Below.trans ?_ (Below.mono ‹Below _ _ _› (by first | (simp; done) | (simp; omega) | omega))))⟩
  · have H := Lib.hid (show Fx.vb a b = false by simpa using h); clear h
    go_enter Try.func74, Try.ntmps74
    go_wp2_with fail
    refine (rvalid_no _ _ _ H.out).mono ?_
    rintro e w1 ⟨rfl, hb1⟩
    obtain ⟨hc1, hf1⟩ := bcell hb1
    have hz1 := hb1.size
    try simp at hz1
    have hz1b : w.heap.size + 1 < w1.heap.size := by omega
    have hz1a : w.heap.size < w1.heap.size := by omega
    go_wp2_with fail
    exact bodyPost_ret (v := .agg #[.int .i64 0, .int .i64 0]) (by simp [results, Try.results74, go_sem, *]) rfl ⟨ret_iv (Fx.ite_no H.out _) (Fx.ite_no H.out _), (by repeat (first | exact Below.refl _ _ | refine Below.setCell ?_ (by first | (simp; done) | (simp; omega) | omega) _ | refine Below.alloc ?_ (by first | (simp; done) | (simp; omega) | omega) _ | refine below_drewN ?_ _ | refine Below.trans ?_ (Below.mono ‹Below _ _ _› (by first | (simp; done) | (simp; omega) | omega))))⟩

theorem sdown1 (a : Int) (w : World) :
    Calls Try.prog 69 #[.int .i64 a, .int .i64 1] w fun e w' => e = .returned (.int .i64 (a / 2)) ∧ w = w' := sdown_any a 1 w

theorem mid_any (a b : Int) (w : World) :
    Calls Try.prog 53 #[.agg #[.int .i64 a, .int .i64 b]] w fun e w' => e = .returned (.int .i64 (Fx.mid a b)) ∧ Below w.heap.size w w' := by
  by_cases h : Fx.vb a b = true
  · have H := Lib.hid h; clear h
    obtain ⟨u0, u1, u2⟩ := Fx.vb_true.1 H.out
    go_enter Try.func53, Try.ntmps53
    go_wp2_with fail
    refine (valid_yes _ _ _ H.out).mono ?_
    rintro e w1 ⟨rfl, hb1⟩
    obtain ⟨hc1, hf1⟩ := bcell hb1
    have hz1 := hb1.size
    try simp at hz1
    have hz1a : w.heap.size < w1.heap.size := by omega
    go_wp2_with fail
    refine (sdown1 _ _).mono ?_
    rintro e w' ⟨rfl, rfl⟩
    go_wp2_with fail
    go_ret
    exact ⟨ret_int (Fx.ite_yes H.out _), (by repeat (first | exact Below.refl _ _ | refine Below.setCell ?_ (by first | (simp; done) | (simp; omega) | omega) _ | refine Below.alloc ?_ (by first | (simp; done) | (simp; omega) | omega) _ | refine below_drewN ?_ _ | refine Below.trans ?_ (Below.mono ‹Below _ _ _› (by first | (simp; done) | (simp; omega) | omega))))⟩
  · have H := Lib.hid (show Fx.vb a b = false by simpa using h); clear h
    go_enter Try.func53, Try.ntmps53
    go_wp2_with fail
    refine (valid_no _ _ _ H.out).mono ?_
    rintro e w1 ⟨rfl, hb1⟩
    obtain ⟨hc1, hf1⟩ := bcell hb1
    have hz1 := hb1.size
    try simp at hz1
    have hz1a : w.heap.size < w1.heap.size := by omega
    go_wp2_with fail
    go_ret
    exact ⟨ret_int (Fx.ite_no H.out _), (by repeat (first | exact Below.refl _ _ | refine Below.setCell ?_ (by first | (simp; done) | (simp; omega) | omega) _ | refine Below.alloc ?_ (by first | (simp; done) | (simp; omega) | omega) _ | refine below_drewN ?_ _ | refine Below.trans ?_ (Below.mono ‹Below _ _ _› (by first | (simp; done) | (simp; omega) | omega))))⟩

theorem rmid_any (a b : Int) (w : World) :
    Calls Try.prog 54 #[.agg #[.int .i64 a, .int .i64 b]] w fun e w' => e = .returned (.int .i64 (Fx.mid a b)) ∧ Below w.heap.size w w' := by
  by_cases h : Fx.vb a b = true
  · have H := Lib.hid h; clear h
    obtain ⟨u0, u1, u2⟩ := Fx.vb_true.1 H.out
    go_enter Try.func54, Try.ntmps54
    go_wp2_with fail
    refine (rvalid_yes _ _ _ H.out).mono ?_
    rintro e w1 ⟨rfl, hb1⟩
    obtain ⟨hc1, hf1⟩ := bcell hb1
    have hz1 := hb1.size
    try simp at hz1
    have hz1a : w.heap.size < w1.heap.size := by omega
    go_wp2_with fail
    refine (floor_any _ _ _ (by omega) (by omega) (by omega)).mono ?_
    rintro e w' ⟨rfl, rfl⟩
    go_wp2_with fail
    go_ret
    exact ⟨ret_int (Fx.ite_yes H.out _), (by repeat (first | exact Below.refl _ _ | refine Below.setCell ?_ (by first | (simp; done) | (simp; omega) | omega) _ | refine Below.alloc ?_ (by first | (simp; done) | (simp; omega) | omega) _ | refine below_drewN ?_ _ | refine Below.trans ?_ (Below.mono ‹Below _ _ _› (by first | (simp; done) | (simp; omega) | omega))))⟩
  · have H := Lib.hid (show Fx.vb a b = false by simpa using h); clear h
    go_enter Try.func54, Try.ntmps54
    go_wp2_with fail
    refine (rvalid_no _ _ _ H.out).mono ?_
    rintro e w1 ⟨rfl, hb1⟩
    obtain ⟨hc1, hf1⟩ := bcell hb1
    have hz1 := hb1.size
    try simp at hz1
    have hz1a : w.heap.size < w1.heap.size := by omega
    go_wp2_with fail
    go_ret
    exact ⟨ret_int (Fx.ite_no H.out _), (by repeat (first | exact Below.refl _ _ | refine Below.setCell ?_ (by first | (simp; done) | (simp; omega) | omega) _ | refine Below.alloc ?_ (by first | (simp; done) | (simp; omega) | omega) _ | refine below_drewN ?_ _ | refine Below.trans ?_ (Below.mono ‹Below _ _ _› (by first | (simp; done) | (simp; omega) | omega))))⟩











theorem rwithin_any (a b c d : Int) (w : World) :
    Calls Try.prog 49 #[.agg #[.int .i64 a, .int .i64 b], .agg #[.int .i64 c, .int .i64 d]] w fun e w' => e = .returned (.bool (Fx.withinB a b c d)) ∧ Below w.heap.size w w' := by
  by_cases h : Fx.v2 a b c d = true
  · have H := Lib.hid h; clear h
    by_cases c1 : c ≤ a
    · by_cases c2 : b ≤ d
      · have HR : Hid (Fx.withinB a b c d = true) := Lib.hid (by unfold Fx.withinB; rw [H.out]; simp; omega)
        have d0 : decide (c ≤ a) = true := by simp; omega
        have d1 : decide (b ≤ d) = true := by simp; omega
        go_enter Try.func49, Try.ntmps49
        go_wp2_with fail
        refine (rvalid_yes _ _ _ (Fx.v2_true.1 H.out).1).mono ?_
        rintro e w1 ⟨rfl, hb1⟩
        obtain ⟨hc1, hf1⟩ := bcell hb1
        have hz1 := hb1.size
        try simp at hz1
        have hz1b : w.heap.size + 1 < w1.heap.size := by omega
        have hz1a : w.heap.size < w1.heap.size := by omega
        go_wp2_with fail
        refine (rvalid_yes _ _ _ (Fx.v2_true.1 H.out).2).mono ?_
        rintro e w2 ⟨rfl, hb2⟩
        obtain ⟨hc2, hf2⟩ := bcell hb2
        have hz2 := hb2.size
        try simp at hz2
        have hz2b : w.heap.size + 1 < w2.heap.size := by omega
        have hz2a : w.heap.size < w2.heap.size := by omega
        go_wp2_with fail
        go_ret
        exact ⟨ret_bool HR.out.symm, (by repeat (first | exact Below.refl _ _ | refine Below.setCell ?_ (by first | (simp; done) | (simp; omega) | omega) _ | refine Below.alloc ?_ (by first | (simp; done) | (simp; omega) | omega) _ | refine below_drewN ?_ _ | refine Below.trans ?_ (Below.mono ‹Below _ _ _› (by first | (simp; done) | (simp; omega) | omega))))⟩
      · have HR : Hid (Fx.withinB a b c d = false) := Lib.hid (by unfold Fx.withinB; rw [H.out]; simp; omega)
        have d0 : decide (c ≤ a) = true := by simp; omega
        have d1 : decide (b ≤ d) = false := by simp; omega
        go_enter Try.func49, Try.ntmps49
        go_wp2_with fail
        refine (rvalid_yes _ _ _ (Fx.v2_true.1 H.out).1).mono ?_
        rintro e w1 ⟨rfl, hb1⟩
        obtain ⟨hc1, hf1⟩ := bcell hb1
        have hz1 := hb1.size
        try simp at hz1
        have hz1b : w.heap.size + 1 < w1.heap.size := by omega
        have hz1a : w.heap.size < w1.heap.size := by omega
        go_wp2_with fail
        refine (rvalid_yes _ _ _ (Fx.v2_true.1 H.out).2).mono ?_
        rintro e w2 ⟨rfl, hb2⟩
        obtain ⟨hc2, hf2⟩ := bcell hb2
        have hz2 := hb2.size
        try simp at hz2
        have hz2b : w.heap.size + 1 < w2.heap.size := by omega
        have hz2a : w.heap.size < w2.heap.size := by omega
        go_wp2_with fail
        go_ret
        exact ⟨ret_bool HR.out.symm, (by repeat (first | exact Below.refl _ _ | refine Below.setCell ?_ (by first | (simp; done) | (simp; omega) | omega) _ | refine Below.alloc ?_ (by first | (simp; done) | (simp; omega) | omega) _ | refine below_drewN ?_ _ | refine Below.trans ?_ (Below.mono ‹Below _ _ _› (by first | (simp; done) | (simp; omega) | omega))))⟩
    · have HR : Hid (Fx.withinB a b c d = false) := Lib.hid (by unfold Fx.withinB; rw [H.out]; simp; omega)
      have d0 : decide (c ≤ a) = false := by simp; omega
      go_enter Try.func49, Try.ntmps49
      go_wp2_with fail
      refine (rvalid_yes _ _ _ (Fx.v2_true.1 H.out).1).mono ?_
      rintro e w1 ⟨rfl, hb1⟩
      obtain ⟨hc1, hf1⟩ := bcell hb1
      have hz1 := hb1.size
      try simp at hz1
      have hz1b : w.heap.size + 1 < w1.heap.size := by omega
      have hz1a : w.heap.size < w1.heap.size := by omega
      go_wp2_with fail
      refine (rvalid_yes _ _ _ (Fx.v2_true.1 H.out).2).mono ?_
      rintro e w2 ⟨rfl, hb2⟩
      obtain ⟨hc2, hf2⟩ := bcell hb2
      have hz2 := hb2.size
      try simp at hz2
      have hz2b : w.heap.size + 1 < w2.heap.size := by omega
      have hz2a : w.heap.size < w2.heap.size := by omega
      go_wp2_with fail
      go_ret
      exact ⟨ret_bool HR.out.symm, (by repeat (first | exact Below.refl _ _ | refine Below.setCell ?_ (by first | (simp; done) | (simp; omega) | omega) _ | refine Below.alloc ?_ (by first | (simp; done) | (simp; omega) | omega) _ | refine below_drewN ?_ _ | refine Below.trans ?_ (Below.mono ‹Below _ _ _› (by first | (simp; done) | (simp; omega) | omega))))⟩
  · have H := Lib.hid (show Fx.v2 a b c d = false by simpa using h); clear h
    have HR : Hid (Fx.withinB a b c d = false) := Lib.hid (by unfold Fx.withinB; rw [H.out]; rfl)
    by_cases h1 : Fx.vb a b = true
    · have H1 := Lib.hid h1
      have H2 := Lib.hid (show Fx.vb c d = false by have := H.out; unfold Fx.v2 at this; rw [h1] at this; simpa using this); clear h1
      go_enter Try.func49, Try.ntmps49
      go_wp2_with fail
      refine (rvalid_yes _ _ _ H1.out).mono ?_
      rintro e w1 ⟨rfl, hb1⟩
      obtain ⟨hc1, hf1⟩ := bcell hb1
      have hz1 := hb1.size
      try simp at hz1
      have hz1b : w.heap.size + 1 < w1.heap.size := by omega
      have hz1a : w.heap.size < w1.heap.size := by omega
      go_wp2_with fail
      refine (rvalid_no _ _ _ H2.out).mono ?_
      rintro e w2 ⟨rfl, hb2⟩
      obtain ⟨hc2, hf2⟩ := bcell hb2
      have hz2 := hb2.size
      try simp at hz2
      have hz2b : w.heap.size + 1 < w2.heap.size := by omega
      have hz2a : w.heap.size < w2.heap.size := by omega
      go_wp2_with fail
      go_ret
      exact ⟨ret_bool HR.out.symm, (by repeat (first | exact Below.refl _ _ | refine Below.setCell ?_ (by first | (simp; done) | (simp; omega) | omega) _ | refine Below.alloc ?_ (by first | (simp; done) | (simp; omega) | omega) _ | refine below_drewN ?_ _ | refine Below.trans ?_ (Below.mono ‹Below _ _ _› (by first | (simp; done) | (simp; omega) | omega))))⟩
    · have H1 := Lib.hid (show Fx.vb a b = false by simpa using h1); clear h1
      go_enter Try.func49, Try.ntmps49
      go_wp2_with fail
      refine (rvalid_no _ _ _ H1.out).mono ?_
      rintro e w1 ⟨rfl, hb1⟩
      obtain ⟨hc1, hf1⟩ := bcell hb1
      have hz1 := hb1.size
      try simp at hz1
      have hz1b : w.heap.size + 1 < w1.heap.size := by omega
      have hz1a : w.heap.size < w1.heap.size := by omega
      go_wp2_with fail
      go_ret
      exact ⟨ret_bool HR.out.symm, (by repeat (first | exact Below.refl _ _ | refine Below.setCell ?_ (by first | (simp; done) | (simp; omega) | omega) _ | refine Below.alloc ?_ (by first | (simp; done) | (simp; omega) | omega) _ | refine below_drewN ?_ _ | refine Below.trans ?_ (Below.mono ‹Below _ _ _› (by first | (simp; done) | (simp; omega) | omega))))⟩

end Go.Proofs.Ytgnjconhbloocaa
