/- Contracts of package interval, third part: intersection, scaling, squares, roots, products. -/
import Derived.Test.YtpembaahjokmjaaIv2
import Derived.Test.YtpembaahjokmjaaRoot
import Derived.Deep.RegionHeld3
namespace Go.Proofs.Ytpembaahjokmjaa
open Go.RowKit

theorem meet_any (a b c d : Int) (w : World) :
    Calls Try.prog 17 #[.agg #[.int .i64 a, .int .i64 b], .agg #[.int .i64 c, .int .i64 d]] w fun e w' => e = .returned (.tuple #[.agg #[.int .i64 (Fx.meetLo a b c d), .int .i64 (Fx.meetHi a b c d)], .bool (Fx.meetOk a b c d)]) ∧ Below w.heap.size w w' := by
  by_cases h : Fx.v2 a b c d = true
  · have H := Lib.hid h; clear h
    by_cases c1 : max a c ≤ min b d
    · have HR : Hid (Fx.meetOk a b c d = true) := Lib.hid (by unfold Fx.meetOk; rw [H.out]; simp; omega)
      have dd : decide (min b d < max a c) = false := by simp; omega
      go_enter Try.func17, Try.ntmps17
      go_wp2_with fail
      refine (valid2_yes _ _ _ _ _ (Fx.v2_true.1 H.out).1 (Fx.v2_true.1 H.out).2).mono ?_
      rintro e w1 ⟨rfl, hb1⟩
      obtain ⟨hc1, hf1⟩ := bcell hb1
      have hz1 := hb1.size
      try simp at hz1
      have hz1c : w.heap.size + 1 + 1 < w1.heap.size := by omega
      have hz1b : w.heap.size + 1 < w1.heap.size := by omega
      have hz1a : w.heap.size < w1.heap.size := by omega
      go_wp2_with fail
      exact bodyPost_ret (v := .tuple #[.agg #[.int .i64 (max a c), .int .i64 (min b d)], .bool true]) (by simp [results, Try.results17, go_sem, *]) rfl ⟨ret_ivb (Fx.ite_yes HR.out _) (Fx.ite_yes HR.out _) HR.out.symm, (by repeat (first | exact Below.refl _ _ | refine Below.setCell ?_ (by first | (simp; done) | (simp; omega) | omega) _ | refine Below.alloc ?_ (by first | (simp; done) | (simp; omega) | omega) _ | refine below_drewN ?_ _ | refine Below.trans ?_ (Below.mono ‹Below _ _ _› (by first | (simp; done) | (simp; omega) | omega))))⟩
    · have HR : Hid (Fx.meetOk a b c d = false) := Lib.hid (by unfold Fx.meetOk; rw [H.out]; simp; omega)
      have dd : decide (min b d < max a c) = true := by simp; omega
      go_enter Try.func17, Try.ntmps17
      go_wp2_with fail
      refine (valid2_yes _ _ _ _ _ (Fx.v2_true.1 H.out).1 (Fx.v2_true.1 H.out).2).mono ?_
      rintro e w1 ⟨rfl, hb1⟩
      obtain ⟨hc1, hf1⟩ := bcell hb1
      have hz1 := hb1.size
      try simp at hz1
      have hz1c : w.heap.size + 1 + 1 < w1.heap.size := by omega
      have hz1b : w.heap.size + 1 < w1.heap.size := by omega
      have hz1a : w.heap.size < w1.heap.size := by omega
      go_wp2_with fail
      exact bodyPost_ret (v := .tuple #[.agg #[.int .i64 0, .int .i64 0], .bool false]) (by simp [results, Try.results17, go_sem, *]) rfl ⟨ret_ivb (Fx.ite_no HR.out _) (Fx.ite_no HR.out _) HR.out.symm, (by repeat (first | exact Below.refl _ _ | refine Below.setCell ?_ (by first | (simp; done) | (simp; omega) | omega) _ | refine Below.alloc ?_ (by first | (simp; done) | (simp; omega) | omega) _ | refine below_drewN ?_ _ | refine Below.trans ?_ (Below.mono ‹Below _ _ _› (by first | (simp; done) | (simp; omega) | omega))))⟩
  · have H := Lib.hid (show Fx.v2 a b c d = false by simpa using h); clear h
    have HR : Hid (Fx.meetOk a b c d = false) := Lib.hid (by unfold Fx.meetOk; rw [H.out]; rfl)
    go_enter Try.func17, Try.ntmps17
    go_wp2_with fail
    refine (valid2_no _ _ _ _ _ H.out).mono ?_
    rintro e w1 ⟨rfl, hb1⟩
    obtain ⟨hc1, hf1⟩ := bcell hb1
    have hz1 := hb1.size
    try simp at hz1
    have hz1c : w.heap.size + 1 + 1 < w1.heap.size := by omega
    have hz1b : w.heap.size + 1 < w1.heap.size := by omega
    have hz1a : w.heap.size < w1.heap.size := by omega
    go_wp2_with fail
    exact bodyPost_ret (v := .tuple #[.agg #[.int .i64 0, .int .i64 0], .bool false]) (by simp [results, Try.results17, go_sem, *]) rfl ⟨ret_ivb (Fx.ite_no HR.out _) (Fx.ite_no HR.out _) HR.out.symm, (by repeat (first | exact Below.refl _ _ | refine Below.setCell ?_ (by first | (simp; done) | (simp; omega) | omega) _ | refine Below.alloc ?_ (by first | (simp; done) | (simp; omega) | omega) _ | refine below_drewN ?_ _ | refine Below.trans ?_ (Below.mono ‹Below _ _ _› (by first | (simp; done) | (simp; omega) | omega))))⟩

theorem rmeet_any (a b c d : Int) (w : World) :
    Calls Try.prog 45 #[.agg #[.int .i64 a, .int .i64 b], .agg #[.int .i64 c, .int .i64 d]] w fun e w' => e = .returned (.tuple #[.agg #[.int .i64 (Fx.meetLo a b c d), .int .i64 (Fx.meetHi a b c d)], .bool (Fx.meetOk a b c d)]) ∧ Below w.heap.size w w' := by
  by_cases h : Fx.v2 a b c d = true
  · have H := Lib.hid h; clear h
    by_cases c1 : max a c ≤ min b d
    · have HR : Hid (Fx.meetOk a b c d = true) := Lib.hid (by unfold Fx.meetOk; rw [H.out]; simp; omega)
      have dd : decide (min b d < max a c) = false := by simp; omega
      go_enter Try.func45, Try.ntmps45
      go_wp2_with fail
      refine (rvalid_yes _ _ _ (Fx.v2_true.1 H.out).1).mono ?_
      rintro e w1 ⟨rfl, hb1⟩
      obtain ⟨hc1, hf1⟩ := bcell hb1
      have hz1 := hb1.size
      try simp at hz1
      have hz1d : w.heap.size + 1 + 1 + 1 < w1.heap.size := by omega
      have hz1c : w.heap.size + 1 + 1 < w1.heap.size := by omega
      have hz1b : w.heap.size + 1 < w1.heap.size := by omega
      have hz1a : w.heap.size < w1.heap.size := by omega
      go_wp2_with fail
      refine (rvalid_yes _ _ _ (Fx.v2_true.1 H.out).2).mono ?_
      rintro e w2 ⟨rfl, hb2⟩
      obtain ⟨hc2, hf2⟩ := bcell hb2
      have hz2 := hb2.size
      try simp at hz2
      have hz2d : w.heap.size + 1 + 1 + 1 < w2.heap.size := by omega
      have hz2c : w.heap.size + 1 + 1 < w2.heap.size := by omega
      have hz2b : w.heap.size + 1 < w2.heap.size := by omega
      have hz2a : w.heap.size < w2.heap.size := by omega
      go_wp2_with fail
      exact bodyPost_ret (v := .tuple #[.agg #[.int .i64 (max a c), .int .i64 (min b d)], .bool true]) (by simp [results, Try.results45, go_sem, *]) rfl ⟨ret_ivb (Fx.ite_yes HR.out _) (Fx.ite_yes HR.out _) HR.out.symm, (by repeat (first | exact Below.refl _ _ | refine Below.setCell ?_ (by first | (simp; done) | (simp; omega) | omega) _ | refine Below.alloc ?_ (by first | (simp; done) | (simp; omega) | omega) _ | refine below_drewN ?_ _ | refine Below.trans ?_ (Below.mono ‹Below _ _ _› (by first | (simp; done) | (simp; omega) | omega))))⟩
    · have HR : Hid (Fx.meetOk a b c d = false) := Lib.hid (by unfold Fx.meetOk; rw [H.out]; simp; omega)
      have dd : decide (min b d < max a c) = true := by simp; omega
      go_enter Try.func45, Try.ntmps45
      go_wp2_with fail
      refine (rvalid_yes _ _ _ (Fx.v2_true.1 H.out).1).mono ?_
      rintro e w1 ⟨rfl, hb1⟩
      obtain ⟨hc1, hf1⟩ := bcell hb1
      have hz1 := hb1.size
      try simp at hz1
      have hz1d : w.heap.size + 1 + 1 + 1 < w1.heap.size := by omega
      have hz1c : w.heap.size + 1 + 1 < w1.heap.size := by omega
      have hz1b : w.heap.size + 1 < w1.heap.size := by omega
      have hz1a : w.heap.size < w1.heap.size := by omega
      go_wp2_with fail
      refine (rvalid_yes _ _ _ (Fx.v2_true.1 H.out).2).mono ?_
      rintro e w2 ⟨rfl, hb2⟩
      obtain ⟨hc2, hf2⟩ := bcell hb2
      have hz2 := hb2.size
      try simp at hz2
      have hz2d : w.heap.size + 1 + 1 + 1 < w2.heap.size := by omega
      have hz2c : w.heap.size + 1 + 1 < w2.heap.size := by omega
      have hz2b : w.heap.size + 1 < w2.heap.size := by omega
      have hz2a : w.heap.size < w2.heap.size := by omega
      go_wp2_with fail
      exact bodyPost_ret (v := .tuple #[.agg #[.int .i64 0, .int .i64 0], .bool false]) (by simp [results, Try.results45, go_sem, *]) rfl ⟨ret_ivb (Fx.ite_no HR.out _) (Fx.ite_no HR.out _) HR.out.symm, (by repeat (first | exact Below.refl _ _ | refine Below.setCell ?_ (by first | (simp; done) | (simp; omega) | omega) _ | refine Below.alloc ?_ (by first | (simp; done) | (simp; omega) | omega) _ | refine below_drewN ?_ _ | refine Below.trans ?_ (Below.mono ‹Below _ _ _› (by first | (simp; done) | (simp; omega) | omega))))⟩
  · have H := Lib.hid (show Fx.v2 a b c d = false by simpa using h); clear h
    have HR : Hid (Fx.meetOk a b c d = false) := Lib.hid (by unfold Fx.meetOk; rw [H.out]; rfl)
    by_cases h1 : Fx.vb a b = true
    · have H1 := Lib.hid h1
      have H2 := Lib.hid (show Fx.vb c d = false by have := H.out; unfold Fx.v2 at this; rw [h1] at this; simpa using this); clear h1
      go_enter Try.func45, Try.ntmps45
      go_wp2_with fail
      refine (rvalid_yes _ _ _ H1.out).mono ?_
      rintro e w1 ⟨rfl, hb1⟩
      obtain ⟨hc1, hf1⟩ := bcell hb1
      have hz1 := hb1.size
      try simp at hz1
      have hz1d : w.heap.size + 1 + 1 + 1 < w1.heap.size := by omega
      have hz1c : w.heap.size + 1 + 1 < w1.heap.size := by omega
      have hz1b : w.heap.size + 1 < w1.heap.size := by omega
      have hz1a : w.heap.size < w1.heap.size := by omega
      go_wp2_with fail
      refine (rvalid_no _ _ _ H2.out).mono ?_
      rintro e w2 ⟨rfl, hb2⟩
      obtain ⟨hc2, hf2⟩ := bcell hb2
      have hz2 := hb2.size
      try simp at hz2
      have hz2d : w.heap.size + 1 + 1 + 1 < w2.heap.size := by omega
      have hz2c : w.heap.size + 1 + 1 < w2.heap.size := by omega
      have hz2b : w.heap.size + 1 < w2.heap.size := by omega
      have hz2a : w.heap.size < w2.heap.size := by omega
      go_wp2_with fail
      exact bodyPost_ret (v := .tuple #[.agg #[.int .i64 0, .int .i64 0], .bool false]) (by simp [results, Try.results45, go_sem, *]) rfl ⟨ret_ivb (Fx.ite_no HR.out _) (Fx.ite_no HR.out _) HR.out.symm, (by repeat (first | exact Below.refl _ _ | refine Below.setCell ?_ (by first | (simp; done) | (simp; omega) | omega) _ | refine Below.alloc ?_ (by first | (simp; done) | (simp; omega) | omega) _ | refine below_drewN ?_ _ | refine Below.trans ?_ (Below.mono ‹Below _ _ _› (by first | (simp; done) | (simp; omega) | omega))))⟩
    · have H1 := Lib.hid (show Fx.vb a b = false by simpa using h1); clear h1
      go_enter Try.func45, Try.ntmps45
      go_wp2_with fail
      refine (rvalid_no _ _ _ H1.out).mono ?_
      rintro e w1 ⟨rfl, hb1⟩
      obtain ⟨hc1, hf1⟩ := bcell hb1
      have hz1 := hb1.size
      try simp at hz1
      have hz1d : w.heap.size + 1 + 1 + 1 < w1.heap.size := by omega
      have hz1c : w.heap.size + 1 + 1 < w1.heap.size := by omega
      have hz1b : w.heap.size + 1 < w1.heap.size := by omega
      have hz1a : w.heap.size < w1.heap.size := by omega
      go_wp2_with fail
      exact bodyPost_ret (v := .tuple #[.agg #[.int .i64 0, .int .i64 0], .bool false]) (by simp [results, Try.results45, go_sem, *]) rfl ⟨ret_ivb (Fx.ite_no HR.out _) (Fx.ite_no HR.out _) HR.out.symm, (by repeat (first | exact Below.refl _ _ | refine Below.setCell ?_ (by first | (simp; done) | (simp; omega) | omega) _ | refine Below.alloc ?_ (by first | (simp; done) | (simp; omega) | omega) _ | refine below_drewN ?_ _ | refine Below.trans ?_ (Below.mono ‹Below _ _ _› (by first | (simp; done) | (simp; omega) | omega))))⟩

theorem scaled_any (l h : Int) (w : World) (h0 : -9223372036854775808 ≤ h) (h1 : h ≤ 9223372036854775807) :
    Calls Try.prog 42 #[.int .i64 l, .int .i64 h] w fun e w' => e = .returned (.agg #[.int .i64 (Fx.clamp (l / 65536)), .int .i64 (Fx.clamp (Fx.ce h 65536))]) ∧ Below w.heap.size w w' := by
  go_enter Try.func42, Try.ntmps42
  go_wp2_with fail
  refine (sdown16 _ _).mono ?_
  rintro e w' ⟨rfl, rfl⟩
  go_wp2_with fail
  refine (sup16 _ _ h0 h1).mono ?_
  rintro e w' ⟨rfl, rfl⟩
  go_wp2_with fail
  refine (limited_any _ _ _).mono ?_
  rintro e w1 ⟨rfl, hb1⟩
  obtain ⟨hc1, hf1⟩ := bcell hb1
  have hz1 := hb1.size
  try simp at hz1
  have hz1a : w.heap.size < w1.heap.size := by omega
  go_wp2_with fail
  exact bodyPost_ret (v := .agg #[.int .i64 (Fx.clamp (l / 65536)), .int .i64 (Fx.clamp (Fx.ce h 65536))]) (by simp [results, Try.results42, go_sem, *]) rfl ⟨rfl, (by repeat (first | exact Below.refl _ _ | refine Below.setCell ?_ (by first | (simp; done) | (simp; omega) | omega) _ | refine Below.alloc ?_ (by first | (simp; done) | (simp; omega) | omega) _ | refine below_drewN ?_ _ | refine Below.trans ?_ (Below.mono ‹Below _ _ _› (by first | (simp; done) | (simp; omega) | omega))))⟩

theorem qsame {P : Program} {f : FuncId} {args : Array Value} {w : World} {n : Nat} {v : Value}
    (h : Calls P f args (w.drewN n) fun e w' => e = .returned v ∧ w.drewN n = w') : Calls P f args (w.drewN n) fun e w'' => e = .returned v ∧ ∃ m, w'' = w.drewN m :=
  h.mono fun _ _ ⟨he, hm⟩ => ⟨he, n, hm.symm⟩

theorem scale_any (a b k : Int) (w : World) :
    Calls Try.prog 32 #[.agg #[.int .i64 a, .int .i64 b], .int .i64 k] w fun e w' => e = .returned (.agg #[.int .i64 (Fx.scaleLo a b k), .int .i64 (Fx.scaleHi a b k)]) ∧ Below w.heap.size w w' := by
  by_cases h : Fx.vb a b = true
  · have H := Lib.hid h; clear h
    obtain ⟨u0, u1, u2⟩ := Fx.vb_true.1 H.out
    have hk := Fx.clamp_bd k
    have pa := Fx.prod_bd a (Fx.clamp k) (by omega) (by omega) (by omega) (by omega)
    have pb := Fx.prod_bd b (Fx.clamp k) (by omega) (by omega) (by omega) (by omega)
    go_enter Try.func32, Try.ntmps32
    go_wp2_with fail
    refine (valid_yes _ _ _ H.out).mono ?_
    rintro e w1 ⟨rfl, hb1⟩
    obtain ⟨hc1, hf1⟩ := bcell hb1
    have hz1 := hb1.size
    try simp at hz1
    have hz1b : w.heap.size + 1 < w1.heap.size := by omega
    have hz1a : w.heap.size < w1.heap.size := by omega
    go_wp2_with fail
    refine (clamp_any _ _).mono ?_
    rintro e w' ⟨rfl, rfl⟩
    go_wp2_with fail
    go_quiet (fail)
    have hb2 := below_drewN hb1 nq
    generalize w1.drewN nq = w2 at *
    clear hb1 hc1 hf1 hz1 hz1a hz1b
    clear w1
    obtain ⟨hc2, hf2⟩ := bcell hb2
    have hz2 := hb2.size
    try simp at hz2
    have hz2b : w.heap.size + 1 < w2.heap.size := by omega
    have hz2a : w.heap.size < w2.heap.size := by omega
    go_wp2_with fail
    refine (limited_any _ _ _).mono ?_
    rintro e w3 ⟨rfl, hb3⟩
    obtain ⟨hc3, hf3⟩ := bcell hb3
    have hz3 := hb3.size
    try simp at hz3
    have hz3b : w.heap.size + 1 < w3.heap.size := by omega
    have hz3a : w.heap.size < w3.heap.size := by omega
    go_wp2_with fail
    exact bodyPost_ret (v := .agg #[.int .i64 (Fx.clamp (min (a * Fx.clamp k) (b * Fx.clamp k))), .int .i64 (Fx.clamp (max (a * Fx.clamp k) (b * Fx.clamp k)))]) (by simp [results, Try.results32, go_sem, *]) rfl ⟨ret_iv (Fx.ite_yes H.out _) (Fx.ite_yes H.out _), (by repeat (first | exact Below.refl _ _ | refine Below.setCell ?_ (by first | (simp; done) | (simp; omega) | omega) _ | refine Below.alloc ?_ (by first | (simp; done) | (simp; omega) | omega) _ | refine below_drewN ?_ _ | refine Below.trans ?_ (Below.mono ‹Below _ _ _› (by first | (simp; done) | (simp; omega) | omega))))⟩
  · have H := Lib.hid (show Fx.vb a b = false by simpa using h); clear h
    go_enter Try.func32, Try.ntmps32
    go_wp2_with fail
    refine (valid_no _ _ _ H.out).mono ?_
    rintro e w1 ⟨rfl, hb1⟩
    obtain ⟨hc1, hf1⟩ := bcell hb1
    have hz1 := hb1.size
    try simp at hz1
    have hz1b : w.heap.size + 1 < w1.heap.size := by omega
    have hz1a : w.heap.size < w1.heap.size := by omega
    go_wp2_with fail
    exact bodyPost_ret (v := .agg #[.int .i64 0, .int .i64 0]) (by simp [results, Try.results32, go_sem, *]) rfl ⟨ret_iv (Fx.ite_no H.out _) (Fx.ite_no H.out _), (by repeat (first | exact Below.refl _ _ | refine Below.setCell ?_ (by first | (simp; done) | (simp; omega) | omega) _ | refine Below.alloc ?_ (by first | (simp; done) | (simp; omega) | omega) _ | refine below_drewN ?_ _ | refine Below.trans ?_ (Below.mono ‹Below _ _ _› (by first | (simp; done) | (simp; omega) | omega))))⟩

theorem rscale_any (a b k : Int) (w : World) :
    Calls Try.prog 57 #[.agg #[.int .i64 a, .int .i64 b], .int .i64 k] w fun e w' => e = .returned (.agg #[.int .i64 (Fx.scaleLo a b k), .int .i64 (Fx.scaleHi a b k)]) ∧ Below w.heap.size w w' := by
  by_cases h : Fx.vb a b = true
  · have H := Lib.hid h; clear h
    obtain ⟨u0, u1, u2⟩ := Fx.vb_true.1 H.out
    have hk := Fx.clamp_bd k
    have pa := Fx.prod_bd a (Fx.clamp k) (by omega) (by omega) (by omega) (by omega)
    have pb := Fx.prod_bd b (Fx.clamp k) (by omega) (by omega) (by omega) (by omega)
    go_enter Try.func57, Try.ntmps57
    go_wp2_with fail
    refine (rvalid_yes _ _ _ H.out).mono ?_
    rintro e w1 ⟨rfl, hb1⟩
    obtain ⟨hc1, hf1⟩ := bcell hb1
    have hz1 := hb1.size
    try simp at hz1
    have hz1b : w.heap.size + 1 < w1.heap.size := by omega
    have hz1a : w.heap.size < w1.heap.size := by omega
    go_wp2_with fail
    go_quiet ((go_at_call 35; exact qsame (rclamp_any _ _)))
    have hb2 := below_drewN hb1 nq
    generalize w1.drewN nq = w2 at *
    clear hb1 hc1 hf1 hz1 hz1a hz1b
    clear w1
    obtain ⟨hc2, hf2⟩ := bcell hb2
    have hz2 := hb2.size
    try simp at hz2
    have hz2b : w.heap.size + 1 < w2.heap.size := by omega
    have hz2a : w.heap.size < w2.heap.size := by omega
    go_wp2_with fail
    refine (rlimited_any _ _ _).mono ?_
    rintro e w3 ⟨rfl, hb3⟩
    obtain ⟨hc3, hf3⟩ := bcell hb3
    have hz3 := hb3.size
    try simp at hz3
    have hz3b : w.heap.size + 1 < w3.heap.size := by omega
    have hz3a : w.heap.size < w3.heap.size := by omega
    go_wp2_with fail
    exact bodyPost_ret (v := .agg #[.int .i64 (Fx.clamp (min (a * Fx.clamp k) (b * Fx.clamp k))), .int .i64 (Fx.clamp (max (a * Fx.clamp k) (b * Fx.clamp k)))]) (by simp [results, Try.results57, go_sem, *]) rfl ⟨ret_iv (Fx.ite_yes H.out _) (Fx.ite_yes H.out _), (by repeat (first | exact Below.refl _ _ | refine Below.setCell ?_ (by first | (simp; done) | (simp; omega) | omega) _ | refine Below.alloc ?_ (by first | (simp; done) | (simp; omega) | omega) _ | refine below_drewN ?_ _ | refine Below.trans ?_ (Below.mono ‹Below _ _ _› (by first | (simp; done) | (simp; omega) | omega))))⟩
  · have H := Lib.hid (show Fx.vb a b = false by simpa using h); clear h
    go_enter Try.func57, Try.ntmps57
    go_wp2_with fail
    refine (rvalid_no _ _ _ H.out).mono ?_
    rintro e w1 ⟨rfl, hb1⟩
    obtain ⟨hc1, hf1⟩ := bcell hb1
    have hz1 := hb1.size
    try simp at hz1
    have hz1b : w.heap.size + 1 < w1.heap.size := by omega
    have hz1a : w.heap.size < w1.heap.size := by omega
    go_wp2_with fail
    exact bodyPost_ret (v := .agg #[.int .i64 0, .int .i64 0]) (by simp [results, Try.results57, go_sem, *]) rfl ⟨ret_iv (Fx.ite_no H.out _) (Fx.ite_no H.out _), (by repeat (first | exact Below.refl _ _ | refine Below.setCell ?_ (by first | (simp; done) | (simp; omega) | omega) _ | refine Below.alloc ?_ (by first | (simp; done) | (simp; omega) | omega) _ | refine below_drewN ?_ _ | refine Below.trans ?_ (Below.mono ‹Below _ _ _› (by first | (simp; done) | (simp; omega) | omega))))⟩

theorem sqrt_any (a b : Int) (w : World) :
    Calls Try.prog 33 #[.agg #[.int .i64 a, .int .i64 b]] w fun e w' => e = .returned (.agg #[.int .i64 (Fx.sqrtLo a b), .int .i64 (Fx.sqrtHi a b)]) ∧ Below w.heap.size w w' := by
  by_cases h : Fx.vb a b = true
  · have H := Lib.hid h; clear h
    go_enter Try.func33, Try.ntmps33
    go_wp2_with fail
    refine (valid_yes _ _ _ H.out).mono ?_
    rintro e w1 ⟨rfl, hb1⟩
    obtain ⟨hc1, hf1⟩ := bcell hb1
    have hz1 := hb1.size
    try simp at hz1
    have hz1b : w.heap.size + 1 < w1.heap.size := by omega
    have hz1a : w.heap.size < w1.heap.size := by omega
    have q0 : w1.cell? ⟨w.heap.size, 0, none⟩ = some (.int .i64 a) := by rw [hc1 _ _ (by simp; omega)]; simp
    have q1 : w1.cell? ⟨w.heap.size, 1, none⟩ = some (.int .i64 b) := by rw [hc1 _ _ (by simp; omega)]; simp
    go_wp2_with fail
    go_region_held3 (fun w' => w'.cell? ⟨w.heap.size, 0, none⟩ = some (.int .i64 a) ∧ w'.cell? ⟨w.heap.size, 1, none⟩ = some (.int .i64 b)) (go_keep) (first | (go_at_call 54; refine (sqrtDown_any _ _).mono ?_; rintro e w' ⟨rfl, k, rfl⟩) | (go_at_call 55; refine (sqrtUp_any _ _).mono ?_; rintro e w' ⟨rfl, k, rfl⟩))
    go_wp2
    exact bodyPost_ret (v := .agg #[.int .i64 (Fx.sqrtDown a), .int .i64 (Fx.sqrtUp b)]) (by simp [results, Try.results33, go_sem, *]) rfl ⟨ret_iv (Fx.ite_yes H.out _) (Fx.ite_yes H.out _), (by repeat (first | exact Below.refl _ _ | refine Below.setCell ?_ (by first | (simp; done) | (simp; omega) | omega) _ | refine Below.alloc ?_ (by first | (simp; done) | (simp; omega) | omega) _ | refine below_drewN ?_ _ | refine Below.trans ?_ (Below.mono ‹Below _ _ _› (by first | (simp; done) | (simp; omega) | omega))))⟩
  · have H := Lib.hid (show Fx.vb a b = false by simpa using h); clear h
    go_enter Try.func33, Try.ntmps33
    go_wp2_with fail
    refine (valid_no _ _ _ H.out).mono ?_
    rintro e w1 ⟨rfl, hb1⟩
    obtain ⟨hc1, hf1⟩ := bcell hb1
    have hz1 := hb1.size
    try simp at hz1
    have hz1b : w.heap.size + 1 < w1.heap.size := by omega
    have hz1a : w.heap.size < w1.heap.size := by omega
    go_wp2_with fail
    exact bodyPost_ret (v := .agg #[.int .i64 0, .int .i64 0]) (by simp [results, Try.results33, go_sem, *]) rfl ⟨ret_iv (Fx.ite_no H.out _) (Fx.ite_no H.out _), (by repeat (first | exact Below.refl _ _ | refine Below.setCell ?_ (by first | (simp; done) | (simp; omega) | omega) _ | refine Below.alloc ?_ (by first | (simp; done) | (simp; omega) | omega) _ | refine below_drewN ?_ _ | refine Below.trans ?_ (Below.mono ‹Below _ _ _› (by first | (simp; done) | (simp; omega) | omega))))⟩

theorem rsqrt_any (a b : Int) (w : World) :
    Calls Try.prog 59 #[.agg #[.int .i64 a, .int .i64 b]] w fun e w' => e = .returned (.agg #[.int .i64 (Fx.sqrtLo a b), .int .i64 (Fx.sqrtHi a b)]) ∧ Below w.heap.size w w' := by
  by_cases h : Fx.vb a b = true
  · have H := Lib.hid h; clear h
    go_enter Try.func59, Try.ntmps59
    go_wp2_with fail
    refine (rvalid_yes _ _ _ H.out).mono ?_
    rintro e w1 ⟨rfl, hb1⟩
    obtain ⟨hc1, hf1⟩ := bcell hb1
    have hz1 := hb1.size
    try simp at hz1
    have hz1b : w.heap.size + 1 < w1.heap.size := by omega
    have hz1a : w.heap.size < w1.heap.size := by omega
    have q0 : w1.cell? ⟨w.heap.size, 0, none⟩ = some (.int .i64 a) := by rw [hc1 _ _ (by simp; omega)]; simp
    have q1 : w1.cell? ⟨w.heap.size, 1, none⟩ = some (.int .i64 b) := by rw [hc1 _ _ (by simp; omega)]; simp
    go_wp2_with fail
    go_region_held3 (fun w' => w'.cell? ⟨w.heap.size, 0, none⟩ = some (.int .i64 a) ∧ w'.cell? ⟨w.heap.size, 1, none⟩ = some (.int .i64 b)) (go_keep) (first | (go_at_call 65; refine (rsqrtDown_any _ _).mono ?_; rintro e w' ⟨rfl, rfl⟩) | (go_at_call 66; refine (rsqrtUp_any _ _).mono ?_; rintro e w' ⟨rfl, rfl⟩))
    go_wp2
    exact bodyPost_ret (v := .agg #[.int .i64 (Fx.sqrtDown a), .int .i64 (Fx.sqrtUp b)]) (by simp [results, Try.results59, go_sem, *]) rfl ⟨ret_iv (Fx.ite_yes H.out _) (Fx.ite_yes H.out _), (by repeat (first | exact Below.refl _ _ | refine Below.setCell ?_ (by first | (simp; done) | (simp; omega) | omega) _ | refine Below.alloc ?_ (by first | (simp; done) | (simp; omega) | omega) _ | refine below_drewN ?_ _ | refine Below.trans ?_ (Below.mono ‹Below _ _ _› (by first | (simp; done) | (simp; omega) | omega))))⟩
  · have H := Lib.hid (show Fx.vb a b = false by simpa using h); clear h
    go_enter Try.func59, Try.ntmps59
    go_wp2_with fail
    refine (rvalid_no _ _ _ H.out).mono ?_
    rintro e w1 ⟨rfl, hb1⟩
    obtain ⟨hc1, hf1⟩ := bcell hb1
    have hz1 := hb1.size
    try simp at hz1
    have hz1b : w.heap.size + 1 < w1.heap.size := by omega
    have hz1a : w.heap.size < w1.heap.size := by omega
    go_wp2_with fail
    exact bodyPost_ret (v := .agg #[.int .i64 0, .int .i64 0]) (by simp [results, Try.results59, go_sem, *]) rfl ⟨ret_iv (Fx.ite_no H.out _) (Fx.ite_no H.out _), (by repeat (first | exact Below.refl _ _ | refine Below.setCell ?_ (by first | (simp; done) | (simp; omega) | omega) _ | refine Below.alloc ?_ (by first | (simp; done) | (simp; omega) | omega) _ | refine below_drewN ?_ _ | refine Below.trans ?_ (Below.mono ‹Below _ _ _› (by first | (simp; done) | (simp; omega) | omega))))⟩

end Go.Proofs.Ytpembaahjokmjaa
