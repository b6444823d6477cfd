/- Contracts of package interval, fourth part: squares and products. -/
import Derived.Test.YtpembaahjokmjaaIv3
namespace Go.Proofs.Ytpembaahjokmjaa
open Go.RowKit

theorem run_min4m {P : Program} {w : World} (ts : Array TypeId) (t : TypeId) (k k1 k2 k3 : IntKind) (x y z u : Int) : (Builtin.min_ ts t #[.int k x, .int k1 y, .int k2 z, .int k3 u]).run P w = .ok (.int k (Fx.min4 x y z u)) w := by
  simp [Builtin.min_, Builtin.min2, Fx.min4, ite_min]

theorem run_max4m {P : Program} {w : World} (ts : Array TypeId) (t : TypeId) (k k1 k2 k3 : IntKind) (x y z u : Int) : (Builtin.max_ ts t #[.int k x, .int k1 y, .int k2 z, .int k3 u]).run P w = .ok (.int k (Fx.max4 x y z u)) w := by
  simp [Builtin.max_, Builtin.max2, Fx.max4, ite_max]

attribute [local go_sem] run_min4m run_max4m

theorem square_any (a b : Int) (w : World) :
    Calls Try.prog 29 #[.agg #[.int .i64 a, .int .i64 b]] w fun e w' => e = .returned (.agg #[.int .i64 (Fx.squareLo a b), .int .i64 (Fx.squareHi a b)]) ∧ Below w.heap.size w w' := by
  by_cases h : Fx.vb a b = true
  · have H := Lib.hid h; clear h
    obtain ⟨u0, u1, u2⟩ := Fx.vb_true.1 H.out
    have pa := Fx.prod_bd a a (by omega) (by omega) (by omega) (by omega)
    have pb := Fx.prod_bd b b (by omega) (by omega) (by omega) (by omega)
    by_cases c1 : a ≤ 0 ∧ 0 ≤ b
    · have HS : Hid (Fx.clamp (0 / 65536) = Fx.squareLo a b) := Lib.hid (by unfold Fx.squareLo Fx.sqLeast; rw [H.out, if_pos c1]; rfl)
      have HB : Hid (Fx.hasB a b 0 = true) := Lib.hid (by unfold Fx.hasB; rw [H.out]; simp; omega)
      go_enter Try.func29, Try.ntmps29
      go_wp2_with fail
      refine (valid_yes _ _ _ H.out).mono ?_
      rintro e w1 ⟨rfl, hb1⟩
      obtain ⟨hc1, hf1⟩ := bcell hb1
      have hz1 := hb1.size
      try simp at hz1
      have hz1b : w.heap.size + 1 < w1.heap.size := by omega
      have hz1a : w.heap.size < w1.heap.size := by omega
      go_wp2_with fail
      go_quiet (fail)
      have hb2 := below_drewN hb1 nq
      generalize w1.drewN nq = w2 at *
      clear hb1 hc1 hf1 hz1 hz1a hz1b
      clear w1
      obtain ⟨hc2, hf2⟩ := bcell hb2
      have hz2 := hb2.size
      try simp at hz2
      have hz2b : w.heap.size + 1 < w2.heap.size := by omega
      have hz2a : w.heap.size < w2.heap.size := by omega
      go_wp2_with fail
      refine ((show Calls _ _ _ _ (fun e w' => e = .returned (.bool true) ∧ _) from HB.out ▸ has_any _ _ _ _)).mono ?_
      rintro e w3 ⟨rfl, hb3⟩
      obtain ⟨hc3, hf3⟩ := bcell hb3
      have hz3 := hb3.size
      try simp at hz3
      have hz3b : w.heap.size + 1 < w3.heap.size := by omega
      have hz3a : w.heap.size < w3.heap.size := by omega
      go_wp2_with fail
      refine (scaled_any _ _ _ (by omega) (by omega)).mono ?_
      rintro e w4 ⟨rfl, hb4⟩
      obtain ⟨hc4, hf4⟩ := bcell hb4
      have hz4 := hb4.size
      try simp at hz4
      have hz4b : w.heap.size + 1 < w4.heap.size := by omega
      have hz4a : w.heap.size < w4.heap.size := by omega
      go_wp2_with fail
      exact bodyPost_ret (v := .agg #[.int .i64 (Fx.clamp (0 / 65536)), .int .i64 (Fx.clamp (Fx.ce (max (a * a) (b * b)) 65536))]) (by simp [results, Try.results29, go_sem, *]) rfl ⟨ret_iv HS.out (Fx.ite_yes H.out _), (by repeat (first | exact Below.refl _ _ | refine Below.setCell ?_ (by first | (simp; done) | (simp; omega) | omega) _ | refine Below.alloc ?_ (by first | (simp; done) | (simp; omega) | omega) _ | refine below_drewN ?_ _ | refine Below.trans ?_ (Below.mono ‹Below _ _ _› (by first | (simp; done) | (simp; omega) | omega))))⟩
    · have HS : Hid (Fx.clamp ((min (a * a) (b * b)) / 65536) = Fx.squareLo a b) := Lib.hid (by unfold Fx.squareLo Fx.sqLeast; rw [H.out, if_neg c1]; rfl)
      have HB : Hid (Fx.hasB a b 0 = false) := Lib.hid (by unfold Fx.hasB; rw [H.out]; simp; omega)
      go_enter Try.func29, Try.ntmps29
      go_wp2_with fail
      refine (valid_yes _ _ _ H.out).mono ?_
      rintro e w1 ⟨rfl, hb1⟩
      obtain ⟨hc1, hf1⟩ := bcell hb1
      have hz1 := hb1.size
      try simp at hz1
      have hz1b : w.heap.size + 1 < w1.heap.size := by omega
      have hz1a : w.heap.size < w1.heap.size := by omega
      go_wp2_with fail
      go_quiet (fail)
      have hb2 := below_drewN hb1 nq
      generalize w1.drewN nq = w2 at *
      clear hb1 hc1 hf1 hz1 hz1a hz1b
      clear w1
      obtain ⟨hc2, hf2⟩ := bcell hb2
      have hz2 := hb2.size
      try simp at hz2
      have hz2b : w.heap.size + 1 < w2.heap.size := by omega
      have hz2a : w.heap.size < w2.heap.size := by omega
      go_wp2_with fail
      refine ((show Calls _ _ _ _ (fun e w' => e = .returned (.bool false) ∧ _) from HB.out ▸ has_any _ _ _ _)).mono ?_
      rintro e w3 ⟨rfl, hb3⟩
      obtain ⟨hc3, hf3⟩ := bcell hb3
      have hz3 := hb3.size
      try simp at hz3
      have hz3b : w.heap.size + 1 < w3.heap.size := by omega
      have hz3a : w.heap.size < w3.heap.size := by omega
      go_wp2_with fail
      refine (scaled_any _ _ _ (by omega) (by omega)).mono ?_
      rintro e w4 ⟨rfl, hb4⟩
      obtain ⟨hc4, hf4⟩ := bcell hb4
      have hz4 := hb4.size
      try simp at hz4
      have hz4b : w.heap.size + 1 < w4.heap.size := by omega
      have hz4a : w.heap.size < w4.heap.size := by omega
      go_wp2_with fail
      exact bodyPost_ret (v := .agg #[.int .i64 (Fx.clamp ((min (a * a) (b * b)) / 65536)), .int .i64 (Fx.clamp (Fx.ce (max (a * a) (b * b)) 65536))]) (by simp [results, Try.results29, go_sem, *]) rfl ⟨ret_iv HS.out (Fx.ite_yes H.out _), (by repeat (first | exact Below.refl _ _ | refine Below.setCell ?_ (by first | (simp; done) | (simp; omega) | omega) _ | refine Below.alloc ?_ (by first | (simp; done) | (simp; omega) | omega) _ | refine below_drewN ?_ _ | refine Below.trans ?_ (Below.mono ‹Below _ _ _› (by first | (simp; done) | (simp; omega) | omega))))⟩
  · have H := Lib.hid (show Fx.vb a b = false by simpa using h); clear h
    go_enter Try.func29, Try.ntmps29
    go_wp2_with fail
    refine (valid_no _ _ _ H.out).mono ?_
    rintro e w1 ⟨rfl, hb1⟩
    obtain ⟨hc1, hf1⟩ := bcell hb1
    have hz1 := hb1.size
    try simp at hz1
    have hz1b : w.heap.size + 1 < w1.heap.size := by omega
    have hz1a : w.heap.size < w1.heap.size := by omega
    go_wp2_with fail
    exact bodyPost_ret (v := .agg #[.int .i64 0, .int .i64 0]) (by simp [results, Try.results29, go_sem, *]) rfl ⟨ret_iv (Fx.ite_no H.out _) (Fx.ite_no H.out _), (by repeat (first | exact Below.refl _ _ | refine Below.setCell ?_ (by first | (simp; done) | (simp; omega) | omega) _ | refine Below.alloc ?_ (by first | (simp; done) | (simp; omega) | omega) _ | refine below_drewN ?_ _ | refine Below.trans ?_ (Below.mono ‹Below _ _ _› (by first | (simp; done) | (simp; omega) | omega))))⟩

theorem rsquare_any (a b : Int) (w : World) :
    Calls Try.prog 58 #[.agg #[.int .i64 a, .int .i64 b]] w fun e w' => e = .returned (.agg #[.int .i64 (Fx.squareLo a b), .int .i64 (Fx.squareHi a b)]) ∧ Below w.heap.size w w' := by
  by_cases h : Fx.vb a b = true
  · have H := Lib.hid h; clear h
    obtain ⟨u0, u1, u2⟩ := Fx.vb_true.1 H.out
    have pa := Fx.prod_bd a a (by omega) (by omega) (by omega) (by omega)
    have pb := Fx.prod_bd b b (by omega) (by omega) (by omega) (by omega)
    by_cases c1 : a ≤ 0 ∧ 0 ≤ b
    · have HS : Hid (Fx.clamp (0 / 65536) = Fx.squareLo a b) := Lib.hid (by unfold Fx.squareLo Fx.sqLeast; rw [H.out, if_pos c1]; rfl)
      have d0 : decide (a ≤ 0) = true := by simp; omega
      have d1 : decide (0 ≤ b) = true := by simp; omega
      go_enter Try.func58, Try.ntmps58
      go_wp2_with fail
      refine (rvalid_yes _ _ _ H.out).mono ?_
      rintro e w1 ⟨rfl, hb1⟩
      obtain ⟨hc1, hf1⟩ := bcell hb1
      have hz1 := hb1.size
      try simp at hz1
      have hz1b : w.heap.size + 1 < w1.heap.size := by omega
      have hz1a : w.heap.size < w1.heap.size := by omega
      go_wp2_with fail
      go_quiet (fail)
      have hb2 := below_drewN hb1 nq
      generalize w1.drewN nq = w2 at *
      clear hb1 hc1 hf1 hz1 hz1a hz1b
      clear w1
      obtain ⟨hc2, hf2⟩ := bcell hb2
      have hz2 := hb2.size
      try simp at hz2
      have hz2b : w.heap.size + 1 < w2.heap.size := by omega
      have hz2a : w.heap.size < w2.heap.size := by omega
      go_wp2_with fail
      refine (floor_any _ _ _ (by omega) (by omega) (by omega)).mono ?_
      rintro e w' ⟨rfl, rfl⟩
      go_wp2_with fail
      refine (ceil_any _ _ _ (by omega) (by omega) (by omega)).mono ?_
      rintro e w' ⟨rfl, rfl⟩
      go_wp2_with fail
      refine (rlimited_any _ _ _).mono ?_
      rintro e w3 ⟨rfl, hb3⟩
      obtain ⟨hc3, hf3⟩ := bcell hb3
      have hz3 := hb3.size
      try simp at hz3
      have hz3b : w.heap.size + 1 < w3.heap.size := by omega
      have hz3a : w.heap.size < w3.heap.size := by omega
      go_wp2_with fail
      exact bodyPost_ret (v := .agg #[.int .i64 (Fx.clamp (0 / 65536)), .int .i64 (Fx.clamp (Fx.ce (max (a * a) (b * b)) 65536))]) (by simp [results, Try.results58, go_sem, *]) rfl ⟨ret_iv HS.out (Fx.ite_yes H.out _), (by repeat (first | exact Below.refl _ _ | refine Below.setCell ?_ (by first | (simp; done) | (simp; omega) | omega) _ | refine Below.alloc ?_ (by first | (simp; done) | (simp; omega) | omega) _ | refine below_drewN ?_ _ | refine Below.trans ?_ (Below.mono ‹Below _ _ _› (by first | (simp; done) | (simp; omega) | omega))))⟩
    · have HS : Hid (Fx.clamp ((min (a * a) (b * b)) / 65536) = Fx.squareLo a b) := Lib.hid (by unfold Fx.squareLo Fx.sqLeast; rw [H.out, if_neg c1]; rfl)
      by_cases c2 : a ≤ 0
      · have d0 : decide (a ≤ 0) = true := by simp; omega
        have d1 : decide (0 ≤ b) = false := by simp; omega
        go_enter Try.func58, Try.ntmps58
        go_wp2_with fail
        refine (rvalid_yes _ _ _ H.out).mono ?_
        rintro e w1 ⟨rfl, hb1⟩
        obtain ⟨hc1, hf1⟩ := bcell hb1
        have hz1 := hb1.size
        try simp at hz1
        have hz1b : w.heap.size + 1 < w1.heap.size := by omega
        have hz1a : w.heap.size < w1.heap.size := by omega
        go_wp2_with fail
        go_quiet (fail)
        have hb2 := below_drewN hb1 nq
        generalize w1.drewN nq = w2 at *
        clear hb1 hc1 hf1 hz1 hz1a hz1b
        clear w1
        obtain ⟨hc2, hf2⟩ := bcell hb2
        have hz2 := hb2.size
        try simp at hz2
        have hz2b : w.heap.size + 1 < w2.heap.size := by omega
        have hz2a : w.heap.size < w2.heap.size := by omega
        go_wp2_with fail
        refine (floor_any _ _ _ (by omega) (by omega) (by omega)).mono ?_
        rintro e w' ⟨rfl, rfl⟩
        go_wp2_with fail
        refine (ceil_any _ _ _ (by omega) (by omega) (by omega)).mono ?_
        rintro e w' ⟨rfl, rfl⟩
        go_wp2_with fail
        refine (rlimited_any _ _ _).mono ?_
        rintro e w3 ⟨rfl, hb3⟩
        obtain ⟨hc3, hf3⟩ := bcell hb3
        have hz3 := hb3.size
        try simp at hz3
        have hz3b : w.heap.size + 1 < w3.heap.size := by omega
        have hz3a : w.heap.size < w3.heap.size := by omega
        go_wp2_with fail
        exact bodyPost_ret (v := .agg #[.int .i64 (Fx.clamp ((min (a * a) (b * b)) / 65536)), .int .i64 (Fx.clamp (Fx.ce (max (a * a) (b * b)) 65536))]) (by simp [results, Try.results58, go_sem, *]) rfl ⟨ret_iv HS.out (Fx.ite_yes H.out _), (by repeat (first | exact Below.refl _ _ | refine Below.setCell ?_ (by first | (simp; done) | (simp; omega) | omega) _ | refine Below.alloc ?_ (by first | (simp; done) | (simp; omega) | omega) _ | refine below_drewN ?_ _ | refine Below.trans ?_ (Below.mono ‹Below _ _ _› (by first | (simp; done) | (simp; omega) | omega))))⟩
      · have d0 : decide (a ≤ 0) = false := by simp; omega
        go_enter Try.func58, Try.ntmps58
        go_wp2_with fail
        refine (rvalid_yes _ _ _ H.out).mono ?_
        rintro e w1 ⟨rfl, hb1⟩
        obtain ⟨hc1, hf1⟩ := bcell hb1
        have hz1 := hb1.size
        try simp at hz1
        have hz1b : w.heap.size + 1 < w1.heap.size := by omega
        have hz1a : w.heap.size < w1.heap.size := by omega
        go_wp2_with fail
        go_quiet (fail)
        have hb2 := below_drewN hb1 nq
        generalize w1.drewN nq = w2 at *
        clear hb1 hc1 hf1 hz1 hz1a hz1b
        clear w1
        obtain ⟨hc2, hf2⟩ := bcell hb2
        have hz2 := hb2.size
        try simp at hz2
        have hz2b : w.heap.size + 1 < w2.heap.size := by omega
        have hz2a : w.heap.size < w2.heap.size := by omega
        go_wp2_with fail
        refine (floor_any _ _ _ (by omega) (by omega) (by omega)).mono ?_
        rintro e w' ⟨rfl, rfl⟩
        go_wp2_with fail
        refine (ceil_any _ _ _ (by omega) (by omega) (by omega)).mono ?_
        rintro e w' ⟨rfl, rfl⟩
        go_wp2_with fail
        refine (rlimited_any _ _ _).mono ?_
        rintro e w3 ⟨rfl, hb3⟩
        obtain ⟨hc3, hf3⟩ := bcell hb3
        have hz3 := hb3.size
        try simp at hz3
        have hz3b : w.heap.size + 1 < w3.heap.size := by omega
        have hz3a : w.heap.size < w3.heap.size := by omega
        go_wp2_with fail
        exact bodyPost_ret (v := .agg #[.int .i64 (Fx.clamp ((min (a * a) (b * b)) / 65536)), .int .i64 (Fx.clamp (Fx.ce (max (a * a) (b * b)) 65536))]) (by simp [results, Try.results58, go_sem, *]) rfl ⟨ret_iv HS.out (Fx.ite_yes H.out _), (by repeat (first | exact Below.refl _ _ | refine Below.setCell ?_ (by first | (simp; done) | (simp; omega) | omega) _ | refine Below.alloc ?_ (by first | (simp; done) | (simp; omega) | omega) _ | refine below_drewN ?_ _ | refine Below.trans ?_ (Below.mono ‹Below _ _ _› (by first | (simp; done) | (simp; omega) | omega))))⟩
  · have H := Lib.hid (show Fx.vb a b = false by simpa using h); clear h
    go_enter Try.func58, Try.ntmps58
    go_wp2_with fail
    refine (rvalid_no _ _ _ H.out).mono ?_
    rintro e w1 ⟨rfl, hb1⟩
    obtain ⟨hc1, hf1⟩ := bcell hb1
    have hz1 := hb1.size
    try simp at hz1
    have hz1b : w.heap.size + 1 < w1.heap.size := by omega
    have hz1a : w.heap.size < w1.heap.size := by omega
    go_wp2_with fail
    exact bodyPost_ret (v := .agg #[.int .i64 0, .int .i64 0]) (by simp [results, Try.results58, go_sem, *]) rfl ⟨ret_iv (Fx.ite_no H.out _) (Fx.ite_no H.out _), (by repeat (first | exact Below.refl _ _ | refine Below.setCell ?_ (by first | (simp; done) | (simp; omega) | omega) _ | refine Below.alloc ?_ (by first | (simp; done) | (simp; omega) | omega) _ | refine below_drewN ?_ _ | refine Below.trans ?_ (Below.mono ‹Below _ _ _› (by first | (simp; done) | (simp; omega) | omega))))⟩

end Go.Proofs.Ytpembaahjokmjaa
