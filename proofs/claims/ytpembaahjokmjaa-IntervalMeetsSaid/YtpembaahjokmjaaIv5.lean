/- Contracts of package interval, fifth part: products. -/
import Derived.Test.YtpembaahjokmjaaIv4
namespace Go.Proofs.Ytpembaahjokmjaa
open Go.RowKit

attribute [local go_sem] run_min4m run_max4m

theorem rmul_any (a b c d : Int) (w : World) :
    Calls Try.prog 56 #[.agg #[.int .i64 a, .int .i64 b], .agg #[.int .i64 c, .int .i64 d]] w fun e w' => e = .returned (.agg #[.int .i64 (Fx.mulLo a b c d), .int .i64 (Fx.mulHi a b c d)]) ∧ Below w.heap.size w w' := by
  by_cases h : Fx.v2 a b c d = true
  · have H := Lib.hid h; clear h
    obtain ⟨u0, u1, u2⟩ := Fx.vb_true.1 (Fx.v2_true.1 H.out).1
    obtain ⟨v0, v1, v2⟩ := Fx.vb_true.1 (Fx.v2_true.1 H.out).2
    have pp := Fx.prod_bd a c (by omega) (by omega) (by omega) (by omega)
    have pq := Fx.prod_bd a d (by omega) (by omega) (by omega) (by omega)
    have pr := Fx.prod_bd b c (by omega) (by omega) (by omega) (by omega)
    have ps := Fx.prod_bd b d (by omega) (by omega) (by omega) (by omega)
    have hm1 := Fx.min4_bd (a * c) (a * d) (b * c) (b * d) pp pq pr ps
    have hm2 := Fx.max4_bd (a * c) (a * d) (b * c) (b * d) pp pq pr ps
    go_enter Try.func56, Try.ntmps56
    go_wp2_with fail
    refine (rvalid_yes _ _ _ (Fx.v2_true.1 H.out).1).mono ?_
    rintro e w1 ⟨rfl, hb1⟩
    obtain ⟨hc1, hf1⟩ := bcell hb1
    have hz1 := hb1.size
    try simp at hz1
    have hz1c : w.heap.size + 1 + 1 < w1.heap.size := by omega
    have hz1b : w.heap.size + 1 < w1.heap.size := by omega
    have hz1a : w.heap.size < w1.heap.size := by omega
    go_wp2_with fail
    refine (rvalid_yes _ _ _ (Fx.v2_true.1 H.out).2).mono ?_
    rintro e w2 ⟨rfl, hb2⟩
    obtain ⟨hc2, hf2⟩ := bcell hb2
    have hz2 := hb2.size
    try simp at hz2
    have hz2c : w.heap.size + 1 + 1 < w2.heap.size := by omega
    have hz2b : w.heap.size + 1 < w2.heap.size := by omega
    have hz2a : w.heap.size < w2.heap.size := by omega
    go_wp2_with fail
    go_quiet (fail)
    have hb3 := below_drewN hb2 nq
    generalize w2.drewN nq = w3 at *
    clear hb2 hc2 hf2 hz2 hz2a hz2b hz2c
    clear w2
    obtain ⟨hc3, hf3⟩ := bcell hb3
    have hz3 := hb3.size
    try simp at hz3
    have hz3c : w.heap.size + 1 + 1 < w3.heap.size := by omega
    have hz3b : w.heap.size + 1 < w3.heap.size := by omega
    have hz3a : w.heap.size < w3.heap.size := by omega
    go_wp2_with fail
    refine (floor_any _ _ _ (by omega) (by omega) (by omega)).mono ?_
    rintro e w' ⟨rfl, rfl⟩
    go_wp2_with fail
    refine (ceil_any _ _ _ (by omega) (by omega) (by omega)).mono ?_
    rintro e w' ⟨rfl, rfl⟩
    go_wp2_with fail
    refine (rlimited_any _ _ _).mono ?_
    rintro e w4 ⟨rfl, hb4⟩
    obtain ⟨hc4, hf4⟩ := bcell hb4
    have hz4 := hb4.size
    try simp at hz4
    have hz4c : w.heap.size + 1 + 1 < w4.heap.size := by omega
    have hz4b : w.heap.size + 1 < w4.heap.size := by omega
    have hz4a : w.heap.size < w4.heap.size := by omega
    go_wp2_with fail
    exact bodyPost_ret (v := .agg #[.int .i64 (Fx.clamp (Fx.min4 (a * c) (a * d) (b * c) (b * d) / 65536)), .int .i64 (Fx.clamp (Fx.ce (Fx.max4 (a * c) (a * d) (b * c) (b * d)) 65536))]) (by simp [results, Try.results56, go_sem, *]) rfl ⟨ret_iv (Fx.ite_yes H.out _) (Fx.ite_yes H.out _), (by repeat (first | exact Below.refl _ _ | refine Below.setCell ?_ (by first | (simp; done) | (simp; omega) | omega) _ | refine Below.alloc ?_ (by first | (simp; done) | (simp; omega) | omega) _ | refine below_drewN ?_ _ | refine Below.trans ?_ (Below.mono ‹Below _ _ _› (by first | (simp; done) | (simp; omega) | omega))))⟩
  · have H := Lib.hid (show Fx.v2 a b c d = false by simpa using h); clear h
    by_cases h1 : Fx.vb a b = true
    · have H1 := Lib.hid h1
      have H2 := Lib.hid (show Fx.vb c d = false by have := H.out; unfold Fx.v2 at this; rw [h1] at this; simpa using this); clear h1
      go_enter Try.func56, Try.ntmps56
      go_wp2_with fail
      refine (rvalid_yes _ _ _ H1.out).mono ?_
      rintro e w1 ⟨rfl, hb1⟩
      obtain ⟨hc1, hf1⟩ := bcell hb1
      have hz1 := hb1.size
      try simp at hz1
      have hz1c : w.heap.size + 1 + 1 < w1.heap.size := by omega
      have hz1b : w.heap.size + 1 < w1.heap.size := by omega
      have hz1a : w.heap.size < w1.heap.size := by omega
      go_wp2_with fail
      refine (rvalid_no _ _ _ H2.out).mono ?_
      rintro e w2 ⟨rfl, hb2⟩
      obtain ⟨hc2, hf2⟩ := bcell hb2
      have hz2 := hb2.size
      try simp at hz2
      have hz2c : w.heap.size + 1 + 1 < w2.heap.size := by omega
      have hz2b : w.heap.size + 1 < w2.heap.size := by omega
      have hz2a : w.heap.size < w2.heap.size := by omega
      go_wp2_with fail
      exact bodyPost_ret (v := .agg #[.int .i64 0, .int .i64 0]) (by simp [results, Try.results56, go_sem, *]) rfl ⟨(ret_iv (Fx.ite_no H.out _) (Fx.ite_no H.out _)), (by repeat (first | exact Below.refl _ _ | refine Below.setCell ?_ (by first | (simp; done) | (simp; omega) | omega) _ | refine Below.alloc ?_ (by first | (simp; done) | (simp; omega) | omega) _ | refine below_drewN ?_ _ | refine Below.trans ?_ (Below.mono ‹Below _ _ _› (by first | (simp; done) | (simp; omega) | omega))))⟩
    · have H1 := Lib.hid (show Fx.vb a b = false by simpa using h1); clear h1
      go_enter Try.func56, Try.ntmps56
      go_wp2_with fail
      refine (rvalid_no _ _ _ H1.out).mono ?_
      rintro e w1 ⟨rfl, hb1⟩
      obtain ⟨hc1, hf1⟩ := bcell hb1
      have hz1 := hb1.size
      try simp at hz1
      have hz1c : w.heap.size + 1 + 1 < w1.heap.size := by omega
      have hz1b : w.heap.size + 1 < w1.heap.size := by omega
      have hz1a : w.heap.size < w1.heap.size := by omega
      go_wp2_with fail
      exact bodyPost_ret (v := .agg #[.int .i64 0, .int .i64 0]) (by simp [results, Try.results56, go_sem, *]) rfl ⟨(ret_iv (Fx.ite_no H.out _) (Fx.ite_no H.out _)), (by repeat (first | exact Below.refl _ _ | refine Below.setCell ?_ (by first | (simp; done) | (simp; omega) | omega) _ | refine Below.alloc ?_ (by first | (simp; done) | (simp; omega) | omega) _ | refine below_drewN ?_ _ | refine Below.trans ?_ (Below.mono ‹Below _ _ _› (by first | (simp; done) | (simp; omega) | omega))))⟩

theorem mul_any (a b c d : Int) (w : World) :
    Calls Try.prog 26 #[.agg #[.int .i64 a, .int .i64 b], .agg #[.int .i64 c, .int .i64 d]] w fun e w' => e = .returned (.agg #[.int .i64 (Fx.mulLo a b c d), .int .i64 (Fx.mulHi a b c d)]) ∧ Below w.heap.size w w' := by
  by_cases h : Fx.v2 a b c d = true
  · have H := Lib.hid h; clear h
    obtain ⟨u0, u1, u2⟩ := Fx.vb_true.1 (Fx.v2_true.1 H.out).1
    obtain ⟨v0, v1, v2⟩ := Fx.vb_true.1 (Fx.v2_true.1 H.out).2
    have pp := Fx.prod_bd a c (by omega) (by omega) (by omega) (by omega)
    have pq := Fx.prod_bd a d (by omega) (by omega) (by omega) (by omega)
    have pr := Fx.prod_bd b c (by omega) (by omega) (by omega) (by omega)
    have ps := Fx.prod_bd b d (by omega) (by omega) (by omega) (by omega)
    have hm1 := Fx.min4_bd (a * c) (a * d) (b * c) (b * d) pp pq pr ps
    have hm2 := Fx.max4_bd (a * c) (a * d) (b * c) (b * d) pp pq pr ps
    go_enter Try.func26, Try.ntmps26
    go_wp2_with fail
    refine (valid2_yes _ _ _ _ _ (Fx.v2_true.1 H.out).1 (Fx.v2_true.1 H.out).2).mono ?_
    rintro e w1 ⟨rfl, hb1⟩
    obtain ⟨hc1, hf1⟩ := bcell hb1
    have hz1 := hb1.size
    try simp at hz1
    have hz1c : w.heap.size + 1 + 1 < w1.heap.size := by omega
    have hz1b : w.heap.size + 1 < w1.heap.size := by omega
    have hz1a : w.heap.size < w1.heap.size := by omega
    have HLo : Hid (Fx.clamp (Fx.min4 (a * c) (a * d) (b * c) (b * d) / 65536) = Fx.mulLo a b c d) := Lib.hid (Fx.ite_yes H.out _)
    have HHi : Hid (Fx.clamp (Fx.ce (Fx.max4 (a * c) (a * d) (b * c) (b * d)) 65536) = Fx.mulHi a b c d) := Lib.hid (Fx.ite_yes H.out _)
    go_wp2_with fail
    generalize a * c = p at *
    generalize a * d = q at *
    generalize b * c = r at *
    generalize b * d = s at *
    go_quiet (fail)
    have i0 : ∀ w, (Instr.index 47 (.agg #[.int .i64 p, .int .i64 q, .int .i64 r, .int .i64 s]) (.int .i64 0)).run Try.prog w = .ok (.int .i64 p) w := fun _ => by kernel_rfl
    have i1 : ∀ w, (Instr.index 47 (.agg #[.int .i64 p, .int .i64 q, .int .i64 r, .int .i64 s]) (.int .i64 1)).run Try.prog w = .ok (.int .i64 q) w := fun _ => by kernel_rfl
    have i2 : ∀ w, (Instr.index 47 (.agg #[.int .i64 p, .int .i64 q, .int .i64 r, .int .i64 s]) (.int .i64 2)).run Try.prog w = .ok (.int .i64 r) w := fun _ => by kernel_rfl
    have i3 : ∀ w, (Instr.index 47 (.agg #[.int .i64 p, .int .i64 q, .int .i64 r, .int .i64 s]) (.int .i64 3)).run Try.prog w = .ok (.int .i64 s) w := fun _ => by kernel_rfl
    go_wp2_with fail
    have hb2 := below_drewN (hb1.alloc hb1.size (.cells #[.int .i64 p, .int .i64 q, .int .i64 r, .int .i64 s] 47)) nq
    generalize (w1.alloc (.cells #[.int .i64 p, .int .i64 q, .int .i64 r, .int .i64 s] 47)).drewN nq = w2 at *
    clear hc1 hf1 hz1a hz1b hz1c
    obtain ⟨hc2, hf2⟩ := bcell hb2
    have hz2 := hb2.size
    try simp at hz2
    have hz2c : w.heap.size + 1 + 1 < w2.heap.size := by omega
    have hz2b : w.heap.size + 1 < w2.heap.size := by omega
    have hz2a : w.heap.size < w2.heap.size := by omega
    go_loop [6, 7, 41] (fun x y i => (i = .int .i64 0 ∧ x = .int .i64 p ∧ y = .int .i64 p) ∨ (i = .int .i64 1 ∧ x = .int .i64 p ∧ y = .int .i64 p) ∨ (i = .int .i64 2 ∧ x = .int .i64 (min p q) ∧ y = .int .i64 (max p q)) ∨ (i = .int .i64 3 ∧ x = .int .i64 (min (min p q) r) ∧ y = .int .i64 (max (max p q) r)) ∨ (i = .int .i64 4 ∧ x = .int .i64 (Fx.min4 p q r s) ∧ y = .int .i64 (Fx.max4 p q r s))) (fun _ _ i => 4 - (intOf i).toNat)
    case atStart => exact .inl ⟨rfl, rfl, rfl⟩
    case round =>
      rcases hrel with ⟨rfl, rfl, rfl⟩ | ⟨rfl, rfl, rfl⟩ | ⟨rfl, rfl, rfl⟩ | ⟨rfl, rfl, rfl⟩ | ⟨rfl, rfl, rfl⟩
      · go_wp2
        go_round
        case rel => exact .inr (.inl ⟨rfl, by simp, by simp⟩)
        case measure => simp [intOf]
      · go_wp2
        go_round
        case rel => exact .inr (.inr (.inl ⟨rfl, rfl, rfl⟩))
        case measure => simp [intOf]
      · go_wp2
        go_round
        case rel => exact .inr (.inr (.inr (.inl ⟨rfl, by rw [show min p (min q r) = min (min p q) r from by omega], by rw [show max p (max q r) = max (max p q) r from by omega]⟩)))
        case measure => simp [intOf]
      · go_wp2
        go_round
        case rel => exact .inr (.inr (.inr (.inr ⟨rfl, by rw [show min p (min q (min r s)) = Fx.min4 p q r s from by unfold Fx.min4; omega], by rw [show max p (max q (max r s)) = Fx.max4 p q r s from by unfold Fx.max4; omega]⟩)))
        case measure => simp [intOf]
      · clear i0 i1 i2 i3
        go_wp2_with fail
        refine (scaled_any _ _ _ (by omega) (by omega)).mono ?_
        rintro e w3 ⟨rfl, hb3⟩
        obtain ⟨hc3, hf3⟩ := bcell hb3
        have hz3 := hb3.size
        try simp at hz3
        have hz3c : w.heap.size + 1 + 1 < w3.heap.size := by omega
        have hz3b : w.heap.size + 1 < w3.heap.size := by omega
        have hz3a : w.heap.size < w3.heap.size := by omega
        go_wp2_with fail
        exact bodyPost_ret (v := .agg #[.int .i64 (Fx.clamp (Fx.min4 p q r s / 65536)), .int .i64 (Fx.clamp (Fx.ce (Fx.max4 p q r s) 65536))]) (by simp [results, Try.results26, go_sem, *]) rfl ⟨ret_iv HLo.out HHi.out, (by repeat (first | exact Below.refl _ _ | refine Below.setCell ?_ (by first | (simp; done) | (simp; omega) | omega) _ | refine Below.alloc ?_ (by first | (simp; done) | (simp; omega) | omega) _ | refine below_drewN ?_ _ | refine Below.trans ?_ (Below.mono ‹Below _ _ _› (by first | (simp; done) | (simp; omega) | omega))))⟩
  · have H := Lib.hid (show Fx.v2 a b c d = false by simpa using h); clear h
    go_enter Try.func26, Try.ntmps26
    go_wp2_with fail
    refine (valid2_no _ _ _ _ _ H.out).mono ?_
    rintro e w1 ⟨rfl, hb1⟩
    obtain ⟨hc1, hf1⟩ := bcell hb1
    have hz1 := hb1.size
    try simp at hz1
    have hz1c : w.heap.size + 1 + 1 < w1.heap.size := by omega
    have hz1b : w.heap.size + 1 < w1.heap.size := by omega
    have hz1a : w.heap.size < w1.heap.size := by omega
    go_wp2_with fail
    exact bodyPost_ret (v := .agg #[.int .i64 0, .int .i64 0]) (by simp [results, Try.results26, go_sem, *]) rfl ⟨(ret_iv (Fx.ite_no H.out _) (Fx.ite_no H.out _)), (by repeat (first | exact Below.refl _ _ | refine Below.setCell ?_ (by first | (simp; done) | (simp; omega) | omega) _ | refine Below.alloc ?_ (by first | (simp; done) | (simp; omega) | omega) _ | refine below_drewN ?_ _ | refine Below.trans ?_ (Below.mono ‹Below _ _ _› (by first | (simp; done) | (simp; omega) | omega))))⟩

end Go.Proofs.Ytpembaahjokmjaa
