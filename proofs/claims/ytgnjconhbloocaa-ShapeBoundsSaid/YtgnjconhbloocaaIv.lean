/- Contracts of the functions of package interval, of their references and of the makers of intervals: each returns what the plain function says, and changes nothing that was there. -/
import Derived.Test.YtgnjconhbloocaaFixed
import Derived.Test.YtgnjconhbloocaaIvMath
import Derived.Deep.QuietTactic
import Derived.BigQuiet
namespace Go.Proofs.Ytgnjconhbloocaa
open Go.RowKit

theorem bcell {W w1 : World} (hb : Below W.heap.size W w1) : (∀ b o, b < W.heap.size → w1.cell? ⟨b, o, none⟩ = W.cell? ⟨b, o, none⟩) ∧ (∀ b o, b < W.heap.size → w1.frozen? ⟨b, o, none⟩ = W.frozen? ⟨b, o, none⟩) :=
  ⟨fun b o h => hb.cell (p := ⟨b, o, none⟩) h, fun b o h => hb.frozen (p := ⟨b, o, none⟩) h⟩

theorem ret_iv {a b c d : Int} (h1 : a = c) (h2 : b = d) : Ending.returned (.agg #[.int .i64 a, .int .i64 b]) = .returned (.agg #[.int .i64 c, .int .i64 d]) := by rw [h1, h2]

theorem ret_bool {a b : Bool} (h : a = b) : Ending.returned (.bool a) = .returned (.bool b) := by rw [h]

theorem valid_any (l h : Int) (w : World) :
    Calls Try.prog 68 #[.agg #[.int .i64 l, .int .i64 h]] w fun e w' => e = .returned (.bool (Fx.vb l h)) ∧ Below w.heap.size w w' := by
  by_cases c0 : -2147483648 ≤ l
  · by_cases c1 : l ≤ h
    · by_cases c2 : h ≤ 2147483648
      · have hd : decide (h ≤ 2147483648) = true := by simpa using c2
        go_enter Try.func68, Try.ntmps68
        go_wp2
        go_ret
        exact ⟨ret_bool (by unfold Fx.vb; simp; omega), (Below.refl _ _).alloc (Nat.le_refl _) _⟩
      · have hd : decide (h ≤ 2147483648) = false := by simpa using c2
        go_enter Try.func68, Try.ntmps68
        go_wp2
        go_ret
        exact ⟨ret_bool (by unfold Fx.vb; simp; omega), (Below.refl _ _).alloc (Nat.le_refl _) _⟩
    · have hd : decide (l ≤ h) = false := by simpa using c1
      go_enter Try.func68, Try.ntmps68
      go_wp2
      go_ret
      exact ⟨ret_bool (by unfold Fx.vb; simp; omega), (Below.refl _ _).alloc (Nat.le_refl _) _⟩
  · have hd : decide (-2147483648 ≤ l) = false := by simpa using c0
    go_enter Try.func68, Try.ntmps68
    go_wp2
    go_ret
    exact ⟨ret_bool (by unfold Fx.vb; simp; omega), (Below.refl _ _).alloc (Nat.le_refl _) _⟩

theorem valid_yes (l h : Int) (w : World) (hv : Fx.vb l h = true) :
    Calls Try.prog 68 #[.agg #[.int .i64 l, .int .i64 h]] w fun e w' => e = .returned (.bool true) ∧ Below w.heap.size w w' := by
  rw [← hv]; exact valid_any l h w

theorem valid_no (l h : Int) (w : World) (hv : Fx.vb l h = false) :
    Calls Try.prog 68 #[.agg #[.int .i64 l, .int .i64 h]] w fun e w' => e = .returned (.bool false) ∧ Below w.heap.size w w' := by
  rw [← hv]; exact valid_any l h w

theorem rvalid_any (l h : Int) (w : World) :
    Calls Try.prog 66 #[.agg #[.int .i64 l, .int .i64 h]] w fun e w' => e = .returned (.bool (Fx.vb l h)) ∧ Below w.heap.size w w' := by
  by_cases c0 : -2147483648 ≤ l
  · by_cases c1 : l ≤ h
    · by_cases c2 : h ≤ 2147483648
      · have hd : decide (h ≤ 2147483648) = true := by simpa using c2
        go_enter Try.func66, Try.ntmps66
        go_wp2
        go_ret
        exact ⟨ret_bool (by unfold Fx.vb; simp; omega), (Below.refl _ _).alloc (Nat.le_refl _) _⟩
      · have hd : decide (h ≤ 2147483648) = false := by simpa using c2
        go_enter Try.func66, Try.ntmps66
        go_wp2
        go_ret
        exact ⟨ret_bool (by unfold Fx.vb; simp; omega), (Below.refl _ _).alloc (Nat.le_refl _) _⟩
    · have hd : decide (l ≤ h) = false := by simpa using c1
      go_enter Try.func66, Try.ntmps66
      go_wp2
      go_ret
      exact ⟨ret_bool (by unfold Fx.vb; simp; omega), (Below.refl _ _).alloc (Nat.le_refl _) _⟩
  · have hd : decide (-2147483648 ≤ l) = false := by simpa using c0
    go_enter Try.func66, Try.ntmps66
    go_wp2
    go_ret
    exact ⟨ret_bool (by unfold Fx.vb; simp; omega), (Below.refl _ _).alloc (Nat.le_refl _) _⟩

theorem rvalid_yes (l h : Int) (w : World) (hv : Fx.vb l h = true) :
    Calls Try.prog 66 #[.agg #[.int .i64 l, .int .i64 h]] w fun e w' => e = .returned (.bool true) ∧ Below w.heap.size w w' := by
  rw [← hv]; exact rvalid_any l h w

theorem rvalid_no (l h : Int) (w : World) (hv : Fx.vb l h = false) :
    Calls Try.prog 66 #[.agg #[.int .i64 l, .int .i64 h]] w fun e w' => e = .returned (.bool false) ∧ Below w.heap.size w w' := by
  rw [← hv]; exact rvalid_any l h w

theorem valid2_yes (a b c d : Int) (w : World) (h1 : Fx.vb a b = true) (h2 : Fx.vb c d = true) :
    Calls Try.prog 93 #[.agg #[.int .i64 a, .int .i64 b], .agg #[.int .i64 c, .int .i64 d]] w fun e w' => e = .returned (.bool true) ∧ Below w.heap.size w w' := by
  have H1 := Lib.hid h1; have H2 := Lib.hid h2; clear h1 h2
  go_enter Try.func93, Try.ntmps93
  go_wp2_with fail
  refine (valid_yes _ _ _ H1.out).mono ?_
  rintro e w1 ⟨rfl, hb1⟩
  obtain ⟨hc1, hf1⟩ := bcell hb1
  have hz1 := hb1.size
  try simp at hz1
  have hz1b : w.heap.size + 1 < w1.heap.size := by omega
  have hz1a : w.heap.size < w1.heap.size := by omega
  go_wp2_with fail
  refine (valid_yes _ _ _ H2.out).mono ?_
  rintro e w2 ⟨rfl, hb2⟩
  obtain ⟨hc2, hf2⟩ := bcell hb2
  have hz2 := hb2.size
  try simp at hz2
  have hz2b : w.heap.size + 1 < w2.heap.size := by omega
  have hz2a : w.heap.size < w2.heap.size := by omega
  go_wp2_with fail
  go_ret
  exact ⟨rfl, (by repeat (first | exact Below.refl _ _ | refine Below.setCell ?_ (by first | (simp; done) | (simp; omega) | omega) _ | refine Below.alloc ?_ (by first | (simp; done) | (simp; omega) | omega) _ | refine below_drewN ?_ _ | refine Below.trans ?_ (Below.mono ‹Below _ _ _› (by first | (simp; done) | (simp; omega) | omega))))⟩

theorem valid2_no (a b c d : Int) (w : World) (h : (Fx.vb a b && Fx.vb c d) = false) :
    Calls Try.prog 93 #[.agg #[.int .i64 a, .int .i64 b], .agg #[.int .i64 c, .int .i64 d]] w fun e w' => e = .returned (.bool false) ∧ Below w.heap.size w w' := by
  by_cases h1 : Fx.vb a b = true
  · have h2 : Fx.vb c d = false := by rw [h1] at h; simpa using h
    have H1 := Lib.hid h1; have H2 := Lib.hid h2; clear h1 h2 h
    go_enter Try.func93, Try.ntmps93
    go_wp2_with fail
    refine (valid_yes _ _ _ H1.out).mono ?_
    rintro e w1 ⟨rfl, hb1⟩
    obtain ⟨hc1, hf1⟩ := bcell hb1
    have hz1 := hb1.size
    try simp at hz1
    have hz1b : w.heap.size + 1 < w1.heap.size := by omega
    have hz1a : w.heap.size < w1.heap.size := by omega
    go_wp2_with fail
    refine (valid_no _ _ _ H2.out).mono ?_
    rintro e w2 ⟨rfl, hb2⟩
    obtain ⟨hc2, hf2⟩ := bcell hb2
    have hz2 := hb2.size
    try simp at hz2
    have hz2b : w.heap.size + 1 < w2.heap.size := by omega
    have hz2a : w.heap.size < w2.heap.size := by omega
    go_wp2_with fail
    go_ret
    exact ⟨rfl, (by repeat (first | exact Below.refl _ _ | refine Below.setCell ?_ (by first | (simp; done) | (simp; omega) | omega) _ | refine Below.alloc ?_ (by first | (simp; done) | (simp; omega) | omega) _ | refine below_drewN ?_ _ | refine Below.trans ?_ (Below.mono ‹Below _ _ _› (by first | (simp; done) | (simp; omega) | omega))))⟩
  · have H1 := Lib.hid (show Fx.vb a b = false by simpa using h1); clear h1 h
    go_enter Try.func93, Try.ntmps93
    go_wp2_with fail
    refine (valid_no _ _ _ H1.out).mono ?_
    rintro e w1 ⟨rfl, hb1⟩
    obtain ⟨hc1, hf1⟩ := bcell hb1
    have hz1 := hb1.size
    try simp at hz1
    have hz1b : w.heap.size + 1 < w1.heap.size := by omega
    have hz1a : w.heap.size < w1.heap.size := by omega
    go_wp2_with fail
    go_ret
    exact ⟨rfl, (by repeat (first | exact Below.refl _ _ | refine Below.setCell ?_ (by first | (simp; done) | (simp; omega) | omega) _ | refine Below.alloc ?_ (by first | (simp; done) | (simp; omega) | omega) _ | refine below_drewN ?_ _ | refine Below.trans ?_ (Below.mono ‹Below _ _ _› (by first | (simp; done) | (simp; omega) | omega))))⟩

theorem limited_any (l h : Int) (w : World) :
    Calls Try.prog 80 #[.int .i64 l, .int .i64 h] w fun e w' => e = .returned (.agg #[.int .i64 (Fx.clamp l), .int .i64 (Fx.clamp h)]) ∧ Below w.heap.size w w' := by
  go_enter Try.func80, Try.ntmps80
  go_wp2_with fail
  refine (clamp_any _ _).mono ?_
  rintro e w' ⟨rfl, rfl⟩
  go_wp2_with fail
  refine (clamp_any _ _).mono ?_
  rintro e w' ⟨rfl, rfl⟩
  go_wp2_with fail
  exact bodyPost_ret (v := .agg #[.int .i64 (Fx.clamp l), .int .i64 (Fx.clamp h)]) (by simp [results, Try.results80, go_sem, *]) rfl ⟨rfl, (by repeat (first | exact Below.refl _ _ | refine Below.setCell ?_ (by first | (simp; done) | (simp; omega) | omega) _ | refine Below.alloc ?_ (by first | (simp; done) | (simp; omega) | omega) _ | refine below_drewN ?_ _ | refine Below.trans ?_ (Below.mono ‹Below _ _ _› (by first | (simp; done) | (simp; omega) | omega))))⟩

theorem rlimited_any (l h : Int) (w : World) :
    Calls Try.prog 85 #[.int .i64 l, .int .i64 h] w fun e w' => e = .returned (.agg #[.int .i64 (Fx.clamp l), .int .i64 (Fx.clamp h)]) ∧ Below w.heap.size w w' := by
  go_enter Try.func85, Try.ntmps85
  go_wp2_with fail
  refine (rclamp_any _ _).mono ?_
  rintro e w' ⟨rfl, rfl⟩
  go_wp2_with fail
  refine (rclamp_any _ _).mono ?_
  rintro e w' ⟨rfl, rfl⟩
  go_wp2_with fail
  exact bodyPost_ret (v := .agg #[.int .i64 (Fx.clamp l), .int .i64 (Fx.clamp h)]) (by simp [results, Try.results85, go_sem, *]) rfl ⟨rfl, (by repeat (first | exact Below.refl _ _ | refine Below.setCell ?_ (by first | (simp; done) | (simp; omega) | omega) _ | refine Below.alloc ?_ (by first | (simp; done) | (simp; omega) | omega) _ | refine below_drewN ?_ _ | refine Below.trans ?_ (Below.mono ‹Below _ _ _› (by first | (simp; done) | (simp; omega) | omega))))⟩

theorem of_any (x : Int) (w : World) :
    Calls Try.prog 65 #[.int .i64 x] w fun e w' => e = .returned (.agg #[.int .i64 (Fx.clamp x), .int .i64 (Fx.clamp x)]) ∧ Below w.heap.size w w' := by
  go_enter Try.func65, Try.ntmps65
  go_wp2_with fail
  refine (limited_any _ _ _).mono ?_
  rintro e w1 ⟨rfl, hb1⟩
  obtain ⟨hc1, hf1⟩ := bcell hb1
  have hz1 := hb1.size
  try simp at hz1
  have hz1a : w.heap.size < w1.heap.size := by omega
  go_wp2_with fail
  exact bodyPost_ret (v := .agg #[.int .i64 (Fx.clamp x), .int .i64 (Fx.clamp x)]) (by simp [results, Try.results65, go_sem, *]) rfl ⟨rfl, (by repeat (first | exact Below.refl _ _ | refine Below.setCell ?_ (by first | (simp; done) | (simp; omega) | omega) _ | refine Below.alloc ?_ (by first | (simp; done) | (simp; omega) | omega) _ | refine below_drewN ?_ _ | refine Below.trans ?_ (Below.mono ‹Below _ _ _› (by first | (simp; done) | (simp; omega) | omega))))⟩

theorem rof_any (x : Int) (w : World) :
    Calls Try.prog 50 #[.int .i64 x] w fun e w' => e = .returned (.agg #[.int .i64 (Fx.clamp x), .int .i64 (Fx.clamp x)]) ∧ Below w.heap.size w w' := by
  go_enter Try.func50, Try.ntmps50
  go_wp2_with fail
  refine (rclamp_any _ _).mono ?_
  rintro e w' ⟨rfl, rfl⟩
  go_wp2_with fail
  refine (rclamp_any _ _).mono ?_
  rintro e w' ⟨rfl, rfl⟩
  go_wp2_with fail
  exact bodyPost_ret (v := .agg #[.int .i64 (Fx.clamp x), .int .i64 (Fx.clamp x)]) (by simp [results, Try.results50, go_sem, *]) rfl ⟨rfl, (by repeat (first | exact Below.refl _ _ | refine Below.setCell ?_ (by first | (simp; done) | (simp; omega) | omega) _ | refine Below.alloc ?_ (by first | (simp; done) | (simp; omega) | omega) _ | refine below_drewN ?_ _ | refine Below.trans ?_ (Below.mono ‹Below _ _ _› (by first | (simp; done) | (simp; omega) | omega))))⟩

theorem add_any (a b c d : Int) (w : World) :
    Calls Try.prog 87 #[.agg #[.int .i64 a, .int .i64 b], .agg #[.int .i64 c, .int .i64 d]] w fun e w' => e = .returned (.agg #[.int .i64 (Fx.addLo a b c d), .int .i64 (Fx.addHi a b c d)]) ∧ Below w.heap.size w w' := by
  by_cases h : Fx.v2 a b c d = true
  · have H := Lib.hid h; clear h
    obtain ⟨u0, u1, u2⟩ := Fx.vb_true.1 (Fx.v2_true.1 H.out).1
    obtain ⟨v0, v1, v2⟩ := Fx.vb_true.1 (Fx.v2_true.1 H.out).2
    go_enter Try.func87, Try.ntmps87
    go_wp2_with fail
    refine (valid2_yes _ _ _ _ _ (Fx.v2_true.1 H.out).1 (Fx.v2_true.1 H.out).2).mono ?_
    rintro e w1 ⟨rfl, hb1⟩
    obtain ⟨hc1, hf1⟩ := bcell hb1
    have hz1 := hb1.size
    try simp at hz1
    have hz1c : w.heap.size + 1 + 1 < w1.heap.size := by omega
    have hz1b : w.heap.size + 1 < w1.heap.size := by omega
    have hz1a : w.heap.size < w1.heap.size := by omega
    go_wp2_with fail
    refine (limited_any _ _ _).mono ?_
    rintro e w2 ⟨rfl, hb2⟩
    obtain ⟨hc2, hf2⟩ := bcell hb2
    have hz2 := hb2.size
    try simp at hz2
    have hz2c : w.heap.size + 1 + 1 < w2.heap.size := by omega
    have hz2b : w.heap.size + 1 < w2.heap.size := by omega
    have hz2a : w.heap.size < w2.heap.size := by omega
    go_wp2_with fail
    exact bodyPost_ret (v := .agg #[.int .i64 (Fx.clamp (a + c)), .int .i64 (Fx.clamp (b + d))]) (by simp [results, Try.results87, go_sem, *]) rfl ⟨ret_iv (Fx.ite_yes H.out _) (Fx.ite_yes H.out _), (by repeat (first | exact Below.refl _ _ | refine Below.setCell ?_ (by first | (simp; done) | (simp; omega) | omega) _ | refine Below.alloc ?_ (by first | (simp; done) | (simp; omega) | omega) _ | refine below_drewN ?_ _ | refine Below.trans ?_ (Below.mono ‹Below _ _ _› (by first | (simp; done) | (simp; omega) | omega))))⟩
  · have H := Lib.hid (show Fx.v2 a b c d = false by simpa using h); clear h
    go_enter Try.func87, Try.ntmps87
    go_wp2_with fail
    refine (valid2_no _ _ _ _ _ H.out).mono ?_
    rintro e w1 ⟨rfl, hb1⟩
    obtain ⟨hc1, hf1⟩ := bcell hb1
    have hz1 := hb1.size
    try simp at hz1
    have hz1c : w.heap.size + 1 + 1 < w1.heap.size := by omega
    have hz1b : w.heap.size + 1 < w1.heap.size := by omega
    have hz1a : w.heap.size < w1.heap.size := by omega
    go_wp2_with fail
    exact bodyPost_ret (v := .agg #[.int .i64 0, .int .i64 0]) (by simp [results, Try.results87, go_sem, *]) rfl ⟨(ret_iv (Fx.ite_no H.out _) (Fx.ite_no H.out _)), (by repeat (first | exact Below.refl _ _ | refine Below.setCell ?_ (by first | (simp; done) | (simp; omega) | omega) _ | refine Below.alloc ?_ (by first | (simp; done) | (simp; omega) | omega) _ | refine below_drewN ?_ _ | refine Below.trans ?_ (Below.mono ‹Below _ _ _› (by first | (simp; done) | (simp; omega) | omega))))⟩





theorem radd_any (a b c d : Int) (w : World) :
    Calls Try.prog 75 #[.agg #[.int .i64 a, .int .i64 b], .agg #[.int .i64 c, .int .i64 d]] w fun e w' => e = .returned (.agg #[.int .i64 (Fx.addLo a b c d), .int .i64 (Fx.addHi a b c d)]) ∧ Below w.heap.size w w' := by
  by_cases h : Fx.v2 a b c d = true
  · have H := Lib.hid h; clear h
    obtain ⟨u0, u1, u2⟩ := Fx.vb_true.1 (Fx.v2_true.1 H.out).1
    obtain ⟨v0, v1, v2⟩ := Fx.vb_true.1 (Fx.v2_true.1 H.out).2
    go_enter Try.func75, Try.ntmps75
    go_wp2_with fail
    refine (rvalid_yes _ _ _ (Fx.v2_true.1 H.out).1).mono ?_
    rintro e w1 ⟨rfl, hb1⟩
    obtain ⟨hc1, hf1⟩ := bcell hb1
    have hz1 := hb1.size
    try simp at hz1
    have hz1c : w.heap.size + 1 + 1 < w1.heap.size := by omega
    have hz1b : w.heap.size + 1 < w1.heap.size := by omega
    have hz1a : w.heap.size < w1.heap.size := by omega
    go_wp2_with fail
    refine (rvalid_yes _ _ _ (Fx.v2_true.1 H.out).2).mono ?_
    rintro e w2 ⟨rfl, hb2⟩
    obtain ⟨hc2, hf2⟩ := bcell hb2
    have hz2 := hb2.size
    try simp at hz2
    have hz2c : w.heap.size + 1 + 1 < w2.heap.size := by omega
    have hz2b : w.heap.size + 1 < w2.heap.size := by omega
    have hz2a : w.heap.size < w2.heap.size := by omega
    go_wp2_with fail
    refine (rlimited_any _ _ _).mono ?_
    rintro e w3 ⟨rfl, hb3⟩
    obtain ⟨hc3, hf3⟩ := bcell hb3
    have hz3 := hb3.size
    try simp at hz3
    have hz3c : w.heap.size + 1 + 1 < w3.heap.size := by omega
    have hz3b : w.heap.size + 1 < w3.heap.size := by omega
    have hz3a : w.heap.size < w3.heap.size := by omega
    go_wp2_with fail
    exact bodyPost_ret (v := .agg #[.int .i64 (Fx.clamp (a + c)), .int .i64 (Fx.clamp (b + d))]) (by simp [results, Try.results75, go_sem, *]) rfl ⟨ret_iv (Fx.ite_yes H.out _) (Fx.ite_yes H.out _), (by repeat (first | exact Below.refl _ _ | refine Below.setCell ?_ (by first | (simp; done) | (simp; omega) | omega) _ | refine Below.alloc ?_ (by first | (simp; done) | (simp; omega) | omega) _ | refine below_drewN ?_ _ | refine Below.trans ?_ (Below.mono ‹Below _ _ _› (by first | (simp; done) | (simp; omega) | omega))))⟩
  · have H := Lib.hid (show Fx.v2 a b c d = false by simpa using h); clear h
    by_cases h1 : Fx.vb a b = true
    · have H1 := Lib.hid h1
      have H2 := Lib.hid (show Fx.vb c d = false by have := H.out; unfold Fx.v2 at this; rw [h1] at this; simpa using this); clear h1
      go_enter Try.func75, Try.ntmps75
      go_wp2_with fail
      refine (rvalid_yes _ _ _ H1.out).mono ?_
      rintro e w1 ⟨rfl, hb1⟩
      obtain ⟨hc1, hf1⟩ := bcell hb1
      have hz1 := hb1.size
      try simp at hz1
      have hz1c : w.heap.size + 1 + 1 < w1.heap.size := by omega
      have hz1b : w.heap.size + 1 < w1.heap.size := by omega
      have hz1a : w.heap.size < w1.heap.size := by omega
      go_wp2_with fail
      refine (rvalid_no _ _ _ H2.out).mono ?_
      rintro e w2 ⟨rfl, hb2⟩
      obtain ⟨hc2, hf2⟩ := bcell hb2
      have hz2 := hb2.size
      try simp at hz2
      have hz2c : w.heap.size + 1 + 1 < w2.heap.size := by omega
      have hz2b : w.heap.size + 1 < w2.heap.size := by omega
      have hz2a : w.heap.size < w2.heap.size := by omega
      go_wp2_with fail
      exact bodyPost_ret (v := .agg #[.int .i64 0, .int .i64 0]) (by simp [results, Try.results75, go_sem, *]) rfl ⟨(ret_iv (Fx.ite_no H.out _) (Fx.ite_no H.out _)), (by repeat (first | exact Below.refl _ _ | refine Below.setCell ?_ (by first | (simp; done) | (simp; omega) | omega) _ | refine Below.alloc ?_ (by first | (simp; done) | (simp; omega) | omega) _ | refine below_drewN ?_ _ | refine Below.trans ?_ (Below.mono ‹Below _ _ _› (by first | (simp; done) | (simp; omega) | omega))))⟩
    · have H1 := Lib.hid (show Fx.vb a b = false by simpa using h1); clear h1
      go_enter Try.func75, Try.ntmps75
      go_wp2_with fail
      refine (rvalid_no _ _ _ H1.out).mono ?_
      rintro e w1 ⟨rfl, hb1⟩
      obtain ⟨hc1, hf1⟩ := bcell hb1
      have hz1 := hb1.size
      try simp at hz1
      have hz1c : w.heap.size + 1 + 1 < w1.heap.size := by omega
      have hz1b : w.heap.size + 1 < w1.heap.size := by omega
      have hz1a : w.heap.size < w1.heap.size := by omega
      go_wp2_with fail
      exact bodyPost_ret (v := .agg #[.int .i64 0, .int .i64 0]) (by simp [results, Try.results75, go_sem, *]) rfl ⟨(ret_iv (Fx.ite_no H.out _) (Fx.ite_no H.out _)), (by repeat (first | exact Below.refl _ _ | refine Below.setCell ?_ (by first | (simp; done) | (simp; omega) | omega) _ | refine Below.alloc ?_ (by first | (simp; done) | (simp; omega) | omega) _ | refine below_drewN ?_ _ | refine Below.trans ?_ (Below.mono ‹Below _ _ _› (by first | (simp; done) | (simp; omega) | omega))))⟩



theorem rhull_any (a b c d : Int) (w : World) :
    Calls Try.prog 52 #[.agg #[.int .i64 a, .int .i64 b], .agg #[.int .i64 c, .int .i64 d]] w fun e w' => e = .returned (.agg #[.int .i64 (Fx.hullLo a b c d), .int .i64 (Fx.hullHi a b c d)]) ∧ Below w.heap.size w w' := by
  by_cases h : Fx.v2 a b c d = true
  · have H := Lib.hid h; clear h
    obtain ⟨u0, u1, u2⟩ := Fx.vb_true.1 (Fx.v2_true.1 H.out).1
    obtain ⟨v0, v1, v2⟩ := Fx.vb_true.1 (Fx.v2_true.1 H.out).2
    go_enter Try.func52, Try.ntmps52
    go_wp2_with fail
    refine (rvalid_yes _ _ _ (Fx.v2_true.1 H.out).1).mono ?_
    rintro e w1 ⟨rfl, hb1⟩
    obtain ⟨hc1, hf1⟩ := bcell hb1
    have hz1 := hb1.size
    try simp at hz1
    have hz1c : w.heap.size + 1 + 1 < w1.heap.size := by omega
    have hz1b : w.heap.size + 1 < w1.heap.size := by omega
    have hz1a : w.heap.size < w1.heap.size := by omega
    go_wp2_with fail
    refine (rvalid_yes _ _ _ (Fx.v2_true.1 H.out).2).mono ?_
    rintro e w2 ⟨rfl, hb2⟩
    obtain ⟨hc2, hf2⟩ := bcell hb2
    have hz2 := hb2.size
    try simp at hz2
    have hz2c : w.heap.size + 1 + 1 < w2.heap.size := by omega
    have hz2b : w.heap.size + 1 < w2.heap.size := by omega
    have hz2a : w.heap.size < w2.heap.size := by omega
    go_wp2_with fail
    exact bodyPost_ret (v := .agg #[.int .i64 (min a c), .int .i64 (max b d)]) (by simp [results, Try.results52, go_sem, *]) rfl ⟨ret_iv (Fx.ite_yes H.out _) (Fx.ite_yes H.out _), (by repeat (first | exact Below.refl _ _ | refine Below.setCell ?_ (by first | (simp; done) | (simp; omega) | omega) _ | refine Below.alloc ?_ (by first | (simp; done) | (simp; omega) | omega) _ | refine below_drewN ?_ _ | refine Below.trans ?_ (Below.mono ‹Below _ _ _› (by first | (simp; done) | (simp; omega) | omega))))⟩
  · have H := Lib.hid (show Fx.v2 a b c d = false by simpa using h); clear h
    by_cases h1 : Fx.vb a b = true
    · have H1 := Lib.hid h1
      have H2 := Lib.hid (show Fx.vb c d = false by have := H.out; unfold Fx.v2 at this; rw [h1] at this; simpa using this); clear h1
      go_enter Try.func52, Try.ntmps52
      go_wp2_with fail
      refine (rvalid_yes _ _ _ H1.out).mono ?_
      rintro e w1 ⟨rfl, hb1⟩
      obtain ⟨hc1, hf1⟩ := bcell hb1
      have hz1 := hb1.size
      try simp at hz1
      have hz1c : w.heap.size + 1 + 1 < w1.heap.size := by omega
      have hz1b : w.heap.size + 1 < w1.heap.size := by omega
      have hz1a : w.heap.size < w1.heap.size := by omega
      go_wp2_with fail
      refine (rvalid_no _ _ _ H2.out).mono ?_
      rintro e w2 ⟨rfl, hb2⟩
      obtain ⟨hc2, hf2⟩ := bcell hb2
      have hz2 := hb2.size
      try simp at hz2
      have hz2c : w.heap.size + 1 + 1 < w2.heap.size := by omega
      have hz2b : w.heap.size + 1 < w2.heap.size := by omega
      have hz2a : w.heap.size < w2.heap.size := by omega
      go_wp2_with fail
      exact bodyPost_ret (v := .agg #[.int .i64 0, .int .i64 0]) (by simp [results, Try.results52, go_sem, *]) rfl ⟨(ret_iv (Fx.ite_no H.out _) (Fx.ite_no H.out _)), (by repeat (first | exact Below.refl _ _ | refine Below.setCell ?_ (by first | (simp; done) | (simp; omega) | omega) _ | refine Below.alloc ?_ (by first | (simp; done) | (simp; omega) | omega) _ | refine below_drewN ?_ _ | refine Below.trans ?_ (Below.mono ‹Below _ _ _› (by first | (simp; done) | (simp; omega) | omega))))⟩
    · have H1 := Lib.hid (show Fx.vb a b = false by simpa using h1); clear h1
      go_enter Try.func52, Try.ntmps52
      go_wp2_with fail
      refine (rvalid_no _ _ _ H1.out).mono ?_
      rintro e w1 ⟨rfl, hb1⟩
      obtain ⟨hc1, hf1⟩ := bcell hb1
      have hz1 := hb1.size
      try simp at hz1
      have hz1c : w.heap.size + 1 + 1 < w1.heap.size := by omega
      have hz1b : w.heap.size + 1 < w1.heap.size := by omega
      have hz1a : w.heap.size < w1.heap.size := by omega
      go_wp2_with fail
      exact bodyPost_ret (v := .agg #[.int .i64 0, .int .i64 0]) (by simp [results, Try.results52, go_sem, *]) rfl ⟨(ret_iv (Fx.ite_no H.out _) (Fx.ite_no H.out _)), (by repeat (first | exact Below.refl _ _ | refine Below.setCell ?_ (by first | (simp; done) | (simp; omega) | omega) _ | refine Below.alloc ?_ (by first | (simp; done) | (simp; omega) | omega) _ | refine below_drewN ?_ _ | refine Below.trans ?_ (Below.mono ‹Below _ _ _› (by first | (simp; done) | (simp; omega) | omega))))⟩

end Go.Proofs.Ytgnjconhbloocaa
