/- Contracts of the reference's meets and over. A region that draws its order, walked under an invariant of its states. Contract of the reference's Turn: a matrix of valid intervals from -1 to 1 is returned. Contracts of the reference's Unit, TurnPose and Shift. Contract of the reference's Shift. -/
import Derived.Test.YtgnjconhbloocaaBunM5
namespace Go.Proofs.Ytgnjconhbloocaa
open Go.RowKit
set_option linter.unusedVariables false

def Fx.modT (a : Int) : Int := (a.tmod 65536 + 65536) % 65536
theorem Fx.modT_bd (a : Int) : 0 ≤ Fx.modT a ∧ Fx.modT a < 65536 := by unfold Fx.modT; omega
theorem mod_ex (a : Int) (w : World) (h0 : -9223372036854775808 ≤ a) (h1 : a ≤ 9223372036854775807) :
    Calls Try.prog 91 #[.int .i64 a] w fun e w' => e = .returned (.int .i64 (Fx.modT a)) ∧ w = w' := by
  have b1 := Fx.tmod_bd a 65536 (by omega)
  unfold Fx.modT
  go_enter Try.func91, Try.ntmps91
  generalize hr : a.tmod 65536 = r at *
  go_wp2_with fail
  go_ret
  exact ⟨rfl, rfl⟩

set_option maxRecDepth 100000 in
theorem meets_any (a b c : Int) (w : World) (hv : Fx.vb a b = true) (hc0 : 0 ≤ c) (hc1 : c ≤ 65536) :
    Calls Try.prog 90 #[.agg #[.int .i64 a, .int .i64 b], .int .i64 c] w fun e w' => ∃ t : Bool, e = .returned (.bool t) ∧ Below w.heap.size w w' := by
  obtain ⟨u0, u1, u2⟩ := Fx.vb_true.1 hv
  clear hv
  have hm := Fx.modT_bd (c - a)
  go_enter Try.func90, Try.ntmps90
  go_wp2_with fail
  go_quiet ((go_at_call 91; exact qsame (mod_ex _ _ (by omega) (by omega))))
  go_wp2_with fail
  go_ret
  exact ⟨_, rfl, (by repeat (first | assumption | exact ext_refl _ | refine ext_alloc ?_ _ | refine ext_drewN ?_ _ | refine ext_drew ?_ | refine ext_set ?_ (by first | (simp; done) | (simp; omega) | omega) _ | refine ext_trans ?_ ‹Below _ _ _›))⟩

theorem hull_unit {a b c d : Int} (h1 : -65536 ≤ a ∧ a ≤ b ∧ b ≤ 65536) (h2 : -65536 ≤ c ∧ c ≤ d ∧ d ≤ 65536) : Fx.hullLo a b c d = min a c ∧ Fx.hullHi a b c d = max b d := hull_in a b c d (by omega) (by omega)

/-- What stays in over: the angles, and the result's place. -/
def KeepO (w : World) (a b : Int) (g : Nat) (x y : Int) (w' : World) : Prop :=
  Whole w' w.heap.size 32 #[.int .i64 a, .int .i64 b] ∧ Whole w' (w.heap.size + 1 + 1 + 1) 32 #[.int .i64 0, .int .i64 0] ∧ Whole w' g 32 #[.int .i64 x, .int .i64 y] ∧ w.heap.size + 1 + 1 + 1 < g ∧ Below w.heap.size w w'
theorem KeepO.step {w : World} {a b x y : Int} {g : Nat} {w1 w2 : World} (h : KeepO w a b g x y w1) (hb : Below w1.heap.size w1 w2) : KeepO w a b g x y w2 := ⟨h.1.ext hb, h.2.1.ext hb, h.2.2.1.ext hb, h.2.2.2.1, ext_trans h.2.2.2.2 hb⟩
theorem KeepO.set {w : World} {a b x y x' y' : Int} {g : Nat} {w1 : World} (h : KeepO w a b g x y w1) : KeepO w a b g x' y' (w1.setCells g 0 [.int .i64 x', .int .i64 y']) :=
  ⟨h.1.farN _ (by have := h.2.2.2.1; omega) 0, h.2.1.farN _ (by have := h.2.2.2.1; omega) 0, h.2.2.1.store2 0 _ _ rfl, h.2.2.2.1, ext_setN _ h.2.2.2.2 (by have := h.2.2.2.1; omega) 0⟩

set_option maxRecDepth 100000 in
set_option maxHeartbeats 2000000 in
theorem over_any (a b l1 h1 l2 h2 top bot : Int) (w : World) (hv : Fx.vb a b = true) (hu1 : -65536 ≤ l1 ∧ l1 ≤ h1 ∧ h1 ≤ 65536) (hu2 : -65536 ≤ l2 ∧ l2 ≤ h2 ∧ h2 ≤ 65536) (ht : 0 ≤ top ∧ top ≤ 65536) (hbt : 0 ≤ bot ∧ bot ≤ 65536) :
    Calls Try.prog 82 #[.agg #[.int .i64 a, .int .i64 b], .agg #[.int .i64 l1, .int .i64 h1], .agg #[.int .i64 l2, .int .i64 h2], .int .i64 top, .int .i64 bot] w (PartOf (-65536) 65536 w) := by
  obtain ⟨v0, v1, v2⟩ := Fx.vb_true.1 hv
  have HV := Lib.hid hv
  clear hv
  go_enter Try.func82, Try.ntmps82
  go_wp2_with fail
  have h4 := blocks4 w 32 32 32 32 #[.int .i64 a, .int .i64 b] #[.int .i64 l1, .int .i64 h1] #[.int .i64 l2, .int .i64 h2] #[.int .i64 0, .int .i64 0]
  generalize (((w.alloc (.cells #[.int .i64 a, .int .i64 b] 32)).alloc (.cells #[.int .i64 l1, .int .i64 h1] 32)).alloc (.cells #[.int .i64 l2, .int .i64 h2] 32)).alloc (.cells #[.int .i64 0, .int .i64 0] 32) = w0 at *
  obtain ⟨hA, hB, hC, hD, hb0⟩ := h4
  refine (rvalid_yes a b _ HV.out).mono ?_
  rintro e w1 ⟨rfl, hb1⟩
  have hA1 := hA.ext hb1; have hB1 := hB.ext hb1; have hC1 := hC.ext hb1; have hD1 := hD.ext hb1
  have hE1 := ext_trans hb0 hb1
  have p0 : w1.cell? ⟨w.heap.size, 0, none⟩ = some (.int .i64 a) := hA1.cell 0
  have p1 : w1.cell? ⟨w.heap.size, 1, none⟩ = some (.int .i64 b) := hA1.cell 1
  have p2 : w1.cell? ⟨w.heap.size + 1, 0, none⟩ = some (.int .i64 l1) := hB1.cell 0
  have p3 : w1.cell? ⟨w.heap.size + 1, 1, none⟩ = some (.int .i64 h1) := hB1.cell 1
  have p4 : w1.cell? ⟨w.heap.size + 1 + 1, 0, none⟩ = some (.int .i64 l2) := hC1.cell 0
  have p5 : w1.cell? ⟨w.heap.size + 1 + 1, 1, none⟩ = some (.int .i64 h2) := hC1.cell 1
  have p6 : w1.cell? ⟨w.heap.size + 1 + 1 + 1, 0, none⟩ = some (.int .i64 0) := hD1.cell 0
  have p7 : w1.cell? ⟨w.heap.size + 1 + 1 + 1, 1, none⟩ = some (.int .i64 0) := hD1.cell 1
  have f6 := hD1.frozen 0
  have f7 := hD1.frozen 1
  have HA1 := Lib.hid hA1; have HD1 := Lib.hid hD1
  clear hA hB hC hD hb0 hb1 hA1 hB1 hC1 hD1
  by_cases hw : 65536 ≤ b - a
  · have d1 : decide (65536 ≤ b - a) = true := by simp; omega
    have HF := Lib.hid (HD1.out.store2 0 (.int .i64 (-65536)) (.int .i64 65536) rfl)
    have hB5 := ext_setN [.int .i64 (-65536), .int .i64 65536] hE1 (show w.heap.size ≤ w.heap.size + 1 + 1 + 1 by omega) 0
    go_wp2_with fail
    exact bodyPost_ret (ret_cell Try.results82 rfl HF.out Try.underlying32 rfl (by kernel_rfl)) rfl ⟨_, _, by omega, by omega, by omega, rfl, hB5⟩
  · have d1 : decide (65536 ≤ b - a) = false := by simp; omega
    go_wp2_with fail
    refine (rhull_any l1 h1 l2 h2 _).mono ?_
    rintro e w2 ⟨rfl, hb2⟩
    rw [(hull_unit hu1 hu2).1, (hull_unit hu1 hu2).2]
    obtain ⟨x, hx⟩ : ∃ x : Int, x = min l1 l2 := ⟨_, rfl⟩
    obtain ⟨y, hy⟩ : ∃ y : Int, y = max h1 h2 := ⟨_, rfl⟩
    rw [← hx, ← hy]
    have hxy : -65536 ≤ x ∧ x ≤ y ∧ y ≤ 65536 := by omega
    have hzz : w.heap.size + 1 + 1 + 1 < w2.heap.size := Nat.lt_of_lt_of_le HD1.out.lt hb2.size
    have HK0 : Hid (KeepO w a b w2.heap.size x y (w2.alloc (.cells #[.int .i64 x, .int .i64 y] 32))) := Lib.hid ⟨(HA1.out.ext hb2).alloc _, (HD1.out.ext hb2).alloc _, Whole.new _ _ _, hzz, ext_alloc (ext_trans hE1 hb2) _⟩
    have q0 : (w2.alloc (.cells #[.int .i64 x, .int .i64 y] 32)).cell? ⟨w.heap.size, 0, none⟩ = some (.int .i64 a) := HK0.out.1.cell 0
    have q1 : (w2.alloc (.cells #[.int .i64 x, .int .i64 y] 32)).cell? ⟨w.heap.size, 1, none⟩ = some (.int .i64 b) := HK0.out.1.cell 1
    clear hx hy p0 p1 p2 p3 p4 p5 p6 p7 f6 f7 HA1 HD1 hb2 hE1 hzz
    go_wp2_with fail
    clear q0 q1
    generalize w2.alloc (.cells #[.int .i64 x, .int .i64 y] 32) = w3 at *
    generalize w2.heap.size = g at *
    refine (meets_any a b top _ HV.out ht.1 ht.2).mono ?_
    rintro e w4 ⟨t1, rfl, hb4⟩
    have HK4 := Lib.hid (HK0.out.step hb4)
    clear HK0 hb4
    cases t1
    · skip
      have q0 : w4.cell? ⟨w.heap.size, 0, none⟩ = some (.int .i64 a) := HK4.out.1.cell 0
      have q1 : w4.cell? ⟨w.heap.size, 1, none⟩ = some (.int .i64 b) := HK4.out.1.cell 1
      go_wp2_with fail
      clear q0 q1
      refine (meets_any a b bot _ HV.out hbt.1 hbt.2).mono ?_
      rintro e w6 ⟨t2, rfl, hb6⟩
      have HK6 := Lib.hid (HK4.out.step hb6)
      clear HK4 hb6
      cases t2
      · skip
        have s0 : w6.cell? ⟨g, 0, none⟩ = some (.int .i64 x) := HK6.out.2.2.1.cell 0
        have s1 : w6.cell? ⟨g, 1, none⟩ = some (.int .i64 y) := HK6.out.2.2.1.cell 1
        have r0 : w6.cell? ⟨w.heap.size + 1 + 1 + 1, 0, none⟩ = some (.int .i64 0) := HK6.out.2.1.cell 0
        have r1 : w6.cell? ⟨w.heap.size + 1 + 1 + 1, 1, none⟩ = some (.int .i64 0) := HK6.out.2.1.cell 1
        have f0 := HK6.out.2.1.frozen 0
        have f1 := HK6.out.2.1.frozen 1
        have HF := Lib.hid (HK6.out.2.1.store2 0 (.int .i64 x) (.int .i64 y) rfl)
        have hB5 := ext_setN [.int .i64 x, .int .i64 y] HK6.out.2.2.2.2 (show w.heap.size ≤ w.heap.size + 1 + 1 + 1 by omega) 0
        go_wp2_with fail
        exact bodyPost_ret (ret_cell Try.results82 rfl HF.out Try.underlying32 rfl (by kernel_rfl)) rfl ⟨_, _, hxy.1, hxy.2.1, hxy.2.2, rfl, hB5⟩
      · go_wp2_with fail
        have hG7 := HK6.out.2.2.1.lt
        refine wp_region_noPanic ?_
        refine wp_region_until_drew (k := 3) (S := fun w' => Below w6.heap.size w6 w') (by kernel_rfl) (ext_drew (ext_refl _)) (fun hHeld => ?_)
        refine wpAnyU_take (i := 0) (by simp only [List.getElem?_toArray, List.getElem?_cons_succ, List.getElem?_cons_zero]; rfl) (by kernel_rfl) (by kernel_rfl) (by kernel_rfl) (by kernel_rfl) (by kernel_rfl) (fun _ _ _ h => h) (yields_load (by rfl) _ _ rfl g (0) (by rfl) [.int .i64 x, .int .i64 y] _ HK6.out.2.2.1.all hG7 Try.underlying32 rfl (by kernel_rfl)) (by assumption) ?_
        try simp only [Act.put, List.setIfInBounds_toArray, List.set_cons_zero, List.set_cons_succ]
        refine wpAnyU_ready (rs := [1]) (by kernel_rfl) (by simp) ?_
        refine AllReadyU.cons (by simp only [List.getElem?_toArray, List.getElem?_cons_succ, List.getElem?_cons_zero]; rfl) (fun K hK => ?_) AllReadyU.nil
        go_simp
        refine (rof_any (-65536) _).mono ?_
        rintro e w_1 ⟨rfl, hb_1⟩
        have hHeld' := ext_trans hHeld hb_1
        clear hHeld hb_1
        go_wp2_with fail
        refine hK.out _ _ hHeld' (fun hHeld => ?_)
        clear hK K hHeld'
        try simp only [Act.put, List.setIfInBounds_toArray, List.set_cons_zero, List.set_cons_succ]
        rw [show Fx.clamp (-65536) = -65536 from rfl]
        refine wpAnyU_ready (rs := [2]) (by kernel_rfl) (by simp) ?_
        refine AllReadyU.cons (by simp only [List.getElem?_toArray, List.getElem?_cons_succ, List.getElem?_cons_zero]; rfl) (fun K hK => ?_) AllReadyU.nil
        go_simp
        refine (rhull_any x y (-65536) (-65536) _).mono ?_
        rintro e w_2 ⟨rfl, hb_2⟩
        have hHeld' := ext_trans hHeld hb_2
        clear hHeld hb_2
        go_wp2_with fail
        refine hK.out _ _ hHeld' (fun hHeld => ?_)
        clear hK K hHeld'
        try simp only [Act.put, List.setIfInBounds_toArray, List.set_cons_zero, List.set_cons_succ]
        rw [(hull_unit hxy (show (-65536 : Int) ≤ -65536 ∧ (-65536 : Int) ≤ -65536 ∧ (-65536 : Int) ≤ 65536 by omega)).1, (hull_unit hxy (show (-65536 : Int) ≤ -65536 ∧ (-65536 : Int) ≤ -65536 ∧ (-65536 : Int) ≤ 65536 by omega)).2]
        obtain ⟨x7, hx7⟩ : ∃ z : Int, z = min x (-65536) := ⟨_, rfl⟩
        obtain ⟨y7, hy7⟩ : ∃ z : Int, z = max y (-65536) := ⟨_, rfl⟩
        rw [← hx7, ← hy7]
        have hxy7 : -65536 ≤ x7 ∧ x7 ≤ y7 ∧ y7 ≤ 65536 := by omega
        have HK7s := Lib.hid (HK6.out.step hHeld)
        clear hx7 hy7 hHeld
        refine wpAnyU_ready (rs := [3]) (by kernel_rfl) (by simp) ?_
        refine AllReadyU.last (by simp only [List.getElem?_toArray, List.getElem?_cons_succ, List.getElem?_cons_zero]; rfl) (fun K hK => ?_) AllReadyU.nil
        rw [if_pos (by rfl)]
        refine wp_store_mid _ _ _ rfl g 0 #[.int .i64 x7, .int .i64 y7] rfl rfl (there_all HK7s.out.2.2.1 2 (by simp)) (by kernel_rfl) (two_one _ _) ?_
        have HK7n := Lib.hid (KeepO.set (x' := x7) (y' := y7) HK7s.out)
        generalize w_2.setCells g 0 [.int .i64 x7, .int .i64 y7] = w7n at *
        refine hK.out _ _ ?_
        clear hK K HK7s
        try simp only [Act.put, List.setIfInBounds_toArray, List.set_cons_zero, List.set_cons_succ]
        refine wpAnyU_done (by kernel_rfl) ?_ _
        refine NoPanic.normal ?_
        have s0 : w7n.cell? ⟨g, 0, none⟩ = some (.int .i64 x7) := HK7n.out.2.2.1.cell 0
        have s1 : w7n.cell? ⟨g, 1, none⟩ = some (.int .i64 y7) := HK7n.out.2.2.1.cell 1
        have r0 : w7n.cell? ⟨w.heap.size + 1 + 1 + 1, 0, none⟩ = some (.int .i64 0) := HK7n.out.2.1.cell 0
        have r1 : w7n.cell? ⟨w.heap.size + 1 + 1 + 1, 1, none⟩ = some (.int .i64 0) := HK7n.out.2.1.cell 1
        have f0 := HK7n.out.2.1.frozen 0
        have f1 := HK7n.out.2.1.frozen 1
        have HF := Lib.hid (HK7n.out.2.1.store2 0 (.int .i64 x7) (.int .i64 y7) rfl)
        have hB5 := ext_setN [.int .i64 x7, .int .i64 y7] HK7n.out.2.2.2.2 (show w.heap.size ≤ w.heap.size + 1 + 1 + 1 by omega) 0
        go_wp2_with fail
        exact bodyPost_ret (ret_cell Try.results82 rfl HF.out Try.underlying32 rfl (by kernel_rfl)) rfl ⟨_, _, hxy7.1, hxy7.2.1, hxy7.2.2, rfl, hB5⟩
    · go_wp2_with fail
      have hG5 := HK4.out.2.2.1.lt
      refine wp_region_noPanic ?_
      refine wp_region_until_drew (k := 3) (S := fun w' => Below w4.heap.size w4 w') (by kernel_rfl) (ext_drew (ext_refl _)) (fun hHeld => ?_)
      refine wpAnyU_take (i := 0) (by simp only [List.getElem?_toArray, List.getElem?_cons_succ, List.getElem?_cons_zero]; rfl) (by kernel_rfl) (by kernel_rfl) (by kernel_rfl) (by kernel_rfl) (by kernel_rfl) (fun _ _ _ h => h) (yields_load (by rfl) _ _ rfl g (0) (by rfl) [.int .i64 x, .int .i64 y] _ HK4.out.2.2.1.all hG5 Try.underlying32 rfl (by kernel_rfl)) (by assumption) ?_
      try simp only [Act.put, List.setIfInBounds_toArray, List.set_cons_zero, List.set_cons_succ]
      refine wpAnyU_ready (rs := [1]) (by kernel_rfl) (by simp) ?_
      refine AllReadyU.cons (by simp only [List.getElem?_toArray, List.getElem?_cons_succ, List.getElem?_cons_zero]; rfl) (fun K hK => ?_) AllReadyU.nil
      go_simp
      refine (rof_any (65536) _).mono ?_
      rintro e w_1 ⟨rfl, hb_1⟩
      have hHeld' := ext_trans hHeld hb_1
      clear hHeld hb_1
      go_wp2_with fail
      refine hK.out _ _ hHeld' (fun hHeld => ?_)
      clear hK K hHeld'
      try simp only [Act.put, List.setIfInBounds_toArray, List.set_cons_zero, List.set_cons_succ]
      rw [show Fx.clamp (65536) = 65536 from rfl]
      refine wpAnyU_ready (rs := [2]) (by kernel_rfl) (by simp) ?_
      refine AllReadyU.cons (by simp only [List.getElem?_toArray, List.getElem?_cons_succ, List.getElem?_cons_zero]; rfl) (fun K hK => ?_) AllReadyU.nil
      go_simp
      refine (rhull_any x y (65536) (65536) _).mono ?_
      rintro e w_2 ⟨rfl, hb_2⟩
      have hHeld' := ext_trans hHeld hb_2
      clear hHeld hb_2
      go_wp2_with fail
      refine hK.out _ _ hHeld' (fun hHeld => ?_)
      clear hK K hHeld'
      try simp only [Act.put, List.setIfInBounds_toArray, List.set_cons_zero, List.set_cons_succ]
      rw [(hull_unit hxy (show (-65536 : Int) ≤ 65536 ∧ (65536 : Int) ≤ 65536 ∧ (65536 : Int) ≤ 65536 by omega)).1, (hull_unit hxy (show (-65536 : Int) ≤ 65536 ∧ (65536 : Int) ≤ 65536 ∧ (65536 : Int) ≤ 65536 by omega)).2]
      obtain ⟨x5, hx5⟩ : ∃ z : Int, z = min x (65536) := ⟨_, rfl⟩
      obtain ⟨y5, hy5⟩ : ∃ z : Int, z = max y (65536) := ⟨_, rfl⟩
      rw [← hx5, ← hy5]
      have hxy5 : -65536 ≤ x5 ∧ x5 ≤ y5 ∧ y5 ≤ 65536 := by omega
      have HK5s := Lib.hid (HK4.out.step hHeld)
      clear hx5 hy5 hHeld
      refine wpAnyU_ready (rs := [3]) (by kernel_rfl) (by simp) ?_
      refine AllReadyU.last (by simp only [List.getElem?_toArray, List.getElem?_cons_succ, List.getElem?_cons_zero]; rfl) (fun K hK => ?_) AllReadyU.nil
      rw [if_pos (by rfl)]
      refine wp_store_mid _ _ _ rfl g 0 #[.int .i64 x5, .int .i64 y5] rfl rfl (there_all HK5s.out.2.2.1 2 (by simp)) (by kernel_rfl) (two_one _ _) ?_
      have HK5n := Lib.hid (KeepO.set (x' := x5) (y' := y5) HK5s.out)
      generalize w_2.setCells g 0 [.int .i64 x5, .int .i64 y5] = w5n at *
      refine hK.out _ _ ?_
      clear hK K HK5s
      try simp only [Act.put, List.setIfInBounds_toArray, List.set_cons_zero, List.set_cons_succ]
      refine wpAnyU_done (by kernel_rfl) ?_ _
      refine NoPanic.normal ?_
      have q0 : w5n.cell? ⟨w.heap.size, 0, none⟩ = some (.int .i64 a) := HK5n.out.1.cell 0
      have q1 : w5n.cell? ⟨w.heap.size, 1, none⟩ = some (.int .i64 b) := HK5n.out.1.cell 1
      go_wp2_with fail
      clear q0 q1
      refine (meets_any a b bot _ HV.out hbt.1 hbt.2).mono ?_
      rintro e w6 ⟨t2, rfl, hb6⟩
      have HK6 := Lib.hid (HK5n.out.step hb6)
      clear HK5n hb6
      cases t2
      · skip
        have s0 : w6.cell? ⟨g, 0, none⟩ = some (.int .i64 x5) := HK6.out.2.2.1.cell 0
        have s1 : w6.cell? ⟨g, 1, none⟩ = some (.int .i64 y5) := HK6.out.2.2.1.cell 1
        have r0 : w6.cell? ⟨w.heap.size + 1 + 1 + 1, 0, none⟩ = some (.int .i64 0) := HK6.out.2.1.cell 0
        have r1 : w6.cell? ⟨w.heap.size + 1 + 1 + 1, 1, none⟩ = some (.int .i64 0) := HK6.out.2.1.cell 1
        have f0 := HK6.out.2.1.frozen 0
        have f1 := HK6.out.2.1.frozen 1
        have HF := Lib.hid (HK6.out.2.1.store2 0 (.int .i64 x5) (.int .i64 y5) rfl)
        have hB5 := ext_setN [.int .i64 x5, .int .i64 y5] HK6.out.2.2.2.2 (show w.heap.size ≤ w.heap.size + 1 + 1 + 1 by omega) 0
        go_wp2_with fail
        exact bodyPost_ret (ret_cell Try.results82 rfl HF.out Try.underlying32 rfl (by kernel_rfl)) rfl ⟨_, _, hxy5.1, hxy5.2.1, hxy5.2.2, rfl, hB5⟩
      · go_wp2_with fail
        have hG7 := HK6.out.2.2.1.lt
        refine wp_region_noPanic ?_
        refine wp_region_until_drew (k := 3) (S := fun w' => Below w6.heap.size w6 w') (by kernel_rfl) (ext_drew (ext_refl _)) (fun hHeld => ?_)
        refine wpAnyU_take (i := 0) (by simp only [List.getElem?_toArray, List.getElem?_cons_succ, List.getElem?_cons_zero]; rfl) (by kernel_rfl) (by kernel_rfl) (by kernel_rfl) (by kernel_rfl) (by kernel_rfl) (fun _ _ _ h => h) (yields_load (by rfl) _ _ rfl g (0) (by rfl) [.int .i64 x5, .int .i64 y5] _ HK6.out.2.2.1.all hG7 Try.underlying32 rfl (by kernel_rfl)) (by assumption) ?_
        try simp only [Act.put, List.setIfInBounds_toArray, List.set_cons_zero, List.set_cons_succ]
        refine wpAnyU_ready (rs := [1]) (by kernel_rfl) (by simp) ?_
        refine AllReadyU.cons (by simp only [List.getElem?_toArray, List.getElem?_cons_succ, List.getElem?_cons_zero]; rfl) (fun K hK => ?_) AllReadyU.nil
        go_simp
        refine (rof_any (-65536) _).mono ?_
        rintro e w_1 ⟨rfl, hb_1⟩
        have hHeld' := ext_trans hHeld hb_1
        clear hHeld hb_1
        go_wp2_with fail
        refine hK.out _ _ hHeld' (fun hHeld => ?_)
        clear hK K hHeld'
        try simp only [Act.put, List.setIfInBounds_toArray, List.set_cons_zero, List.set_cons_succ]
        rw [show Fx.clamp (-65536) = -65536 from rfl]
        refine wpAnyU_ready (rs := [2]) (by kernel_rfl) (by simp) ?_
        refine AllReadyU.cons (by simp only [List.getElem?_toArray, List.getElem?_cons_succ, List.getElem?_cons_zero]; rfl) (fun K hK => ?_) AllReadyU.nil
        go_simp
        refine (rhull_any x5 y5 (-65536) (-65536) _).mono ?_
        rintro e w_2 ⟨rfl, hb_2⟩
        have hHeld' := ext_trans hHeld hb_2
        clear hHeld hb_2
        go_wp2_with fail
        refine hK.out _ _ hHeld' (fun hHeld => ?_)
        clear hK K hHeld'
        try simp only [Act.put, List.setIfInBounds_toArray, List.set_cons_zero, List.set_cons_succ]
        rw [(hull_unit hxy5 (show (-65536 : Int) ≤ -65536 ∧ (-65536 : Int) ≤ -65536 ∧ (-65536 : Int) ≤ 65536 by omega)).1, (hull_unit hxy5 (show (-65536 : Int) ≤ -65536 ∧ (-65536 : Int) ≤ -65536 ∧ (-65536 : Int) ≤ 65536 by omega)).2]
        obtain ⟨x7, hx7⟩ : ∃ z : Int, z = min x5 (-65536) := ⟨_, rfl⟩
        obtain ⟨y7, hy7⟩ : ∃ z : Int, z = max y5 (-65536) := ⟨_, rfl⟩
        rw [← hx7, ← hy7]
        have hxy7 : -65536 ≤ x7 ∧ x7 ≤ y7 ∧ y7 ≤ 65536 := by omega
        have HK7s := Lib.hid (HK6.out.step hHeld)
        clear hx7 hy7 hHeld
        refine wpAnyU_ready (rs := [3]) (by kernel_rfl) (by simp) ?_
        refine AllReadyU.last (by simp only [List.getElem?_toArray, List.getElem?_cons_succ, List.getElem?_cons_zero]; rfl) (fun K hK => ?_) AllReadyU.nil
        rw [if_pos (by rfl)]
        refine wp_store_mid _ _ _ rfl g 0 #[.int .i64 x7, .int .i64 y7] rfl rfl (there_all HK7s.out.2.2.1 2 (by simp)) (by kernel_rfl) (two_one _ _) ?_
        have HK7n := Lib.hid (KeepO.set (x' := x7) (y' := y7) HK7s.out)
        generalize w_2.setCells g 0 [.int .i64 x7, .int .i64 y7] = w7n at *
        refine hK.out _ _ ?_
        clear hK K HK7s
        try simp only [Act.put, List.setIfInBounds_toArray, List.set_cons_zero, List.set_cons_succ]
        refine wpAnyU_done (by kernel_rfl) ?_ _
        refine NoPanic.normal ?_
        have s0 : w7n.cell? ⟨g, 0, none⟩ = some (.int .i64 x7) := HK7n.out.2.2.1.cell 0
        have s1 : w7n.cell? ⟨g, 1, none⟩ = some (.int .i64 y7) := HK7n.out.2.2.1.cell 1
        have r0 : w7n.cell? ⟨w.heap.size + 1 + 1 + 1, 0, none⟩ = some (.int .i64 0) := HK7n.out.2.1.cell 0
        have r1 : w7n.cell? ⟨w.heap.size + 1 + 1 + 1, 1, none⟩ = some (.int .i64 0) := HK7n.out.2.1.cell 1
        have f0 := HK7n.out.2.1.frozen 0
        have f1 := HK7n.out.2.1.frozen 1
        have HF := Lib.hid (HK7n.out.2.1.store2 0 (.int .i64 x7) (.int .i64 y7) rfl)
        have hB5 := ext_setN [.int .i64 x7, .int .i64 y7] HK7n.out.2.2.2.2 (show w.heap.size ≤ w.heap.size + 1 + 1 + 1 by omega) 0
        go_wp2_with fail
        exact bodyPost_ret (ret_cell Try.results82 rfl HF.out Try.underlying32 rfl (by kernel_rfl)) rfl ⟨_, _, hxy7.1, hxy7.2.1, hxy7.2.2, rfl, hB5⟩

set_option maxRecDepth 100000 in
set_option maxHeartbeats 2000000 in
theorem sinover_any (a b : Int) (w : World) (hv : Fx.vb a b = true) :
    Calls Try.prog 73 #[.agg #[.int .i64 a, .int .i64 b]] w (PartOf (-65536) 65536 w) := by
  obtain ⟨v0, v1, v2⟩ := Fx.vb_true.1 hv
  have HV := Lib.hid hv
  clear hv
  go_enter Try.func73, Try.ntmps73
  go_wp2_with fail
  have h2 := blocks2 w 32 32 #[.int .i64 a, .int .i64 b] #[.int .i64 0, .int .i64 0]
  generalize (w.alloc (.cells #[.int .i64 a, .int .i64 b] 32)).alloc (.cells #[.int .i64 0, .int .i64 0] 32) = w0 at *
  obtain ⟨hA, hD, hb0⟩ := h2
  have c0 : w0.cell? ⟨w.heap.size, 0, none⟩ = some (.int .i64 a) := hA.cell 0
  have c1 : w0.cell? ⟨w.heap.size, 1, none⟩ = some (.int .i64 b) := hA.cell 1
  have hzA := hA.lt
  have HA := Lib.hid hA; have HD := Lib.hid hD
  clear hA hD
  refine wp_region_noPanic ?_
  refine wp_region_until_drew (k := 8) (S := fun w' => Below w0.heap.size w0 w') (by kernel_rfl) (ext_drew (ext_refl _)) (fun hHeld => ?_)
  refine wpAnyU_take (i := 0) (by simp only [List.getElem?_toArray, List.getElem?_cons_succ, List.getElem?_cons_zero]; rfl) (by kernel_rfl) (by kernel_rfl) (by kernel_rfl) (by kernel_rfl) (by kernel_rfl) (fun _ _ _ h => h) (yields_load (by rfl) _ _ rfl w.heap.size (0) (by rfl) [.int .i64 a, .int .i64 b] _ HA.out.all hzA Try.underlying32 rfl (by kernel_rfl)) (by assumption) ?_
  try simp only [Act.put, List.setIfInBounds_toArray, List.set_cons_zero, List.set_cons_succ]
  refine wpAnyU_take (i := 1) (v := ?_) (by simp only [List.getElem?_toArray, List.getElem?_cons_succ, List.getElem?_cons_zero]; rfl) (by kernel_rfl) (by kernel_rfl) (by kernel_rfl) (by kernel_rfl) (by kernel_rfl) (fun _ _ _ h => h) (Or.inl ⟨by rfl, ?_⟩) (by assumption) ?_
  rotate_left
  · intro w hSw; (try dsimp only at hSw); have hcS := (bcell hSw).1; clear hSw; go_simp; first | done | with_reducible rfl
  try simp only [Act.put, List.setIfInBounds_toArray, List.set_cons_zero, List.set_cons_succ]
  refine wpAnyU_take (i := 2) (v := ?_) (by simp only [List.getElem?_toArray, List.getElem?_cons_succ, List.getElem?_cons_zero]; rfl) (by kernel_rfl) (by kernel_rfl) (by kernel_rfl) (by kernel_rfl) (by kernel_rfl) (fun _ _ _ h => h) (Or.inl ⟨by rfl, ?_⟩) (by assumption) ?_
  rotate_left
  · intro w hSw; (try dsimp only at hSw); have hcS := (bcell hSw).1; clear hSw; go_simp; first | done | with_reducible rfl
  try simp only [Act.put, List.setIfInBounds_toArray, List.set_cons_zero, List.set_cons_succ]
  refine wpAnyU_take (i := 4) (v := ?_) (by simp only [List.getElem?_toArray, List.getElem?_cons_succ, List.getElem?_cons_zero]; rfl) (by kernel_rfl) (by kernel_rfl) (by kernel_rfl) (by kernel_rfl) (by kernel_rfl) (fun _ _ _ h => h) (Or.inl ⟨by rfl, ?_⟩) (by assumption) ?_
  rotate_left
  · intro w hSw; (try dsimp only at hSw); have hcS := (bcell hSw).1; clear hSw; go_simp; first | done | with_reducible rfl
  try simp only [Act.put, List.setIfInBounds_toArray, List.set_cons_zero, List.set_cons_succ]
  refine wpAnyU_take (i := 5) (v := ?_) (by simp only [List.getElem?_toArray, List.getElem?_cons_succ, List.getElem?_cons_zero]; rfl) (by kernel_rfl) (by kernel_rfl) (by kernel_rfl) (by kernel_rfl) (by kernel_rfl) (fun _ _ _ h => h) (Or.inl ⟨by rfl, ?_⟩) (by assumption) ?_
  rotate_left
  · intro w hSw; (try dsimp only at hSw); have hcS := (bcell hSw).1; clear hSw; go_simp; first | done | with_reducible rfl
  try simp only [Act.put, List.setIfInBounds_toArray, List.set_cons_zero, List.set_cons_succ]
  refine wpAnyU_ready (rs := [3]) (by kernel_rfl) (by simp) ?_
  refine AllReadyU.cons (by simp only [List.getElem?_toArray, List.getElem?_cons_succ, List.getElem?_cons_zero]; rfl) (fun K hK => ?_) AllReadyU.nil
  go_simp
  refine (sin_any a _ (by omega) (by omega)).mono ?_
  rintro e w1 ⟨l1, h1, u0, u1, u2, rfl, hb1⟩
  have hHeld' := ext_trans hHeld hb1
  clear hHeld hb1
  go_wp2_with fail
  refine hK.out _ _ hHeld' (fun hHeld => ?_)
  clear hK K hHeld'
  try simp only [Act.put, List.setIfInBounds_toArray, List.set_cons_zero, List.set_cons_succ]
  refine wpAnyU_ready (rs := [6]) (by kernel_rfl) (by simp) ?_
  refine AllReadyU.cons (by simp only [List.getElem?_toArray, List.getElem?_cons_succ, List.getElem?_cons_zero]; rfl) (fun K hK => ?_) AllReadyU.nil
  go_simp
  refine (sin_any b _ (by omega) (by omega)).mono ?_
  rintro e w2 ⟨l2, h2, u3, u4, u5, rfl, hb2⟩
  have hHeld' := ext_trans hHeld hb2
  clear hHeld hb2
  go_wp2_with fail
  refine hK.out _ _ hHeld' (fun hHeld => ?_)
  clear hK K hHeld'
  try simp only [Act.put, List.setIfInBounds_toArray, List.set_cons_zero, List.set_cons_succ]
  refine wpAnyU_ready (rs := [7]) (by kernel_rfl) (by simp) ?_
  refine AllReadyU.cons (by simp only [List.getElem?_toArray, List.getElem?_cons_succ, List.getElem?_cons_zero]; rfl) (fun K hK => ?_) AllReadyU.nil
  go_simp
  refine (over_any a b l1 h1 l2 h2 16384 49152 _ HV.out ⟨u0, u1, u2⟩ ⟨u3, u4, u5⟩ (by omega) (by omega)).mono ?_
  rintro e w3 ⟨l, h, u6, u7, u8, rfl, hb3⟩
  have hHeld' := ext_trans hHeld hb3
  clear hHeld hb3
  go_wp2_with fail
  refine hK.out _ _ hHeld' (fun hHeld => ?_)
  clear hK K hHeld'
  try simp only [Act.put, List.setIfInBounds_toArray, List.set_cons_zero, List.set_cons_succ]
  have hD3 := HD.out.ext hHeld
  have hB3 := ext_trans hb0 hHeld
  clear hHeld
  refine wpAnyU_ready (rs := [8]) (by kernel_rfl) (by simp) ?_
  refine AllReadyU.last (by simp only [List.getElem?_toArray, List.getElem?_cons_succ, List.getElem?_cons_zero]; rfl) (fun K hK => ?_) AllReadyU.nil
  rw [if_pos (by rfl)]
  refine wp_store_mid _ _ _ rfl (w.heap.size + 1) 0 #[.int .i64 l, .int .i64 h] rfl rfl (there_all hD3 2 (by simp)) (by kernel_rfl) (two_one _ _) ?_
  have HF := Lib.hid (hD3.store2 0 (.int .i64 l) (.int .i64 h) rfl)
  have hB5 := ext_setN [.int .i64 l, .int .i64 h] hB3 (show w.heap.size ≤ w.heap.size + 1 by omega) 0
  refine hK.out _ _ ?_
  clear hK K hD3 hB3 HA HD
  try simp only [Act.put, List.setIfInBounds_toArray, List.set_cons_zero, List.set_cons_succ]
  refine wpAnyU_done (by kernel_rfl) ?_ _
  refine NoPanic.normal ?_
  generalize w3.setCells (w.heap.size + 1) 0 [.int .i64 l, .int .i64 h] = w8 at *
  go_wp2_with fail
  exact bodyPost_ret (ret_cell Try.results73 rfl HF.out Try.underlying32 rfl (by kernel_rfl)) rfl ⟨l, h, u6, u7, u8, rfl, hB5⟩

set_option maxRecDepth 100000 in
set_option maxHeartbeats 2000000 in
theorem cosover_any (a b : Int) (w : World) (hv : Fx.vb a b = true) :
    Calls Try.prog 72 #[.agg #[.int .i64 a, .int .i64 b]] w (PartOf (-65536) 65536 w) := by
  obtain ⟨v0, v1, v2⟩ := Fx.vb_true.1 hv
  have HV := Lib.hid hv
  clear hv
  go_enter Try.func72, Try.ntmps72
  go_wp2_with fail
  have h2 := blocks2 w 32 32 #[.int .i64 a, .int .i64 b] #[.int .i64 0, .int .i64 0]
  generalize (w.alloc (.cells #[.int .i64 a, .int .i64 b] 32)).alloc (.cells #[.int .i64 0, .int .i64 0] 32) = w0 at *
  obtain ⟨hA, hD, hb0⟩ := h2
  have c0 : w0.cell? ⟨w.heap.size, 0, none⟩ = some (.int .i64 a) := hA.cell 0
  have c1 : w0.cell? ⟨w.heap.size, 1, none⟩ = some (.int .i64 b) := hA.cell 1
  have hzA := hA.lt
  have HA := Lib.hid hA; have HD := Lib.hid hD
  clear hA hD
  refine wp_region_noPanic ?_
  refine wp_region_until_drew (k := 8) (S := fun w' => Below w0.heap.size w0 w') (by kernel_rfl) (ext_drew (ext_refl _)) (fun hHeld => ?_)
  refine wpAnyU_take (i := 0) (by simp only [List.getElem?_toArray, List.getElem?_cons_succ, List.getElem?_cons_zero]; rfl) (by kernel_rfl) (by kernel_rfl) (by kernel_rfl) (by kernel_rfl) (by kernel_rfl) (fun _ _ _ h => h) (yields_load (by rfl) _ _ rfl w.heap.size (0) (by rfl) [.int .i64 a, .int .i64 b] _ HA.out.all hzA Try.underlying32 rfl (by kernel_rfl)) (by assumption) ?_
  try simp only [Act.put, List.setIfInBounds_toArray, List.set_cons_zero, List.set_cons_succ]
  refine wpAnyU_take (i := 1) (v := ?_) (by simp only [List.getElem?_toArray, List.getElem?_cons_succ, List.getElem?_cons_zero]; rfl) (by kernel_rfl) (by kernel_rfl) (by kernel_rfl) (by kernel_rfl) (by kernel_rfl) (fun _ _ _ h => h) (Or.inl ⟨by rfl, ?_⟩) (by assumption) ?_
  rotate_left
  · intro w hSw; (try dsimp only at hSw); have hcS := (bcell hSw).1; clear hSw; go_simp; first | done | with_reducible rfl
  try simp only [Act.put, List.setIfInBounds_toArray, List.set_cons_zero, List.set_cons_succ]
  refine wpAnyU_take (i := 2) (v := ?_) (by simp only [List.getElem?_toArray, List.getElem?_cons_succ, List.getElem?_cons_zero]; rfl) (by kernel_rfl) (by kernel_rfl) (by kernel_rfl) (by kernel_rfl) (by kernel_rfl) (fun _ _ _ h => h) (Or.inl ⟨by rfl, ?_⟩) (by assumption) ?_
  rotate_left
  · intro w hSw; (try dsimp only at hSw); have hcS := (bcell hSw).1; clear hSw; go_simp; first | done | with_reducible rfl
  try simp only [Act.put, List.setIfInBounds_toArray, List.set_cons_zero, List.set_cons_succ]
  refine wpAnyU_take (i := 4) (v := ?_) (by simp only [List.getElem?_toArray, List.getElem?_cons_succ, List.getElem?_cons_zero]; rfl) (by kernel_rfl) (by kernel_rfl) (by kernel_rfl) (by kernel_rfl) (by kernel_rfl) (fun _ _ _ h => h) (Or.inl ⟨by rfl, ?_⟩) (by assumption) ?_
  rotate_left
  · intro w hSw; (try dsimp only at hSw); have hcS := (bcell hSw).1; clear hSw; go_simp; first | done | with_reducible rfl
  try simp only [Act.put, List.setIfInBounds_toArray, List.set_cons_zero, List.set_cons_succ]
  refine wpAnyU_take (i := 5) (v := ?_) (by simp only [List.getElem?_toArray, List.getElem?_cons_succ, List.getElem?_cons_zero]; rfl) (by kernel_rfl) (by kernel_rfl) (by kernel_rfl) (by kernel_rfl) (by kernel_rfl) (fun _ _ _ h => h) (Or.inl ⟨by rfl, ?_⟩) (by assumption) ?_
  rotate_left
  · intro w hSw; (try dsimp only at hSw); have hcS := (bcell hSw).1; clear hSw; go_simp; first | done | with_reducible rfl
  try simp only [Act.put, List.setIfInBounds_toArray, List.set_cons_zero, List.set_cons_succ]
  refine wpAnyU_ready (rs := [3]) (by kernel_rfl) (by simp) ?_
  refine AllReadyU.cons (by simp only [List.getElem?_toArray, List.getElem?_cons_succ, List.getElem?_cons_zero]; rfl) (fun K hK => ?_) AllReadyU.nil
  go_simp
  refine (cos_any a _ (by omega) (by omega)).mono ?_
  rintro e w1 ⟨l1, h1, u0, u1, u2, rfl, hb1⟩
  have hHeld' := ext_trans hHeld hb1
  clear hHeld hb1
  go_wp2_with fail
  refine hK.out _ _ hHeld' (fun hHeld => ?_)
  clear hK K hHeld'
  try simp only [Act.put, List.setIfInBounds_toArray, List.set_cons_zero, List.set_cons_succ]
  refine wpAnyU_ready (rs := [6]) (by kernel_rfl) (by simp) ?_
  refine AllReadyU.cons (by simp only [List.getElem?_toArray, List.getElem?_cons_succ, List.getElem?_cons_zero]; rfl) (fun K hK => ?_) AllReadyU.nil
  go_simp
  refine (cos_any b _ (by omega) (by omega)).mono ?_
  rintro e w2 ⟨l2, h2, u3, u4, u5, rfl, hb2⟩
  have hHeld' := ext_trans hHeld hb2
  clear hHeld hb2
  go_wp2_with fail
  refine hK.out _ _ hHeld' (fun hHeld => ?_)
  clear hK K hHeld'
  try simp only [Act.put, List.setIfInBounds_toArray, List.set_cons_zero, List.set_cons_succ]
  refine wpAnyU_ready (rs := [7]) (by kernel_rfl) (by simp) ?_
  refine AllReadyU.cons (by simp only [List.getElem?_toArray, List.getElem?_cons_succ, List.getElem?_cons_zero]; rfl) (fun K hK => ?_) AllReadyU.nil
  go_simp
  refine (over_any a b l1 h1 l2 h2 0 32768 _ HV.out ⟨u0, u1, u2⟩ ⟨u3, u4, u5⟩ (by omega) (by omega)).mono ?_
  rintro e w3 ⟨l, h, u6, u7, u8, rfl, hb3⟩
  have hHeld' := ext_trans hHeld hb3
  clear hHeld hb3
  go_wp2_with fail
  refine hK.out _ _ hHeld' (fun hHeld => ?_)
  clear hK K hHeld'
  try simp only [Act.put, List.setIfInBounds_toArray, List.set_cons_zero, List.set_cons_succ]
  have hD3 := HD.out.ext hHeld
  have hB3 := ext_trans hb0 hHeld
  clear hHeld
  refine wpAnyU_ready (rs := [8]) (by kernel_rfl) (by simp) ?_
  refine AllReadyU.last (by simp only [List.getElem?_toArray, List.getElem?_cons_succ, List.getElem?_cons_zero]; rfl) (fun K hK => ?_) AllReadyU.nil
  rw [if_pos (by rfl)]
  refine wp_store_mid _ _ _ rfl (w.heap.size + 1) 0 #[.int .i64 l, .int .i64 h] rfl rfl (there_all hD3 2 (by simp)) (by kernel_rfl) (two_one _ _) ?_
  have HF := Lib.hid (hD3.store2 0 (.int .i64 l) (.int .i64 h) rfl)
  have hB5 := ext_setN [.int .i64 l, .int .i64 h] hB3 (show w.heap.size ≤ w.heap.size + 1 by omega) 0
  refine hK.out _ _ ?_
  clear hK K hD3 hB3 HA HD
  try simp only [Act.put, List.setIfInBounds_toArray, List.set_cons_zero, List.set_cons_succ]
  refine wpAnyU_done (by kernel_rfl) ?_ _
  refine NoPanic.normal ?_
  generalize w3.setCells (w.heap.size + 1) 0 [.int .i64 l, .int .i64 h] = w8 at *
  go_wp2_with fail
  exact bodyPost_ret (ret_cell Try.results72 rfl HF.out Try.underlying32 rfl (by kernel_rfl)) rfl ⟨l, h, u6, u7, u8, rfl, hB5⟩
end Go.Proofs.Ytgnjconhbloocaa

namespace Go.Proofs.Ytgnjconhbloocaa
open Go.RowKit
set_option linter.unusedVariables false
section
variable {P : Program} {ops : Array Oper} {Q : Exit → Act → World → Prop} {md : Region.Mode} {S : World → Prop}

theorem wpAnyH_inv (I : Nat → Array Bool → Act → World → Prop)
    (step : ∀ n l a w, I n l a w → wpAnyH P md ops Q S n l a w ∨ (∃ m, n = m + 1 ∧ Region.ready md ops l ≠ [] ∧ ∀ i ∈ Region.ready md ops l, wpOp P ops Q i (fun a' w' => S w' ∧ I m (l.setIfInBounds i true) a' w') a w)) :
    ∀ n l a w, I n l a w → wpAnyH P md ops Q S n l a w
  | 0, l, a, w, h => by
    rcases step 0 l a w h with h | ⟨m, hm, _⟩
    · exact h
    · omega
  | n + 1, l, a, w, h => by
    rcases step (n + 1) l a w h with h | ⟨m, hm, hne, hall⟩
    · exact h
    · obtain rfl : n = m := by omega
      exact ⟨fun h0 => absurd h0 hne, fun i hi => wpOp_mono (fun a' w' h' => ⟨h'.1, wpAnyH_inv I step n _ _ _ h'.2⟩) (hall i hi)⟩

theorem wpOp_of {i : Nat} {o : Oper} {K : Act → World → Prop} {a : Act} {w : World} (ho : ops[i]? = some o)
    (h : ∀ K' : Act → World → Prop, Shut (∀ a w, K a w → K' a w) → if Region.wanted o (yielded ops a.tmps) = true then Oper.wp P o a w K' Q else K' (a.put o.dst undef) w) : wpOp P ops Q i K a w :=
  wpOp_step ho (fun K' hK => h K' hK)

/-- A new variable. -/
theorem wpOp_alloc {i : Nat} {o : Oper} {K : Act → World → Prop} {a : Act} {w : World} (ho : ops[i]? = some o) (hg : o.guard = none) (t : TypeId) (hop : o.op = .alloc t) (z : Array Value)
    (hz : ∀ w : World, (execOp a.eval o).run P w = .ok (.value (.pointer (some ⟨w.heap.size, 0, none⟩))) (w.alloc (.cells z t)))
    (h : K (a.put o.dst (.pointer (some ⟨w.heap.size, 0, none⟩))) (w.alloc (.cells z t))) : wpOp P ops Q i K a w := by
  refine wpOp_step ho (fun K' hK => ?_)
  have hw : Region.wanted o (yielded ops a.tmps) = true := by simp [Region.wanted, hg]
  rw [if_pos hw]
  unfold Oper.wp
  rw [hz w]
  exact hK _ _ h
end
end Go.Proofs.Ytgnjconhbloocaa

namespace Go.Proofs.Ytgnjconhbloocaa
open Go.RowKit
set_option linter.unusedVariables false

abbrev zero2 : Array Value := #[.int .i64 0, .int .i64 0]
abbrev zero18 : Array Value := #[.int .i64 0, .int .i64 0, .int .i64 0, .int .i64 0, .int .i64 0, .int .i64 0, .int .i64 0, .int .i64 0, .int .i64 0, .int .i64 0, .int .i64 0, .int .i64 0, .int .i64 0, .int .i64 0, .int .i64 0, .int .i64 0, .int .i64 0, .int .i64 0]

/-- The frame in the statement that draws. -/
abbrev turnFr (ax a b : Int) (g : Nat) (s5 s6 s7 v13 v15 v17 : Value) : Act := { tmps := #[.int .i64 ax, .agg #[.int .i64 a, .int .i64 b], undef, .pointer (some ⟨g, 0, none⟩), .pointer (some ⟨g + 1, 0, none⟩), s5, s6, s7, undef, .agg #[.int .i64 a, .int .i64 b], .bool true, .bool false, undef, v13, .agg #[.int .i64 a, .int .i64 b], v15, .agg #[.int .i64 a, .int .i64 b], v17, undef, undef, undef, undef, undef, undef, undef, undef, undef, undef, undef, undef, undef, undef, undef, undef, undef, undef, undef, undef, undef, undef, undef, undef, undef, undef, undef, undef, undef, undef, undef, undef, undef, undef, undef, undef, undef, undef, undef, undef, undef, undef, undef, undef, undef, undef, undef, undef, undef], defers := [] }

/-- A new variable that still holds zeros. -/
def NewZ (B : Nat) (d : Bool) (s : Value) (w : World) : Prop := d = true → ∃ g, s = .pointer (some ⟨g, 0, none⟩) ∧ B ≤ g ∧ Whole w g 32 zero2
def UnitV (v : Value) : Prop := ∃ l h : Int, -65536 ≤ l ∧ l ≤ h ∧ h ≤ 65536 ∧ v = .agg #[.int .i64 l, .int .i64 h]
/-- What is known in the statement that draws: how many calls are done, which variables are made. -/
def TurnS (w1 : World) (c : Nat) (d5 d6 d7 : Bool) (s5 s6 s7 v13 v15 v17 : Value) (wc : World) : Prop :=
  Below w1.heap.size w1 wc ∧ (1 ≤ c → v13 = .agg #[.int .i64 65536, .int .i64 65536]) ∧ (2 ≤ c → UnitV v15) ∧ (3 ≤ c → UnitV v17) ∧ NewZ w1.heap.size d5 s5 wc ∧ NewZ w1.heap.size d6 s6 wc ∧ NewZ w1.heap.size d7 s7 wc ∧ (d5 = true → d6 = true → s5 ≠ s6) ∧ (d5 = true → d7 = true → s5 ≠ s7) ∧ (d6 = true → d7 = true → s6 ≠ s7)
theorem NewZ.ext {B : Nat} {d : Bool} {s : Value} {w w' : World} (h : NewZ B d s w) (hb : Below w.heap.size w w') : NewZ B d s w' := fun e => by
  obtain ⟨g, h1, h2, h3⟩ := h e
  exact ⟨g, h1, h2, h3.ext hb⟩
theorem NewZ.ne {B : Nat} {s : Value} {w : World} (h : NewZ B true s w) : (.pointer (some ⟨w.heap.size, 0, none⟩) : Value) ≠ s := by
  obtain ⟨g, rfl, _, h3⟩ := h rfl
  intro e
  have hl := h3.lt
  injection e with e
  injection e with e
  injection e with e
  omega
theorem TurnS.ext {w1 : World} {c : Nat} {d5 d6 d7 : Bool} {s5 s6 s7 v13 v15 v17 : Value} {wc w' : World} (h : TurnS w1 c d5 d6 d7 s5 s6 s7 v13 v15 v17 wc) (hb : Below wc.heap.size wc w') : TurnS w1 c d5 d6 d7 s5 s6 s7 v13 v15 v17 w' := by
  obtain ⟨h1, h2, h3, h4, h5, h6, h7, h8⟩ := h
  exact ⟨ext_trans h1 hb, h2, h3, h4, h5.ext hb, h6.ext hb, h7.ext hb, h8⟩
theorem TurnS.c1 {w1 : World} {d5 d6 d7 : Bool} {s5 s6 s7 v13 v15 v17 : Value} {wc : World} (h : TurnS w1 0 d5 d6 d7 s5 s6 s7 v13 v15 v17 wc) : TurnS w1 1 d5 d6 d7 s5 s6 s7 (.agg #[.int .i64 65536, .int .i64 65536]) v15 v17 wc := by
  obtain ⟨h1, h2, h3, h4, h5⟩ := h
  exact ⟨h1, fun _ => rfl, fun e => absurd e (by omega), fun e => absurd e (by omega), h5⟩
theorem TurnS.c2 {w1 : World} {d5 d6 d7 : Bool} {s5 s6 s7 v13 v15 v17 v : Value} {wc : World} (h : TurnS w1 1 d5 d6 d7 s5 s6 s7 v13 v15 v17 wc) (hv : UnitV v) : TurnS w1 2 d5 d6 d7 s5 s6 s7 v13 v v17 wc := by
  obtain ⟨h1, h2, h3, h4, h5⟩ := h
  exact ⟨h1, fun _ => h2 (by omega), fun _ => hv, fun e => absurd e (by omega), h5⟩
theorem TurnS.c3 {w1 : World} {d5 d6 d7 : Bool} {s5 s6 s7 v13 v15 v17 v : Value} {wc : World} (h : TurnS w1 2 d5 d6 d7 s5 s6 s7 v13 v15 v17 wc) (hv : UnitV v) : TurnS w1 3 d5 d6 d7 s5 s6 s7 v13 v15 v wc := by
  obtain ⟨h1, h2, h3, h4, h5⟩ := h
  exact ⟨h1, fun _ => h2 (by omega), fun _ => h3 (by omega), fun _ => hv, h5⟩
theorem new_z (wc : World) (B : Nat) (hB : B ≤ wc.heap.size) : NewZ B true (.pointer (some ⟨wc.heap.size, 0, none⟩)) (wc.alloc (.cells zero2 32)) := fun _ => ⟨_, rfl, hB, Whole.new _ _ _⟩
theorem TurnS.a5 {w1 : World} {c : Nat} {d6 d7 : Bool} {s5 s6 s7 v13 v15 v17 : Value} {wc : World} (h : TurnS w1 c false d6 d7 s5 s6 s7 v13 v15 v17 wc) : TurnS w1 c true d6 d7 (.pointer (some ⟨wc.heap.size, 0, none⟩)) s6 s7 v13 v15 v17 (wc.alloc (.cells zero2 32)) := by
  obtain ⟨h1, h2, h3, h4, h5, h6, h7, h8, h9, h10⟩ := h
  have hb := ext_alloc (ext_refl wc) (.cells zero2 32)
  refine ⟨ext_trans h1 hb, h2, h3, h4, new_z wc _ h1.size, h6.ext hb, h7.ext hb, fun _ e => ?_, fun _ e => ?_, h10⟩
  · subst e; exact h6.ne
  · subst e; exact h7.ne
theorem TurnS.a6 {w1 : World} {c : Nat} {d5 d7 : Bool} {s5 s6 s7 v13 v15 v17 : Value} {wc : World} (h : TurnS w1 c d5 false d7 s5 s6 s7 v13 v15 v17 wc) : TurnS w1 c d5 true d7 s5 (.pointer (some ⟨wc.heap.size, 0, none⟩)) s7 v13 v15 v17 (wc.alloc (.cells zero2 32)) := by
  obtain ⟨h1, h2, h3, h4, h5, h6, h7, h8, h9, h10⟩ := h
  have hb := ext_alloc (ext_refl wc) (.cells zero2 32)
  refine ⟨ext_trans h1 hb, h2, h3, h4, h5.ext hb, new_z wc _ h1.size, h7.ext hb, fun e _ => ?_, h9, fun _ e => ?_⟩
  · subst e; exact Ne.symm h5.ne
  · subst e; exact h7.ne
theorem TurnS.a7 {w1 : World} {c : Nat} {d5 d6 : Bool} {s5 s6 s7 v13 v15 v17 : Value} {wc : World} (h : TurnS w1 c d5 d6 false s5 s6 s7 v13 v15 v17 wc) : TurnS w1 c d5 d6 true s5 s6 (.pointer (some ⟨wc.heap.size, 0, none⟩)) v13 v15 v17 (wc.alloc (.cells zero2 32)) := by
  obtain ⟨h1, h2, h3, h4, h5, h6, h7, h8, h9, h10⟩ := h
  have hb := ext_alloc (ext_refl wc) (.cells zero2 32)
  refine ⟨ext_trans h1 hb, h2, h3, h4, h5.ext hb, h6.ext hb, new_z wc _ h1.size, h8, fun e _ => ?_, fun e _ => ?_⟩
  · subst e; exact Ne.symm h5.ne
  · subst e; exact Ne.symm h6.ne
/-- The states of the statement that draws. -/
def TurnI (w1 : World) (ax a b : Int) (g : Nat) (n : Nat) (l : Array Bool) (act : Act) (wc : World) : Prop :=
  ∃ (c : Nat) (d5 d6 d7 : Bool) (s5 s6 s7 v13 v15 v17 : Value), c ≤ 3 ∧ n = (3 - c) + (if d5 then 0 else 1) + (if d6 then 0 else 1) + (if d7 then 0 else 1) + 3 ∧ l = #[decide (1 ≤ c), true, decide (2 ≤ c), true, decide (3 ≤ c), d5, d6, d7, false, false, false] ∧ act = turnFr ax a b g s5 s6 s7 v13 v15 v17 ∧ TurnS w1 c d5 d6 d7 s5 s6 s7 v13 v15 v17 wc

/-- A matrix of valid intervals from -1 to 1. -/
def UnitM (m : Fx.M3) : Prop := ∀ i k : Nat, i < 3 → k < 3 → -65536 ≤ (m.row i).lo k ∧ (m.row i).lo k ≤ (m.row i).hi k ∧ (m.row i).hi k ≤ 65536
def GivesM (w : World) (e : Ending) (w' : World) : Prop := ∃ m : Fx.M3, UnitM m ∧ e = .returned (.agg m.arr) ∧ Below w.heap.size w w'

theorem mat_one (m : Fx.M3) : (m.arr.all fun v => v.oneCell') = true := by
  unfold Fx.M3.arr
  rw [Array.all_append, Array.all_append, arr_one, arr_one, arr_one]; rfl
theorem mats (c0 c1 s0 s1 n0 n1 : Int) (hc : -65536 ≤ c0 ∧ c0 ≤ c1 ∧ c1 ≤ 65536) (hs : -65536 ≤ s0 ∧ s0 ≤ s1 ∧ s1 ≤ 65536) (hn : -65536 ≤ n0 ∧ n0 ≤ n1 ∧ n1 ≤ 65536) :
    UnitM ⟨⟨65536, 65536, 0, 0, 0, 0⟩, ⟨0, 0, c0, c1, n0, n1⟩, ⟨0, 0, s0, s1, c0, c1⟩⟩ ∧ UnitM ⟨⟨c0, c1, 0, 0, s0, s1⟩, ⟨0, 0, 65536, 65536, 0, 0⟩, ⟨n0, n1, 0, 0, c0, c1⟩⟩ ∧ UnitM ⟨⟨c0, c1, n0, n1, 0, 0⟩, ⟨s0, s1, c0, c1, 0, 0⟩, ⟨0, 0, 0, 0, 65536, 65536⟩⟩ := by
  refine ⟨?_, ?_, ?_⟩
  all_goals
    intro i k hi hk
    match i, k, hi, hk with
    | 0, 0, _, _ => simp [Fx.M3.row, Fx.V3.lo, Fx.V3.hi]; try omega
    | 0, 1, _, _ => simp [Fx.M3.row, Fx.V3.lo, Fx.V3.hi]; try omega
    | 0, 2, _, _ => simp [Fx.M3.row, Fx.V3.lo, Fx.V3.hi]; try omega
    | 1, 0, _, _ => simp [Fx.M3.row, Fx.V3.lo, Fx.V3.hi]; try omega
    | 1, 1, _, _ => simp [Fx.M3.row, Fx.V3.lo, Fx.V3.hi]; try omega
    | 1, 2, _, _ => simp [Fx.M3.row, Fx.V3.lo, Fx.V3.hi]; try omega
    | 2, 0, _, _ => simp [Fx.M3.row, Fx.V3.lo, Fx.V3.hi]; try omega
    | 2, 1, _, _ => simp [Fx.M3.row, Fx.V3.lo, Fx.V3.hi]; try omega
    | 2, 2, _, _ => simp [Fx.M3.row, Fx.V3.lo, Fx.V3.hi]; try omega

set_option maxRecDepth 100000 in
set_option maxHeartbeats 4000000 in
theorem turn_any (ax a b : Int) (w : World) (hv : Fx.vb a b = true) (hx0 : 0 ≤ ax) (hx1 : ax < 3) :
    Calls Try.prog 57 #[.int .i64 ax, .agg #[.int .i64 a, .int .i64 b]] w (GivesM w) := by
  have HV := Lib.hid hv
  clear hv
  go_enter Try.func57, Try.ntmps57
  go_wp2_with fail
  have h2 := blocks2 w 32 50 #[.int .i64 a, .int .i64 b] zero18
  generalize (w.alloc (.cells #[.int .i64 a, .int .i64 b] 32)).alloc (.cells zero18 50) = w0 at *
  obtain ⟨hA, hD, hb0⟩ := h2
  refine (rvalid_yes a b _ HV.out).mono ?_
  rintro e w1 ⟨rfl, hb1⟩
  have HA1 := Lib.hid (hA.ext hb1); have HD1 := Lib.hid (hD.ext hb1)
  have hE1 := ext_trans hb0 hb1
  clear hA hD hb0 hb1
  go_wp2_with fail
  refine wp_region_noPanic ?_
  refine wp_region_held_drew (S := (fun w' => Below w1.heap.size w1 w')) (by kernel_rfl) ?_ (fun hHeld => ?_)
  · exact ext_drew (ext_refl _)
  refine wpAnyH_take (i := 1) (by simp only [List.getElem?_toArray, List.getElem?_cons_succ, List.getElem?_cons_zero]; rfl) (by kernel_rfl) (by kernel_rfl) (by kernel_rfl) (fun _ _ _ h => h) (yieldsIf_load_mid (by rfl) _ _ rfl w.heap.size (0) (by rfl) [.int .i64 a, .int .i64 b] _ (fun w' h => range_ext HA1.out.all h HA1.out.lt) Try.underlying32 rfl (by kernel_rfl)) (by assumption) ?_
  try simp only [Act.put, List.setIfInBounds_toArray, List.set_cons_zero, List.set_cons_succ]
  refine wpAnyH_take (i := 3) (by simp only [List.getElem?_toArray, List.getElem?_cons_succ, List.getElem?_cons_zero]; rfl) (by kernel_rfl) (by kernel_rfl) (by kernel_rfl) (fun _ _ _ h => h) (yieldsIf_load_mid (by rfl) _ _ rfl w.heap.size (0) (by rfl) [.int .i64 a, .int .i64 b] _ (fun w' h => range_ext HA1.out.all h HA1.out.lt) Try.underlying32 rfl (by kernel_rfl)) (by assumption) ?_
  try simp only [Act.put, List.setIfInBounds_toArray, List.set_cons_zero, List.set_cons_succ]
  refine wpAnyH_inv (TurnI w1 ax a b w.heap.size) ?step _ _ _ _ ⟨0, false, false, false, undef, undef, undef, undef, undef, undef, by omega, rfl, rfl, rfl, ext_drew (ext_refl _), fun e => absurd e (by omega), fun e => absurd e (by omega), fun e => absurd e (by omega), (fun e => by cases e), (fun e => by cases e), (fun e => by cases e), (fun e => by cases e), (fun e => by cases e), (fun e => by cases e)⟩
  case step =>
    clear hHeld
    rintro n l act wc ⟨c, d5, d6, d7, s5, s6, s7, v13, v15, v17, hc, rfl, rfl, rfl, hS⟩
    have hc4 : c = 0 ∨ c = 1 ∨ c = 2 ∨ c = 3 := by omega
    clear hc
    rcases hc4 with rfl | rfl | rfl | rfl
    · cases d5
      · cases d6
        · cases d7
          · refine Or.inr ⟨_, rfl, ?_, ?_⟩
            · rw [show Region.ready _ _ _ = [0, 5, 6, 7] from (by kernel_rfl)]; simp
            · rw [show Region.ready _ _ _ = [0, 5, 6, 7] from (by kernel_rfl)]
              intro i hi
              simp only [List.mem_cons, List.not_mem_nil, or_false] at hi
              rcases hi with rfl | rfl | rfl | rfl
              · refine wpOp_of (by simp only [List.getElem?_toArray, List.getElem?_cons_succ, List.getElem?_cons_zero]; rfl) (fun K hK => ?_)
                go_simp
                refine (rof_any 65536 _).mono ?_
                rintro e w2 ⟨rfl, hb2⟩
                rw [show Fx.clamp 65536 = 65536 from rfl]
                have hN := (hS.ext hb2).c1
                clear hS
                go_wp2_with fail
                exact hK.out _ _ ⟨hN.1, 1, false, false, false, s5, s6, s7, (.agg #[.int .i64 65536, .int .i64 65536]), v15, v17, by omega, rfl, rfl, rfl, hN⟩
              · have hN := hS.a5
                exact wpOp_alloc (by simp only [List.getElem?_toArray, List.getElem?_cons_succ, List.getElem?_cons_zero]; rfl) rfl 32 rfl zero2 (fun w => by kernel_rfl) ⟨hN.1, 0, true, false, false, (.pointer (some ⟨wc.heap.size, 0, none⟩)), s6, s7, v13, v15, v17, by omega, rfl, rfl, rfl, hN⟩
              · have hN := hS.a6
                exact wpOp_alloc (by simp only [List.getElem?_toArray, List.getElem?_cons_succ, List.getElem?_cons_zero]; rfl) rfl 32 rfl zero2 (fun w => by kernel_rfl) ⟨hN.1, 0, false, true, false, s5, (.pointer (some ⟨wc.heap.size, 0, none⟩)), s7, v13, v15, v17, by omega, rfl, rfl, rfl, hN⟩
              · have hN := hS.a7
                exact wpOp_alloc (by simp only [List.getElem?_toArray, List.getElem?_cons_succ, List.getElem?_cons_zero]; rfl) rfl 32 rfl zero2 (fun w => by kernel_rfl) ⟨hN.1, 0, false, false, true, s5, s6, (.pointer (some ⟨wc.heap.size, 0, none⟩)), v13, v15, v17, by omega, rfl, rfl, rfl, hN⟩
          · refine Or.inr ⟨_, rfl, ?_, ?_⟩
            · rw [show Region.ready _ _ _ = [0, 5, 6] from (by kernel_rfl)]; simp
            · rw [show Region.ready _ _ _ = [0, 5, 6] from (by kernel_rfl)]
              intro i hi
              simp only [List.mem_cons, List.not_mem_nil, or_false] at hi
              rcases hi with rfl | rfl | rfl
              · refine wpOp_of (by simp only [List.getElem?_toArray, List.getElem?_cons_succ, List.getElem?_cons_zero]; rfl) (fun K hK => ?_)
                go_simp
                refine (rof_any 65536 _).mono ?_
                rintro e w2 ⟨rfl, hb2⟩
                rw [show Fx.clamp 65536 = 65536 from rfl]
                have hN := (hS.ext hb2).c1
                clear hS
                go_wp2_with fail
                exact hK.out _ _ ⟨hN.1, 1, false, false, true, s5, s6, s7, (.agg #[.int .i64 65536, .int .i64 65536]), v15, v17, by omega, rfl, rfl, rfl, hN⟩
              · have hN := hS.a5
                exact wpOp_alloc (by simp only [List.getElem?_toArray, List.getElem?_cons_succ, List.getElem?_cons_zero]; rfl) rfl 32 rfl zero2 (fun w => by kernel_rfl) ⟨hN.1, 0, true, false, true, (.pointer (some ⟨wc.heap.size, 0, none⟩)), s6, s7, v13, v15, v17, by omega, rfl, rfl, rfl, hN⟩
              · have hN := hS.a6
                exact wpOp_alloc (by simp only [List.getElem?_toArray, List.getElem?_cons_succ, List.getElem?_cons_zero]; rfl) rfl 32 rfl zero2 (fun w => by kernel_rfl) ⟨hN.1, 0, false, true, true, s5, (.pointer (some ⟨wc.heap.size, 0, none⟩)), s7, v13, v15, v17, by omega, rfl, rfl, rfl, hN⟩
        · cases d7
          · refine Or.inr ⟨_, rfl, ?_, ?_⟩
            · rw [show Region.ready _ _ _ = [0, 5, 7] from (by kernel_rfl)]; simp
            · rw [show Region.ready _ _ _ = [0, 5, 7] from (by kernel_rfl)]
              intro i hi
              simp only [List.mem_cons, List.not_mem_nil, or_false] at hi
              rcases hi with rfl | rfl | rfl
              · refine wpOp_of (by simp only [List.getElem?_toArray, List.getElem?_cons_succ, List.getElem?_cons_zero]; rfl) (fun K hK => ?_)
                go_simp
                refine (rof_any 65536 _).mono ?_
                rintro e w2 ⟨rfl, hb2⟩
                rw [show Fx.clamp 65536 = 65536 from rfl]
                have hN := (hS.ext hb2).c1
                clear hS
                go_wp2_with fail
                exact hK.out _ _ ⟨hN.1, 1, false, true, false, s5, s6, s7, (.agg #[.int .i64 65536, .int .i64 65536]), v15, v17, by omega, rfl, rfl, rfl, hN⟩
              · have hN := hS.a5
                exact wpOp_alloc (by simp only [List.getElem?_toArray, List.getElem?_cons_succ, List.getElem?_cons_zero]; rfl) rfl 32 rfl zero2 (fun w => by kernel_rfl) ⟨hN.1, 0, true, true, false, (.pointer (some ⟨wc.heap.size, 0, none⟩)), s6, s7, v13, v15, v17, by omega, rfl, rfl, rfl, hN⟩
              · have hN := hS.a7
                exact wpOp_alloc (by simp only [List.getElem?_toArray, List.getElem?_cons_succ, List.getElem?_cons_zero]; rfl) rfl 32 rfl zero2 (fun w => by kernel_rfl) ⟨hN.1, 0, false, true, true, s5, s6, (.pointer (some ⟨wc.heap.size, 0, none⟩)), v13, v15, v17, by omega, rfl, rfl, rfl, hN⟩
          · refine Or.inr ⟨_, rfl, ?_, ?_⟩
            · rw [show Region.ready _ _ _ = [0, 5] from (by kernel_rfl)]; simp
            · rw [show Region.ready _ _ _ = [0, 5] from (by kernel_rfl)]
              intro i hi
              simp only [List.mem_cons, List.not_mem_nil, or_false] at hi
              rcases hi with rfl | rfl
              · refine wpOp_of (by simp only [List.getElem?_toArray, List.getElem?_cons_succ, List.getElem?_cons_zero]; rfl) (fun K hK => ?_)
                go_simp
                refine (rof_any 65536 _).mono ?_
                rintro e w2 ⟨rfl, hb2⟩
                rw [show Fx.clamp 65536 = 65536 from rfl]
                have hN := (hS.ext hb2).c1
                clear hS
                go_wp2_with fail
                exact hK.out _ _ ⟨hN.1, 1, false, true, true, s5, s6, s7, (.agg #[.int .i64 65536, .int .i64 65536]), v15, v17, by omega, rfl, rfl, rfl, hN⟩
              · have hN := hS.a5
                exact wpOp_alloc (by simp only [List.getElem?_toArray, List.getElem?_cons_succ, List.getElem?_cons_zero]; rfl) rfl 32 rfl zero2 (fun w => by kernel_rfl) ⟨hN.1, 0, true, true, true, (.pointer (some ⟨wc.heap.size, 0, none⟩)), s6, s7, v13, v15, v17, by omega, rfl, rfl, rfl, hN⟩
      · cases d6
        · cases d7
          · refine Or.inr ⟨_, rfl, ?_, ?_⟩
            · rw [show Region.ready _ _ _ = [0, 6, 7] from (by kernel_rfl)]; simp
            · rw [show Region.ready _ _ _ = [0, 6, 7] from (by kernel_rfl)]
              intro i hi
              simp only [List.mem_cons, List.not_mem_nil, or_false] at hi
              rcases hi with rfl | rfl | rfl
              · refine wpOp_of (by simp only [List.getElem?_toArray, List.getElem?_cons_succ, List.getElem?_cons_zero]; rfl) (fun K hK => ?_)
                go_simp
                refine (rof_any 65536 _).mono ?_
                rintro e w2 ⟨rfl, hb2⟩
                rw [show Fx.clamp 65536 = 65536 from rfl]
                have hN := (hS.ext hb2).c1
                clear hS
                go_wp2_with fail
                exact hK.out _ _ ⟨hN.1, 1, true, false, false, s5, s6, s7, (.agg #[.int .i64 65536, .int .i64 65536]), v15, v17, by omega, rfl, rfl, rfl, hN⟩
              · have hN := hS.a6
                exact wpOp_alloc (by simp only [List.getElem?_toArray, List.getElem?_cons_succ, List.getElem?_cons_zero]; rfl) rfl 32 rfl zero2 (fun w => by kernel_rfl) ⟨hN.1, 0, true, true, false, s5, (.pointer (some ⟨wc.heap.size, 0, none⟩)), s7, v13, v15, v17, by omega, rfl, rfl, rfl, hN⟩
              · have hN := hS.a7
                exact wpOp_alloc (by simp only [List.getElem?_toArray, List.getElem?_cons_succ, List.getElem?_cons_zero]; rfl) rfl 32 rfl zero2 (fun w => by kernel_rfl) ⟨hN.1, 0, true, false, true, s5, s6, (.pointer (some ⟨wc.heap.size, 0, none⟩)), v13, v15, v17, by omega, rfl, rfl, rfl, hN⟩
          · refine Or.inr ⟨_, rfl, ?_, ?_⟩
            · rw [show Region.ready _ _ _ = [0, 6] from (by kernel_rfl)]; simp
            · rw [show Region.ready _ _ _ = [0, 6] from (by kernel_rfl)]
              intro i hi
              simp only [List.mem_cons, List.not_mem_nil, or_false] at hi
              rcases hi with rfl | rfl
              · refine wpOp_of (by simp only [List.getElem?_toArray, List.getElem?_cons_succ, List.getElem?_cons_zero]; rfl) (fun K hK => ?_)
                go_simp
                refine (rof_any 65536 _).mono ?_
                rintro e w2 ⟨rfl, hb2⟩
                rw [show Fx.clamp 65536 = 65536 from rfl]
                have hN := (hS.ext hb2).c1
                clear hS
                go_wp2_with fail
                exact hK.out _ _ ⟨hN.1, 1, true, false, true, s5, s6, s7, (.agg #[.int .i64 65536, .int .i64 65536]), v15, v17, by omega, rfl, rfl, rfl, hN⟩
              · have hN := hS.a6
                exact wpOp_alloc (by simp only [List.getElem?_toArray, List.getElem?_cons_succ, List.getElem?_cons_zero]; rfl) rfl 32 rfl zero2 (fun w => by kernel_rfl) ⟨hN.1, 0, true, true, true, s5, (.pointer (some ⟨wc.heap.size, 0, none⟩)), s7, v13, v15, v17, by omega, rfl, rfl, rfl, hN⟩
        · cases d7
          · refine Or.inr ⟨_, rfl, ?_, ?_⟩
            · rw [show Region.ready _ _ _ = [0, 7] from (by kernel_rfl)]; simp
            · rw [show Region.ready _ _ _ = [0, 7] from (by kernel_rfl)]
              intro i hi
              simp only [List.mem_cons, List.not_mem_nil, or_false] at hi
              rcases hi with rfl | rfl
              · refine wpOp_of (by simp only [List.getElem?_toArray, List.getElem?_cons_succ, List.getElem?_cons_zero]; rfl) (fun K hK => ?_)
                go_simp
                refine (rof_any 65536 _).mono ?_
                rintro e w2 ⟨rfl, hb2⟩
                rw [show Fx.clamp 65536 = 65536 from rfl]
                have hN := (hS.ext hb2).c1
                clear hS
                go_wp2_with fail
                exact hK.out _ _ ⟨hN.1, 1, true, true, false, s5, s6, s7, (.agg #[.int .i64 65536, .int .i64 65536]), v15, v17, by omega, rfl, rfl, rfl, hN⟩
              · have hN := hS.a7
                exact wpOp_alloc (by simp only [List.getElem?_toArray, List.getElem?_cons_succ, List.getElem?_cons_zero]; rfl) rfl 32 rfl zero2 (fun w => by kernel_rfl) ⟨hN.1, 0, true, true, true, s5, s6, (.pointer (some ⟨wc.heap.size, 0, none⟩)), v13, v15, v17, by omega, rfl, rfl, rfl, hN⟩
          · refine Or.inr ⟨_, rfl, ?_, ?_⟩
            · rw [show Region.ready _ _ _ = [0] from (by kernel_rfl)]; simp
            · rw [show Region.ready _ _ _ = [0] from (by kernel_rfl)]
              intro i hi
              simp only [List.mem_cons, List.not_mem_nil, or_false] at hi
              subst hi
              refine wpOp_of (by simp only [List.getElem?_toArray, List.getElem?_cons_succ, List.getElem?_cons_zero]; rfl) (fun K hK => ?_)
              go_simp
              refine (rof_any 65536 _).mono ?_
              rintro e w2 ⟨rfl, hb2⟩
              rw [show Fx.clamp 65536 = 65536 from rfl]
              have hN := (hS.ext hb2).c1
              clear hS
              go_wp2_with fail
              exact hK.out _ _ ⟨hN.1, 1, true, true, true, s5, s6, s7, (.agg #[.int .i64 65536, .int .i64 65536]), v15, v17, by omega, rfl, rfl, rfl, hN⟩
    · cases d5
      · cases d6
        · cases d7
          · refine Or.inr ⟨_, rfl, ?_, ?_⟩
            · rw [show Region.ready _ _ _ = [2, 5, 6, 7] from (by kernel_rfl)]; simp
            · rw [show Region.ready _ _ _ = [2, 5, 6, 7] from (by kernel_rfl)]
              intro i hi
              simp only [List.mem_cons, List.not_mem_nil, or_false] at hi
              rcases hi with rfl | rfl | rfl | rfl
              · refine wpOp_of (by simp only [List.getElem?_toArray, List.getElem?_cons_succ, List.getElem?_cons_zero]; rfl) (fun K hK => ?_)
                go_simp
                refine (cosover_any a b _ HV.out).mono ?_
                rintro e w2 ⟨l, h, u0, u1, u2, rfl, hb2⟩
                have hN := (hS.ext hb2).c2 (v := .agg #[.int .i64 l, .int .i64 h]) ⟨l, h, u0, u1, u2, rfl⟩
                clear hS
                go_wp2_with fail
                exact hK.out _ _ ⟨hN.1, 2, false, false, false, s5, s6, s7, v13, (.agg #[.int .i64 l, .int .i64 h]), v17, by omega, rfl, rfl, rfl, hN⟩
              · have hN := hS.a5
                exact wpOp_alloc (by simp only [List.getElem?_toArray, List.getElem?_cons_succ, List.getElem?_cons_zero]; rfl) rfl 32 rfl zero2 (fun w => by kernel_rfl) ⟨hN.1, 1, true, false, false, (.pointer (some ⟨wc.heap.size, 0, none⟩)), s6, s7, v13, v15, v17, by omega, rfl, rfl, rfl, hN⟩
              · have hN := hS.a6
                exact wpOp_alloc (by simp only [List.getElem?_toArray, List.getElem?_cons_succ, List.getElem?_cons_zero]; rfl) rfl 32 rfl zero2 (fun w => by kernel_rfl) ⟨hN.1, 1, false, true, false, s5, (.pointer (some ⟨wc.heap.size, 0, none⟩)), s7, v13, v15, v17, by omega, rfl, rfl, rfl, hN⟩
              · have hN := hS.a7
                exact wpOp_alloc (by simp only [List.getElem?_toArray, List.getElem?_cons_succ, List.getElem?_cons_zero]; rfl) rfl 32 rfl zero2 (fun w => by kernel_rfl) ⟨hN.1, 1, false, false, true, s5, s6, (.pointer (some ⟨wc.heap.size, 0, none⟩)), v13, v15, v17, by omega, rfl, rfl, rfl, hN⟩
          · refine Or.inr ⟨_, rfl, ?_, ?_⟩
            · rw [show Region.ready _ _ _ = [2, 5, 6] from (by kernel_rfl)]; simp
            · rw [show Region.ready _ _ _ = [2, 5, 6] from (by kernel_rfl)]
              intro i hi
              simp only [List.mem_cons, List.not_mem_nil, or_false] at hi
              rcases hi with rfl | rfl | rfl
              · refine wpOp_of (by simp only [List.getElem?_toArray, List.getElem?_cons_succ, List.getElem?_cons_zero]; rfl) (fun K hK => ?_)
                go_simp
                refine (cosover_any a b _ HV.out).mono ?_
                rintro e w2 ⟨l, h, u0, u1, u2, rfl, hb2⟩
                have hN := (hS.ext hb2).c2 (v := .agg #[.int .i64 l, .int .i64 h]) ⟨l, h, u0, u1, u2, rfl⟩
                clear hS
                go_wp2_with fail
                exact hK.out _ _ ⟨hN.1, 2, false, false, true, s5, s6, s7, v13, (.agg #[.int .i64 l, .int .i64 h]), v17, by omega, rfl, rfl, rfl, hN⟩
              · have hN := hS.a5
                exact wpOp_alloc (by simp only [List.getElem?_toArray, List.getElem?_cons_succ, List.getElem?_cons_zero]; rfl) rfl 32 rfl zero2 (fun w => by kernel_rfl) ⟨hN.1, 1, true, false, true, (.pointer (some ⟨wc.heap.size, 0, none⟩)), s6, s7, v13, v15, v17, by omega, rfl, rfl, rfl, hN⟩
              · have hN := hS.a6
                exact wpOp_alloc (by simp only [List.getElem?_toArray, List.getElem?_cons_succ, List.getElem?_cons_zero]; rfl) rfl 32 rfl zero2 (fun w => by kernel_rfl) ⟨hN.1, 1, false, true, true, s5, (.pointer (some ⟨wc.heap.size, 0, none⟩)), s7, v13, v15, v17, by omega, rfl, rfl, rfl, hN⟩
        · cases d7
          · refine Or.inr ⟨_, rfl, ?_, ?_⟩
            · rw [show Region.ready _ _ _ = [2, 5, 7] from (by kernel_rfl)]; simp
            · rw [show Region.ready _ _ _ = [2, 5, 7] from (by kernel_rfl)]
              intro i hi
              simp only [List.mem_cons, List.not_mem_nil, or_false] at hi
              rcases hi with rfl | rfl | rfl
              · refine wpOp_of (by simp only [List.getElem?_toArray, List.getElem?_cons_succ, List.getElem?_cons_zero]; rfl) (fun K hK => ?_)
                go_simp
                refine (cosover_any a b _ HV.out).mono ?_
                rintro e w2 ⟨l, h, u0, u1, u2, rfl, hb2⟩
                have hN := (hS.ext hb2).c2 (v := .agg #[.int .i64 l, .int .i64 h]) ⟨l, h, u0, u1, u2, rfl⟩
                clear hS
                go_wp2_with fail
                exact hK.out _ _ ⟨hN.1, 2, false, true, false, s5, s6, s7, v13, (.agg #[.int .i64 l, .int .i64 h]), v17, by omega, rfl, rfl, rfl, hN⟩
              · have hN := hS.a5
                exact wpOp_alloc (by simp only [List.getElem?_toArray, List.getElem?_cons_succ, List.getElem?_cons_zero]; rfl) rfl 32 rfl zero2 (fun w => by kernel_rfl) ⟨hN.1, 1, true, true, false, (.pointer (some ⟨wc.heap.size, 0, none⟩)), s6, s7, v13, v15, v17, by omega, rfl, rfl, rfl, hN⟩
              · have hN := hS.a7
                exact wpOp_alloc (by simp only [List.getElem?_toArray, List.getElem?_cons_succ, List.getElem?_cons_zero]; rfl) rfl 32 rfl zero2 (fun w => by kernel_rfl) ⟨hN.1, 1, false, true, true, s5, s6, (.pointer (some ⟨wc.heap.size, 0, none⟩)), v13, v15, v17, by omega, rfl, rfl, rfl, hN⟩
          · refine Or.inr ⟨_, rfl, ?_, ?_⟩
            · rw [show Region.ready _ _ _ = [2, 5] from (by kernel_rfl)]; simp
            · rw [show Region.ready _ _ _ = [2, 5] from (by kernel_rfl)]
              intro i hi
              simp only [List.mem_cons, List.not_mem_nil, or_false] at hi
              rcases hi with rfl | rfl
              · refine wpOp_of (by simp only [List.getElem?_toArray, List.getElem?_cons_succ, List.getElem?_cons_zero]; rfl) (fun K hK => ?_)
                go_simp
                refine (cosover_any a b _ HV.out).mono ?_
                rintro e w2 ⟨l, h, u0, u1, u2, rfl, hb2⟩
                have hN := (hS.ext hb2).c2 (v := .agg #[.int .i64 l, .int .i64 h]) ⟨l, h, u0, u1, u2, rfl⟩
                clear hS
                go_wp2_with fail
                exact hK.out _ _ ⟨hN.1, 2, false, true, true, s5, s6, s7, v13, (.agg #[.int .i64 l, .int .i64 h]), v17, by omega, rfl, rfl, rfl, hN⟩
              · have hN := hS.a5
                exact wpOp_alloc (by simp only [List.getElem?_toArray, List.getElem?_cons_succ, List.getElem?_cons_zero]; rfl) rfl 32 rfl zero2 (fun w => by kernel_rfl) ⟨hN.1, 1, true, true, true, (.pointer (some ⟨wc.heap.size, 0, none⟩)), s6, s7, v13, v15, v17, by omega, rfl, rfl, rfl, hN⟩
      · cases d6
        · cases d7
          · refine Or.inr ⟨_, rfl, ?_, ?_⟩
            · rw [show Region.ready _ _ _ = [2, 6, 7] from (by kernel_rfl)]; simp
            · rw [show Region.ready _ _ _ = [2, 6, 7] from (by kernel_rfl)]
              intro i hi
              simp only [List.mem_cons, List.not_mem_nil, or_false] at hi
              rcases hi with rfl | rfl | rfl
              · refine wpOp_of (by simp only [List.getElem?_toArray, List.getElem?_cons_succ, List.getElem?_cons_zero]; rfl) (fun K hK => ?_)
                go_simp
                refine (cosover_any a b _ HV.out).mono ?_
                rintro e w2 ⟨l, h, u0, u1, u2, rfl, hb2⟩
                have hN := (hS.ext hb2).c2 (v := .agg #[.int .i64 l, .int .i64 h]) ⟨l, h, u0, u1, u2, rfl⟩
                clear hS
                go_wp2_with fail
                exact hK.out _ _ ⟨hN.1, 2, true, false, false, s5, s6, s7, v13, (.agg #[.int .i64 l, .int .i64 h]), v17, by omega, rfl, rfl, rfl, hN⟩
              · have hN := hS.a6
                exact wpOp_alloc (by simp only [List.getElem?_toArray, List.getElem?_cons_succ, List.getElem?_cons_zero]; rfl) rfl 32 rfl zero2 (fun w => by kernel_rfl) ⟨hN.1, 1, true, true, false, s5, (.pointer (some ⟨wc.heap.size, 0, none⟩)), s7, v13, v15, v17, by omega, rfl, rfl, rfl, hN⟩
              · have hN := hS.a7
                exact wpOp_alloc (by simp only [List.getElem?_toArray, List.getElem?_cons_succ, List.getElem?_cons_zero]; rfl) rfl 32 rfl zero2 (fun w => by kernel_rfl) ⟨hN.1, 1, true, false, true, s5, s6, (.pointer (some ⟨wc.heap.size, 0, none⟩)), v13, v15, v17, by omega, rfl, rfl, rfl, hN⟩
          · refine Or.inr ⟨_, rfl, ?_, ?_⟩
            · rw [show Region.ready _ _ _ = [2, 6] from (by kernel_rfl)]; simp
            · rw [show Region.ready _ _ _ = [2, 6] from (by kernel_rfl)]
              intro i hi
              simp only [List.mem_cons, List.not_mem_nil, or_false] at hi
              rcases hi with rfl | rfl
              · refine wpOp_of (by simp only [List.getElem?_toArray, List.getElem?_cons_succ, List.getElem?_cons_zero]; rfl) (fun K hK => ?_)
                go_simp
                refine (cosover_any a b _ HV.out).mono ?_
                rintro e w2 ⟨l, h, u0, u1, u2, rfl, hb2⟩
                have hN := (hS.ext hb2).c2 (v := .agg #[.int .i64 l, .int .i64 h]) ⟨l, h, u0, u1, u2, rfl⟩
                clear hS
                go_wp2_with fail
                exact hK.out _ _ ⟨hN.1, 2, true, false, true, s5, s6, s7, v13, (.agg #[.int .i64 l, .int .i64 h]), v17, by omega, rfl, rfl, rfl, hN⟩
              · have hN := hS.a6
                exact wpOp_alloc (by simp only [List.getElem?_toArray, List.getElem?_cons_succ, List.getElem?_cons_zero]; rfl) rfl 32 rfl zero2 (fun w => by kernel_rfl) ⟨hN.1, 1, true, true, true, s5, (.pointer (some ⟨wc.heap.size, 0, none⟩)), s7, v13, v15, v17, by omega, rfl, rfl, rfl, hN⟩
        · cases d7
          · refine Or.inr ⟨_, rfl, ?_, ?_⟩
            · rw [show Region.ready _ _ _ = [2, 7] from (by kernel_rfl)]; simp
            · rw [show Region.ready _ _ _ = [2, 7] from (by kernel_rfl)]
              intro i hi
              simp only [List.mem_cons, List.not_mem_nil, or_false] at hi
              rcases hi with rfl | rfl
              · refine wpOp_of (by simp only [List.getElem?_toArray, List.getElem?_cons_succ, List.getElem?_cons_zero]; rfl) (fun K hK => ?_)
                go_simp
                refine (cosover_any a b _ HV.out).mono ?_
                rintro e w2 ⟨l, h, u0, u1, u2, rfl, hb2⟩
                have hN := (hS.ext hb2).c2 (v := .agg #[.int .i64 l, .int .i64 h]) ⟨l, h, u0, u1, u2, rfl⟩
                clear hS
                go_wp2_with fail
                exact hK.out _ _ ⟨hN.1, 2, true, true, false, s5, s6, s7, v13, (.agg #[.int .i64 l, .int .i64 h]), v17, by omega, rfl, rfl, rfl, hN⟩
              · have hN := hS.a7
                exact wpOp_alloc (by simp only [List.getElem?_toArray, List.getElem?_cons_succ, List.getElem?_cons_zero]; rfl) rfl 32 rfl zero2 (fun w => by kernel_rfl) ⟨hN.1, 1, true, true, true, s5, s6, (.pointer (some ⟨wc.heap.size, 0, none⟩)), v13, v15, v17, by omega, rfl, rfl, rfl, hN⟩
          · refine Or.inr ⟨_, rfl, ?_, ?_⟩
            · rw [show Region.ready _ _ _ = [2] from (by kernel_rfl)]; simp
            · rw [show Region.ready _ _ _ = [2] from (by kernel_rfl)]
              intro i hi
              simp only [List.mem_cons, List.not_mem_nil, or_false] at hi
              subst hi
              refine wpOp_of (by simp only [List.getElem?_toArray, List.getElem?_cons_succ, List.getElem?_cons_zero]; rfl) (fun K hK => ?_)
              go_simp
              refine (cosover_any a b _ HV.out).mono ?_
              rintro e w2 ⟨l, h, u0, u1, u2, rfl, hb2⟩
              have hN := (hS.ext hb2).c2 (v := .agg #[.int .i64 l, .int .i64 h]) ⟨l, h, u0, u1, u2, rfl⟩
              clear hS
              go_wp2_with fail
              exact hK.out _ _ ⟨hN.1, 2, true, true, true, s5, s6, s7, v13, (.agg #[.int .i64 l, .int .i64 h]), v17, by omega, rfl, rfl, rfl, hN⟩
    · cases d5
      · cases d6
        · cases d7
          · refine Or.inr ⟨_, rfl, ?_, ?_⟩
            · rw [show Region.ready _ _ _ = [4, 5, 6, 7] from (by kernel_rfl)]; simp
            · rw [show Region.ready _ _ _ = [4, 5, 6, 7] from (by kernel_rfl)]
              intro i hi
              simp only [List.mem_cons, List.not_mem_nil, or_false] at hi
              rcases hi with rfl | rfl | rfl | rfl
              · refine wpOp_of (by simp only [List.getElem?_toArray, List.getElem?_cons_succ, List.getElem?_cons_zero]; rfl) (fun K hK => ?_)
                go_simp
                refine (sinover_any a b _ HV.out).mono ?_
                rintro e w2 ⟨l, h, u0, u1, u2, rfl, hb2⟩
                have hN := (hS.ext hb2).c3 (v := .agg #[.int .i64 l, .int .i64 h]) ⟨l, h, u0, u1, u2, rfl⟩
                clear hS
                go_wp2_with fail
                exact hK.out _ _ ⟨hN.1, 3, false, false, false, s5, s6, s7, v13, v15, (.agg #[.int .i64 l, .int .i64 h]), by omega, rfl, rfl, rfl, hN⟩
              · have hN := hS.a5
                exact wpOp_alloc (by simp only [List.getElem?_toArray, List.getElem?_cons_succ, List.getElem?_cons_zero]; rfl) rfl 32 rfl zero2 (fun w => by kernel_rfl) ⟨hN.1, 2, true, false, false, (.pointer (some ⟨wc.heap.size, 0, none⟩)), s6, s7, v13, v15, v17, by omega, rfl, rfl, rfl, hN⟩
              · have hN := hS.a6
                exact wpOp_alloc (by simp only [List.getElem?_toArray, List.getElem?_cons_succ, List.getElem?_cons_zero]; rfl) rfl 32 rfl zero2 (fun w => by kernel_rfl) ⟨hN.1, 2, false, true, false, s5, (.pointer (some ⟨wc.heap.size, 0, none⟩)), s7, v13, v15, v17, by omega, rfl, rfl, rfl, hN⟩
              · have hN := hS.a7
                exact wpOp_alloc (by simp only [List.getElem?_toArray, List.getElem?_cons_succ, List.getElem?_cons_zero]; rfl) rfl 32 rfl zero2 (fun w => by kernel_rfl) ⟨hN.1, 2, false, false, true, s5, s6, (.pointer (some ⟨wc.heap.size, 0, none⟩)), v13, v15, v17, by omega, rfl, rfl, rfl, hN⟩
          · refine Or.inr ⟨_, rfl, ?_, ?_⟩
            · rw [show Region.ready _ _ _ = [4, 5, 6] from (by kernel_rfl)]; simp
            · rw [show Region.ready _ _ _ = [4, 5, 6] from (by kernel_rfl)]
              intro i hi
              simp only [List.mem_cons, List.not_mem_nil, or_false] at hi
              rcases hi with rfl | rfl | rfl
              · refine wpOp_of (by simp only [List.getElem?_toArray, List.getElem?_cons_succ, List.getElem?_cons_zero]; rfl) (fun K hK => ?_)
                go_simp
                refine (sinover_any a b _ HV.out).mono ?_
                rintro e w2 ⟨l, h, u0, u1, u2, rfl, hb2⟩
                have hN := (hS.ext hb2).c3 (v := .agg #[.int .i64 l, .int .i64 h]) ⟨l, h, u0, u1, u2, rfl⟩
                clear hS
                go_wp2_with fail
                exact hK.out _ _ ⟨hN.1, 3, false, false, true, s5, s6, s7, v13, v15, (.agg #[.int .i64 l, .int .i64 h]), by omega, rfl, rfl, rfl, hN⟩
              · have hN := hS.a5
                exact wpOp_alloc (by simp only [List.getElem?_toArray, List.getElem?_cons_succ, List.getElem?_cons_zero]; rfl) rfl 32 rfl zero2 (fun w => by kernel_rfl) ⟨hN.1, 2, true, false, true, (.pointer (some ⟨wc.heap.size, 0, none⟩)), s6, s7, v13, v15, v17, by omega, rfl, rfl, rfl, hN⟩
              · have hN := hS.a6
                exact wpOp_alloc (by simp only [List.getElem?_toArray, List.getElem?_cons_succ, List.getElem?_cons_zero]; rfl) rfl 32 rfl zero2 (fun w => by kernel_rfl) ⟨hN.1, 2, false, true, true, s5, (.pointer (some ⟨wc.heap.size, 0, none⟩)), s7, v13, v15, v17, by omega, rfl, rfl, rfl, hN⟩
        · cases d7
          · refine Or.inr ⟨_, rfl, ?_, ?_⟩
            · rw [show Region.ready _ _ _ = [4, 5, 7] from (by kernel_rfl)]; simp
            · rw [show Region.ready _ _ _ = [4, 5, 7] from (by kernel_rfl)]
              intro i hi
              simp only [List.mem_cons, List.not_mem_nil, or_false] at hi
              rcases hi with rfl | rfl | rfl
              · refine wpOp_of (by simp only [List.getElem?_toArray, List.getElem?_cons_succ, List.getElem?_cons_zero]; rfl) (fun K hK => ?_)
                go_simp
                refine (sinover_any a b _ HV.out).mono ?_
                rintro e w2 ⟨l, h, u0, u1, u2, rfl, hb2⟩
                have hN := (hS.ext hb2).c3 (v := .agg #[.int .i64 l, .int .i64 h]) ⟨l, h, u0, u1, u2, rfl⟩
                clear hS
                go_wp2_with fail
                exact hK.out _ _ ⟨hN.1, 3, false, true, false, s5, s6, s7, v13, v15, (.agg #[.int .i64 l, .int .i64 h]), by omega, rfl, rfl, rfl, hN⟩
              · have hN := hS.a5
                exact wpOp_alloc (by simp only [List.getElem?_toArray, List.getElem?_cons_succ, List.getElem?_cons_zero]; rfl) rfl 32 rfl zero2 (fun w => by kernel_rfl) ⟨hN.1, 2, true, true, false, (.pointer (some ⟨wc.heap.size, 0, none⟩)), s6, s7, v13, v15, v17, by omega, rfl, rfl, rfl, hN⟩
              · have hN := hS.a7
                exact wpOp_alloc (by simp only [List.getElem?_toArray, List.getElem?_cons_succ, List.getElem?_cons_zero]; rfl) rfl 32 rfl zero2 (fun w => by kernel_rfl) ⟨hN.1, 2, false, true, true, s5, s6, (.pointer (some ⟨wc.heap.size, 0, none⟩)), v13, v15, v17, by omega, rfl, rfl, rfl, hN⟩
          · refine Or.inr ⟨_, rfl, ?_, ?_⟩
            · rw [show Region.ready _ _ _ = [4, 5] from (by kernel_rfl)]; simp
            · rw [show Region.ready _ _ _ = [4, 5] from (by kernel_rfl)]
              intro i hi
              simp only [List.mem_cons, List.not_mem_nil, or_false] at hi
              rcases hi with rfl | rfl
              · refine wpOp_of (by simp only [List.getElem?_toArray, List.getElem?_cons_succ, List.getElem?_cons_zero]; rfl) (fun K hK => ?_)
                go_simp
                refine (sinover_any a b _ HV.out).mono ?_
                rintro e w2 ⟨l, h, u0, u1, u2, rfl, hb2⟩
                have hN := (hS.ext hb2).c3 (v := .agg #[.int .i64 l, .int .i64 h]) ⟨l, h, u0, u1, u2, rfl⟩
                clear hS
                go_wp2_with fail
                exact hK.out _ _ ⟨hN.1, 3, false, true, true, s5, s6, s7, v13, v15, (.agg #[.int .i64 l, .int .i64 h]), by omega, rfl, rfl, rfl, hN⟩
              · have hN := hS.a5
                exact wpOp_alloc (by simp only [List.getElem?_toArray, List.getElem?_cons_succ, List.getElem?_cons_zero]; rfl) rfl 32 rfl zero2 (fun w => by kernel_rfl) ⟨hN.1, 2, true, true, true, (.pointer (some ⟨wc.heap.size, 0, none⟩)), s6, s7, v13, v15, v17, by omega, rfl, rfl, rfl, hN⟩
      · cases d6
        · cases d7
          · refine Or.inr ⟨_, rfl, ?_, ?_⟩
            · rw [show Region.ready _ _ _ = [4, 6, 7] from (by kernel_rfl)]; simp
            · rw [show Region.ready _ _ _ = [4, 6, 7] from (by kernel_rfl)]
              intro i hi
              simp only [List.mem_cons, List.not_mem_nil, or_false] at hi
              rcases hi with rfl | rfl | rfl
              · refine wpOp_of (by simp only [List.getElem?_toArray, List.getElem?_cons_succ, List.getElem?_cons_zero]; rfl) (fun K hK => ?_)
                go_simp
                refine (sinover_any a b _ HV.out).mono ?_
                rintro e w2 ⟨l, h, u0, u1, u2, rfl, hb2⟩
                have hN := (hS.ext hb2).c3 (v := .agg #[.int .i64 l, .int .i64 h]) ⟨l, h, u0, u1, u2, rfl⟩
                clear hS
                go_wp2_with fail
                exact hK.out _ _ ⟨hN.1, 3, true, false, false, s5, s6, s7, v13, v15, (.agg #[.int .i64 l, .int .i64 h]), by omega, rfl, rfl, rfl, hN⟩
              · have hN := hS.a6
                exact wpOp_alloc (by simp only [List.getElem?_toArray, List.getElem?_cons_succ, List.getElem?_cons_zero]; rfl) rfl 32 rfl zero2 (fun w => by kernel_rfl) ⟨hN.1, 2, true, true, false, s5, (.pointer (some ⟨wc.heap.size, 0, none⟩)), s7, v13, v15, v17, by omega, rfl, rfl, rfl, hN⟩
              · have hN := hS.a7
                exact wpOp_alloc (by simp only [List.getElem?_toArray, List.getElem?_cons_succ, List.getElem?_cons_zero]; rfl) rfl 32 rfl zero2 (fun w => by kernel_rfl) ⟨hN.1, 2, true, false, true, s5, s6, (.pointer (some ⟨wc.heap.size, 0, none⟩)), v13, v15, v17, by omega, rfl, rfl, rfl, hN⟩
          · refine Or.inr ⟨_, rfl, ?_, ?_⟩
            · rw [show Region.ready _ _ _ = [4, 6] from (by kernel_rfl)]; simp
            · rw [show Region.ready _ _ _ = [4, 6] from (by kernel_rfl)]
              intro i hi
              simp only [List.mem_cons, List.not_mem_nil, or_false] at hi
              rcases hi with rfl | rfl
              · refine wpOp_of (by simp only [List.getElem?_toArray, List.getElem?_cons_succ, List.getElem?_cons_zero]; rfl) (fun K hK => ?_)
                go_simp
                refine (sinover_any a b _ HV.out).mono ?_
                rintro e w2 ⟨l, h, u0, u1, u2, rfl, hb2⟩
                have hN := (hS.ext hb2).c3 (v := .agg #[.int .i64 l, .int .i64 h]) ⟨l, h, u0, u1, u2, rfl⟩
                clear hS
                go_wp2_with fail
                exact hK.out _ _ ⟨hN.1, 3, true, false, true, s5, s6, s7, v13, v15, (.agg #[.int .i64 l, .int .i64 h]), by omega, rfl, rfl, rfl, hN⟩
              · have hN := hS.a6
                exact wpOp_alloc (by simp only [List.getElem?_toArray, List.getElem?_cons_succ, List.getElem?_cons_zero]; rfl) rfl 32 rfl zero2 (fun w => by kernel_rfl) ⟨hN.1, 2, true, true, true, s5, (.pointer (some ⟨wc.heap.size, 0, none⟩)), s7, v13, v15, v17, by omega, rfl, rfl, rfl, hN⟩
        · cases d7
          · refine Or.inr ⟨_, rfl, ?_, ?_⟩
            · rw [show Region.ready _ _ _ = [4, 7] from (by kernel_rfl)]; simp
            · rw [show Region.ready _ _ _ = [4, 7] from (by kernel_rfl)]
              intro i hi
              simp only [List.mem_cons, List.not_mem_nil, or_false] at hi
              rcases hi with rfl | rfl
              · refine wpOp_of (by simp only [List.getElem?_toArray, List.getElem?_cons_succ, List.getElem?_cons_zero]; rfl) (fun K hK => ?_)
                go_simp
                refine (sinover_any a b _ HV.out).mono ?_
                rintro e w2 ⟨l, h, u0, u1, u2, rfl, hb2⟩
                have hN := (hS.ext hb2).c3 (v := .agg #[.int .i64 l, .int .i64 h]) ⟨l, h, u0, u1, u2, rfl⟩
                clear hS
                go_wp2_with fail
                exact hK.out _ _ ⟨hN.1, 3, true, true, false, s5, s6, s7, v13, v15, (.agg #[.int .i64 l, .int .i64 h]), by omega, rfl, rfl, rfl, hN⟩
              · have hN := hS.a7
                exact wpOp_alloc (by simp only [List.getElem?_toArray, List.getElem?_cons_succ, List.getElem?_cons_zero]; rfl) rfl 32 rfl zero2 (fun w => by kernel_rfl) ⟨hN.1, 2, true, true, true, s5, s6, (.pointer (some ⟨wc.heap.size, 0, none⟩)), v13, v15, v17, by omega, rfl, rfl, rfl, hN⟩
          · refine Or.inr ⟨_, rfl, ?_, ?_⟩
            · rw [show Region.ready _ _ _ = [4] from (by kernel_rfl)]; simp
            · rw [show Region.ready _ _ _ = [4] from (by kernel_rfl)]
              intro i hi
              simp only [List.mem_cons, List.not_mem_nil, or_false] at hi
              subst hi
              refine wpOp_of (by simp only [List.getElem?_toArray, List.getElem?_cons_succ, List.getElem?_cons_zero]; rfl) (fun K hK => ?_)
              go_simp
              refine (sinover_any a b _ HV.out).mono ?_
              rintro e w2 ⟨l, h, u0, u1, u2, rfl, hb2⟩
              have hN := (hS.ext hb2).c3 (v := .agg #[.int .i64 l, .int .i64 h]) ⟨l, h, u0, u1, u2, rfl⟩
              clear hS
              go_wp2_with fail
              exact hK.out _ _ ⟨hN.1, 3, true, true, true, s5, s6, s7, v13, v15, (.agg #[.int .i64 l, .int .i64 h]), by omega, rfl, rfl, rfl, hN⟩
    · cases d5
      · cases d6
        · cases d7
          · refine Or.inr ⟨_, rfl, ?_, ?_⟩
            · rw [show Region.ready _ _ _ = [5, 6, 7] from (by kernel_rfl)]; simp
            · rw [show Region.ready _ _ _ = [5, 6, 7] from (by kernel_rfl)]
              intro i hi
              simp only [List.mem_cons, List.not_mem_nil, or_false] at hi
              rcases hi with rfl | rfl | rfl
              · have hN := hS.a5
                exact wpOp_alloc (by simp only [List.getElem?_toArray, List.getElem?_cons_succ, List.getElem?_cons_zero]; rfl) rfl 32 rfl zero2 (fun w => by kernel_rfl) ⟨hN.1, 3, true, false, false, (.pointer (some ⟨wc.heap.size, 0, none⟩)), s6, s7, v13, v15, v17, by omega, rfl, rfl, rfl, hN⟩
              · have hN := hS.a6
                exact wpOp_alloc (by simp only [List.getElem?_toArray, List.getElem?_cons_succ, List.getElem?_cons_zero]; rfl) rfl 32 rfl zero2 (fun w => by kernel_rfl) ⟨hN.1, 3, false, true, false, s5, (.pointer (some ⟨wc.heap.size, 0, none⟩)), s7, v13, v15, v17, by omega, rfl, rfl, rfl, hN⟩
              · have hN := hS.a7
                exact wpOp_alloc (by simp only [List.getElem?_toArray, List.getElem?_cons_succ, List.getElem?_cons_zero]; rfl) rfl 32 rfl zero2 (fun w => by kernel_rfl) ⟨hN.1, 3, false, false, true, s5, s6, (.pointer (some ⟨wc.heap.size, 0, none⟩)), v13, v15, v17, by omega, rfl, rfl, rfl, hN⟩
          · refine Or.inr ⟨_, rfl, ?_, ?_⟩
            · rw [show Region.ready _ _ _ = [5, 6] from (by kernel_rfl)]; simp
            · rw [show Region.ready _ _ _ = [5, 6] from (by kernel_rfl)]
              intro i hi
              simp only [List.mem_cons, List.not_mem_nil, or_false] at hi
              rcases hi with rfl | rfl
              · have hN := hS.a5
                exact wpOp_alloc (by simp only [List.getElem?_toArray, List.getElem?_cons_succ, List.getElem?_cons_zero]; rfl) rfl 32 rfl zero2 (fun w => by kernel_rfl) ⟨hN.1, 3, true, false, true, (.pointer (some ⟨wc.heap.size, 0, none⟩)), s6, s7, v13, v15, v17, by omega, rfl, rfl, rfl, hN⟩
              · have hN := hS.a6
                exact wpOp_alloc (by simp only [List.getElem?_toArray, List.getElem?_cons_succ, List.getElem?_cons_zero]; rfl) rfl 32 rfl zero2 (fun w => by kernel_rfl) ⟨hN.1, 3, false, true, true, s5, (.pointer (some ⟨wc.heap.size, 0, none⟩)), s7, v13, v15, v17, by omega, rfl, rfl, rfl, hN⟩
        · cases d7
          · refine Or.inr ⟨_, rfl, ?_, ?_⟩
            · rw [show Region.ready _ _ _ = [5, 7] from (by kernel_rfl)]; simp
            · rw [show Region.ready _ _ _ = [5, 7] from (by kernel_rfl)]
              intro i hi
              simp only [List.mem_cons, List.not_mem_nil, or_false] at hi
              rcases hi with rfl | rfl
              · have hN := hS.a5
                exact wpOp_alloc (by simp only [List.getElem?_toArray, List.getElem?_cons_succ, List.getElem?_cons_zero]; rfl) rfl 32 rfl zero2 (fun w => by kernel_rfl) ⟨hN.1, 3, true, true, false, (.pointer (some ⟨wc.heap.size, 0, none⟩)), s6, s7, v13, v15, v17, by omega, rfl, rfl, rfl, hN⟩
              · have hN := hS.a7
                exact wpOp_alloc (by simp only [List.getElem?_toArray, List.getElem?_cons_succ, List.getElem?_cons_zero]; rfl) rfl 32 rfl zero2 (fun w => by kernel_rfl) ⟨hN.1, 3, false, true, true, s5, s6, (.pointer (some ⟨wc.heap.size, 0, none⟩)), v13, v15, v17, by omega, rfl, rfl, rfl, hN⟩
          · refine Or.inr ⟨_, rfl, ?_, ?_⟩
            · rw [show Region.ready _ _ _ = [5] from (by kernel_rfl)]; simp
            · rw [show Region.ready _ _ _ = [5] from (by kernel_rfl)]
              intro i hi
              simp only [List.mem_cons, List.not_mem_nil, or_false] at hi
              subst hi
              have hN := hS.a5
              exact wpOp_alloc (by simp only [List.getElem?_toArray, List.getElem?_cons_succ, List.getElem?_cons_zero]; rfl) rfl 32 rfl zero2 (fun w => by kernel_rfl) ⟨hN.1, 3, true, true, true, (.pointer (some ⟨wc.heap.size, 0, none⟩)), s6, s7, v13, v15, v17, by omega, rfl, rfl, rfl, hN⟩
      · cases d6
        · cases d7
          · refine Or.inr ⟨_, rfl, ?_, ?_⟩
            · rw [show Region.ready _ _ _ = [6, 7] from (by kernel_rfl)]; simp
            · rw [show Region.ready _ _ _ = [6, 7] from (by kernel_rfl)]
              intro i hi
              simp only [List.mem_cons, List.not_mem_nil, or_false] at hi
              rcases hi with rfl | rfl
              · have hN := hS.a6
                exact wpOp_alloc (by simp only [List.getElem?_toArray, List.getElem?_cons_succ, List.getElem?_cons_zero]; rfl) rfl 32 rfl zero2 (fun w => by kernel_rfl) ⟨hN.1, 3, true, true, false, s5, (.pointer (some ⟨wc.heap.size, 0, none⟩)), s7, v13, v15, v17, by omega, rfl, rfl, rfl, hN⟩
              · have hN := hS.a7
                exact wpOp_alloc (by simp only [List.getElem?_toArray, List.getElem?_cons_succ, List.getElem?_cons_zero]; rfl) rfl 32 rfl zero2 (fun w => by kernel_rfl) ⟨hN.1, 3, true, false, true, s5, s6, (.pointer (some ⟨wc.heap.size, 0, none⟩)), v13, v15, v17, by omega, rfl, rfl, rfl, hN⟩
          · refine Or.inr ⟨_, rfl, ?_, ?_⟩
            · rw [show Region.ready _ _ _ = [6] from (by kernel_rfl)]; simp
            · rw [show Region.ready _ _ _ = [6] from (by kernel_rfl)]
              intro i hi
              simp only [List.mem_cons, List.not_mem_nil, or_false] at hi
              subst hi
              have hN := hS.a6
              exact wpOp_alloc (by simp only [List.getElem?_toArray, List.getElem?_cons_succ, List.getElem?_cons_zero]; rfl) rfl 32 rfl zero2 (fun w => by kernel_rfl) ⟨hN.1, 3, true, true, true, s5, (.pointer (some ⟨wc.heap.size, 0, none⟩)), s7, v13, v15, v17, by omega, rfl, rfl, rfl, hN⟩
        · cases d7
          · refine Or.inr ⟨_, rfl, ?_, ?_⟩
            · rw [show Region.ready _ _ _ = [7] from (by kernel_rfl)]; simp
            · rw [show Region.ready _ _ _ = [7] from (by kernel_rfl)]
              intro i hi
              simp only [List.mem_cons, List.not_mem_nil, or_false] at hi
              subst hi
              have hN := hS.a7
              exact wpOp_alloc (by simp only [List.getElem?_toArray, List.getElem?_cons_succ, List.getElem?_cons_zero]; rfl) rfl 32 rfl zero2 (fun w => by kernel_rfl) ⟨hN.1, 3, true, true, true, s5, s6, (.pointer (some ⟨wc.heap.size, 0, none⟩)), v13, v15, v17, by omega, rfl, rfl, rfl, hN⟩
          · refine Or.inl ?_
            have HS := Lib.hid hS
            clear hS
            obtain ⟨hb, e13, e15, e17, n5, n6, n7, x56, x57, x67⟩ := HS.out
            clear HS
            obtain rfl := e13 (by omega)
            obtain ⟨c0, c1, hc0, hc1, hc2, rfl⟩ := e15 (by omega)
            obtain ⟨z0, z1, hz0, hz1, hz2, rfl⟩ := e17 (by omega)
            obtain ⟨g5, rfl, hg5, hW5⟩ := n5 rfl
            obtain ⟨g6, rfl, hg6, hW6⟩ := n6 rfl
            obtain ⟨g7, rfl, hg7, hW7⟩ := n7 rfl
            have y56 : g5 ≠ g6 := fun e => x56 rfl rfl (by rw [e])
            have y57 : g5 ≠ g7 := fun e => x57 rfl rfl (by rw [e])
            have y67 : g6 ≠ g7 := fun e => x67 rfl rfl (by rw [e])
            have HW5 := Lib.hid hW5; have HW6 := Lib.hid hW6; have HW7 := Lib.hid hW7
            clear e13 e15 e17 n5 n6 n7 x56 x57 x67 hW5 hW6 hW7
            have hHeld := hb
            show wpAnyH _ _ _ _ _ (2 + 1) #[true, true, true, true, true, true, true, true, false, false, false] _ _
            refine wpAnyH_ready (rs := [8]) (by kernel_rfl) (by simp) ?_
            refine AllReadyH.cons (by simp only [List.getElem?_toArray, List.getElem?_cons_succ, List.getElem?_cons_zero]; rfl) (fun K hK => ?_) AllReadyH.nil
            rw [if_pos (by rfl)]
            refine wp_store_mid _ _ _ rfl g5 0 #[.int .i64 65536, .int .i64 65536] rfl rfl (there_all HW5.out 2 (by simp)) (by kernel_rfl) (two_one _ _) ?_
            have HV5 := Lib.hid (HW5.out.store2 0 (.int .i64 65536) (.int .i64 65536) rfl)
            have HV6 := Lib.hid (HW6.out.farN [.int .i64 65536, .int .i64 65536] (Ne.symm y56) 0)
            have HV7 := Lib.hid (HW7.out.farN [.int .i64 65536, .int .i64 65536] (Ne.symm y57) 0)
            have hb2 := ext_setN [.int .i64 65536, .int .i64 65536] hb hg5 0
            clear HW5 HW6 HW7 hHeld
            generalize wc.setCells g5 0 [.int .i64 65536, .int .i64 65536] = w2 at *
            refine hK.out _ _ hb2 (fun hHeld => ?_)
            clear hK K hb
            try simp only [Act.put, List.setIfInBounds_toArray, List.set_cons_zero, List.set_cons_succ]
            refine wpAnyH_ready (rs := [9]) (by kernel_rfl) (by simp) ?_
            refine AllReadyH.cons (by simp only [List.getElem?_toArray, List.getElem?_cons_succ, List.getElem?_cons_zero]; rfl) (fun K hK => ?_) AllReadyH.nil
            rw [if_pos (by rfl)]
            refine wp_store_mid _ _ _ rfl g6 0 #[.int .i64 c0, .int .i64 c1] rfl rfl (there_all HV6.out 2 (by simp)) (by kernel_rfl) (two_one _ _) ?_
            have HU6 := Lib.hid (HV6.out.store2 0 (.int .i64 c0) (.int .i64 c1) rfl)
            have HU5 := Lib.hid (HV5.out.farN [.int .i64 c0, .int .i64 c1] y56 0)
            have HU7 := Lib.hid (HV7.out.farN [.int .i64 c0, .int .i64 c1] (Ne.symm y67) 0)
            have hb3 := ext_setN [.int .i64 c0, .int .i64 c1] hb2 hg6 0
            clear HV5 HV6 HV7 hHeld
            generalize w2.setCells g6 0 [.int .i64 c0, .int .i64 c1] = w3 at *
            refine hK.out _ _ hb3 (fun hHeld => ?_)
            clear hK K hb2
            try simp only [Act.put, List.setIfInBounds_toArray, List.set_cons_zero, List.set_cons_succ]
            refine wpAnyH_ready (rs := [10]) (by kernel_rfl) (by simp) ?_
            refine AllReadyH.cons (by simp only [List.getElem?_toArray, List.getElem?_cons_succ, List.getElem?_cons_zero]; rfl) (fun K hK => ?_) AllReadyH.nil
            rw [if_pos (by rfl)]
            refine wp_store_mid _ _ _ rfl g7 0 #[.int .i64 z0, .int .i64 z1] rfl rfl (there_all HU7.out 2 (by simp)) (by kernel_rfl) (two_one _ _) ?_
            have HT7 := Lib.hid (HU7.out.store2 0 (.int .i64 z0) (.int .i64 z1) rfl)
            have HT5 := Lib.hid (HU5.out.farN [.int .i64 z0, .int .i64 z1] y57 0)
            have HT6 := Lib.hid (HU6.out.farN [.int .i64 z0, .int .i64 z1] y67 0)
            have hb4 := ext_setN [.int .i64 z0, .int .i64 z1] hb3 hg7 0
            clear HU5 HU6 HU7 hHeld
            generalize w3.setCells g7 0 [.int .i64 z0, .int .i64 z1] = w4 at *
            refine hK.out _ _ hb4 (fun hHeld => ?_)
            clear hK K hb3 hHeld
            try simp only [Act.put, List.setIfInBounds_toArray, List.set_cons_zero, List.set_cons_succ]
            refine wpAnyH_done (by kernel_rfl) ?_ _
            refine NoPanic.normal ?_
            have p0 : w4.cell? ⟨g7, 0, none⟩ = some (.int .i64 z0) := HT7.out.cell 0
            have p1 : w4.cell? ⟨g7, 1, none⟩ = some (.int .i64 z1) := HT7.out.cell 1
            go_wp2_with fail
            refine (rneg_any z0 z1 _).mono ?_
            rintro e w5 ⟨rfl, hb5⟩
            have en : Fx.negLo z0 z1 = -z1 ∧ Fx.negHi z0 z1 = -z0 := by
              have e : Fx.vb z0 z1 = true := by rw [Fx.vb_true]; omega
              unfold Fx.negLo Fx.negHi
              rw [e]
              exact ⟨rfl, rfl⟩
            rw [en.1, en.2]
            clear en p0 p1
            obtain ⟨n0, hn0⟩ : ∃ z : Int, z = -z1 := ⟨_, rfl⟩
            obtain ⟨n1, hn1⟩ : ∃ z : Int, z = -z0 := ⟨_, rfl⟩
            rw [← hn0, ← hn1]
            have hn : -65536 ≤ n0 ∧ n0 ≤ n1 ∧ n1 ≤ 65536 := by omega
            clear hn0 hn1
            have HM := Lib.hid (mats c0 c1 z0 z1 n0 n1 ⟨hc0, hc1, hc2⟩ ⟨hz0, hz1, hz2⟩ hn)
            have hD5 := ((HD1.out.ext hb4).ext hb5).alloc (.cells #[.int .i64 n0, .int .i64 n1] 32)
            have hE5 := ext_alloc (ext_trans (ext_trans hE1 hb4) hb5) (.cells #[.int .i64 n0, .int .i64 n1] 32)
            have h5 := (HT5.out.ext hb5).alloc (.cells #[.int .i64 n0, .int .i64 n1] 32)
            have h6 := (HT6.out.ext hb5).alloc (.cells #[.int .i64 n0, .int .i64 n1] 32)
            have h7 := (HT7.out.ext hb5).alloc (.cells #[.int .i64 n0, .int .i64 n1] 32)
            have h8 := Whole.new w5 32 #[.int .i64 n0, .int .i64 n1]
            have q50 : (w5.alloc (.cells #[.int .i64 n0, .int .i64 n1] 32)).cell? ⟨g5, 0, none⟩ = some (.int .i64 65536) := h5.cell 0
            have q51 : (w5.alloc (.cells #[.int .i64 n0, .int .i64 n1] 32)).cell? ⟨g5, 1, none⟩ = some (.int .i64 65536) := h5.cell 1
            have q60 : (w5.alloc (.cells #[.int .i64 n0, .int .i64 n1] 32)).cell? ⟨g6, 0, none⟩ = some (.int .i64 c0) := h6.cell 0
            have q61 : (w5.alloc (.cells #[.int .i64 n0, .int .i64 n1] 32)).cell? ⟨g6, 1, none⟩ = some (.int .i64 c1) := h6.cell 1
            have q70 : (w5.alloc (.cells #[.int .i64 n0, .int .i64 n1] 32)).cell? ⟨g7, 0, none⟩ = some (.int .i64 z0) := h7.cell 0
            have q71 : (w5.alloc (.cells #[.int .i64 n0, .int .i64 n1] 32)).cell? ⟨g7, 1, none⟩ = some (.int .i64 z1) := h7.cell 1
            have q80 : (w5.alloc (.cells #[.int .i64 n0, .int .i64 n1] 32)).cell? ⟨w5.heap.size, 0, none⟩ = some (.int .i64 n0) := h8.cell 0
            have q81 : (w5.alloc (.cells #[.int .i64 n0, .int .i64 n1] 32)).cell? ⟨w5.heap.size, 1, none⟩ = some (.int .i64 n1) := h8.cell 1
            have hax : ax = 0 ∨ ax = 1 ∨ ax = 2 := by omega
            rcases hax with rfl | rfl | rfl
            · obtain ⟨m, hm⟩ : ∃ m : Fx.M3, m = ⟨⟨65536, 65536, 0, 0, 0, 0⟩, ⟨0, 0, c0, c1, n0, n1⟩, ⟨0, 0, z0, z1, c0, c1⟩⟩ := ⟨_, rfl⟩
              have HMx : Hid (UnitM m) := Lib.hid (by rw [hm]; exact HM.out.1)
              have HMa : Hid (m.arr = (⟨⟨65536, 65536, 0, 0, 0, 0⟩, ⟨0, 0, c0, c1, n0, n1⟩, ⟨0, 0, z0, z1, c0, c1⟩⟩ : Fx.M3).arr) := Lib.hid (by rw [hm])
              have hz : m.arr.size = 18 := m.size
              have ho : (m.arr.all fun v => v.oneCell') = true := mat_one m
              have HF := Lib.hid (hD5.full m.arr hz)
              have hB6 := ext_setN m.arr.toList hE5 (show w.heap.size ≤ w.heap.size + 1 by omega) 0
              have HT := Lib.hid (there_all hD5 m.arr.size (by rw [hz]; exact Nat.le_refl _))
              have HI : Hid ((Try.prog.info? 50).map (·.size) = some m.arr.size) := Lib.hid (by rw [hz]; kernel_rfl)
              clear hD5 hE5 h5 h6 h7 h8 HM hm
              go_wp2_with (refine wpList_store_mid rfl 50 _ _ rfl (w.heap.size + 1) 0 m.arr rfl (congrArg Value.agg HMa.out.symm) HT.out HI.out ho ?_)
              exact bodyPost_ret (ret_cell Try.results57 rfl HF.out Try.underlying50 rfl HI.out) rfl ⟨m, HMx.out, rfl, hB6⟩
            · obtain ⟨m, hm⟩ : ∃ m : Fx.M3, m = ⟨⟨c0, c1, 0, 0, z0, z1⟩, ⟨0, 0, 65536, 65536, 0, 0⟩, ⟨n0, n1, 0, 0, c0, c1⟩⟩ := ⟨_, rfl⟩
              have HMx : Hid (UnitM m) := Lib.hid (by rw [hm]; exact HM.out.2.1)
              have HMa : Hid (m.arr = (⟨⟨c0, c1, 0, 0, z0, z1⟩, ⟨0, 0, 65536, 65536, 0, 0⟩, ⟨n0, n1, 0, 0, c0, c1⟩⟩ : Fx.M3).arr) := Lib.hid (by rw [hm])
              have hz : m.arr.size = 18 := m.size
              have ho : (m.arr.all fun v => v.oneCell') = true := mat_one m
              have HF := Lib.hid (hD5.full m.arr hz)
              have hB6 := ext_setN m.arr.toList hE5 (show w.heap.size ≤ w.heap.size + 1 by omega) 0
              have HT := Lib.hid (there_all hD5 m.arr.size (by rw [hz]; exact Nat.le_refl _))
              have HI : Hid ((Try.prog.info? 50).map (·.size) = some m.arr.size) := Lib.hid (by rw [hz]; kernel_rfl)
              clear hD5 hE5 h5 h6 h7 h8 HM hm
              go_wp2_with (refine wpList_store_mid rfl 50 _ _ rfl (w.heap.size + 1) 0 m.arr rfl (congrArg Value.agg HMa.out.symm) HT.out HI.out ho ?_)
              exact bodyPost_ret (ret_cell Try.results57 rfl HF.out Try.underlying50 rfl HI.out) rfl ⟨m, HMx.out, rfl, hB6⟩
            · obtain ⟨m, hm⟩ : ∃ m : Fx.M3, m = ⟨⟨c0, c1, n0, n1, 0, 0⟩, ⟨z0, z1, c0, c1, 0, 0⟩, ⟨0, 0, 0, 0, 65536, 65536⟩⟩ := ⟨_, rfl⟩
              have HMx : Hid (UnitM m) := Lib.hid (by rw [hm]; exact HM.out.2.2)
              have HMa : Hid (m.arr = (⟨⟨c0, c1, n0, n1, 0, 0⟩, ⟨z0, z1, c0, c1, 0, 0⟩, ⟨0, 0, 0, 0, 65536, 65536⟩⟩ : Fx.M3).arr) := Lib.hid (by rw [hm])
              have hz : m.arr.size = 18 := m.size
              have ho : (m.arr.all fun v => v.oneCell') = true := mat_one m
              have HF := Lib.hid (hD5.full m.arr hz)
              have hB6 := ext_setN m.arr.toList hE5 (show w.heap.size ≤ w.heap.size + 1 by omega) 0
              have HT := Lib.hid (there_all hD5 m.arr.size (by rw [hz]; exact Nat.le_refl _))
              have HI : Hid ((Try.prog.info? 50).map (·.size) = some m.arr.size) := Lib.hid (by rw [hz]; kernel_rfl)
              clear hD5 hE5 h5 h6 h7 h8 HM hm
              go_wp2_with (refine wpList_store_mid rfl 50 _ _ rfl (w.heap.size + 1) 0 m.arr rfl (congrArg Value.agg HMa.out.symm) HT.out HI.out ho ?_)
              exact bodyPost_ret (ret_cell Try.results57 rfl HF.out Try.underlying50 rfl HI.out) rfl ⟨m, HMx.out, rfl, hB6⟩
end Go.Proofs.Ytgnjconhbloocaa

namespace Go.Proofs.Ytgnjconhbloocaa
open Go.RowKit
set_option linter.unusedVariables false

theorem Fx.M3.lit (m : Fx.M3) : m.arr = #[.int .i64 m.x.a, .int .i64 m.x.b, .int .i64 m.x.c, .int .i64 m.x.d, .int .i64 m.x.e, .int .i64 m.x.f, .int .i64 m.y.a, .int .i64 m.y.b, .int .i64 m.y.c, .int .i64 m.y.d, .int .i64 m.y.e, .int .i64 m.y.f, .int .i64 m.z.a, .int .i64 m.z.b, .int .i64 m.z.c, .int .i64 m.z.d, .int .i64 m.z.e, .int .i64 m.z.f] := rfl
theorem Fx.Ps.lit (p : Fx.Ps) : p.arr = #[.int .i64 p.R.x.a, .int .i64 p.R.x.b, .int .i64 p.R.x.c, .int .i64 p.R.x.d, .int .i64 p.R.x.e, .int .i64 p.R.x.f, .int .i64 p.R.y.a, .int .i64 p.R.y.b, .int .i64 p.R.y.c, .int .i64 p.R.y.d, .int .i64 p.R.y.e, .int .i64 p.R.y.f, .int .i64 p.R.z.a, .int .i64 p.R.z.b, .int .i64 p.R.z.c, .int .i64 p.R.z.d, .int .i64 p.R.z.e, .int .i64 p.R.z.f, .int .i64 p.T.a, .int .i64 p.T.b, .int .i64 p.T.c, .int .i64 p.T.d, .int .i64 p.T.e, .int .i64 p.T.f] := by rw [Fx.Ps.arr, Fx.M3.lit]; rfl
abbrev zero24 : Array Value := #[.int .i64 0, .int .i64 0, .int .i64 0, .int .i64 0, .int .i64 0, .int .i64 0, .int .i64 0, .int .i64 0, .int .i64 0, .int .i64 0, .int .i64 0, .int .i64 0, .int .i64 0, .int .i64 0, .int .i64 0, .int .i64 0, .int .i64 0, .int .i64 0, .int .i64 0, .int .i64 0, .int .i64 0, .int .i64 0, .int .i64 0, .int .i64 0]
/-- The unit matrix. -/
def Fx.unitM : Fx.M3 := ⟨⟨65536, 65536, 0, 0, 0, 0⟩, ⟨0, 0, 65536, 65536, 0, 0⟩, ⟨0, 0, 0, 0, 65536, 65536⟩⟩
theorem unitM_unit : UnitM Fx.unitM := (mats 65536 65536 0 0 0 0 (by omega) (by omega) (by omega)).1
theorem Fx.Ps.size (p : Fx.Ps) : p.arr.size = 24 := by rw [Fx.Ps.arr, Array.size_append, Fx.M3.size, arr_size]
theorem pose_one (p : Fx.Ps) : (p.arr.all fun v => v.oneCell') = true := by
  unfold Fx.Ps.arr
  rw [Array.all_append, mat_one, arr_one]; rfl

set_option maxRecDepth 100000 in
set_option maxHeartbeats 400000 in
theorem unit_any (w : World) :
    Calls Try.prog 61 #[] w fun e w' => e = .returned (.agg Fx.unitM.arr) ∧ Below w.heap.size w w' := by
  go_enter Try.func61, Try.ntmps61
  go_wp2_with fail
  have hD0 := Whole.new w 50 zero18
  have hE0 := ext_alloc (ext_refl w) (.cells zero18 50)
  refine (rof_any 65536 _).mono ?_
  rintro e w1 ⟨rfl, hb1⟩
  have hD := hD0.ext hb1
  have hE := ext_trans hE0 hb1
  have hlt := hD.lt
  clear hD0 hE0 hb1
  rw [show Fx.clamp 65536 = 65536 from rfl]
  have h8 := Whole.new w1 32 #[.int .i64 65536, .int .i64 65536]
  have hD2 := hD.alloc (.cells #[.int .i64 65536, .int .i64 65536] 32)
  have hE2 := ext_alloc hE (.cells #[.int .i64 65536, .int .i64 65536] 32)
  have q0 : (w1.alloc (.cells #[.int .i64 65536, .int .i64 65536] 32)).cell? ⟨w1.heap.size, 0, none⟩ = some (.int .i64 65536) := h8.cell 0
  have q1 : (w1.alloc (.cells #[.int .i64 65536, .int .i64 65536] 32)).cell? ⟨w1.heap.size, 1, none⟩ = some (.int .i64 65536) := h8.cell 1
  have HF := Lib.hid (hD2.full Fx.unitM.arr rfl)
  have hB6 := ext_setN Fx.unitM.arr.toList hE2 (Nat.le_refl _) 0
  have HT := Lib.hid (there_all hD2 18 (Nat.le_refl _))
  clear hD hE hD2 hE2 h8 hlt
  go_wp2_with (refine wpList_store_mid rfl 50 _ _ rfl w.heap.size 0 Fx.unitM.arr rfl rfl HT.out (by kernel_rfl) (mat_one _) ?_)
  exact bodyPost_ret (ret_cell Try.results61 rfl HF.out Try.underlying50 rfl (by kernel_rfl)) rfl ⟨rfl, hB6⟩

def GivesPs (w : World) (e : Ending) (w' : World) : Prop := ∃ p : Fx.Ps, UnitM p.R ∧ p.T = Fx.V3.zero ∧ e = .returned (.agg p.arr) ∧ Below w.heap.size w w'

set_option maxRecDepth 100000 in
set_option maxHeartbeats 400000 in
theorem turnpose_any (ax a b : Int) (w : World) (hv : Fx.vb a b = true) (hx0 : 0 ≤ ax) (hx1 : ax < 3) :
    Calls Try.prog 41 #[.int .i64 ax, .agg #[.int .i64 a, .int .i64 b]] w (GivesPs w) := by
  have HV := Lib.hid hv
  clear hv
  go_enter Try.func41, Try.ntmps41
  go_wp2_with fail
  have h2 := blocks2 w 32 52 #[.int .i64 a, .int .i64 b] zero24
  generalize (w.alloc (.cells #[.int .i64 a, .int .i64 b] 32)).alloc (.cells zero24 52) = w0 at *
  obtain ⟨hA, hD, hb0⟩ := h2
  refine (turn_any ax a b _ HV.out hx0 hx1).mono ?_
  rintro e w1 ⟨m, hm, rfl, hb1⟩
  obtain ⟨p, hp⟩ : ∃ p : Fx.Ps, p = ⟨m, Fx.V3.zero⟩ := ⟨_, rfl⟩
  have hD1 := hD.ext hb1
  have hE1 := ext_trans hb0 hb1
  have HF := Lib.hid (hD1.full p.arr p.size)
  have hB6 := ext_setN p.arr.toList hE1 (show w.heap.size ≤ w.heap.size + 1 by omega) 0
  have HT := Lib.hid (there_all hD1 p.arr.size (by rw [p.size]; exact Nat.le_refl _))
  have HI : Hid ((Try.prog.info? 52).map (·.size) = some p.arr.size) := Lib.hid (by rw [p.size]; kernel_rfl)
  have HM := Lib.hid hm
  have HP := Lib.hid hp
  have HL : Hid (p.arr = #[.int .i64 m.x.a, .int .i64 m.x.b, .int .i64 m.x.c, .int .i64 m.x.d, .int .i64 m.x.e, .int .i64 m.x.f, .int .i64 m.y.a, .int .i64 m.y.b, .int .i64 m.y.c, .int .i64 m.y.d, .int .i64 m.y.e, .int .i64 m.y.f, .int .i64 m.z.a, .int .i64 m.z.b, .int .i64 m.z.c, .int .i64 m.z.d, .int .i64 m.z.e, .int .i64 m.z.f, .int .i64 0, .int .i64 0, .int .i64 0, .int .i64 0, .int .i64 0, .int .i64 0]) := Lib.hid (by rw [hp]; exact Fx.Ps.lit _)
  clear hA hD hb0 hb1 hD1 hE1 hm hp
  rw [m.lit]
  go_wp2_with (refine wpList_store_mid rfl 52 _ _ rfl (w.heap.size + 1) 0 p.arr rfl (congrArg Value.agg HL.out.symm) HT.out HI.out (pose_one _) ?_)
  exact bodyPost_ret (ret_cell Try.results41 rfl HF.out Try.underlying52 rfl HI.out) rfl ⟨p, by rw [HP.out]; exact HM.out, by rw [HP.out], rfl, hB6⟩

end Go.Proofs.Ytgnjconhbloocaa

namespace Go.Proofs.Ytgnjconhbloocaa
open Go.RowKit
set_option linter.unusedVariables false

set_option maxRecDepth 100000 in
set_option maxHeartbeats 400000 in
theorem arr_lit (v : Fx.V3) : v.arr = #[.int .i64 v.a, .int .i64 v.b, .int .i64 v.c, .int .i64 v.d, .int .i64 v.e, .int .i64 v.f] := rfl
theorem unit_lit (w : World) :
    Calls Try.prog 61 #[] w fun e w' => e = .returned (.agg #[.int .i64 65536, .int .i64 65536, .int .i64 0, .int .i64 0, .int .i64 0, .int .i64 0, .int .i64 0, .int .i64 0, .int .i64 65536, .int .i64 65536, .int .i64 0, .int .i64 0, .int .i64 0, .int .i64 0, .int .i64 0, .int .i64 0, .int .i64 65536, .int .i64 65536]) ∧ Below w.heap.size w w' := unit_any w
set_option maxRecDepth 100000 in
set_option maxHeartbeats 400000 in
theorem shift_any (v : Fx.V3) (w : World) :
    Calls Try.prog 43 #[.agg v.arr] w fun e w' => e = .returned (.agg (Fx.Ps.mk Fx.unitM v).arr) ∧ Below w.heap.size w w' := by
  rw [arr_lit v]
  obtain ⟨p, hp⟩ : ∃ p : Fx.Ps, p = ⟨Fx.unitM, v⟩ := ⟨_, rfl⟩
  have HL : Hid (p.arr = #[.int .i64 65536, .int .i64 65536, .int .i64 0, .int .i64 0, .int .i64 0, .int .i64 0, .int .i64 0, .int .i64 0, .int .i64 65536, .int .i64 65536, .int .i64 0, .int .i64 0, .int .i64 0, .int .i64 0, .int .i64 0, .int .i64 0, .int .i64 65536, .int .i64 65536, .int .i64 v.a, .int .i64 v.b, .int .i64 v.c, .int .i64 v.d, .int .i64 v.e, .int .i64 v.f]) := Lib.hid (by rw [hp]; exact Fx.Ps.lit _)
  have HP := Lib.hid hp
  clear hp
  go_enter Try.func43, Try.ntmps43
  go_wp2_with fail
  have h3 := blocks2 w 34 52 #[.int .i64 v.a, .int .i64 v.b, .int .i64 v.c, .int .i64 v.d, .int .i64 v.e, .int .i64 v.f] zero24
  generalize (w.alloc (.cells #[.int .i64 v.a, .int .i64 v.b, .int .i64 v.c, .int .i64 v.d, .int .i64 v.e, .int .i64 v.f] 34)).alloc (.cells zero24 52) = wr at *
  obtain ⟨hA, hC, hb⟩ := h3
  have HA := Lib.hid hA; have HC := Lib.hid hC
  clear hA hC
  refine wp_region_noPanic ?_
  refine wp_region_until_drew (k := 3) (S := fun w' => Below wr.heap.size wr w') (by kernel_rfl) (ext_drew (ext_refl _)) (fun hHeld => ?_)
  refine wpAnyU_take (i := 1) (by simp only [List.getElem?_toArray, List.getElem?_cons_succ, List.getElem?_cons_zero]; rfl) (by kernel_rfl) (by kernel_rfl) (by kernel_rfl) (by kernel_rfl) (by kernel_rfl) (fun _ _ _ h => h) (yields_load (by rfl) _ _ rfl w.heap.size (0) (by rfl) [.int .i64 v.a, .int .i64 v.b, .int .i64 v.c, .int .i64 v.d, .int .i64 v.e, .int .i64 v.f] _ HA.out.all HA.out.lt Try.underlying34 rfl (by kernel_rfl)) (by assumption) ?_
  try simp only [Act.put, List.setIfInBounds_toArray, List.set_cons_zero, List.set_cons_succ]
  refine wpAnyU_ready (rs := [0]) (by kernel_rfl) (by simp) ?_
  refine AllReadyU.cons (by simp only [List.getElem?_toArray, List.getElem?_cons_succ, List.getElem?_cons_zero]; rfl) (fun K hK => ?_) AllReadyU.nil
  go_simp
  refine (unit_lit _).mono ?_
  rintro e w_0 ⟨rfl, hb_0⟩
  have hHeld' := ext_trans hHeld hb_0
  clear hHeld hb_0
  go_wp2_with fail
  refine hK.out _ _ hHeld' (fun hHeld => ?_)
  clear hK K hHeld'
  try simp only [Act.put, List.setIfInBounds_toArray, List.set_cons_zero, List.set_cons_succ]
  refine wpAnyU_take (i := 2) (v := ?_) (by simp only [List.getElem?_toArray, List.getElem?_cons_succ, List.getElem?_cons_zero]; rfl) (by kernel_rfl) (by kernel_rfl) (by kernel_rfl) (by kernel_rfl) (by kernel_rfl) (fun _ _ _ h => h) (Or.inl ⟨by rfl, ?_⟩) (by assumption) ?_
  rotate_left
  · intro w hSw; (try dsimp only at hSw); go_simp; first | done | with_reducible rfl
  try simp only [Act.put, List.setIfInBounds_toArray, List.set_cons_zero, List.set_cons_succ]
  have hC := HC.out.ext hHeld
  have hB7 := ext_trans hb hHeld
  refine wpAnyU_ready (rs := [3]) (by kernel_rfl) (by simp) ?_
  refine AllReadyU.last (by simp only [List.getElem?_toArray, List.getElem?_cons_succ, List.getElem?_cons_zero]; rfl) (fun K hK => ?_) AllReadyU.nil
  have HI : Hid ((Try.prog.info? 52).map (·.size) = some p.arr.size) := Lib.hid (by rw [p.size]; kernel_rfl)
  rw [if_pos (by rfl)]
  refine wp_store_mid _ _ _ rfl (w.heap.size + 1) 0 p.arr rfl (congrArg Value.agg HL.out.symm) (there_all hC p.arr.size (by rw [p.size]; exact Nat.le_refl _)) HI.out (pose_one _) ?_
  have HDn := Lib.hid (hC.full p.arr p.size)
  have hBn := ext_setN p.arr.toList hB7 (show w.heap.size ≤ w.heap.size + 1 by omega) 0
  refine hK.out _ _ ?_
  clear hK K hC hB7 hHeld
  try simp only [Act.put, List.setIfInBounds_toArray, List.set_cons_zero, List.set_cons_succ]
  refine wpAnyU_done (by kernel_rfl) ?_ _
  refine NoPanic.normal ?_
  go_wp2_with fail
  exact bodyPost_ret (ret_cell Try.results43 rfl HDn.out Try.underlying52 rfl HI.out) rfl ⟨by rw [HP.out], hBn⟩
end Go.Proofs.Ytgnjconhbloocaa
