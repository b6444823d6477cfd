/- Contracts of shape.least and shape.Bound. -/
import Derived.Test.YtgnjconhbloocaaBoundMath
import Derived.Test.YtgnjconhbloocaaChosen
namespace Go.Proofs.Ytgnjconhbloocaa
open Go.RowKit
set_option linter.unusedVariables false

set_option maxRecDepth 100000 in
set_option maxHeartbeats 1000000 in
theorem least_any (x : Int) (v : Value) (ys : List Int) (w : World) (h : IntSl w v ys) :
    Calls Try.prog 34 #[.int .i64 x, v] w fun e w' => e = .returned (.int .i64 (Fx.lst x ys ys.length)) ∧ w = w' := by
  obtain ⟨a, c, rfl, hl, h⟩ := h
  have H := Lib.hid h
  clear h
  go_enter Try.func34, Try.ntmps34
  go_wp2_with fail
  go_loopw [5, 11] (fun sv jv wr => ∃ k : Nat, k ≤ ys.length ∧ jv = .int .i64 k ∧ sv = .int .i64 (Fx.lst x ys k) ∧ wr = w) (fun _ jv _ => ys.length - (intOf jv).toNat)
  case atStart => exact ⟨0, by omega, by go_num, rfl, rfl⟩
  case round =>
    obtain ⟨k, hk, rfl, rfl, rfl⟩ := hrel
    by_cases hlt : k < ys.length
    · obtain ⟨b, o, rfl, hb, hc⟩ := H.out (by omega)
      have ck := hc k hlt
      have et : Fx.lst x ys (k + 1) = min (Fx.lst x ys k) (ys.getD k 0) := rfl
      have hd : decide ((k : Int) < (ys.length : Int)) = true := by simp; omega
      have HE := Lib.hid et
      have k0 : (0 : Int) ≤ (k : Int) := by omega
      have k1 : (k : Int) < (ys.length : Int) := by omega
      clear hc et
      generalize ys.getD k 0 = y at *
      generalize Fx.lst x ys k = t at *
      go_wp2_with fail
      go_roundw
      case rel => exact ⟨k + 1, by omega, by go_num, by rw [HE.out], trivial⟩
      case measure => simp [intOf]; omega
    · obtain rfl : k = ys.length := by omega
      go_wp2_with fail
      go_ret
      exact ⟨rfl, rfl⟩
theorem ret_bound {tmps : Array Value} {w : World} {g : Nat} {x : Fx.V3} (hW : Whole w g 34 x.arr) (h2 : tmps.getD 4 undef = .pointer (some ⟨g, 0, none⟩)) :
    (results Try.f18 tmps).run Try.prog w = .ok (.agg x.arr) w := by
  have c0 : _ = some (Value.int .i64 x.a) := hW.cell 0
  have c1 : _ = some (Value.int .i64 x.b) := hW.cell 1
  have c2 : _ = some (Value.int .i64 x.c) := hW.cell 2
  have c3 : _ = some (Value.int .i64 x.d) := hW.cell 3
  have c4 : _ = some (Value.int .i64 x.e) := hW.cell 4
  have c5 : _ = some (Value.int .i64 x.f) := hW.cell 5
  clear hW
  have h2' : tmps[4]?.getD undef = .pointer (some ⟨g, 0, none⟩) := by simpa using h2
  simp [results, Try.results18, go_sem, h2', c0, c1, c2, c3, c4, c5, Fx.V3.arr]

/-- The cells of a block known whole, for the walk. -/
theorem Whole.six {w : World} {g : Nat} {t : TypeId} {x : Fx.V3} (h : Whole w g t x.arr) :
    (w.cell? ⟨g, 0, none⟩ = some (.int .i64 x.a) ∧ w.cell? ⟨g, 1, none⟩ = some (.int .i64 x.b) ∧ w.cell? ⟨g, 2, none⟩ = some (.int .i64 x.c) ∧ w.cell? ⟨g, 3, none⟩ = some (.int .i64 x.d) ∧ w.cell? ⟨g, 4, none⟩ = some (.int .i64 x.e) ∧ w.cell? ⟨g, 5, none⟩ = some (.int .i64 x.f)) ∧
    (w.frozen? ⟨g, 0, none⟩ = false ∧ w.frozen? ⟨g, 1, none⟩ = false ∧ w.frozen? ⟨g, 2, none⟩ = false ∧ w.frozen? ⟨g, 3, none⟩ = false ∧ w.frozen? ⟨g, 4, none⟩ = false ∧ w.frozen? ⟨g, 5, none⟩ = false) :=
  ⟨⟨h.cell 0, h.cell 1, h.cell 2, h.cell 3, h.cell 4, h.cell 5⟩, ⟨h.frozen 0, h.frozen 1, h.frozen 2, h.frozen 3, h.frozen 4, h.frozen 5⟩⟩

set_option maxRecDepth 100000 in
set_option maxHeartbeats 2000000 in
theorem bound_no (v : Value) (L : List Fx.V3) (r : Int) (w : World) (hI : VSl w v L) (hno : Fx.boundOk L r = false) :
    Calls Try.prog 18 #[v, .int .i64 r] w fun e w' => e = .returned (.agg (Fx.boundV L r).arr) ∧ Below w.heap.size w w' := by
  rw [Fx.boundV_no hno]
  have HI := Lib.hid hI
  obtain ⟨a, c, rfl, hl, hI'⟩ := hI
  clear hI'
  by_cases hp : Fx.placedB L = true
  · have HP := Lib.hid hp
    have hr : ¬ (0 ≤ r ∧ r ≤ 1048576) := fun h => by rw [Fx.boundOk_yes hp h] at hno; cases hno
    clear hp hno
    by_cases h0 : r < 0
    · have d0 : decide (r < 0) = true := by simp; omega
      clear hr
      go_enter Try.func18, Try.ntmps18
      go_wp2_with fail
      refine (placed_yes _ L _ (HI.out.ext (ext_alloc (ext_alloc (ext_refl _) _) _)) HP.out).mono ?_
      rintro e w1 ⟨rfl, hb1⟩
      have hZ := ((Whole.new w 34 Fx.V3.zero.arr).alloc (.cells Fx.V3.zero.arr 34)).ext hb1
      have hY := (Whole.new (w.alloc (.cells Fx.V3.zero.arr 34)) 34 Fx.V3.zero.arr).ext hb1
      rw [World.size_alloc] at hY
      have hB1 : Below w.heap.size w w1 := ext_trans (ext_alloc (ext_alloc (ext_refl _) _) _) hb1
      obtain ⟨⟨z0, z1, z2, z3, z4, z5⟩, ⟨y0, y1, y2, y3, y4, y5⟩⟩ := hZ.six
      obtain ⟨⟨s0, s1, s2, s3, s4, s5⟩, _⟩ := hY.six
      simp only [Fx.V3.zero] at z0 z1 z2 z3 z4 z5 s0 s1 s2 s3 s4 s5
      have HZ := Lib.hid hZ
      clear hZ hb1 hY
      go_wp2_with fail
      exact bodyPost_ret (ret_bound (x := Fx.V3.zero) (set6_whole Fx.V3.zero HZ.out) rfl) rfl ⟨rfl, set6_ext Fx.V3.zero hB1 (Nat.le_refl _)⟩
    · have d0 : decide (r < 0) = false := by simp; omega
      have d1 : decide (1048576 < r) = true := by simp; omega
      clear hr
      go_enter Try.func18, Try.ntmps18
      go_wp2_with fail
      refine (placed_yes _ L _ (HI.out.ext (ext_alloc (ext_alloc (ext_refl _) _) _)) HP.out).mono ?_
      rintro e w1 ⟨rfl, hb1⟩
      have hZ := ((Whole.new w 34 Fx.V3.zero.arr).alloc (.cells Fx.V3.zero.arr 34)).ext hb1
      have hY := (Whole.new (w.alloc (.cells Fx.V3.zero.arr 34)) 34 Fx.V3.zero.arr).ext hb1
      rw [World.size_alloc] at hY
      have hB1 : Below w.heap.size w w1 := ext_trans (ext_alloc (ext_alloc (ext_refl _) _) _) hb1
      obtain ⟨⟨z0, z1, z2, z3, z4, z5⟩, ⟨y0, y1, y2, y3, y4, y5⟩⟩ := hZ.six
      obtain ⟨⟨s0, s1, s2, s3, s4, s5⟩, _⟩ := hY.six
      simp only [Fx.V3.zero] at z0 z1 z2 z3 z4 z5 s0 s1 s2 s3 s4 s5
      have HZ := Lib.hid hZ
      clear hZ hb1 hY
      go_wp2_with fail
      exact bodyPost_ret (ret_bound (x := Fx.V3.zero) (set6_whole Fx.V3.zero HZ.out) rfl) rfl ⟨rfl, set6_ext Fx.V3.zero hB1 (Nat.le_refl _)⟩
  · have hp : Fx.placedB L = false := by simpa using hp
    have HP := Lib.hid hp
    clear hp hno
    go_enter Try.func18, Try.ntmps18
    go_wp2_with fail
    refine (placed_no _ L _ (HI.out.ext (ext_alloc (ext_alloc (ext_refl _) _) _)) HP.out).mono ?_
    rintro e w1 ⟨rfl, hb1⟩
    have hZ := ((Whole.new w 34 Fx.V3.zero.arr).alloc (.cells Fx.V3.zero.arr 34)).ext hb1
    have hY := (Whole.new (w.alloc (.cells Fx.V3.zero.arr 34)) 34 Fx.V3.zero.arr).ext hb1
    rw [World.size_alloc] at hY
    have hB1 : Below w.heap.size w w1 := ext_trans (ext_alloc (ext_alloc (ext_refl _) _) _) hb1
    obtain ⟨⟨z0, z1, z2, z3, z4, z5⟩, ⟨y0, y1, y2, y3, y4, y5⟩⟩ := hZ.six
    obtain ⟨⟨s0, s1, s2, s3, s4, s5⟩, _⟩ := hY.six
    simp only [Fx.V3.zero] at z0 z1 z2 z3 z4 z5 s0 s1 s2 s3 s4 s5
    have HZ := Lib.hid hZ
    clear hZ hb1 hY
    go_wp2_with fail
    exact bodyPost_ret (ret_bound (x := Fx.V3.zero) (set6_whole Fx.V3.zero HZ.out) rfl) rfl ⟨rfl, set6_ext Fx.V3.zero hB1 (Nat.le_refl _)⟩

end Go.Proofs.Ytgnjconhbloocaa
