/- Contract of shape.Bound for placed points and a radius in order. Contract of the reference's Bound. Contracts on vectors of intervals: matrix.Add, matrix.Point, and the reference's. Contracts of matrix.Point and of the reference's AddVec. Contracts of package interval, fourth part: squares and products. Contracts of package interval, fifth part: products. -/
import Derived.Test.YtgnjconhbloocaaBunM2
import Derived.Test.YtgnjconhbloocaaBunM1
namespace Go.Proofs.Ytgnjconhbloocaa
open Go.RowKit
set_option linter.unusedVariables false

/-- A slice of an array of eight numbers, without the first one. -/
theorem sl8 {w : World} {g : Nat} {t : TypeId} {f : Nat → Int} {n : Nat} (h : Whole w g t (Fx.cells8 f n)) (h1 : 1 ≤ n) (h8 : n ≤ 8) (c : Nat) : IntSl w (.slice (some ⟨g, 1, none⟩) (n - 1) c) ((List.range (n - 1)).map fun i => f (i + 1)) := by
  refine ⟨some ⟨g, 1, none⟩, c, by simp, by simp; omega, fun _ => ⟨g, 1, rfl, h.lt, fun i hi => ?_⟩⟩
  rw [List.length_map, List.length_range] at hi
  rw [h.cell, Fx.cells8_at f n (1 + i) h8 (by omega), Nat.add_comm 1 i]
  simp [List.getD_eq_getElem?_getD, hi]
theorem getD_tail (f : Nat → Int) (n i : Nat) (hi : i < n) : ((List.range n).map fun i => f (i + 1)).getD i 0 = f (i + 1) := by
  simp [List.getD_eq_getElem?_getD, hi]

set_option maxRecDepth 100000 in
set_option maxHeartbeats 2000000 in
theorem bound_yes (v : Value) (L : List Fx.V3) (r : Int) (w : World) (hI : VSl w v L) (hp : Fx.placedB L = true) (hr : 0 ≤ r ∧ r ≤ 1048576) :
    Calls Try.prog 18 #[v, .int .i64 r] w fun e w' => e = .returned (.agg (Fx.boundV L r).arr) ∧ Below w.heap.size w w' := by
  rw [Fx.boundV_yes (Fx.boundOk_yes hp hr)]
  have HI := Lib.hid hI
  obtain ⟨a, c, rfl, hl, hI'⟩ := hI
  have hlen := Fx.placedB_len hp
  obtain ⟨b, o, rfl, hJ⟩ := hI' (by omega)
  have HJ := Lib.hid hJ
  have hbw := hJ.1
  have HP := Lib.hid hp
  have HR := Lib.hid (fun i hi => Fx.allR_at (Fx.placedB_all hp) i hi)
  clear hI' hJ hp
  have d0 : decide (r < 0) = false := by simp; omega
  have d1 : decide (1048576 < r) = false := by simp; omega
  go_enter Try.func18, Try.ntmps18
  go_wp2_with fail
  refine (placed_yes _ L _ (HI.out.ext (ext_alloc (ext_alloc (ext_refl _) _) _)) HP.out).mono ?_
  rintro e w1 ⟨rfl, hb1⟩
  have hZ := ((Whole.new w 34 Fx.V3.zero.arr).alloc (.cells Fx.V3.zero.arr 34)).ext hb1
  have hY := (Whole.new (w.alloc (.cells Fx.V3.zero.arr 34)) 34 Fx.V3.zero.arr).ext hb1
  rw [World.size_alloc] at hY
  have hB1 : Below w.heap.size w w1 := ext_trans (ext_alloc (ext_alloc (ext_refl _) _) _) hb1
  have HZ := Lib.hid hZ; have HY := Lib.hid hY
  clear hZ hb1 hY HI HP d0 d1
  go_wp2_with fail
  go_loopw [23] (fun jv wr => ∃ j : Nat, j ≤ 3 ∧ jv = .int .i64 j ∧ Whole wr w.heap.size 34 Fx.V3.zero.arr ∧ Whole wr (w.heap.size + 1) 34 (Fx.endsTo (fun j => Fx.mnL L j (L.length - 1) - r) (fun j => Fx.mxL L j (L.length - 1) + r) j).arr ∧ Below w.heap.size w wr) (fun jv _ => 3 - (intOf jv).toNat)
  case atStart => exact ⟨0, by omega, rfl, HZ.out, HY.out, hB1⟩
  case round =>
    obtain ⟨j, hj, rfl, hZ, hY, hb⟩ := hrel
    clear HZ HY hB1
    by_cases hj3 : j < 3
    · have HZ := Lib.hid hZ; have HY := Lib.hid hY
      clear hZ hY
      have k0 : (0 : Int) ≤ (j : Int) := by omega
      have k1 : (j : Int) < 3 := by omega
      go_wp2_with fail
      obtain ⟨wo, rfl⟩ : ∃ wo : World, wo = wr := ⟨_, rfl⟩
      have hA0 : Whole ((wo.alloc (.cells (Fx.cells8 (fun i => (L.getD i Fx.V3.zero).lo j) 0) 70)).alloc (.cells (Fx.cells8 (fun i => -(L.getD i Fx.V3.zero).hi j) 0) 70)) wo.heap.size 70 (Fx.cells8 (fun i => (L.getD i Fx.V3.zero).lo j) 0) := (Whole.new wo _ _).alloc _
      have hC0 := Whole.new (wo.alloc (.cells (Fx.cells8 (fun i => (L.getD i Fx.V3.zero).lo j) 0) 70)) 70 (Fx.cells8 (fun i => -(L.getD i Fx.V3.zero).hi j) 0)
      rw [World.size_alloc] at hC0
      have hZ0 := (HZ.out.alloc (.cells (Fx.cells8 (fun i => (L.getD i Fx.V3.zero).lo j) 0) 70)).alloc (.cells (Fx.cells8 (fun i => -(L.getD i Fx.V3.zero).hi j) 0) 70)
      have hY0 := (HY.out.alloc (.cells (Fx.cells8 (fun i => (L.getD i Fx.V3.zero).lo j) 0) 70)).alloc (.cells (Fx.cells8 (fun i => -(L.getD i Fx.V3.zero).hi j) 0) 70)
      have hB0 := ext_alloc (ext_alloc hb (.cells (Fx.cells8 (fun i => (L.getD i Fx.V3.zero).lo j) 0) 70)) (.cells (Fx.cells8 (fun i => -(L.getD i Fx.V3.zero).hi j) 0) 70)
      have hyw : w.heap.size + 1 < wo.heap.size := HY.out.lt
      have HA0 := Lib.hid hA0; have HC0 := Lib.hid hC0; have HZ0 := Lib.hid hZ0; have HY0 := Lib.hid hY0; have HB0 := Lib.hid hB0
      clear hA0 hC0 hZ0 hY0 hB0 hb HZ HY
      go_loopw [28] (fun iv wr => ∃ i : Nat, i ≤ L.length ∧ iv = .int .i64 i ∧ Whole wr wo.heap.size 70 (Fx.cells8 (fun i => (L.getD i Fx.V3.zero).lo j) i) ∧ Whole wr (wo.heap.size + 1) 70 (Fx.cells8 (fun i => -(L.getD i Fx.V3.zero).hi j) i) ∧ Whole wr w.heap.size 34 Fx.V3.zero.arr ∧ Whole wr (w.heap.size + 1) 34 (Fx.endsTo (fun j => Fx.mnL L j (L.length - 1) - r) (fun j => Fx.mxL L j (L.length - 1) + r) j).arr ∧ Below w.heap.size w wr) (fun iv _ => L.length - (intOf iv).toNat)
      case atStart => exact ⟨0, by omega, rfl, HA0.out, HC0.out, HZ0.out, HY0.out, HB0.out⟩
      case round =>
        obtain ⟨i, hi, rfl, hA, hC, hZ, hY, hb⟩ := hrel
        clear HA0 HC0 HZ0 HY0 HB0
        have HA := Lib.hid hA; have HC := Lib.hid hC; have HZ := Lib.hid hZ; have HY := Lib.hid hY
        clear hA hC hZ hY
        by_cases hlt : i < L.length
        · obtain ⟨c0, c1, c2, c3, c4, c5⟩ := (HJ.out.ext hb).at_ i hlt
          have hrx := Fx.near_true.1 (Fx.reachB_at (HR.out i hlt) j hj3)
          have hd : decide ((i : Int) < (L.length : Int)) = true := by simp; omega
          have k2 : (0 : Int) ≤ (i : Int) := by omega
          have k3 : (i : Int) < (L.length : Int) := by omega
          have k4 : (i : Int) < 8 := by omega
          have HA' := Lib.hid (Fx.cells8_next (fun i => (L.getD i Fx.V3.zero).lo j) i (by omega))
          have HC' := Lib.hid (Fx.cells8_next (fun i => -(L.getD i Fx.V3.zero).hi j) i (by omega))
          have ca := (HA.out.cell i).trans (Fx.cells8_any (fun i => (L.getD i Fx.V3.zero).lo j) i i (by omega))
          have cc := (HC.out.cell i).trans (Fx.cells8_any (fun i => -(L.getD i Fx.V3.zero).hi j) i i (by omega))
          rw [if_neg (by omega)] at ca cc
          generalize L.getD i Fx.V3.zero = x at *
          go_wp2_with fail
          have hX := Whole.new wr 34 x.arr
          have HA2 := Lib.hid (HA.out.alloc (.cells x.arr 34))
          have HC2 := Lib.hid (HC.out.alloc (.cells x.arr 34))
          have HZ2 := Lib.hid (HZ.out.alloc (.cells x.arr 34))
          have HY2 := Lib.hid (HY.out.alloc (.cells x.arr 34))
          have hB2 := ext_alloc hb (.cells x.arr 34)
          have ca2 : (wr.alloc (.cells x.arr 34)).cell? ⟨wo.heap.size, i, none⟩ = some (.int .i64 0) := by
            rw [HA2.out.cell i, ← HA.out.cell i]; exact ca
          have cc2 : (wr.alloc (.cells x.arr 34)).cell? ⟨wo.heap.size + 1, i, none⟩ = some (.int .i64 0) := by
            rw [HC2.out.cell i, ← HC.out.cell i]; exact cc
          have hcw : wo.heap.size + 1 < wr.heap.size := HC.out.lt
          have hwz := hb.size
          clear ca cc c0 c1 c2 c3 c4 c5 hb HA HC HZ HY
          unfold Fx.V3.arr at hX hB2 ca2 cc2 HA2 HC2 HZ2 HY2
          generalize wr.alloc (.cells #[.int .i64 x.a, .int .i64 x.b, .int .i64 x.c, .int .i64 x.d, .int .i64 x.e, .int .i64 x.f] 34) = w2 at *
          generalize hgx : wr.heap.size = gx at *
          obtain ⟨p0, p1⟩ := arr_cell x j hj3
          have HCl := Lib.hid ((hX.cell (j * 2)).trans p0)
          have HCh := Lib.hid ((hX.cell (j * 2 + 1)).trans p1)
          generalize x.lo j = xl at *
          generalize x.hi j = xh at *
          clear hX p0 p1 hgx
          have e1 : IntKind.i64.wrap (-xh) = -xh := by rw [IntKind.wrap_i64]; omega
          refine wp_region_noPanic ?_
          refine wp_region_held_drew (S := (fun w' => w'.cell? ⟨gx, j * 2, none⟩ = some (.int .i64 xl) ∧ w'.cell? ⟨gx, j * 2 + 1, none⟩ = some (.int .i64 xh))) (by kernel_rfl) ?_ (fun hHeld => ?_)
          · exact ⟨HCl.out, HCh.out⟩
          refine wpAnyH_take (i := 0) (v := ?_) (by simp only [List.getElem?_toArray, List.getElem?_cons_succ, List.getElem?_cons_zero]; rfl) (by kernel_rfl) (by kernel_rfl) (by kernel_rfl) (fun _ _ _ h => h) (Or.inl ⟨by rfl, ?_⟩) (by assumption) ?_
          rotate_left
          · intro w hSw; (try dsimp only at hSw); go_simp; first | done | with_reducible rfl
          try simp only [Act.put, List.setIfInBounds_toArray, List.set_cons_zero, List.set_cons_succ]
          refine wpAnyH_take (i := 1) (v := ?_) (by simp only [List.getElem?_toArray, List.getElem?_cons_succ, List.getElem?_cons_zero]; rfl) (by kernel_rfl) (by kernel_rfl) (by kernel_rfl) (fun _ _ _ h => h) (Or.inl ⟨by rfl, ?_⟩) (by assumption) ?_
          rotate_left
          · intro w hSw; (try dsimp only at hSw); go_simp; first | done | with_reducible rfl
          try simp only [Act.put, List.setIfInBounds_toArray, List.set_cons_zero, List.set_cons_succ]
          refine wpAnyH_take (i := 2) (v := ?_) (by simp only [List.getElem?_toArray, List.getElem?_cons_succ, List.getElem?_cons_zero]; rfl) (by kernel_rfl) (by kernel_rfl) (by kernel_rfl) (fun _ _ _ h => h) (Or.inl ⟨by rfl, ?_⟩) (by assumption) ?_
          rotate_left
          · intro w hSw; (try dsimp only at hSw); go_simp; first | done | with_reducible rfl
          try simp only [Act.put, List.setIfInBounds_toArray, List.set_cons_zero, List.set_cons_succ]
          refine wpAnyH_take (i := 3) (v := ?_) (by simp only [List.getElem?_toArray, List.getElem?_cons_succ, List.getElem?_cons_zero]; rfl) (by kernel_rfl) (by kernel_rfl) (by kernel_rfl) (fun _ _ _ h => h) (Or.inl ⟨by rfl, ?_⟩) (by assumption) ?_
          rotate_left
          · intro w hSw; (try dsimp only at hSw); go_simp; first | done | with_reducible rfl
          try simp only [Act.put, List.setIfInBounds_toArray, List.set_cons_zero, List.set_cons_succ]
          refine wpAnyH_take (i := 4) (v := ?_) (by simp only [List.getElem?_toArray, List.getElem?_cons_succ, List.getElem?_cons_zero]; rfl) (by kernel_rfl) (by kernel_rfl) (by kernel_rfl) (fun _ _ _ h => h) (Or.inl ⟨by rfl, ?_⟩) (by assumption) ?_
          rotate_left
          · intro w hSw; (try dsimp only at hSw); go_simp; first | done | with_reducible rfl
          try simp only [Act.put, List.setIfInBounds_toArray, List.set_cons_zero, List.set_cons_succ]
          refine wpAnyH_take (i := 5) (v := ?_) (by simp only [List.getElem?_toArray, List.getElem?_cons_succ, List.getElem?_cons_zero]; rfl) (by kernel_rfl) (by kernel_rfl) (by kernel_rfl) (fun _ _ _ h => h) (Or.inl ⟨by rfl, ?_⟩) (by assumption) ?_
          rotate_left
          · intro w hSw; (try dsimp only at hSw); go_simp; first | done | with_reducible rfl
          try simp only [Act.put, List.setIfInBounds_toArray, List.set_cons_zero, List.set_cons_succ]
          refine wpAnyH_take (i := 6) (v := ?_) (by simp only [List.getElem?_toArray, List.getElem?_cons_succ, List.getElem?_cons_zero]; rfl) (by kernel_rfl) (by kernel_rfl) (by kernel_rfl) (fun _ _ _ h => h) (Or.inl ⟨by rfl, ?_⟩) (by assumption) ?_
          rotate_left
          · intro w hSw; (try dsimp only at hSw); go_simp; first | done | with_reducible rfl
          try simp only [Act.put, List.setIfInBounds_toArray, List.set_cons_zero, List.set_cons_succ]
          refine wpAnyH_take (i := 7) (v := ?_) (by simp only [List.getElem?_toArray, List.getElem?_cons_succ, List.getElem?_cons_zero]; rfl) (by kernel_rfl) (by kernel_rfl) (by kernel_rfl) (fun _ _ _ h => h) (Or.inl ⟨by rfl, ?_⟩) (by assumption) ?_
          rotate_left
          · intro w hSw; (try dsimp only at hSw); go_simp; first | done | with_reducible rfl
          try simp only [Act.put, List.setIfInBounds_toArray, List.set_cons_zero, List.set_cons_succ]
          refine wpAnyH_take (i := 8) (v := ?_) (by simp only [List.getElem?_toArray, List.getElem?_cons_succ, List.getElem?_cons_zero]; rfl) (by kernel_rfl) (by kernel_rfl) (by kernel_rfl) (fun _ _ _ h => h) (Or.inl ⟨by rfl, ?_⟩) (by assumption) ?_
          rotate_left
          · intro w hSw; (try dsimp only at hSw); go_simp; first | done | with_reducible rfl
          try simp only [Act.put, List.setIfInBounds_toArray, List.set_cons_zero, List.set_cons_succ]
          refine wpAnyH_take (i := 9) (v := ?_) (by simp only [List.getElem?_toArray, List.getElem?_cons_succ, List.getElem?_cons_zero]; rfl) (by kernel_rfl) (by kernel_rfl) (by kernel_rfl) (fun _ _ _ h => h) (Or.inl ⟨by rfl, ?_⟩) (by assumption) ?_
          rotate_left
          · intro w hSw; (try dsimp only at hSw); go_simp; first | done | with_reducible rfl
          try simp only [Act.put, List.setIfInBounds_toArray, List.set_cons_zero, List.set_cons_succ]
          refine wpAnyH_take (i := 10) (v := ?_) (by simp only [List.getElem?_toArray, List.getElem?_cons_succ, List.getElem?_cons_zero]; rfl) (by kernel_rfl) (by kernel_rfl) (by kernel_rfl) (fun _ _ _ h => h) (Or.inl ⟨by rfl, ?_⟩) (by assumption) ?_
          rotate_left
          · intro w hSw; (try dsimp only at hSw); go_simp; first | done | with_reducible rfl
          try simp only [Act.put, List.setIfInBounds_toArray, List.set_cons_zero, List.set_cons_succ]
          refine wpAnyH_take (i := 11) (v := ?_) (by simp only [List.getElem?_toArray, List.getElem?_cons_succ, List.getElem?_cons_zero]; rfl) (by kernel_rfl) (by kernel_rfl) (by kernel_rfl) (fun _ _ _ h => h) (Or.inl ⟨by rfl, ?_⟩) (by assumption) ?_
          rotate_left
          · intro w hSw; (try dsimp only at hSw); go_simp; first | done | with_reducible rfl
          try simp only [Act.put, List.setIfInBounds_toArray, List.set_cons_zero, List.set_cons_succ]
          refine wpAnyH_ready (rs := [12]) (by kernel_rfl) (by simp) ?_
          refine AllReadyH.cons (by simp only [List.getElem?_toArray, List.getElem?_cons_succ, List.getElem?_cons_zero]; rfl) (fun K hK => ?_) AllReadyH.nil
          have fa := HA2.out.frozen i
          have fc := HC2.out.frozen i
          go_simp
          have hA3 := (HA2.out.store i (.int .i64 xl)).drew
          rw [HA'.out] at hA3
          have HA3 := Lib.hid hA3
          have HC3 := Lib.hid (HC2.out.far (p := ⟨wo.heap.size, i, none⟩) (show wo.heap.size + 1 ≠ wo.heap.size by omega) (.int .i64 xl)).drew
          have HZ3 := Lib.hid (HZ2.out.far (p := ⟨wo.heap.size, i, none⟩) (show w.heap.size ≠ wo.heap.size by omega) (.int .i64 xl)).drew
          have HY3 := Lib.hid (HY2.out.far (p := ⟨wo.heap.size, i, none⟩) (show w.heap.size + 1 ≠ wo.heap.size by omega) (.int .i64 xl)).drew
          have hB3 := ext_drew (ext_set hB2 (p := ⟨wo.heap.size, i, none⟩) (show w.heap.size ≤ wo.heap.size by omega) (.int .i64 xl))
          have cc3 : (w2.setCell ⟨wo.heap.size, i, none⟩ (.int .i64 xl)).drew.cell? ⟨wo.heap.size + 1, i, none⟩ = some (.int .i64 0) := by
            rw [HC3.out.cell i, ← HC2.out.cell i]; exact cc2
          have e3 : (w2.setCell ⟨wo.heap.size, i, none⟩ (.int .i64 xl)).drew.heap[gx]? = w2.heap[gx]? := Below.heap_setCell _ _ _ _ (show gx ≠ wo.heap.size by omega)
          have hK3 : (w2.setCell ⟨wo.heap.size, i, none⟩ (.int .i64 xl)).drew.cell? ⟨gx, j * 2, none⟩ = some (.int .i64 xl) ∧ (w2.setCell ⟨wo.heap.size, i, none⟩ (.int .i64 xl)).drew.cell? ⟨gx, j * 2 + 1, none⟩ = some (.int .i64 xh) := by
            have q1 := HCl.out
            have q2 := HCh.out
            simp only [World.cell?, e3] at q1 q2 ⊢
            exact ⟨q1, q2⟩
          clear hA3 HA2 HC2 HZ2 HY2 hB2 ca2 cc2 fa fc e3 HCl HCh
          generalize (w2.setCell ⟨wo.heap.size, i, none⟩ (.int .i64 xl)).drew = w3 at *
          refine hK.out _ _ ?_ (fun hHeld => ?_)
          · exact hK3
          clear hK K
          try simp only [Act.put, List.setIfInBounds_toArray, List.set_cons_zero, List.set_cons_succ]
          refine wpAnyH_take (i := 13) (v := ?_) (by simp only [List.getElem?_toArray, List.getElem?_cons_succ, List.getElem?_cons_zero]; rfl) (by kernel_rfl) (by kernel_rfl) (by kernel_rfl) (fun _ _ _ h => h) (Or.inl ⟨by rfl, ?_⟩) (by assumption) ?_
          rotate_left
          · intro w hSw; (try dsimp only at hSw); go_simp; first | done | with_reducible rfl
          try simp only [Act.put, List.setIfInBounds_toArray, List.set_cons_zero, List.set_cons_succ]
          refine wpAnyH_ready (rs := [14]) (by kernel_rfl) (by simp) ?_
          refine AllReadyH.cons (by simp only [List.getElem?_toArray, List.getElem?_cons_succ, List.getElem?_cons_zero]; rfl) (fun K hK => ?_) AllReadyH.nil
          have fc := HC3.out.frozen i
          go_simp
          have hC4 := HC3.out.store i (.int .i64 (-xh))
          rw [HC'.out] at hC4
          have HC4 := Lib.hid hC4
          have HA4 := Lib.hid (HA3.out.far (p := ⟨wo.heap.size + 1, i, none⟩) (show wo.heap.size ≠ wo.heap.size + 1 by omega) (.int .i64 (-xh)))
          have HZ4 := Lib.hid (HZ3.out.far (p := ⟨wo.heap.size + 1, i, none⟩) (show w.heap.size ≠ wo.heap.size + 1 by omega) (.int .i64 (-xh)))
          have HY4 := Lib.hid (HY3.out.far (p := ⟨wo.heap.size + 1, i, none⟩) (show w.heap.size + 1 ≠ wo.heap.size + 1 by omega) (.int .i64 (-xh)))
          have hB4 := ext_set hB3 (p := ⟨wo.heap.size + 1, i, none⟩) (show w.heap.size ≤ wo.heap.size + 1 by omega) (.int .i64 (-xh))
          have e3 : (w3.setCell ⟨wo.heap.size + 1, i, none⟩ (.int .i64 (-xh))).heap[gx]? = w3.heap[gx]? := Below.heap_setCell _ _ _ _ (show gx ≠ wo.heap.size + 1 by omega)
          have hK4 : (w3.setCell ⟨wo.heap.size + 1, i, none⟩ (.int .i64 (-xh))).cell? ⟨gx, j * 2, none⟩ = some (.int .i64 xl) ∧ (w3.setCell ⟨wo.heap.size + 1, i, none⟩ (.int .i64 (-xh))).cell? ⟨gx, j * 2 + 1, none⟩ = some (.int .i64 xh) := by
            obtain ⟨q1, q2⟩ := hK3
            simp only [World.cell?, e3] at q1 q2 ⊢
            exact ⟨q1, q2⟩
          clear hC4 HA3 HC3 HZ3 HY3 hB3 cc3 fc e3 hK3 hHeld
          generalize w3.setCell ⟨wo.heap.size + 1, i, none⟩ (.int .i64 (-xh)) = w4 at *
          refine hK.out _ _ ?_ (fun hHeld => ?_)
          · exact hK4
          clear hK K
          try simp only [Act.put, List.setIfInBounds_toArray, List.set_cons_zero, List.set_cons_succ]
          refine wpAnyH_done (by kernel_rfl) ?_ _
          refine NoPanic.normal ?_
          clear hHeld hK4 e1
          go_wp2_with fail
          go_roundw
          case rel => exact ⟨i + 1, by omega, by go_num, HA4.out, HC4.out, HZ4.out, HY4.out, hB4⟩
          case measure => simp [intOf]; omega
        · obtain rfl : i = L.length := by omega
          have hd : decide ((L.length : Int) < (L.length : Int)) = false := by simp
          have k2 : (1 : Int) ≤ (L.length : Int) := by omega
          have k3 : (L.length : Int) ≤ 8 := by omega
          have k4 : L.length ≤ 8 := by omega
          have ca := (HA.out.cell 0).trans (Fx.cells8_at (fun i => (L.getD i Fx.V3.zero).lo j) L.length 0 (by omega) (by omega))
          have cc := (HC.out.cell 0).trans (Fx.cells8_at (fun i => -(L.getD i Fx.V3.zero).hi j) L.length 0 (by omega) (by omega))
          have hbd := Fx.mnL_bd L j hj3 (L.length - 1) (fun i hi => HR.out i (by omega))
          have HMn := Lib.hid (Fx.lst_mn L j ((List.range (L.length - 1)).map fun i => (L.getD (i + 1) Fx.V3.zero).lo j) (L.length - 1) (fun i hi => getD_tail (fun i => (L.getD i Fx.V3.zero).lo j) _ i hi))
          have HMx := Lib.hid (Fx.lst_mx L j ((List.range (L.length - 1)).map fun i => -(L.getD (i + 1) Fx.V3.zero).hi j) (L.length - 1) (fun i hi => getD_tail (fun i => -(L.getD i Fx.V3.zero).hi j) _ i hi))
          have HSa := Lib.hid (fun c => sl8 HA.out (by omega) k4 c)
          have HSc := Lib.hid (fun c => sl8 HC.out (by omega) k4 c)
          have HEn := Lib.hid (Fx.endsTo_next (fun j => Fx.mnL L j (L.length - 1) - r) (fun j => Fx.mxL L j (L.length - 1) + r) j hj3)
          try dsimp only at ca cc
          generalize (L.getD 0 Fx.V3.zero).lo j = lo0 at *
          generalize (L.getD 0 Fx.V3.zero).hi j = hi0 at *
          have HCa := Lib.hid ca; have HCc := Lib.hid cc
          clear ca cc
          go_wp2_with fail
          refine wp_region_noPanic ?_
          refine wp_region_held_drew (S := (fun w' => w'.cell? ⟨wo.heap.size, 0, none⟩ = some (.int .i64 lo0))) (by kernel_rfl) ?_ (fun hHeld => ?_)
          · exact HCa.out
          refine wpAnyH_take (i := 0) (v := ?_) (by simp only [List.getElem?_toArray, List.getElem?_cons_succ, List.getElem?_cons_zero]; rfl) (by kernel_rfl) (by kernel_rfl) (by kernel_rfl) (fun _ _ _ h => h) (Or.inl ⟨by rfl, ?_⟩) (by assumption) ?_
          rotate_left
          · intro w hSw; (try dsimp only at hSw); go_simp; first | done | with_reducible rfl
          try simp only [Act.put, List.setIfInBounds_toArray, List.set_cons_zero, List.set_cons_succ]
          refine wpAnyH_take (i := 1) (v := ?_) (by simp only [List.getElem?_toArray, List.getElem?_cons_succ, List.getElem?_cons_zero]; rfl) (by kernel_rfl) (by kernel_rfl) (by kernel_rfl) (fun _ _ _ h => h) (Or.inl ⟨by rfl, ?_⟩) (by assumption) ?_
          rotate_left
          · intro w hSw; (try dsimp only at hSw); go_simp; first | done | with_reducible rfl
          try simp only [Act.put, List.setIfInBounds_toArray, List.set_cons_zero, List.set_cons_succ]
          refine wpAnyH_take (i := 2) (v := ?_) (by simp only [List.getElem?_toArray, List.getElem?_cons_succ, List.getElem?_cons_zero]; rfl) (by kernel_rfl) (by kernel_rfl) (by kernel_rfl) (fun _ _ _ h => h) (Or.inl ⟨by rfl, ?_⟩) (by assumption) ?_
          rotate_left
          · intro w hSw; (try dsimp only at hSw); go_simp; first | done | with_reducible rfl
          try simp only [Act.put, List.setIfInBounds_toArray, List.set_cons_zero, List.set_cons_succ]
          refine wpAnyH_take (i := 3) (v := ?_) (by simp only [List.getElem?_toArray, List.getElem?_cons_succ, List.getElem?_cons_zero]; rfl) (by kernel_rfl) (by kernel_rfl) (by kernel_rfl) (fun _ _ _ h => h) (Or.inl ⟨by rfl, ?_⟩) (by assumption) ?_
          rotate_left
          · intro w hSw; (try dsimp only at hSw); go_simp; first | done | with_reducible rfl
          try simp only [Act.put, List.setIfInBounds_toArray, List.set_cons_zero, List.set_cons_succ]
          refine wpAnyH_take (i := 4) (v := ?_) (by simp only [List.getElem?_toArray, List.getElem?_cons_succ, List.getElem?_cons_zero]; rfl) (by kernel_rfl) (by kernel_rfl) (by kernel_rfl) (fun _ _ _ h => h) (Or.inl ⟨by rfl, ?_⟩) (by assumption) ?_
          rotate_left
          · intro w hSw; (try dsimp only at hSw); go_simp; first | done | with_reducible rfl
          try simp only [Act.put, List.setIfInBounds_toArray, List.set_cons_zero, List.set_cons_succ]
          refine wpAnyH_take (i := 5) (v := ?_) (by simp only [List.getElem?_toArray, List.getElem?_cons_succ, List.getElem?_cons_zero]; rfl) (by kernel_rfl) (by kernel_rfl) (by kernel_rfl) (fun _ _ _ h => h) (Or.inl ⟨by rfl, ?_⟩) (by assumption) ?_
          rotate_left
          · intro w hSw; (try dsimp only at hSw); go_simp; first | done | with_reducible rfl
          try simp only [Act.put, List.setIfInBounds_toArray, List.set_cons_zero, List.set_cons_succ]
          refine wpAnyH_take (i := 7) (v := ?_) (by simp only [List.getElem?_toArray, List.getElem?_cons_succ, List.getElem?_cons_zero]; rfl) (by kernel_rfl) (by kernel_rfl) (by kernel_rfl) (fun _ _ _ h => h) (Or.inl ⟨by rfl, ?_⟩) (by assumption) ?_
          rotate_left
          · intro w hSw; (try dsimp only at hSw); go_simp; first | done | with_reducible rfl
          try simp only [Act.put, List.setIfInBounds_toArray, List.set_cons_zero, List.set_cons_succ]
          refine wpAnyH_ready (rs := [6]) (by kernel_rfl) (by simp) ?_
          refine AllReadyH.cons (by simp only [List.getElem?_toArray, List.getElem?_cons_succ, List.getElem?_cons_zero]; rfl) (fun K hK => ?_) AllReadyH.nil
          go_simp
          refine (least_any lo0 _ ((List.range (L.length - 1)).map fun i => (L.getD (i + 1) Fx.V3.zero).lo j) _ ((HSa.out 7).ext (ext_drew (ext_refl _)))).mono ?_
          rintro e w2 ⟨rfl, hw2⟩
          rw [List.length_map, List.length_range, HMn.out]
          subst hw2
          generalize Fx.mnL L j (L.length - 1) = mn at *
          go_wp2_with fail
          refine hK.out _ _ ?_ (fun hHeld => ?_)
          · exact HCa.out
          clear hK K
          try simp only [Act.put, List.setIfInBounds_toArray, List.set_cons_zero, List.set_cons_succ]
          have e1 : IntKind.i64.wrap (mn - r) = mn - r := by rw [IntKind.wrap_i64]; omega
          refine wpAnyH_take (i := 8) (v := ?_) (by simp only [List.getElem?_toArray, List.getElem?_cons_succ, List.getElem?_cons_zero]; rfl) (by kernel_rfl) (by kernel_rfl) (by kernel_rfl) (fun _ _ _ h => h) (Or.inl ⟨by rfl, ?_⟩) (by assumption) ?_
          rotate_left
          · intro w hSw; (try dsimp only at hSw); go_simp; first | done | with_reducible rfl
          try simp only [Act.put, List.setIfInBounds_toArray, List.set_cons_zero, List.set_cons_succ]
          refine wpAnyH_take (i := 9) (v := ?_) (by simp only [List.getElem?_toArray, List.getElem?_cons_succ, List.getElem?_cons_zero]; rfl) (by kernel_rfl) (by kernel_rfl) (by kernel_rfl) (fun _ _ _ h => h) (Or.inl ⟨by rfl, ?_⟩) (by assumption) ?_
          rotate_left
          · intro w hSw; (try dsimp only at hSw); go_simp; first | done | with_reducible rfl
          try simp only [Act.put, List.setIfInBounds_toArray, List.set_cons_zero, List.set_cons_succ]
          refine wpAnyH_take (i := 10) (v := ?_) (by simp only [List.getElem?_toArray, List.getElem?_cons_succ, List.getElem?_cons_zero]; rfl) (by kernel_rfl) (by kernel_rfl) (by kernel_rfl) (fun _ _ _ h => h) (Or.inl ⟨by rfl, ?_⟩) (by assumption) ?_
          rotate_left
          · intro w hSw; (try dsimp only at hSw); go_simp; first | done | with_reducible rfl
          try simp only [Act.put, List.setIfInBounds_toArray, List.set_cons_zero, List.set_cons_succ]
          refine wpAnyH_ready (rs := [11]) (by kernel_rfl) (by simp) ?_
          refine AllReadyH.cons (by simp only [List.getElem?_toArray, List.getElem?_cons_succ, List.getElem?_cons_zero]; rfl) (fun K hK => ?_) AllReadyH.nil
          have fy := HY.out.frozen (j * 2)
          have cy := (HY.out.cell (j * 2)).trans (arr_cell _ j hj3).1
          generalize (Fx.endsTo (fun j => Fx.mnL L j (L.length - 1) - r) (fun j => Fx.mxL L j (L.length - 1) + r) j).lo j = yl at *
          go_simp
          have HY3 := Lib.hid (HY.out.store (j * 2) (.int .i64 (mn - r))).drew
          have HZ3 := Lib.hid (HZ.out.far (p := ⟨w.heap.size + 1, j * 2, none⟩) (show w.heap.size ≠ w.heap.size + 1 by omega) (.int .i64 (mn - r))).drew
          have HC3 := Lib.hid (HC.out.far (p := ⟨w.heap.size + 1, j * 2, none⟩) (show wo.heap.size + 1 ≠ w.heap.size + 1 by omega) (.int .i64 (mn - r))).drew
          have hA3 := (HA.out.far (p := ⟨w.heap.size + 1, j * 2, none⟩) (show wo.heap.size ≠ w.heap.size + 1 by omega) (.int .i64 (mn - r))).drew
          have hB3 := ext_drew (ext_set hb (p := ⟨w.heap.size + 1, j * 2, none⟩) (show w.heap.size ≤ w.heap.size + 1 by omega) (.int .i64 (mn - r)))
          have hK3 : (wr.setCell ⟨w.heap.size + 1, j * 2, none⟩ (.int .i64 (mn - r))).drew.cell? ⟨wo.heap.size, 0, none⟩ = some (.int .i64 lo0) := by
            rw [hA3.cell, ← HA.out.cell]; exact HCa.out
          have HCc3 : Hid ((wr.setCell ⟨w.heap.size + 1, j * 2, none⟩ (.int .i64 (mn - r))).drew.cell? ⟨wo.heap.size + 1, 0, none⟩ = some (.int .i64 (-hi0))) := Lib.hid (by
            rw [HC3.out.cell, ← HC.out.cell]; exact HCc.out)
          have HSc3 := Lib.hid (fun c => sl8 HC3.out (by omega) k4 c)
          clear hA3 fy cy HY HZ HC HA hb HCa HCc HSa HSc hHeld
          generalize (wr.setCell ⟨w.heap.size + 1, j * 2, none⟩ (.int .i64 (mn - r))).drew = w3 at *
          refine hK.out _ _ ?_ (fun hHeld => ?_)
          · exact hK3
          clear hK K
          try simp only [Act.put, List.setIfInBounds_toArray, List.set_cons_zero, List.set_cons_succ]
          refine wpAnyH_done (by kernel_rfl) ?_ _
          refine NoPanic.normal ?_
          clear hK3 hHeld e1
          go_wp2_with fail
          refine wp_region_noPanic ?_
          refine wp_region_held_drew (S := (fun w' => w'.cell? ⟨wo.heap.size + 1, 0, none⟩ = some (.int .i64 (-hi0)))) (by kernel_rfl) ?_ (fun hHeld => ?_)
          · exact HCc3.out
          refine wpAnyH_take (i := 0) (v := ?_) (by simp only [List.getElem?_toArray, List.getElem?_cons_succ, List.getElem?_cons_zero]; rfl) (by kernel_rfl) (by kernel_rfl) (by kernel_rfl) (fun _ _ _ h => h) (Or.inl ⟨by rfl, ?_⟩) (by assumption) ?_
          rotate_left
          · intro w hSw; (try dsimp only at hSw); go_simp; first | done | with_reducible rfl
          try simp only [Act.put, List.setIfInBounds_toArray, List.set_cons_zero, List.set_cons_succ]
          refine wpAnyH_take (i := 1) (v := ?_) (by simp only [List.getElem?_toArray, List.getElem?_cons_succ, List.getElem?_cons_zero]; rfl) (by kernel_rfl) (by kernel_rfl) (by kernel_rfl) (fun _ _ _ h => h) (Or.inl ⟨by rfl, ?_⟩) (by assumption) ?_
          rotate_left
          · intro w hSw; (try dsimp only at hSw); go_simp; first | done | with_reducible rfl
          try simp only [Act.put, List.setIfInBounds_toArray, List.set_cons_zero, List.set_cons_succ]
          refine wpAnyH_take (i := 2) (v := ?_) (by simp only [List.getElem?_toArray, List.getElem?_cons_succ, List.getElem?_cons_zero]; rfl) (by kernel_rfl) (by kernel_rfl) (by kernel_rfl) (fun _ _ _ h => h) (Or.inl ⟨by rfl, ?_⟩) (by assumption) ?_
          rotate_left
          · intro w hSw; (try dsimp only at hSw); go_simp; first | done | with_reducible rfl
          try simp only [Act.put, List.setIfInBounds_toArray, List.set_cons_zero, List.set_cons_succ]
          refine wpAnyH_take (i := 3) (v := ?_) (by simp only [List.getElem?_toArray, List.getElem?_cons_succ, List.getElem?_cons_zero]; rfl) (by kernel_rfl) (by kernel_rfl) (by kernel_rfl) (fun _ _ _ h => h) (Or.inl ⟨by rfl, ?_⟩) (by assumption) ?_
          rotate_left
          · intro w hSw; (try dsimp only at hSw); go_simp; first | done | with_reducible rfl
          try simp only [Act.put, List.setIfInBounds_toArray, List.set_cons_zero, List.set_cons_succ]
          refine wpAnyH_take (i := 4) (v := ?_) (by simp only [List.getElem?_toArray, List.getElem?_cons_succ, List.getElem?_cons_zero]; rfl) (by kernel_rfl) (by kernel_rfl) (by kernel_rfl) (fun _ _ _ h => h) (Or.inl ⟨by rfl, ?_⟩) (by assumption) ?_
          rotate_left
          · intro w hSw; (try dsimp only at hSw); go_simp; first | done | with_reducible rfl
          try simp only [Act.put, List.setIfInBounds_toArray, List.set_cons_zero, List.set_cons_succ]
          refine wpAnyH_take (i := 5) (v := ?_) (by simp only [List.getElem?_toArray, List.getElem?_cons_succ, List.getElem?_cons_zero]; rfl) (by kernel_rfl) (by kernel_rfl) (by kernel_rfl) (fun _ _ _ h => h) (Or.inl ⟨by rfl, ?_⟩) (by assumption) ?_
          rotate_left
          · intro w hSw; (try dsimp only at hSw); go_simp; first | done | with_reducible rfl
          try simp only [Act.put, List.setIfInBounds_toArray, List.set_cons_zero, List.set_cons_succ]
          refine wpAnyH_take (i := 6) (v := ?_) (by simp only [List.getElem?_toArray, List.getElem?_cons_succ, List.getElem?_cons_zero]; rfl) (by kernel_rfl) (by kernel_rfl) (by kernel_rfl) (fun _ _ _ h => h) (Or.inl ⟨by rfl, ?_⟩) (by assumption) ?_
          rotate_left
          · intro w hSw; (try dsimp only at hSw); go_simp; first | done | with_reducible rfl
          try simp only [Act.put, List.setIfInBounds_toArray, List.set_cons_zero, List.set_cons_succ]
          refine wpAnyH_ready (rs := [7]) (by kernel_rfl) (by simp) ?_
          refine AllReadyH.cons (by simp only [List.getElem?_toArray, List.getElem?_cons_succ, List.getElem?_cons_zero]; rfl) (fun K hK => ?_) AllReadyH.nil
          go_simp
          refine (least_any (-hi0) _ ((List.range (L.length - 1)).map fun i => -(L.getD (i + 1) Fx.V3.zero).hi j) _ ((HSc3.out 7).ext (ext_drew (ext_refl _)))).mono ?_
          rintro e w4 ⟨rfl, hw4⟩
          rw [List.length_map, List.length_range, HMx.out]
          subst hw4
          generalize Fx.mxL L j (L.length - 1) = mx at *
          go_wp2_with fail
          refine hK.out _ _ ?_ (fun hHeld => ?_)
          · exact HCc3.out
          clear hK K
          try simp only [Act.put, List.setIfInBounds_toArray, List.set_cons_zero, List.set_cons_succ]
          have e1 : IntKind.i64.wrap (r + mx) = mx + r := by rw [IntKind.wrap_i64]; omega
          refine wpAnyH_take (i := 8) (v := ?_) (by simp only [List.getElem?_toArray, List.getElem?_cons_succ, List.getElem?_cons_zero]; rfl) (by kernel_rfl) (by kernel_rfl) (by kernel_rfl) (fun _ _ _ h => h) (Or.inl ⟨by rfl, ?_⟩) (by assumption) ?_
          rotate_left
          · intro w hSw; (try dsimp only at hSw); go_simp; first | done | with_reducible rfl
          try simp only [Act.put, List.setIfInBounds_toArray, List.set_cons_zero, List.set_cons_succ]
          refine wpAnyH_take (i := 9) (v := ?_) (by simp only [List.getElem?_toArray, List.getElem?_cons_succ, List.getElem?_cons_zero]; rfl) (by kernel_rfl) (by kernel_rfl) (by kernel_rfl) (fun _ _ _ h => h) (Or.inl ⟨by rfl, ?_⟩) (by assumption) ?_
          rotate_left
          · intro w hSw; (try dsimp only at hSw); go_simp; first | done | with_reducible rfl
          try simp only [Act.put, List.setIfInBounds_toArray, List.set_cons_zero, List.set_cons_succ]
          refine wpAnyH_take (i := 10) (v := ?_) (by simp only [List.getElem?_toArray, List.getElem?_cons_succ, List.getElem?_cons_zero]; rfl) (by kernel_rfl) (by kernel_rfl) (by kernel_rfl) (fun _ _ _ h => h) (Or.inl ⟨by rfl, ?_⟩) (by assumption) ?_
          rotate_left
          · intro w hSw; (try dsimp only at hSw); go_simp; first | done | with_reducible rfl
          try simp only [Act.put, List.setIfInBounds_toArray, List.set_cons_zero, List.set_cons_succ]
          refine wpAnyH_ready (rs := [11]) (by kernel_rfl) (by simp) ?_
          refine AllReadyH.cons (by simp only [List.getElem?_toArray, List.getElem?_cons_succ, List.getElem?_cons_zero]; rfl) (fun K hK => ?_) AllReadyH.nil
          have fy := HY3.out.frozen (j * 2 + 1)
          have cy := HY3.out.cell (j * 2 + 1)
          have hy2 : ∃ u : Int, ((Fx.endsTo (fun j => Fx.mnL L j (L.length - 1) - r) (fun j => Fx.mxL L j (L.length - 1) + r) j).arr.setIfInBounds (j * 2) (.int .i64 (mn - r)))[j * 2 + 1]? = some (.int .i64 u) := by
            rw [Array.getElem?_setIfInBounds, if_neg (by omega)]
            exact ⟨_, (arr_cell _ j hj3).2⟩
          obtain ⟨yh, hyh⟩ := hy2
          rw [hyh] at cy
          have hY4 := HY3.out.store (j * 2 + 1) (.int .i64 (mx + r))
          rw [HEn.out] at hY4
          have HY4 := Lib.hid hY4.drew
          clear hyh hY4
          go_simp
          have HZ4 := Lib.hid (HZ3.out.far (p := ⟨w.heap.size + 1, j * 2 + 1, none⟩) (show w.heap.size ≠ w.heap.size + 1 by omega) (.int .i64 (mx + r))).drew
          have hC4 := (HC3.out.far (p := ⟨w.heap.size + 1, j * 2 + 1, none⟩) (show wo.heap.size + 1 ≠ w.heap.size + 1 by omega) (.int .i64 (mx + r))).drew
          have hB4 := ext_drew (ext_set hB3 (p := ⟨w.heap.size + 1, j * 2 + 1, none⟩) (show w.heap.size ≤ w.heap.size + 1 by omega) (.int .i64 (mx + r)))
          have hK4 : (w3.setCell ⟨w.heap.size + 1, j * 2 + 1, none⟩ (.int .i64 (mx + r))).drew.cell? ⟨wo.heap.size + 1, 0, none⟩ = some (.int .i64 (-hi0)) := by
            rw [hC4.cell, ← HC3.out.cell]; exact HCc3.out
          clear hC4 fy cy HY3 HZ3 HC3 hB3 HCc3 HSc3 hHeld
          generalize (w3.setCell ⟨w.heap.size + 1, j * 2 + 1, none⟩ (.int .i64 (mx + r))).drew = w4 at *
          refine hK.out _ _ ?_ (fun hHeld => ?_)
          · exact hK4
          clear hK K
          try simp only [Act.put, List.setIfInBounds_toArray, List.set_cons_zero, List.set_cons_succ]
          refine wpAnyH_done (by kernel_rfl) ?_ _
          refine NoPanic.normal ?_
          clear hK4 hHeld e1
          go_wp2_with fail
          go_roundw
          case rel => exact ⟨j + 1, by omega, by go_num, HZ4.out, HY4.out, hB4⟩
          case measure => simp [intOf]; omega
    · obtain rfl : j = 3 := by omega
      rw [Fx.endsTo_three] at hY
      have HZ := Lib.hid hZ
      generalize hx : Fx.ofEnds (fun j => Fx.mnL L j (L.length - 1) - r) (fun j => Fx.mxL L j (L.length - 1) + r) = x at *
      have HX := Lib.hid hx
      clear hx
      obtain ⟨⟨z0, z1, z2, z3, z4, z5⟩, ⟨y0, y1, y2, y3, y4, y5⟩⟩ := hZ.six
      obtain ⟨⟨s0, s1, s2, s3, s4, s5⟩, _⟩ := hY.six
      simp only [Fx.V3.zero] at z0 z1 z2 z3 z4 z5
      clear hZ hY
      go_wp2_with fail
      exact bodyPost_ret (ret_bound (x := x) (set6_whole x HZ.out) rfl) rfl ⟨by rw [HX.out], set6_ext x hb (Nat.le_refl _)⟩

theorem bound_any (v : Value) (L : List Fx.V3) (r : Int) (w : World) (hI : VSl w v L) :
    Calls Try.prog 18 #[v, .int .i64 r] w fun e w' => e = .returned (.agg (Fx.boundV L r).arr) ∧ Below w.heap.size w w' := by
  by_cases hp : Fx.placedB L = true
  · by_cases hr : 0 ≤ r ∧ r ≤ 1048576
    · exact bound_yes v L r w hI hp hr
    · exact bound_no v L r w hI (Fx.boundOk_2 hr)
  · exact bound_no v L r w hI (Fx.boundOk_1 (by simpa using hp))
end Go.Proofs.Ytgnjconhbloocaa

namespace Go.Proofs.Ytgnjconhbloocaa
open Go.RowKit
set_option linter.unusedVariables false

/-- Ends of which the first j are new. -/
def Fx.mixF (lo hi lo' hi' : Nat → Int) (j : Nat) : Fx.V3 := ⟨if 0 < j then lo' 0 else lo 0, if 0 < j then hi' 0 else hi 0, if 1 < j then lo' 1 else lo 1, if 1 < j then hi' 1 else hi 1, if 2 < j then lo' 2 else lo 2, if 2 < j then hi' 2 else hi 2⟩
theorem Fx.mixF_zero (lo hi lo' hi' : Nat → Int) : Fx.mixF lo hi lo' hi' 0 = Fx.ofEnds lo hi := rfl
theorem Fx.mixF_three (lo hi lo' hi' : Nat → Int) : Fx.mixF lo hi lo' hi' 3 = Fx.ofEnds lo' hi' := rfl
theorem Fx.mixF_at (lo hi lo' hi' : Nat → Int) : ∀ j : Nat, j < 3 → (Fx.mixF lo hi lo' hi' j).lo j = lo j ∧ (Fx.mixF lo hi lo' hi' j).hi j = hi j
  | 0, _ => ⟨rfl, rfl⟩
  | 1, _ => ⟨rfl, rfl⟩
  | 2, _ => ⟨rfl, rfl⟩
theorem Fx.mixF_next (lo hi lo' hi' : Nat → Int) : ∀ j : Nat, j < 3 → (((Fx.mixF lo hi lo' hi' j).arr.setIfInBounds (j * 2) (.int .i64 (lo' j))).setIfInBounds (j * 2 + 1) (.int .i64 (hi' j))) = (Fx.mixF lo hi lo' hi' (j + 1)).arr
  | 0, _ => rfl
  | 1, _ => rfl
  | 2, _ => rfl
theorem Fx.ends_first (L : List Fx.V3) : (Fx.ofEnds (fun j => Fx.mnL L j 0) (fun j => Fx.mxL L j 0)) = L.getD 0 Fx.V3.zero := rfl
theorem hull_in (a b c d : Int) (h1 : -268435456 ≤ a ∧ a ≤ b ∧ b ≤ 268435456) (h2 : -268435456 ≤ c ∧ c ≤ d ∧ d ≤ 268435456) : Fx.hullLo a b c d = min a c ∧ Fx.hullHi a b c d = max b d := by
  have e : Fx.v2 a b c d = true := by rw [Fx.v2_true, Fx.vb_true, Fx.vb_true]; omega
  unfold Fx.hullLo Fx.hullHi
  rw [e]
  exact ⟨rfl, rfl⟩

theorem ret_rbound {tmps : Array Value} {w : World} {g : Nat} {x : Fx.V3} (hW : Whole w g 34 x.arr) (h2 : tmps.getD 4 undef = .pointer (some ⟨g, 0, none⟩)) :
    (results Try.f36 tmps).run Try.prog w = .ok (.agg x.arr) w := by
  have c0 : _ = some (Value.int .i64 x.a) := hW.cell 0
  have c1 : _ = some (Value.int .i64 x.b) := hW.cell 1
  have c2 : _ = some (Value.int .i64 x.c) := hW.cell 2
  have c3 : _ = some (Value.int .i64 x.d) := hW.cell 3
  have c4 : _ = some (Value.int .i64 x.e) := hW.cell 4
  have c5 : _ = some (Value.int .i64 x.f) := hW.cell 5
  clear hW
  have h2' : tmps[4]?.getD undef = .pointer (some ⟨g, 0, none⟩) := by simpa using h2
  simp [results, Try.results36, go_sem, h2', c0, c1, c2, c3, c4, c5, Fx.V3.arr]

set_option maxRecDepth 100000 in
set_option maxHeartbeats 2000000 in
theorem rbound_no (v : Value) (L : List Fx.V3) (r : Int) (w : World) (hI : VSl w v L) (hno : Fx.boundOk L r = false) :
    Calls Try.prog 36 #[v, .int .i64 r] w fun e w' => e = .returned (.agg (Fx.boundV L r).arr) ∧ Below w.heap.size w w' := by
  rw [Fx.boundV_no hno]
  have HI := Lib.hid hI
  obtain ⟨a, c, rfl, hl, hI'⟩ := hI
  clear hI'
  by_cases hp : Fx.placedB L = true
  · have HP := Lib.hid hp
    have hr : ¬ (0 ≤ r ∧ r ≤ 1048576) := fun h => by rw [Fx.boundOk_yes hp h] at hno; cases hno
    clear hp hno
    by_cases h0 : r < 0
    · have d0 : decide (r < 0) = true := by simp; omega
      clear hr
      go_enter Try.func36, Try.ntmps36
      go_wp2_with fail
      refine (rplaced_yes _ L _ (HI.out.ext (ext_alloc (ext_refl _) _)) HP.out).mono ?_
      rintro e w1 ⟨rfl, hb1⟩
      have hZ := (Whole.new w 34 Fx.V3.zero.arr).ext hb1
      have hB1 : Below w.heap.size w w1 := ext_trans (ext_alloc (ext_refl _) _) hb1
      obtain ⟨⟨z0, z1, z2, z3, z4, z5⟩, ⟨y0, y1, y2, y3, y4, y5⟩⟩ := hZ.six
      simp only [Fx.V3.zero] at z0 z1 z2 z3 z4 z5
      have HZ := Lib.hid hZ
      clear hZ hb1
      go_wp2_with fail
      exact bodyPost_ret (ret_rbound (x := Fx.V3.zero) (set6_whole Fx.V3.zero HZ.out) rfl) rfl ⟨rfl, set6_ext Fx.V3.zero hB1 (Nat.le_refl _)⟩
    · have d0 : decide (r < 0) = false := by simp; omega
      have d1 : decide (1048576 < r) = true := by simp; omega
      clear hr
      go_enter Try.func36, Try.ntmps36
      go_wp2_with fail
      refine (rplaced_yes _ L _ (HI.out.ext (ext_alloc (ext_refl _) _)) HP.out).mono ?_
      rintro e w1 ⟨rfl, hb1⟩
      have hZ := (Whole.new w 34 Fx.V3.zero.arr).ext hb1
      have hB1 : Below w.heap.size w w1 := ext_trans (ext_alloc (ext_refl _) _) hb1
      obtain ⟨⟨z0, z1, z2, z3, z4, z5⟩, ⟨y0, y1, y2, y3, y4, y5⟩⟩ := hZ.six
      simp only [Fx.V3.zero] at z0 z1 z2 z3 z4 z5
      have HZ := Lib.hid hZ
      clear hZ hb1
      go_wp2_with fail
      exact bodyPost_ret (ret_rbound (x := Fx.V3.zero) (set6_whole Fx.V3.zero HZ.out) rfl) rfl ⟨rfl, set6_ext Fx.V3.zero hB1 (Nat.le_refl _)⟩
  · have hp : Fx.placedB L = false := by simpa using hp
    have HP := Lib.hid hp
    clear hp hno
    go_enter Try.func36, Try.ntmps36
    go_wp2_with fail
    refine (rplaced_no _ L _ (HI.out.ext (ext_alloc (ext_refl _) _)) HP.out).mono ?_
    rintro e w1 ⟨rfl, hb1⟩
    have hZ := (Whole.new w 34 Fx.V3.zero.arr).ext hb1
    have hB1 : Below w.heap.size w w1 := ext_trans (ext_alloc (ext_refl _) _) hb1
    obtain ⟨⟨z0, z1, z2, z3, z4, z5⟩, ⟨y0, y1, y2, y3, y4, y5⟩⟩ := hZ.six
    simp only [Fx.V3.zero] at z0 z1 z2 z3 z4 z5
    have HZ := Lib.hid hZ
    clear hZ hb1
    go_wp2_with fail
    exact bodyPost_ret (ret_rbound (x := Fx.V3.zero) (set6_whole Fx.V3.zero HZ.out) rfl) rfl ⟨rfl, set6_ext Fx.V3.zero hB1 (Nat.le_refl _)⟩

set_option maxRecDepth 100000 in
set_option maxHeartbeats 2000000 in
theorem rbound_yes (v : Value) (L : List Fx.V3) (r : Int) (w : World) (hI : VSl w v L) (hp : Fx.placedB L = true) (hr : 0 ≤ r ∧ r ≤ 1048576) :
    Calls Try.prog 36 #[v, .int .i64 r] w fun e w' => e = .returned (.agg (Fx.boundV L r).arr) ∧ Below w.heap.size w w' := by
  rw [Fx.boundV_yes (Fx.boundOk_yes hp hr)]
  have HI := Lib.hid hI
  obtain ⟨a, c, rfl, hl, hI'⟩ := hI
  have hlen := Fx.placedB_len hp
  obtain ⟨b, o, rfl, hJ⟩ := hI' (by omega)
  have HJ := Lib.hid hJ
  have hbw := hJ.1
  have HP := Lib.hid hp
  have HR := Lib.hid (fun i hi => Fx.allR_at (Fx.placedB_all hp) i hi)
  clear hI' hJ hp
  have d0 : decide (r < 0) = false := by simp; omega
  have d1 : decide (1048576 < r) = false := by simp; omega
  go_enter Try.func36, Try.ntmps36
  go_wp2_with fail
  refine (rplaced_yes _ L _ (HI.out.ext (ext_alloc (ext_refl _) _)) HP.out).mono ?_
  rintro e w1 ⟨rfl, hb1⟩
  have hZ := (Whole.new w 34 Fx.V3.zero.arr).ext hb1
  have hB1 : Below w.heap.size w w1 := ext_trans (ext_alloc (ext_refl _) _) hb1
  have hz1 : w.heap.size < w1.heap.size := hZ.lt
  obtain ⟨q0, q1, q2, q3, q4, q5⟩ := (HJ.out.ext hB1).at_ 0 (by omega)
  simp only [Nat.zero_mul, Nat.add_zero] at q0 q1 q2 q3 q4 q5
  have HE0 := Lib.hid (Fx.ends_first L)
  generalize L.getD 0 Fx.V3.zero = x at *
  have k0 : (0 : Int) < (L.length : Int) := by omega
  have HZ := Lib.hid (hZ.alloc (.cells x.arr 34))
  have hB2 := ext_alloc hB1 (.cells x.arr 34)
  have hO : Whole (w1.alloc (.cells x.arr 34)) w1.heap.size 34 (Fx.ofEnds (fun j => Fx.mnL L j 0) (fun j => Fx.mxL L j 0)).arr := by rw [HE0.out]; exact Whole.new w1 _ _
  have HO := Lib.hid hO
  clear hZ hb1 HI HP d0 d1 hO
  go_wp2_with fail
  generalize w1.heap.size = g at *
  clear q0 q1 q2 q3 q4 q5 HE0
  go_loopw [6] (fun iv wr => ∃ i : Nat, i < L.length ∧ iv = .int .i64 ((i : Int) + 1) ∧ Whole wr g 34 (Fx.ofEnds (fun j => Fx.mnL L j i) (fun j => Fx.mxL L j i)).arr ∧ Whole wr w.heap.size 34 Fx.V3.zero.arr ∧ Below w.heap.size w wr) (fun iv _ => L.length - (intOf iv).toNat)
  case atStart => exact ⟨0, by omega, by go_num, HO.out, HZ.out, hB2⟩
  case round =>
    obtain ⟨i, hi, rfl, hO, hZ, hb⟩ := hrel
    clear HO HZ hB2 hB1
    have HZ := Lib.hid hZ; have HO := Lib.hid hO
    clear hZ hO
    by_cases hlt : i + 1 < L.length
    · have hd : decide ((i : Int) + 1 < (L.length : Int)) = true := by simp; omega
      have k1 : (i : Int) + 1 < (L.length : Int) := by omega
      have k2 : (0 : Int) ≤ (i : Int) + 1 := by omega
      have k3 : ((i : Int) + 1).toNat = i + 1 := by omega
      go_wp2_with fail
      obtain ⟨wo, hwo⟩ : ∃ wo : World, wo = wr := ⟨_, rfl⟩
      subst hwo
      go_loopw [7] (fun jv wr => ∃ j : Nat, j ≤ 3 ∧ jv = .int .i64 j ∧ Whole wr g 34 (Fx.mixF (fun j => Fx.mnL L j i) (fun j => Fx.mxL L j i) (fun j => Fx.mnL L j (i + 1)) (fun j => Fx.mxL L j (i + 1)) j).arr ∧ Whole wr w.heap.size 34 Fx.V3.zero.arr ∧ Below w.heap.size w wr) (fun jv _ => 3 - (intOf jv).toNat)
      case atStart => exact ⟨0, by omega, rfl, HO.out, HZ.out, hb⟩
      case round =>
        obtain ⟨j, hj, rfl, hO, hZ, hbj⟩ := hrel
        clear HO HZ hb
        have HZ := Lib.hid hZ; have HO := Lib.hid hO
        clear hZ hO
        by_cases hj3 : j < 3
        · obtain ⟨cl, ch⟩ := (HJ.out.ext hbj).part (i + 1) hlt j hj3
          have hrx := Fx.near_true.1 (Fx.reachB_at (HR.out (i + 1) hlt) j hj3)
          have hbd := Fx.mnL_bd L j hj3 i (fun i hi => HR.out i (by omega))
          have ta := (HO.out.cell (j * 2)).trans (arr_cell _ j hj3).1
          have tb := (HO.out.cell (j * 2 + 1)).trans (arr_cell _ j hj3).2
          rw [(Fx.mixF_at _ _ _ _ j hj3).1] at ta
          rw [(Fx.mixF_at _ _ _ _ j hj3).2] at tb
          have HNx := Lib.hid (Fx.mixF_next (fun j => Fx.mnL L j i) (fun j => Fx.mxL L j i) (fun j => Fx.mnL L j (i + 1)) (fun j => Fx.mxL L j (i + 1)) j hj3)
          have HMn : Hid (Fx.mnL L j (i + 1) = min (Fx.mnL L j i) ((L.getD (i + 1) Fx.V3.zero).lo j)) := Lib.hid rfl
          have HMx : Hid (Fx.mxL L j (i + 1) = max (Fx.mxL L j i) ((L.getD (i + 1) Fx.V3.zero).hi j)) := Lib.hid rfl
          generalize (L.getD (i + 1) Fx.V3.zero).lo j = xl at *
          generalize (L.getD (i + 1) Fx.V3.zero).hi j = xh at *
          try dsimp only at ta tb
          generalize Fx.mnL L j (i + 1) = mn' at *
          generalize Fx.mxL L j (i + 1) = mx' at *
          generalize Fx.mnL L j i = mn at *
          generalize Fx.mxL L j i = mx at *
          have HX := Lib.hid (hull_in mn mx xl xh (by omega) (by omega))
          have HTa := Lib.hid ta; have HTb := Lib.hid tb; have HCl := Lib.hid cl; have HCh := Lib.hid ch
          clear ta tb cl ch
          have k4 : (0 : Int) ≤ (j : Int) := by omega
          have k5 : (j : Int) < 3 := by omega
          go_wp2_with fail
          refine wp_region_noPanic ?_
          refine wp_region_until_drew (k := 12) (S := (fun w' => w'.cell? ⟨g, j * 2, none⟩ = some (.int .i64 mn) ∧ w'.cell? ⟨g, j * 2 + 1, none⟩ = some (.int .i64 mx) ∧ w'.cell? ⟨b, o + (i + 1) * 6 + j * 2, none⟩ = some (.int .i64 xl) ∧ w'.cell? ⟨b, o + (i + 1) * 6 + j * 2 + 1, none⟩ = some (.int .i64 xh))) (by kernel_rfl) ?_ (fun hHeld => ?_)
          · exact ⟨HTa.out, HTb.out, HCl.out, HCh.out⟩
          refine wpAnyU_take (i := 0) (v := ?_) (by simp only [List.getElem?_toArray, List.getElem?_cons_succ, List.getElem?_cons_zero]; rfl) (by kernel_rfl) (by kernel_rfl) (by kernel_rfl) (by kernel_rfl) (by kernel_rfl) (fun _ _ _ h => h) (Or.inl ⟨by rfl, ?_⟩) (by assumption) ?_
          rotate_left
          · intro w hSw; (try dsimp only at hSw); go_simp; first | done | with_reducible rfl
          try simp only [Act.put, List.setIfInBounds_toArray, List.set_cons_zero, List.set_cons_succ]
          refine wpAnyU_take (i := 1) (v := ?_) (by simp only [List.getElem?_toArray, List.getElem?_cons_succ, List.getElem?_cons_zero]; rfl) (by kernel_rfl) (by kernel_rfl) (by kernel_rfl) (by kernel_rfl) (by kernel_rfl) (fun _ _ _ h => h) (Or.inl ⟨by rfl, ?_⟩) (by assumption) ?_
          rotate_left
          · intro w hSw; (try dsimp only at hSw); go_simp; first | done | with_reducible rfl
          try simp only [Act.put, List.setIfInBounds_toArray, List.set_cons_zero, List.set_cons_succ]
          refine wpAnyU_take (i := 2) (v := ?_) (by simp only [List.getElem?_toArray, List.getElem?_cons_succ, List.getElem?_cons_zero]; rfl) (by kernel_rfl) (by kernel_rfl) (by kernel_rfl) (by kernel_rfl) (by kernel_rfl) (fun _ _ _ h => h) (Or.inl ⟨by rfl, ?_⟩) (by assumption) ?_
          rotate_left
          · intro w hSw; (try dsimp only at hSw); go_simp; first | done | with_reducible rfl
          try simp only [Act.put, List.setIfInBounds_toArray, List.set_cons_zero, List.set_cons_succ]
          refine wpAnyU_take (i := 3) (v := ?_) (by simp only [List.getElem?_toArray, List.getElem?_cons_succ, List.getElem?_cons_zero]; rfl) (by kernel_rfl) (by kernel_rfl) (by kernel_rfl) (by kernel_rfl) (by kernel_rfl) (fun _ _ _ h => h) (Or.inl ⟨by rfl, ?_⟩) (by assumption) ?_
          rotate_left
          · intro w hSw; (try dsimp only at hSw); go_simp; first | done | with_reducible rfl
          try simp only [Act.put, List.setIfInBounds_toArray, List.set_cons_zero, List.set_cons_succ]
          refine wpAnyU_take (i := 4) (v := ?_) (by simp only [List.getElem?_toArray, List.getElem?_cons_succ, List.getElem?_cons_zero]; rfl) (by kernel_rfl) (by kernel_rfl) (by kernel_rfl) (by kernel_rfl) (by kernel_rfl) (fun _ _ _ h => h) (Or.inl ⟨by rfl, ?_⟩) (by assumption) ?_
          rotate_left
          · intro w hSw; (try dsimp only at hSw); go_simp; first | done | with_reducible rfl
          try simp only [Act.put, List.setIfInBounds_toArray, List.set_cons_zero, List.set_cons_succ]
          refine wpAnyU_take (i := 5) (v := ?_) (by simp only [List.getElem?_toArray, List.getElem?_cons_succ, List.getElem?_cons_zero]; rfl) (by kernel_rfl) (by kernel_rfl) (by kernel_rfl) (by kernel_rfl) (by kernel_rfl) (fun _ _ _ h => h) (Or.inl ⟨by rfl, ?_⟩) (by assumption) ?_
          rotate_left
          · intro w hSw; (try dsimp only at hSw); go_simp; first | done | with_reducible rfl
          try simp only [Act.put, List.setIfInBounds_toArray, List.set_cons_zero, List.set_cons_succ]
          refine wpAnyU_take (i := 6) (v := ?_) (by simp only [List.getElem?_toArray, List.getElem?_cons_succ, List.getElem?_cons_zero]; rfl) (by kernel_rfl) (by kernel_rfl) (by kernel_rfl) (by kernel_rfl) (by kernel_rfl) (fun _ _ _ h => h) (Or.inl ⟨by rfl, ?_⟩) (by assumption) ?_
          rotate_left
          · intro w hSw; (try dsimp only at hSw); go_simp; first | done | with_reducible rfl
          try simp only [Act.put, List.setIfInBounds_toArray, List.set_cons_zero, List.set_cons_succ]
          refine wpAnyU_take (i := 7) (v := ?_) (by simp only [List.getElem?_toArray, List.getElem?_cons_succ, List.getElem?_cons_zero]; rfl) (by kernel_rfl) (by kernel_rfl) (by kernel_rfl) (by kernel_rfl) (by kernel_rfl) (fun _ _ _ h => h) (Or.inl ⟨by rfl, ?_⟩) (by assumption) ?_
          rotate_left
          · intro w hSw; (try dsimp only at hSw); go_simp; first | done | with_reducible rfl
          try simp only [Act.put, List.setIfInBounds_toArray, List.set_cons_zero, List.set_cons_succ]
          refine wpAnyU_take (i := 8) (v := ?_) (by simp only [List.getElem?_toArray, List.getElem?_cons_succ, List.getElem?_cons_zero]; rfl) (by kernel_rfl) (by kernel_rfl) (by kernel_rfl) (by kernel_rfl) (by kernel_rfl) (fun _ _ _ h => h) (Or.inl ⟨by rfl, ?_⟩) (by assumption) ?_
          rotate_left
          · intro w hSw; (try dsimp only at hSw); go_simp; first | done | with_reducible rfl
          try simp only [Act.put, List.setIfInBounds_toArray, List.set_cons_zero, List.set_cons_succ]
          refine wpAnyU_take (i := 9) (v := ?_) (by simp only [List.getElem?_toArray, List.getElem?_cons_succ, List.getElem?_cons_zero]; rfl) (by kernel_rfl) (by kernel_rfl) (by kernel_rfl) (by kernel_rfl) (by kernel_rfl) (fun _ _ _ h => h) (Or.inl ⟨by rfl, ?_⟩) (by assumption) ?_
          rotate_left
          · intro w hSw; (try dsimp only at hSw); go_simp; first | done | with_reducible rfl
          try simp only [Act.put, List.setIfInBounds_toArray, List.set_cons_zero, List.set_cons_succ]
          refine wpAnyU_ready (rs := [10]) (by kernel_rfl) (by simp) ?_
          refine AllReadyU.cons (by simp only [List.getElem?_toArray, List.getElem?_cons_succ, List.getElem?_cons_zero]; rfl) (fun K hK => ?_) AllReadyU.nil
          go_simp
          refine (rhull_any mn mx xl xh _).mono ?_
          rintro e w2 ⟨rfl, hb2⟩
          rw [HX.out.1, HX.out.2, ← HMn.out, ← HMx.out]
          have hgw : g < wr.heap.size := HO.out.lt
          have hww := hbj.size
          have HO2 := Lib.hid (HO.out.drew.ext hb2)
          have HZ2 := Lib.hid (HZ.out.drew.ext hb2)
          have hB2 := ext_trans (ext_drew hbj) hb2
          go_wp2_with fail
          refine hK.out _ _ ?_ (fun hHeld => ?_)
          · obtain ⟨s1, s2, s3, s4⟩ := hHeld
            exact ⟨(hb2.cell (p := ⟨g, _, none⟩) hgw).trans s1, (hb2.cell (p := ⟨g, _, none⟩) hgw).trans s2, (hb2.cell (p := ⟨b, _, none⟩) (show b < wr.heap.size by omega)).trans s3, (hb2.cell (p := ⟨b, _, none⟩) (show b < wr.heap.size by omega)).trans s4⟩
          clear hK K HO HZ hbj hb2
          try simp only [Act.put, List.setIfInBounds_toArray, List.set_cons_zero, List.set_cons_succ]
          refine wpAnyU_take (i := 11) (v := ?_) (by simp only [List.getElem?_toArray, List.getElem?_cons_succ, List.getElem?_cons_zero]; rfl) (by kernel_rfl) (by kernel_rfl) (by kernel_rfl) (by kernel_rfl) (by kernel_rfl) (fun _ _ _ h => h) (Or.inl ⟨by rfl, ?_⟩) (by assumption) ?_
          rotate_left
          · intro w hSw; (try dsimp only at hSw); go_simp; first | done | with_reducible rfl
          try simp only [Act.put, List.setIfInBounds_toArray, List.set_cons_zero, List.set_cons_succ]
          refine wpAnyU_ready (rs := [12]) (by kernel_rfl) (by simp) ?_
          refine AllReadyU.last (by simp only [List.getElem?_toArray, List.getElem?_cons_succ, List.getElem?_cons_zero]; rfl) (fun K hK => ?_) AllReadyU.nil
          rw [if_pos (by rfl)]
          refine wp_store_mid _ _ _ rfl g (j * 2) #[.int .i64 mn', .int .i64 mx'] rfl rfl (there_of HO2.out _ _ (by simp [Fx.V3.arr]; omega)) (by kernel_rfl) (by simp [Value.oneCell']) ?_
          have hOn : Whole (w2.setCells g (j * 2) [.int .i64 mn', .int .i64 mx']) g 34 (Fx.mixF (fun j => Fx.mnL L j i) (fun j => Fx.mxL L j i) (fun j => Fx.mnL L j (i + 1)) (fun j => Fx.mxL L j (i + 1)) (j + 1)).arr := by
            have h := (HO2.out.store (j * 2) (.int .i64 mn')).store (j * 2 + 1) (.int .i64 mx')
            rw [HNx.out] at h
            exact h
          have hZn : Whole (w2.setCells g (j * 2) [.int .i64 mn', .int .i64 mx']) w.heap.size 34 Fx.V3.zero.arr :=
            (HZ2.out.far (p := ⟨g, j * 2, none⟩) (show w.heap.size ≠ g by omega) (.int .i64 mn')).far (p := ⟨g, j * 2 + 1, none⟩) (show w.heap.size ≠ g by omega) (.int .i64 mx')
          have hBn : Below w.heap.size w (w2.setCells g (j * 2) [.int .i64 mn', .int .i64 mx']) :=
            ext_set (ext_set hB2 (p := ⟨g, j * 2, none⟩) (show w.heap.size ≤ g by omega) (.int .i64 mn')) (p := ⟨g, j * 2 + 1, none⟩) (show w.heap.size ≤ g by omega) (.int .i64 mx')
          refine hK.out _ _ ?_
          clear hK K
          try simp only [Act.put, List.setIfInBounds_toArray, List.set_cons_zero, List.set_cons_succ]
          refine wpAnyU_done (by kernel_rfl) ?_ _
          refine NoPanic.normal ?_
          clear hHeld
          generalize w2.setCells g (j * 2) [.int .i64 mn', .int .i64 mx'] = w4 at *
          have HOn := Lib.hid hOn; have HZn := Lib.hid hZn
          clear hOn hZn HO2 HZ2 hB2
          go_wp2_with fail
          go_roundw
          case rel => exact ⟨j + 1, by omega, by go_num, HOn.out, HZn.out, hBn⟩
          case measure => simp [intOf]; omega
        · obtain rfl : j = 3 := by omega
          go_wp2_with fail
          go_roundw
          case rel => exact ⟨i + 1, by omega, by go_num, HO.out, HZ.out, hbj⟩
          case measure => simp [intOf]; omega
    · have HIl := Lib.hid (show i = L.length - 1 by omega)
      have hd : decide ((i : Int) + 1 < (L.length : Int)) = false := by simp; omega
      have hd' : (L.length : Int) ≤ (i : Int) + 1 := by omega
      go_wp2_with fail
      obtain ⟨wo, hwo⟩ : ∃ wo : World, wo = wr := ⟨_, rfl⟩
      subst hwo
      have hbd := fun j hj3 => Fx.mnL_bd L j hj3 i (fun i hi => HR.out i (by omega))
      have HBD := Lib.hid hbd
      clear hbd
      go_loopw [8] (fun jv wr => ∃ j : Nat, j ≤ 3 ∧ jv = .int .i64 j ∧ Whole wr g 34 (Fx.mixF (fun j => Fx.mnL L j i) (fun j => Fx.mxL L j i) (fun j => Fx.mnL L j i - r) (fun j => Fx.mxL L j i + r) j).arr ∧ Whole wr w.heap.size 34 Fx.V3.zero.arr ∧ Below w.heap.size w wr) (fun jv _ => 3 - (intOf jv).toNat)
      case atStart => exact ⟨0, by omega, rfl, HO.out, HZ.out, hb⟩
      case round =>
        obtain ⟨j, hj, rfl, hO, hZ, hbj⟩ := hrel
        clear HO HZ hb
        have HZ := Lib.hid hZ; have HO := Lib.hid hO
        by_cases hj3 : j < 3
        · clear hZ hO
          have hbd := HBD.out j hj3
          have ta := (HO.out.cell (j * 2)).trans (arr_cell _ j hj3).1
          have tb := (HO.out.cell (j * 2 + 1)).trans (arr_cell _ j hj3).2
          rw [(Fx.mixF_at _ _ _ _ j hj3).1] at ta
          rw [(Fx.mixF_at _ _ _ _ j hj3).2] at tb
          have HNx := Lib.hid (Fx.mixF_next (fun j => Fx.mnL L j i) (fun j => Fx.mxL L j i) (fun j => Fx.mnL L j i - r) (fun j => Fx.mxL L j i + r) j hj3)
          try dsimp only at ta tb
          generalize Fx.mnL L j i = mn at *
          generalize Fx.mxL L j i = mx at *
          have HTa := Lib.hid ta; have HTb := Lib.hid tb
          clear ta tb
          have k4 : (0 : Int) ≤ (j : Int) := by omega
          have k5 : (j : Int) < 3 := by omega
          have e1 : IntKind.i64.wrap (mn - r) = mn - r := by rw [IntKind.wrap_i64]; omega
          have e2 : IntKind.i64.wrap (mx + r) = mx + r := by rw [IntKind.wrap_i64]; omega
          have hgw : g < wr.heap.size := HO.out.lt
          go_wp2_with fail
          refine wp_region_noPanic ?_
          refine wp_region_until_drew (k := 15) (S := (fun w' => w'.cell? ⟨g, j * 2, none⟩ = some (.int .i64 mn) ∧ w'.cell? ⟨g, j * 2 + 1, none⟩ = some (.int .i64 mx))) (by kernel_rfl) ?_ (fun hHeld => ?_)
          · exact ⟨HTa.out, HTb.out⟩
          refine wpAnyU_take (i := 0) (v := ?_) (by simp only [List.getElem?_toArray, List.getElem?_cons_succ, List.getElem?_cons_zero]; rfl) (by kernel_rfl) (by kernel_rfl) (by kernel_rfl) (by kernel_rfl) (by kernel_rfl) (fun _ _ _ h => h) (Or.inl ⟨by rfl, ?_⟩) (by assumption) ?_
          rotate_left
          · intro w hSw; (try dsimp only at hSw); go_simp; first | done | with_reducible rfl
          try simp only [Act.put, List.setIfInBounds_toArray, List.set_cons_zero, List.set_cons_succ]
          refine wpAnyU_take (i := 1) (v := ?_) (by simp only [List.getElem?_toArray, List.getElem?_cons_succ, List.getElem?_cons_zero]; rfl) (by kernel_rfl) (by kernel_rfl) (by kernel_rfl) (by kernel_rfl) (by kernel_rfl) (fun _ _ _ h => h) (Or.inl ⟨by rfl, ?_⟩) (by assumption) ?_
          rotate_left
          · intro w hSw; (try dsimp only at hSw); go_simp; first | done | with_reducible rfl
          try simp only [Act.put, List.setIfInBounds_toArray, List.set_cons_zero, List.set_cons_succ]
          refine wpAnyU_take (i := 2) (v := ?_) (by simp only [List.getElem?_toArray, List.getElem?_cons_succ, List.getElem?_cons_zero]; rfl) (by kernel_rfl) (by kernel_rfl) (by kernel_rfl) (by kernel_rfl) (by kernel_rfl) (fun _ _ _ h => h) (Or.inl ⟨by rfl, ?_⟩) (by assumption) ?_
          rotate_left
          · intro w hSw; (try dsimp only at hSw); go_simp; first | done | with_reducible rfl
          try simp only [Act.put, List.setIfInBounds_toArray, List.set_cons_zero, List.set_cons_succ]
          refine wpAnyU_take (i := 3) (v := ?_) (by simp only [List.getElem?_toArray, List.getElem?_cons_succ, List.getElem?_cons_zero]; rfl) (by kernel_rfl) (by kernel_rfl) (by kernel_rfl) (by kernel_rfl) (by kernel_rfl) (fun _ _ _ h => h) (Or.inl ⟨by rfl, ?_⟩) (by assumption) ?_
          rotate_left
          · intro w hSw; (try dsimp only at hSw); go_simp; first | done | with_reducible rfl
          try simp only [Act.put, List.setIfInBounds_toArray, List.set_cons_zero, List.set_cons_succ]
          refine wpAnyU_take (i := 4) (v := ?_) (by simp only [List.getElem?_toArray, List.getElem?_cons_succ, List.getElem?_cons_zero]; rfl) (by kernel_rfl) (by kernel_rfl) (by kernel_rfl) (by kernel_rfl) (by kernel_rfl) (fun _ _ _ h => h) (Or.inl ⟨by rfl, ?_⟩) (by assumption) ?_
          rotate_left
          · intro w hSw; (try dsimp only at hSw); go_simp; first | done | with_reducible rfl
          try simp only [Act.put, List.setIfInBounds_toArray, List.set_cons_zero, List.set_cons_succ]
          refine wpAnyU_take (i := 5) (v := ?_) (by simp only [List.getElem?_toArray, List.getElem?_cons_succ, List.getElem?_cons_zero]; rfl) (by kernel_rfl) (by kernel_rfl) (by kernel_rfl) (by kernel_rfl) (by kernel_rfl) (fun _ _ _ h => h) (Or.inl ⟨by rfl, ?_⟩) (by assumption) ?_
          rotate_left
          · intro w hSw; (try dsimp only at hSw); go_simp; first | done | with_reducible rfl
          try simp only [Act.put, List.setIfInBounds_toArray, List.set_cons_zero, List.set_cons_succ]
          refine wpAnyU_take (i := 6) (v := ?_) (by simp only [List.getElem?_toArray, List.getElem?_cons_succ, List.getElem?_cons_zero]; rfl) (by kernel_rfl) (by kernel_rfl) (by kernel_rfl) (by kernel_rfl) (by kernel_rfl) (fun _ _ _ h => h) (Or.inl ⟨by rfl, ?_⟩) (by assumption) ?_
          rotate_left
          · intro w hSw; (try dsimp only at hSw); go_simp; first | done | with_reducible rfl
          try simp only [Act.put, List.setIfInBounds_toArray, List.set_cons_zero, List.set_cons_succ]
          refine wpAnyU_take (i := 7) (v := ?_) (by simp only [List.getElem?_toArray, List.getElem?_cons_succ, List.getElem?_cons_zero]; rfl) (by kernel_rfl) (by kernel_rfl) (by kernel_rfl) (by kernel_rfl) (by kernel_rfl) (fun _ _ _ h => h) (Or.inl ⟨by rfl, ?_⟩) (by assumption) ?_
          rotate_left
          · intro w hSw; (try dsimp only at hSw); go_simp; first | done | with_reducible rfl
          try simp only [Act.put, List.setIfInBounds_toArray, List.set_cons_zero, List.set_cons_succ]
          refine wpAnyU_take (i := 8) (v := ?_) (by simp only [List.getElem?_toArray, List.getElem?_cons_succ, List.getElem?_cons_zero]; rfl) (by kernel_rfl) (by kernel_rfl) (by kernel_rfl) (by kernel_rfl) (by kernel_rfl) (fun _ _ _ h => h) (Or.inl ⟨by rfl, ?_⟩) (by assumption) ?_
          rotate_left
          · intro w hSw; (try dsimp only at hSw); go_simp; first | done | with_reducible rfl
          try simp only [Act.put, List.setIfInBounds_toArray, List.set_cons_zero, List.set_cons_succ]
          refine wpAnyU_take (i := 9) (v := ?_) (by simp only [List.getElem?_toArray, List.getElem?_cons_succ, List.getElem?_cons_zero]; rfl) (by kernel_rfl) (by kernel_rfl) (by kernel_rfl) (by kernel_rfl) (by kernel_rfl) (fun _ _ _ h => h) (Or.inl ⟨by rfl, ?_⟩) (by assumption) ?_
          rotate_left
          · intro w hSw; (try dsimp only at hSw); go_simp; first | done | with_reducible rfl
          try simp only [Act.put, List.setIfInBounds_toArray, List.set_cons_zero, List.set_cons_succ]
          refine wpAnyU_take (i := 10) (v := ?_) (by simp only [List.getElem?_toArray, List.getElem?_cons_succ, List.getElem?_cons_zero]; rfl) (by kernel_rfl) (by kernel_rfl) (by kernel_rfl) (by kernel_rfl) (by kernel_rfl) (fun _ _ _ h => h) (Or.inl ⟨by rfl, ?_⟩) (by assumption) ?_
          rotate_left
          · intro w hSw; (try dsimp only at hSw); go_simp; first | done | with_reducible rfl
          try simp only [Act.put, List.setIfInBounds_toArray, List.set_cons_zero, List.set_cons_succ]
          refine wpAnyU_take (i := 11) (v := ?_) (by simp only [List.getElem?_toArray, List.getElem?_cons_succ, List.getElem?_cons_zero]; rfl) (by kernel_rfl) (by kernel_rfl) (by kernel_rfl) (by kernel_rfl) (by kernel_rfl) (fun _ _ _ h => h) (Or.inl ⟨by rfl, ?_⟩) (by assumption) ?_
          rotate_left
          · intro w hSw; (try dsimp only at hSw); go_simp; first | done | with_reducible rfl
          try simp only [Act.put, List.setIfInBounds_toArray, List.set_cons_zero, List.set_cons_succ]
          refine wpAnyU_take (i := 12) (v := ?_) (by simp only [List.getElem?_toArray, List.getElem?_cons_succ, List.getElem?_cons_zero]; rfl) (by kernel_rfl) (by kernel_rfl) (by kernel_rfl) (by kernel_rfl) (by kernel_rfl) (fun _ _ _ h => h) (Or.inl ⟨by rfl, ?_⟩) (by assumption) ?_
          rotate_left
          · intro w hSw; (try dsimp only at hSw); go_simp; first | done | with_reducible rfl
          try simp only [Act.put, List.setIfInBounds_toArray, List.set_cons_zero, List.set_cons_succ]
          refine wpAnyU_take (i := 13) (v := ?_) (by simp only [List.getElem?_toArray, List.getElem?_cons_succ, List.getElem?_cons_zero]; rfl) (by kernel_rfl) (by kernel_rfl) (by kernel_rfl) (by kernel_rfl) (by kernel_rfl) (fun _ _ _ h => h) (Or.inl ⟨by rfl, ?_⟩) (by assumption) ?_
          rotate_left
          · intro w hSw; (try dsimp only at hSw); go_simp; first | done | with_reducible rfl
          try simp only [Act.put, List.setIfInBounds_toArray, List.set_cons_zero, List.set_cons_succ]
          refine wpAnyU_take (i := 14) (v := ?_) (by simp only [List.getElem?_toArray, List.getElem?_cons_succ, List.getElem?_cons_zero]; rfl) (by kernel_rfl) (by kernel_rfl) (by kernel_rfl) (by kernel_rfl) (by kernel_rfl) (fun _ _ _ h => h) (Or.inl ⟨by rfl, ?_⟩) (by assumption) ?_
          rotate_left
          · intro w hSw; (try dsimp only at hSw); go_simp; first | done | with_reducible rfl
          try simp only [Act.put, List.setIfInBounds_toArray, List.set_cons_zero, List.set_cons_succ]
          refine wpAnyU_ready (rs := [15]) (by kernel_rfl) (by simp) ?_
          refine AllReadyU.last (by simp only [List.getElem?_toArray, List.getElem?_cons_succ, List.getElem?_cons_zero]; rfl) (fun K hK => ?_) AllReadyU.nil
          rw [if_pos (by rfl)]
          refine wp_store_mid _ _ _ rfl g (j * 2) #[.int .i64 (mn - r), .int .i64 (mx + r)] rfl rfl (there_of HO.out.drew _ _ (by simp [Fx.V3.arr]; omega)) (by kernel_rfl) (by simp [Value.oneCell']) ?_
          have hOn : Whole (wr.drew.setCells g (j * 2) [.int .i64 (mn - r), .int .i64 (mx + r)]) g 34 (Fx.mixF (fun j => Fx.mnL L j i) (fun j => Fx.mxL L j i) (fun j => Fx.mnL L j i - r) (fun j => Fx.mxL L j i + r) (j + 1)).arr := by
            have h := (HO.out.drew.store (j * 2) (.int .i64 (mn - r))).store (j * 2 + 1) (.int .i64 (mx + r))
            rw [HNx.out] at h
            exact h
          have hZn : Whole (wr.drew.setCells g (j * 2) [.int .i64 (mn - r), .int .i64 (mx + r)]) w.heap.size 34 Fx.V3.zero.arr :=
            (HZ.out.drew.far (p := ⟨g, j * 2, none⟩) (show w.heap.size ≠ g by omega) (.int .i64 (mn - r))).far (p := ⟨g, j * 2 + 1, none⟩) (show w.heap.size ≠ g by omega) (.int .i64 (mx + r))
          have hBn : Below w.heap.size w (wr.drew.setCells g (j * 2) [.int .i64 (mn - r), .int .i64 (mx + r)]) :=
            ext_set (ext_set (ext_drew hbj) (p := ⟨g, j * 2, none⟩) (show w.heap.size ≤ g by omega) (.int .i64 (mn - r))) (p := ⟨g, j * 2 + 1, none⟩) (show w.heap.size ≤ g by omega) (.int .i64 (mx + r))
          refine hK.out _ _ ?_
          clear hK K
          try simp only [Act.put, List.setIfInBounds_toArray, List.set_cons_zero, List.set_cons_succ]
          refine wpAnyU_done (by kernel_rfl) ?_ _
          refine NoPanic.normal ?_
          clear hHeld e1 e2
          generalize wr.drew.setCells g (j * 2) [.int .i64 (mn - r), .int .i64 (mx + r)] = w4 at *
          have HOn := Lib.hid hOn; have HZn := Lib.hid hZn
          clear hOn hZn HO HZ hbj
          go_wp2_with fail
          go_roundw
          case rel => exact ⟨j + 1, by omega, by go_num, HOn.out, HZn.out, hBn⟩
          case measure => simp [intOf]; omega
        · obtain rfl : j = 3 := by omega
          rw [Fx.mixF_three] at hO
          have hx : Fx.ofEnds (fun j => Fx.mnL L j i - r) (fun j => Fx.mxL L j i + r) = Fx.ofEnds (fun j => Fx.mnL L j (L.length - 1) - r) (fun j => Fx.mxL L j (L.length - 1) + r) := by rw [← HIl.out]
          have HX := Lib.hid hx
          clear hx
          generalize Fx.ofEnds (fun j => Fx.mnL L j i - r) (fun j => Fx.mxL L j i + r) = x at *
          obtain ⟨⟨z0, z1, z2, z3, z4, z5⟩, ⟨y0, y1, y2, y3, y4, y5⟩⟩ := hZ.six
          obtain ⟨⟨s0, s1, s2, s3, s4, s5⟩, _⟩ := hO.six
          simp only [Fx.V3.zero] at z0 z1 z2 z3 z4 z5
          clear hZ hO HO
          go_wp2_with fail
          exact bodyPost_ret (ret_rbound (x := x) (set6_whole x HZ.out) rfl) rfl ⟨by rw [HX.out], set6_ext x hbj (Nat.le_refl _)⟩

theorem rbound_any (v : Value) (L : List Fx.V3) (r : Int) (w : World) (hI : VSl w v L) :
    Calls Try.prog 36 #[v, .int .i64 r] w fun e w' => e = .returned (.agg (Fx.boundV L r).arr) ∧ Below w.heap.size w w' := by
  by_cases hp : Fx.placedB L = true
  · by_cases hr : 0 ≤ r ∧ r ≤ 1048576
    · exact rbound_yes v L r w hI hp hr
    · exact rbound_no v L r w hI (Fx.boundOk_2 hr)
  · exact rbound_no v L r w hI (Fx.boundOk_1 (by simpa using hp))
end Go.Proofs.Ytgnjconhbloocaa

namespace Go.Proofs.Ytgnjconhbloocaa
open Go.RowKit
set_option linter.unusedVariables false

/-- The sum of two vectors of intervals. -/
def Fx.addV (a b : Fx.V3) : Fx.V3 := Fx.ofEnds (fun j => Fx.addLo (a.lo j) (a.hi j) (b.lo j) (b.hi j)) (fun j => Fx.addHi (a.lo j) (a.hi j) (b.lo j) (b.hi j))
theorem arr_two (x : Fx.V3) (j : Nat) (hj : j < 3) (m : Nat) (v : Value) (h : [Value.int .i64 (x.lo j), Value.int .i64 (x.hi j)][m]? = some v) : x.arr[j * 2 + m]? = some v := by
  match m, h with
  | 0, h => rw [← h]; exact (arr_cell x j hj).1
  | 1, h => rw [← h]; exact (arr_cell x j hj).2
  | m + 2, h => simp at h
theorem Whole.two {w : World} {g : Nat} {t : TypeId} {x : Fx.V3} (h : Whole w g t x.arr) (j : Nat) (hj : j < 3) : w.rangeAt g (j * 2) [.int .i64 (x.lo j), .int .i64 (x.hi j)] := h.range _ _ (arr_two x j hj)
theorem arr_size (x : Fx.V3) : x.arr.size = 6 := rfl
theorem two_one (a b : Int) : (#[Value.int .i64 a, Value.int .i64 b].all fun v => v.oneCell') = true := by simp [Value.oneCell']

theorem ret_madd {tmps : Array Value} {w : World} {g : Nat} {x : Fx.V3} (hW : Whole w g 34 x.arr) (h2 : tmps.getD 4 undef = .pointer (some ⟨g, 0, none⟩)) :
    (results Try.f78 tmps).run Try.prog w = .ok (.agg x.arr) w := by
  obtain ⟨⟨c0, c1, c2, c3, c4, c5⟩, _⟩ := hW.six
  clear hW
  have h2' : tmps[4]?.getD undef = .pointer (some ⟨g, 0, none⟩) := by simpa using h2
  simp [results, Try.results78, go_sem, h2', c0, c1, c2, c3, c4, c5, Fx.V3.arr]

set_option maxRecDepth 100000 in
set_option maxHeartbeats 2000000 in
theorem madd_any (a b : Fx.V3) (w : World) :
    Calls Try.prog 78 #[.agg a.arr, .agg b.arr] w fun e w' => e = .returned (.agg (Fx.addV a b).arr) ∧ Below w.heap.size w w' := by
  go_enter Try.func78, Try.ntmps78
  go_wp2_with fail
  have HA0 := Lib.hid ((((Whole.new w 34 a.arr).alloc (.cells b.arr 34)).alloc (.cells Fx.V3.zero.arr 34)).alloc (.cells Fx.V3.zero.arr 34))
  have HB0 := Lib.hid (((Whole.new (w.alloc (.cells a.arr 34)) 34 b.arr).alloc (.cells Fx.V3.zero.arr 34)).alloc (.cells Fx.V3.zero.arr 34))
  have HC0 := Lib.hid ((Whole.new ((w.alloc (.cells a.arr 34)).alloc (.cells b.arr 34)) 34 Fx.V3.zero.arr).alloc (.cells Fx.V3.zero.arr 34))
  have HD0 := Lib.hid (Whole.new (((w.alloc (.cells a.arr 34)).alloc (.cells b.arr 34)).alloc (.cells Fx.V3.zero.arr 34)) 34 Fx.V3.zero.arr)
  have HE0 := Lib.hid (ext_alloc (ext_alloc (ext_alloc (ext_alloc (ext_refl w) (.cells a.arr 34)) (.cells b.arr 34)) (.cells Fx.V3.zero.arr 34)) (.cells Fx.V3.zero.arr 34))
  simp only [World.size_alloc] at HB0 HC0 HD0
  go_loopw [7] (fun jv wr => ∃ j : Nat, j ≤ 3 ∧ jv = .int .i64 j ∧ Whole wr w.heap.size 34 a.arr ∧ Whole wr (w.heap.size + 1) 34 b.arr ∧ Whole wr (w.heap.size + 1 + 1) 34 Fx.V3.zero.arr ∧ Whole wr (w.heap.size + 1 + 1 + 1) 34 (Fx.endsTo (fun j => Fx.addLo (a.lo j) (a.hi j) (b.lo j) (b.hi j)) (fun j => Fx.addHi (a.lo j) (a.hi j) (b.lo j) (b.hi j)) j).arr ∧ Below w.heap.size w wr) (fun jv _ => 3 - (intOf jv).toNat)
  case atStart => exact ⟨0, by omega, rfl, HA0.out, HB0.out, HC0.out, HD0.out, HE0.out⟩
  case round =>
    obtain ⟨j, hj, rfl, hA, hB, hC, hD, hb⟩ := hrel
    clear HA0 HB0 HC0 HD0 HE0
    have HA := Lib.hid hA; have HB := Lib.hid hB; have HC := Lib.hid hC; have HD := Lib.hid hD
    by_cases hj3 : j < 3
    · clear hA hB hC hD
      have HNx := Lib.hid (Fx.endsTo_next (fun j => Fx.addLo (a.lo j) (a.hi j) (b.lo j) (b.hi j)) (fun j => Fx.addHi (a.lo j) (a.hi j) (b.lo j) (b.hi j)) j hj3)
      have k0 : (0 : Int) ≤ (j : Int) := by omega
      have k1 : (j : Int) < 3 := by omega
      go_wp2_with fail
      refine wp_region_noPanic ?_
      refine wp_region_until_drew (k := 9) (S := fun w' => Below wr.heap.size wr w') (by kernel_rfl) (ext_drew (ext_refl _)) (fun hHeld => ?_)
      refine wpAnyU_take (i := 0) (v := ?_) (by simp only [List.getElem?_toArray, List.getElem?_cons_succ, List.getElem?_cons_zero]; rfl) (by kernel_rfl) (by kernel_rfl) (by kernel_rfl) (by kernel_rfl) (by kernel_rfl) (fun _ _ _ h => h) (Or.inl ⟨by rfl, ?_⟩) (by assumption) ?_
      rotate_left
      · intro w hSw; (try dsimp only at hSw); go_simp; first | done | with_reducible rfl
      try simp only [Act.put, List.setIfInBounds_toArray, List.set_cons_zero, List.set_cons_succ]
      refine wpAnyU_take (i := 1) (v := ?_) (by simp only [List.getElem?_toArray, List.getElem?_cons_succ, List.getElem?_cons_zero]; rfl) (by kernel_rfl) (by kernel_rfl) (by kernel_rfl) (by kernel_rfl) (by kernel_rfl) (fun _ _ _ h => h) (Or.inl ⟨by rfl, ?_⟩) (by assumption) ?_
      rotate_left
      · intro w hSw; (try dsimp only at hSw); go_simp; first | done | with_reducible rfl
      try simp only [Act.put, List.setIfInBounds_toArray, List.set_cons_zero, List.set_cons_succ]
      refine wpAnyU_take (i := 2) (v := ?_) (by simp only [List.getElem?_toArray, List.getElem?_cons_succ, List.getElem?_cons_zero]; rfl) (by kernel_rfl) (by kernel_rfl) (by kernel_rfl) (by kernel_rfl) (by kernel_rfl) (fun _ _ _ h => h) (Or.inl ⟨by rfl, ?_⟩) (by assumption) ?_
      rotate_left
      · intro w hSw; (try dsimp only at hSw); go_simp; first | done | with_reducible rfl
      try simp only [Act.put, List.setIfInBounds_toArray, List.set_cons_zero, List.set_cons_succ]
      refine wpAnyU_take (i := 3) (by simp only [List.getElem?_toArray, List.getElem?_cons_succ, List.getElem?_cons_zero]; rfl) (by kernel_rfl) (by kernel_rfl) (by kernel_rfl) (by kernel_rfl) (by kernel_rfl) (fun _ _ _ h => h) (yields_load (by rfl) _ _ rfl w.heap.size (j * 2) (by rfl) [.int .i64 (a.lo j), .int .i64 (a.hi j)] _ (HA.out.two j hj3) HA.out.lt Try.underlying32 rfl (by kernel_rfl)) (by assumption) ?_
      try simp only [Act.put, List.setIfInBounds_toArray, List.set_cons_zero, List.set_cons_succ]
      refine wpAnyU_take (i := 4) (v := ?_) (by simp only [List.getElem?_toArray, List.getElem?_cons_succ, List.getElem?_cons_zero]; rfl) (by kernel_rfl) (by kernel_rfl) (by kernel_rfl) (by kernel_rfl) (by kernel_rfl) (fun _ _ _ h => h) (Or.inl ⟨by rfl, ?_⟩) (by assumption) ?_
      rotate_left
      · intro w hSw; (try dsimp only at hSw); go_simp; first | done | with_reducible rfl
      try simp only [Act.put, List.setIfInBounds_toArray, List.set_cons_zero, List.set_cons_succ]
      refine wpAnyU_take (i := 5) (v := ?_) (by simp only [List.getElem?_toArray, List.getElem?_cons_succ, List.getElem?_cons_zero]; rfl) (by kernel_rfl) (by kernel_rfl) (by kernel_rfl) (by kernel_rfl) (by kernel_rfl) (fun _ _ _ h => h) (Or.inl ⟨by rfl, ?_⟩) (by assumption) ?_
      rotate_left
      · intro w hSw; (try dsimp only at hSw); go_simp; first | done | with_reducible rfl
      try simp only [Act.put, List.setIfInBounds_toArray, List.set_cons_zero, List.set_cons_succ]
      refine wpAnyU_take (i := 6) (by simp only [List.getElem?_toArray, List.getElem?_cons_succ, List.getElem?_cons_zero]; rfl) (by kernel_rfl) (by kernel_rfl) (by kernel_rfl) (by kernel_rfl) (by kernel_rfl) (fun _ _ _ h => h) (yields_load (by rfl) _ _ rfl (w.heap.size + 1) (j * 2) (by rfl) [.int .i64 (b.lo j), .int .i64 (b.hi j)] _ (HB.out.two j hj3) HB.out.lt Try.underlying32 rfl (by kernel_rfl)) (by assumption) ?_
      try simp only [Act.put, List.setIfInBounds_toArray, List.set_cons_zero, List.set_cons_succ]
      refine wpAnyU_ready (rs := [7]) (by kernel_rfl) (by simp) ?_
      refine AllReadyU.cons (by simp only [List.getElem?_toArray, List.getElem?_cons_succ, List.getElem?_cons_zero]; rfl) (fun K hK => ?_) AllReadyU.nil
      go_simp
      refine (add_any (a.lo j) (a.hi j) (b.lo j) (b.hi j) _).mono ?_
      rintro e w_7 ⟨rfl, hb_7⟩
      have hHeld' := ext_trans hHeld hb_7
      clear hHeld hb_7
      go_wp2_with fail
      refine hK.out _ _ hHeld' (fun hHeld => ?_)
      clear hK K hHeld'
      try simp only [Act.put, List.setIfInBounds_toArray, List.set_cons_zero, List.set_cons_succ]
      generalize hlo : Fx.addLo (a.lo j) (a.hi j) (b.lo j) (b.hi j) = lo at *
      generalize hhi : Fx.addHi (a.lo j) (a.hi j) (b.lo j) (b.hi j) = hi at *
      clear hlo hhi
      refine wpAnyU_take (i := 8) (v := ?_) (by simp only [List.getElem?_toArray, List.getElem?_cons_succ, List.getElem?_cons_zero]; rfl) (by kernel_rfl) (by kernel_rfl) (by kernel_rfl) (by kernel_rfl) (by kernel_rfl) (fun _ _ _ h => h) (Or.inl ⟨by rfl, ?_⟩) (by assumption) ?_
      rotate_left
      · intro w hSw; (try dsimp only at hSw); go_simp; first | done | with_reducible rfl
      try simp only [Act.put, List.setIfInBounds_toArray, List.set_cons_zero, List.set_cons_succ]
      have hD7 := HD.out.ext hHeld
      have HA7 := Lib.hid (HA.out.ext hHeld); have HB7 := Lib.hid (HB.out.ext hHeld); have HC7 := Lib.hid (HC.out.ext hHeld)
      have hB7 := ext_trans hb hHeld
      clear HA HB HC HD hb hHeld
      refine wpAnyU_ready (rs := [9]) (by kernel_rfl) (by simp) ?_
      refine AllReadyU.last (by simp only [List.getElem?_toArray, List.getElem?_cons_succ, List.getElem?_cons_zero]; rfl) (fun K hK => ?_) AllReadyU.nil
      rw [if_pos (by rfl)]
      refine wp_store_mid _ _ _ rfl (w.heap.size + 1 + 1 + 1) (j * 2) #[.int .i64 lo, .int .i64 hi] rfl rfl (there_of hD7 _ _ (by simp [Fx.V3.arr]; omega)) (by kernel_rfl) (two_one _ _) ?_
      have HDn := Lib.hid (hD7.store2 (j * 2) (.int .i64 lo) (.int .i64 hi) HNx.out)
      have HAn := Lib.hid (HA7.out.farN [.int .i64 lo, .int .i64 hi] (show w.heap.size ≠ w.heap.size + 1 + 1 + 1 by omega) (j * 2))
      have HBn := Lib.hid (HB7.out.farN [.int .i64 lo, .int .i64 hi] (show w.heap.size + 1 ≠ w.heap.size + 1 + 1 + 1 by omega) (j * 2))
      have HCn := Lib.hid (HC7.out.farN [.int .i64 lo, .int .i64 hi] (show w.heap.size + 1 + 1 ≠ w.heap.size + 1 + 1 + 1 by omega) (j * 2))
      have hBn := ext_setN [.int .i64 lo, .int .i64 hi] hB7 (show w.heap.size ≤ w.heap.size + 1 + 1 + 1 by omega) (j * 2)
      refine hK.out _ _ ?_
      clear hK K hD7 HA7 HB7 HC7 hB7
      try simp only [Act.put, List.setIfInBounds_toArray, List.set_cons_zero, List.set_cons_succ]
      refine wpAnyU_done (by kernel_rfl) ?_ _
      refine NoPanic.normal ?_
      generalize w_7.setCells (w.heap.size + 1 + 1 + 1) (j * 2) [.int .i64 lo, .int .i64 hi] = w8 at *
      go_wp2_with fail
      go_roundw
      case rel => exact ⟨j + 1, by omega, by go_num, HAn.out, HBn.out, HCn.out, HDn.out, hBn⟩
      case measure => simp [intOf]; omega
    · obtain rfl : j = 3 := by omega
      rw [Fx.endsTo_three] at hD
      generalize hx : Fx.ofEnds (fun j => Fx.addLo (a.lo j) (a.hi j) (b.lo j) (b.hi j)) (fun j => Fx.addHi (a.lo j) (a.hi j) (b.lo j) (b.hi j)) = x at *
      have HX : Hid (Fx.addV a b = x) := Lib.hid hx
      obtain ⟨⟨z0, z1, z2, z3, z4, z5⟩, ⟨y0, y1, y2, y3, y4, y5⟩⟩ := hC.six
      obtain ⟨⟨s0, s1, s2, s3, s4, s5⟩, _⟩ := hD.six
      simp only [Fx.V3.zero] at z0 z1 z2 z3 z4 z5
      clear hA hB hC hD hx HA HB HD
      go_wp2_with fail
      exact bodyPost_ret (ret_madd (x := x) (set6_whole x HC.out) rfl) rfl ⟨by rw [HX.out], set6_ext x hb (show w.heap.size ≤ w.heap.size + 1 + 1 by omega)⟩
end Go.Proofs.Ytgnjconhbloocaa

namespace Go.Proofs.Ytgnjconhbloocaa
open Go.RowKit
set_option linter.unusedVariables false

theorem ret_mpoint {tmps : Array Value} {w : World} {g : Nat} {x : Fx.V3} (hW : Whole w g 34 x.arr) (h2 : tmps.getD 2 undef = .pointer (some ⟨g, 0, none⟩)) :
    (results Try.f48 tmps).run Try.prog w = .ok (.agg x.arr) w := by
  obtain ⟨⟨c0, c1, c2, c3, c4, c5⟩, _⟩ := hW.six
  clear hW
  have h2' : tmps[2]?.getD undef = .pointer (some ⟨g, 0, none⟩) := by simpa using h2
  simp [results, Try.results48, go_sem, h2', c0, c1, c2, c3, c4, c5, Fx.V3.arr]

theorem ofV_ends (a b c : Int) : Fx.ofEnds (fun j => Fx.clamp (pick3 a b c j)) (fun j => Fx.clamp (pick3 a b c j)) = Fx.ofV a b c := rfl

set_option maxRecDepth 100000 in
set_option maxHeartbeats 2000000 in
theorem mpoint_any (a b c : Int) (w : World) :
    Calls Try.prog 48 #[.agg #[.int .i64 a, .int .i64 b, .int .i64 c]] w fun e w' => e = .returned (.agg (Fx.ofV a b c).arr) ∧ Below w.heap.size w w' := by
  go_enter Try.func48, Try.ntmps48
  go_wp2_with fail
  have HA0 := Lib.hid (((Whole.new w 66 #[.int .i64 a, .int .i64 b, .int .i64 c]).alloc (.cells Fx.V3.zero.arr 34)).alloc (.cells Fx.V3.zero.arr 34))
  have HC0 := Lib.hid ((Whole.new (w.alloc (.cells #[.int .i64 a, .int .i64 b, .int .i64 c] 66)) 34 Fx.V3.zero.arr).alloc (.cells Fx.V3.zero.arr 34))
  have HD0 := Lib.hid (Whole.new ((w.alloc (.cells #[.int .i64 a, .int .i64 b, .int .i64 c] 66)).alloc (.cells Fx.V3.zero.arr 34)) 34 Fx.V3.zero.arr)
  have HE0 := Lib.hid (ext_alloc (ext_alloc (ext_alloc (ext_refl w) (.cells #[.int .i64 a, .int .i64 b, .int .i64 c] 66)) (.cells Fx.V3.zero.arr 34)) (.cells Fx.V3.zero.arr 34))
  simp only [World.size_alloc] at HC0 HD0
  have HX := Lib.hid (ofV_ends a b c)
  have HP := Lib.hid (pick3_cell a b c)
  generalize harr : (#[Value.int .i64 a, .int .i64 b, .int .i64 c] : Array Value) = arr at *
  clear harr
  generalize hrx : Fx.ofV a b c = rx at *
  have HRX := Lib.hid hrx
  clear hrx
  generalize pick3 a b c = pk at *
  go_loopw [5] (fun jv wr => ∃ j : Nat, j ≤ 3 ∧ jv = .int .i64 j ∧ Whole wr w.heap.size 66 arr ∧ Whole wr (w.heap.size + 1) 34 Fx.V3.zero.arr ∧ Whole wr (w.heap.size + 1 + 1) 34 (Fx.endsTo (fun j => Fx.clamp (pk j)) (fun j => Fx.clamp (pk j)) j).arr ∧ Below w.heap.size w wr) (fun jv _ => 3 - (intOf jv).toNat)
  case atStart => exact ⟨0, by omega, rfl, HA0.out, HC0.out, HD0.out, HE0.out⟩
  case round =>
    obtain ⟨j, hj, rfl, hA, hC, hD, hb⟩ := hrel
    clear HA0 HC0 HD0 HE0
    have HA := Lib.hid hA; have HC := Lib.hid hC; have HD := Lib.hid hD
    by_cases hj3 : j < 3
    · have cj := (hA.cell j).trans (HP.out j hj3)
      clear hA hC hD
      have HNx := Lib.hid (Fx.endsTo_next (fun j => Fx.clamp (pk j)) (fun j => Fx.clamp (pk j)) j hj3)
      have k0 : (0 : Int) ≤ (j : Int) := by omega
      have k1 : (j : Int) < 3 := by omega
      generalize pk j = x at *
      go_wp2_with fail
      refine (of_any _ _).mono ?_
      rintro e w7 ⟨rfl, hb7⟩
      have hD7 := HD.out.ext hb7
      have HA7 := Lib.hid (HA.out.ext hb7); have HC7 := Lib.hid (HC.out.ext hb7)
      have hB7 := ext_trans hb hb7
      generalize Fx.clamp x = y at *
      have HDn := Lib.hid (hD7.store2 (j * 2) (.int .i64 y) (.int .i64 y) HNx.out)
      have HAn := Lib.hid (HA7.out.farN [.int .i64 y, .int .i64 y] (show w.heap.size ≠ w.heap.size + 1 + 1 by omega) (j * 2))
      have HCn := Lib.hid (HC7.out.farN [.int .i64 y, .int .i64 y] (show w.heap.size + 1 ≠ w.heap.size + 1 + 1 by omega) (j * 2))
      have hBn := ext_setN [.int .i64 y, .int .i64 y] hB7 (show w.heap.size ≤ w.heap.size + 1 + 1 by omega) (j * 2)
      have f0 := hD7.frozen (j * 2)
      have f1 := hD7.frozen (j * 2 + 1)
      have t0 := (hD7.cell (j * 2)).trans (arr_cell _ j hj3).1
      have t1 := (hD7.cell (j * 2 + 1)).trans (arr_cell _ j hj3).2
      generalize (Fx.endsTo (fun j => Fx.clamp (pk j)) (fun j => Fx.clamp (pk j)) j).lo j = q0 at *
      generalize (Fx.endsTo (fun j => Fx.clamp (pk j)) (fun j => Fx.clamp (pk j)) j).hi j = q1 at *
      clear HA HC HD hb hb7 hD7 HA7 HC7 hB7 cj
      go_wp2_with fail
      go_roundw
      case rel => exact ⟨j + 1, by omega, by go_num, HAn.out, HCn.out, HDn.out, hBn⟩
      case measure => simp [intOf]; omega
    · obtain rfl : j = 3 := by omega
      rw [Fx.endsTo_three, HX.out] at hD
      obtain ⟨⟨z0, z1, z2, z3, z4, z5⟩, ⟨y0, y1, y2, y3, y4, y5⟩⟩ := hC.six
      obtain ⟨⟨s0, s1, s2, s3, s4, s5⟩, _⟩ := hD.six
      simp only [Fx.V3.zero] at z0 z1 z2 z3 z4 z5
      clear hA hC hD HA HD HX
      go_wp2_with fail
      exact bodyPost_ret (ret_mpoint (x := rx) (set6_whole rx HC.out) rfl) rfl ⟨by rw [HRX.out], set6_ext rx hb (show w.heap.size ≤ w.heap.size + 1 by omega)⟩

theorem ret_raddv {tmps : Array Value} {w : World} {g : Nat} {x : Fx.V3} (hW : Whole w g 34 x.arr) (h2 : tmps.getD 4 undef = .pointer (some ⟨g, 0, none⟩)) :
    (results Try.f59 tmps).run Try.prog w = .ok (.agg x.arr) w := by
  obtain ⟨⟨c0, c1, c2, c3, c4, c5⟩, _⟩ := hW.six
  clear hW
  have h2' : tmps[4]?.getD undef = .pointer (some ⟨g, 0, none⟩) := by simpa using h2
  simp [results, Try.results59, go_sem, h2', c0, c1, c2, c3, c4, c5, Fx.V3.arr]

set_option maxRecDepth 100000 in
set_option maxHeartbeats 2000000 in
theorem raddv_any (a b : Fx.V3) (w : World) :
    Calls Try.prog 59 #[.agg a.arr, .agg b.arr] w fun e w' => e = .returned (.agg (Fx.addV a b).arr) ∧ Below w.heap.size w w' := by
  go_enter Try.func59, Try.ntmps59
  go_wp2_with fail
  have h3 := blocks3 w 34 34 34 a.arr b.arr zero6
  generalize ((w.alloc (.cells a.arr 34)).alloc (.cells b.arr 34)).alloc (.cells zero6 34) = wr at *
  obtain ⟨hA, hB, hC0, hb⟩ := h3
  have HA := Lib.hid hA; have HB := Lib.hid hB
  have HC : Hid (Whole wr (w.heap.size + 1 + 1) 34 Fx.V3.zero.arr) := Lib.hid hC0
  clear hA hB hC0
  refine wp_region_noPanic ?_
  refine wp_region_until_drew (k := 16) (S := fun w' => Below wr.heap.size wr w') (by kernel_rfl) (ext_drew (ext_refl _)) (fun hHeld => ?_)
  refine wpAnyU_take (i := 0) (v := ?_) (by simp only [List.getElem?_toArray, List.getElem?_cons_succ, List.getElem?_cons_zero]; rfl) (by kernel_rfl) (by kernel_rfl) (by kernel_rfl) (by kernel_rfl) (by kernel_rfl) (fun _ _ _ h => h) (Or.inl ⟨by rfl, ?_⟩) (by assumption) ?_
  rotate_left
  · intro w hSw; (try dsimp only at hSw); go_simp; first | done | with_reducible rfl
  try simp only [Act.put, List.setIfInBounds_toArray, List.set_cons_zero, List.set_cons_succ]
  refine wpAnyU_take (i := 1) (by simp only [List.getElem?_toArray, List.getElem?_cons_succ, List.getElem?_cons_zero]; rfl) (by kernel_rfl) (by kernel_rfl) (by kernel_rfl) (by kernel_rfl) (by kernel_rfl) (fun _ _ _ h => h) (yields_load (by rfl) _ _ rfl w.heap.size (0) (by rfl) [.int .i64 (a.lo 0), .int .i64 (a.hi 0)] _ (HA.out.two 0 (by omega)) HA.out.lt Try.underlying32 rfl (by kernel_rfl)) (by assumption) ?_
  try simp only [Act.put, List.setIfInBounds_toArray, List.set_cons_zero, List.set_cons_succ]
  refine wpAnyU_take (i := 2) (v := ?_) (by simp only [List.getElem?_toArray, List.getElem?_cons_succ, List.getElem?_cons_zero]; rfl) (by kernel_rfl) (by kernel_rfl) (by kernel_rfl) (by kernel_rfl) (by kernel_rfl) (fun _ _ _ h => h) (Or.inl ⟨by rfl, ?_⟩) (by assumption) ?_
  rotate_left
  · intro w hSw; (try dsimp only at hSw); go_simp; first | done | with_reducible rfl
  try simp only [Act.put, List.setIfInBounds_toArray, List.set_cons_zero, List.set_cons_succ]
  refine wpAnyU_take (i := 3) (by simp only [List.getElem?_toArray, List.getElem?_cons_succ, List.getElem?_cons_zero]; rfl) (by kernel_rfl) (by kernel_rfl) (by kernel_rfl) (by kernel_rfl) (by kernel_rfl) (fun _ _ _ h => h) (yields_load (by rfl) _ _ rfl (w.heap.size + 1) (0) (by rfl) [.int .i64 (b.lo 0), .int .i64 (b.hi 0)] _ (HB.out.two 0 (by omega)) HB.out.lt Try.underlying32 rfl (by kernel_rfl)) (by assumption) ?_
  try simp only [Act.put, List.setIfInBounds_toArray, List.set_cons_zero, List.set_cons_succ]
  refine wpAnyU_take (i := 5) (v := ?_) (by simp only [List.getElem?_toArray, List.getElem?_cons_succ, List.getElem?_cons_zero]; rfl) (by kernel_rfl) (by kernel_rfl) (by kernel_rfl) (by kernel_rfl) (by kernel_rfl) (fun _ _ _ h => h) (Or.inl ⟨by rfl, ?_⟩) (by assumption) ?_
  rotate_left
  · intro w hSw; (try dsimp only at hSw); go_simp; first | done | with_reducible rfl
  try simp only [Act.put, List.setIfInBounds_toArray, List.set_cons_zero, List.set_cons_succ]
  refine wpAnyU_take (i := 6) (by simp only [List.getElem?_toArray, List.getElem?_cons_succ, List.getElem?_cons_zero]; rfl) (by kernel_rfl) (by kernel_rfl) (by kernel_rfl) (by kernel_rfl) (by kernel_rfl) (fun _ _ _ h => h) (yields_load (by rfl) _ _ rfl w.heap.size (2) (by rfl) [.int .i64 (a.lo 1), .int .i64 (a.hi 1)] _ (HA.out.two 1 (by omega)) HA.out.lt Try.underlying32 rfl (by kernel_rfl)) (by assumption) ?_
  try simp only [Act.put, List.setIfInBounds_toArray, List.set_cons_zero, List.set_cons_succ]
  refine wpAnyU_take (i := 7) (v := ?_) (by simp only [List.getElem?_toArray, List.getElem?_cons_succ, List.getElem?_cons_zero]; rfl) (by kernel_rfl) (by kernel_rfl) (by kernel_rfl) (by kernel_rfl) (by kernel_rfl) (fun _ _ _ h => h) (Or.inl ⟨by rfl, ?_⟩) (by assumption) ?_
  rotate_left
  · intro w hSw; (try dsimp only at hSw); go_simp; first | done | with_reducible rfl
  try simp only [Act.put, List.setIfInBounds_toArray, List.set_cons_zero, List.set_cons_succ]
  refine wpAnyU_take (i := 8) (by simp only [List.getElem?_toArray, List.getElem?_cons_succ, List.getElem?_cons_zero]; rfl) (by kernel_rfl) (by kernel_rfl) (by kernel_rfl) (by kernel_rfl) (by kernel_rfl) (fun _ _ _ h => h) (yields_load (by rfl) _ _ rfl (w.heap.size + 1) (2) (by rfl) [.int .i64 (b.lo 1), .int .i64 (b.hi 1)] _ (HB.out.two 1 (by omega)) HB.out.lt Try.underlying32 rfl (by kernel_rfl)) (by assumption) ?_
  try simp only [Act.put, List.setIfInBounds_toArray, List.set_cons_zero, List.set_cons_succ]
  refine wpAnyU_take (i := 10) (v := ?_) (by simp only [List.getElem?_toArray, List.getElem?_cons_succ, List.getElem?_cons_zero]; rfl) (by kernel_rfl) (by kernel_rfl) (by kernel_rfl) (by kernel_rfl) (by kernel_rfl) (fun _ _ _ h => h) (Or.inl ⟨by rfl, ?_⟩) (by assumption) ?_
  rotate_left
  · intro w hSw; (try dsimp only at hSw); go_simp; first | done | with_reducible rfl
  try simp only [Act.put, List.setIfInBounds_toArray, List.set_cons_zero, List.set_cons_succ]
  refine wpAnyU_take (i := 11) (by simp only [List.getElem?_toArray, List.getElem?_cons_succ, List.getElem?_cons_zero]; rfl) (by kernel_rfl) (by kernel_rfl) (by kernel_rfl) (by kernel_rfl) (by kernel_rfl) (fun _ _ _ h => h) (yields_load (by rfl) _ _ rfl w.heap.size (4) (by rfl) [.int .i64 (a.lo 2), .int .i64 (a.hi 2)] _ (HA.out.two 2 (by omega)) HA.out.lt Try.underlying32 rfl (by kernel_rfl)) (by assumption) ?_
  try simp only [Act.put, List.setIfInBounds_toArray, List.set_cons_zero, List.set_cons_succ]
  refine wpAnyU_take (i := 12) (v := ?_) (by simp only [List.getElem?_toArray, List.getElem?_cons_succ, List.getElem?_cons_zero]; rfl) (by kernel_rfl) (by kernel_rfl) (by kernel_rfl) (by kernel_rfl) (by kernel_rfl) (fun _ _ _ h => h) (Or.inl ⟨by rfl, ?_⟩) (by assumption) ?_
  rotate_left
  · intro w hSw; (try dsimp only at hSw); go_simp; first | done | with_reducible rfl
  try simp only [Act.put, List.setIfInBounds_toArray, List.set_cons_zero, List.set_cons_succ]
  refine wpAnyU_take (i := 13) (by simp only [List.getElem?_toArray, List.getElem?_cons_succ, List.getElem?_cons_zero]; rfl) (by kernel_rfl) (by kernel_rfl) (by kernel_rfl) (by kernel_rfl) (by kernel_rfl) (fun _ _ _ h => h) (yields_load (by rfl) _ _ rfl (w.heap.size + 1) (4) (by rfl) [.int .i64 (b.lo 2), .int .i64 (b.hi 2)] _ (HB.out.two 2 (by omega)) HB.out.lt Try.underlying32 rfl (by kernel_rfl)) (by assumption) ?_
  try simp only [Act.put, List.setIfInBounds_toArray, List.set_cons_zero, List.set_cons_succ]
  refine wpAnyU_ready (rs := [4]) (by kernel_rfl) (by simp) ?_
  refine AllReadyU.cons (by simp only [List.getElem?_toArray, List.getElem?_cons_succ, List.getElem?_cons_zero]; rfl) (fun K hK => ?_) AllReadyU.nil
  go_simp
  refine (radd_any _ _ _ _ _).mono ?_
  rintro e w_4 ⟨rfl, hb_4⟩
  have hHeld' := ext_trans hHeld hb_4
  clear hHeld hb_4
  go_wp2_with fail
  refine hK.out _ _ hHeld' (fun hHeld => ?_)
  clear hK K hHeld'
  try simp only [Act.put, List.setIfInBounds_toArray, List.set_cons_zero, List.set_cons_succ]
  refine wpAnyU_ready (rs := [9]) (by kernel_rfl) (by simp) ?_
  refine AllReadyU.cons (by simp only [List.getElem?_toArray, List.getElem?_cons_succ, List.getElem?_cons_zero]; rfl) (fun K hK => ?_) AllReadyU.nil
  go_simp
  refine (radd_any _ _ _ _ _).mono ?_
  rintro e w_9 ⟨rfl, hb_9⟩
  have hHeld' := ext_trans hHeld hb_9
  clear hHeld hb_9
  go_wp2_with fail
  refine hK.out _ _ hHeld' (fun hHeld => ?_)
  clear hK K hHeld'
  try simp only [Act.put, List.setIfInBounds_toArray, List.set_cons_zero, List.set_cons_succ]
  refine wpAnyU_ready (rs := [14]) (by kernel_rfl) (by simp) ?_
  refine AllReadyU.cons (by simp only [List.getElem?_toArray, List.getElem?_cons_succ, List.getElem?_cons_zero]; rfl) (fun K hK => ?_) AllReadyU.nil
  go_simp
  refine (radd_any _ _ _ _ _).mono ?_
  rintro e w_14 ⟨rfl, hb_14⟩
  have hHeld' := ext_trans hHeld hb_14
  clear hHeld hb_14
  go_wp2_with fail
  refine hK.out _ _ hHeld' (fun hHeld => ?_)
  clear hK K hHeld'
  try simp only [Act.put, List.setIfInBounds_toArray, List.set_cons_zero, List.set_cons_succ]
  refine wpAnyU_take (i := 15) (v := ?_) (by simp only [List.getElem?_toArray, List.getElem?_cons_succ, List.getElem?_cons_zero]; rfl) (by kernel_rfl) (by kernel_rfl) (by kernel_rfl) (by kernel_rfl) (by kernel_rfl) (fun _ _ _ h => h) (Or.inl ⟨by rfl, ?_⟩) (by assumption) ?_
  rotate_left
  · intro w hSw; (try dsimp only at hSw); go_simp; first | done | with_reducible rfl
  try simp only [Act.put, List.setIfInBounds_toArray, List.set_cons_zero, List.set_cons_succ]
  have hC := HC.out.ext hHeld
  have hB7 := ext_trans hb hHeld
  refine wpAnyU_ready (rs := [16]) (by kernel_rfl) (by simp) ?_
  refine AllReadyU.last (by simp only [List.getElem?_toArray, List.getElem?_cons_succ, List.getElem?_cons_zero]; rfl) (fun K hK => ?_) AllReadyU.nil
  rw [if_pos (by rfl)]
  refine wp_store_mid _ _ _ rfl (w.heap.size + 1 + 1) 0 (Fx.addV a b).arr rfl rfl (there6 hC) (by kernel_rfl) (arr_one _) ?_
  have HDn : Hid (Whole (w_14.setCells (w.heap.size + 1 + 1) 0 (Fx.addV a b).arr.toList) (w.heap.size + 1 + 1) 34 (Fx.addV a b).arr) := Lib.hid (set6_whole (Fx.addV a b) hC)
  have hBn := ext_setN (Fx.addV a b).arr.toList hB7 (show w.heap.size ≤ w.heap.size + 1 + 1 by omega) 0
  refine hK.out _ _ ?_
  clear hK K hC hB7 hHeld
  try simp only [Act.put, List.setIfInBounds_toArray, List.set_cons_zero, List.set_cons_succ]
  refine wpAnyU_done (by kernel_rfl) ?_ _
  refine NoPanic.normal ?_
  generalize w_14.setCells (w.heap.size + 1 + 1) 0 (Fx.addV a b).arr.toList = w8 at *
  go_wp2_with fail
  exact bodyPost_ret (ret_raddv HDn.out rfl) rfl ⟨rfl, hBn⟩
end Go.Proofs.Ytgnjconhbloocaa

namespace Go.Proofs.Ytgnjconhbloocaa
open Go.RowKit

theorem run_min4m {P : Program} {w : World} (ts : Array TypeId) (t : TypeId) (k k1 k2 k3 : IntKind) (x y z u : Int) : (Builtin.min_ ts t #[.int k x, .int k1 y, .int k2 z, .int k3 u]).run P w = .ok (.int k (Fx.min4 x y z u)) w := by
  simp [Builtin.min_, Builtin.min2, Fx.min4, ite_min]

theorem run_max4m {P : Program} {w : World} (ts : Array TypeId) (t : TypeId) (k k1 k2 k3 : IntKind) (x y z u : Int) : (Builtin.max_ ts t #[.int k x, .int k1 y, .int k2 z, .int k3 u]).run P w = .ok (.int k (Fx.max4 x y z u)) w := by
  simp [Builtin.max_, Builtin.max2, Fx.max4, ite_max]

attribute [local go_sem] run_min4m run_max4m





end Go.Proofs.Ytgnjconhbloocaa

namespace Go.Proofs.Ytgnjconhbloocaa
open Go.RowKit

attribute [local go_sem] run_min4m run_max4m

theorem rmul_any (a b c d : Int) (w : World) :
    Calls Try.prog 76 #[.agg #[.int .i64 a, .int .i64 b], .agg #[.int .i64 c, .int .i64 d]] w fun e w' => e = .returned (.agg #[.int .i64 (Fx.mulLo a b c d), .int .i64 (Fx.mulHi a b c d)]) ∧ Below w.heap.size w w' := by
  by_cases h : Fx.v2 a b c d = true
  · have H := Lib.hid h; clear h
    obtain ⟨u0, u1, u2⟩ := Fx.vb_true.1 (Fx.v2_true.1 H.out).1
    obtain ⟨v0, v1, v2⟩ := Fx.vb_true.1 (Fx.v2_true.1 H.out).2
    have pp := Fx.prod_bd a c (by omega) (by omega) (by omega) (by omega)
    have pq := Fx.prod_bd a d (by omega) (by omega) (by omega) (by omega)
    have pr := Fx.prod_bd b c (by omega) (by omega) (by omega) (by omega)
    have ps := Fx.prod_bd b d (by omega) (by omega) (by omega) (by omega)
    have hm1 := Fx.min4_bd (a * c) (a * d) (b * c) (b * d) pp pq pr ps
    have hm2 := Fx.max4_bd (a * c) (a * d) (b * c) (b * d) pp pq pr ps
    go_enter Try.func76, Try.ntmps76
    go_wp2_with fail
    refine (rvalid_yes _ _ _ (Fx.v2_true.1 H.out).1).mono ?_
    rintro e w1 ⟨rfl, hb1⟩
    obtain ⟨hc1, hf1⟩ := bcell hb1
    have hz1 := hb1.size
    try simp at hz1
    have hz1c : w.heap.size + 1 + 1 < w1.heap.size := by omega
    have hz1b : w.heap.size + 1 < w1.heap.size := by omega
    have hz1a : w.heap.size < w1.heap.size := by omega
    go_wp2_with fail
    refine (rvalid_yes _ _ _ (Fx.v2_true.1 H.out).2).mono ?_
    rintro e w2 ⟨rfl, hb2⟩
    obtain ⟨hc2, hf2⟩ := bcell hb2
    have hz2 := hb2.size
    try simp at hz2
    have hz2c : w.heap.size + 1 + 1 < w2.heap.size := by omega
    have hz2b : w.heap.size + 1 < w2.heap.size := by omega
    have hz2a : w.heap.size < w2.heap.size := by omega
    go_wp2_with fail
    go_quiet (fail)
    have hb3 := below_drewN hb2 nq
    generalize w2.drewN nq = w3 at *
    clear hb2 hc2 hf2 hz2 hz2a hz2b hz2c
    clear w2
    obtain ⟨hc3, hf3⟩ := bcell hb3
    have hz3 := hb3.size
    try simp at hz3
    have hz3c : w.heap.size + 1 + 1 < w3.heap.size := by omega
    have hz3b : w.heap.size + 1 < w3.heap.size := by omega
    have hz3a : w.heap.size < w3.heap.size := by omega
    go_wp2_with fail
    refine (floor_any _ _ _ (by omega) (by omega) (by omega)).mono ?_
    rintro e w' ⟨rfl, rfl⟩
    go_wp2_with fail
    refine (ceil_any _ _ _ (by omega) (by omega) (by omega)).mono ?_
    rintro e w' ⟨rfl, rfl⟩
    go_wp2_with fail
    refine (rlimited_any _ _ _).mono ?_
    rintro e w4 ⟨rfl, hb4⟩
    obtain ⟨hc4, hf4⟩ := bcell hb4
    have hz4 := hb4.size
    try simp at hz4
    have hz4c : w.heap.size + 1 + 1 < w4.heap.size := by omega
    have hz4b : w.heap.size + 1 < w4.heap.size := by omega
    have hz4a : w.heap.size < w4.heap.size := by omega
    go_wp2_with fail
    exact bodyPost_ret (v := .agg #[.int .i64 (Fx.clamp (Fx.min4 (a * c) (a * d) (b * c) (b * d) / 65536)), .int .i64 (Fx.clamp (Fx.ce (Fx.max4 (a * c) (a * d) (b * c) (b * d)) 65536))]) (by simp [results, Try.results76, go_sem, *]) rfl ⟨ret_iv (Fx.ite_yes H.out _) (Fx.ite_yes H.out _), (by repeat (first | exact Below.refl _ _ | refine Below.setCell ?_ (by first | (simp; done) | (simp; omega) | omega) _ | refine Below.alloc ?_ (by first | (simp; done) | (simp; omega) | omega) _ | refine below_drewN ?_ _ | refine Below.trans ?_ (Below.mono ‹Below _ _ _› (by first | (simp; done) | (simp; omega) | omega))))⟩
  · have H := Lib.hid (show Fx.v2 a b c d = false by simpa using h); clear h
    by_cases h1 : Fx.vb a b = true
    · have H1 := Lib.hid h1
      have H2 := Lib.hid (show Fx.vb c d = false by have := H.out; unfold Fx.v2 at this; rw [h1] at this; simpa using this); clear h1
      go_enter Try.func76, Try.ntmps76
      go_wp2_with fail
      refine (rvalid_yes _ _ _ H1.out).mono ?_
      rintro e w1 ⟨rfl, hb1⟩
      obtain ⟨hc1, hf1⟩ := bcell hb1
      have hz1 := hb1.size
      try simp at hz1
      have hz1c : w.heap.size + 1 + 1 < w1.heap.size := by omega
      have hz1b : w.heap.size + 1 < w1.heap.size := by omega
      have hz1a : w.heap.size < w1.heap.size := by omega
      go_wp2_with fail
      refine (rvalid_no _ _ _ H2.out).mono ?_
      rintro e w2 ⟨rfl, hb2⟩
      obtain ⟨hc2, hf2⟩ := bcell hb2
      have hz2 := hb2.size
      try simp at hz2
      have hz2c : w.heap.size + 1 + 1 < w2.heap.size := by omega
      have hz2b : w.heap.size + 1 < w2.heap.size := by omega
      have hz2a : w.heap.size < w2.heap.size := by omega
      go_wp2_with fail
      exact bodyPost_ret (v := .agg #[.int .i64 0, .int .i64 0]) (by simp [results, Try.results76, go_sem, *]) rfl ⟨(ret_iv (Fx.ite_no H.out _) (Fx.ite_no H.out _)), (by repeat (first | exact Below.refl _ _ | refine Below.setCell ?_ (by first | (simp; done) | (simp; omega) | omega) _ | refine Below.alloc ?_ (by first | (simp; done) | (simp; omega) | omega) _ | refine below_drewN ?_ _ | refine Below.trans ?_ (Below.mono ‹Below _ _ _› (by first | (simp; done) | (simp; omega) | omega))))⟩
    · have H1 := Lib.hid (show Fx.vb a b = false by simpa using h1); clear h1
      go_enter Try.func76, Try.ntmps76
      go_wp2_with fail
      refine (rvalid_no _ _ _ H1.out).mono ?_
      rintro e w1 ⟨rfl, hb1⟩
      obtain ⟨hc1, hf1⟩ := bcell hb1
      have hz1 := hb1.size
      try simp at hz1
      have hz1c : w.heap.size + 1 + 1 < w1.heap.size := by omega
      have hz1b : w.heap.size + 1 < w1.heap.size := by omega
      have hz1a : w.heap.size < w1.heap.size := by omega
      go_wp2_with fail
      exact bodyPost_ret (v := .agg #[.int .i64 0, .int .i64 0]) (by simp [results, Try.results76, go_sem, *]) rfl ⟨(ret_iv (Fx.ite_no H.out _) (Fx.ite_no H.out _)), (by repeat (first | exact Below.refl _ _ | refine Below.setCell ?_ (by first | (simp; done) | (simp; omega) | omega) _ | refine Below.alloc ?_ (by first | (simp; done) | (simp; omega) | omega) _ | refine below_drewN ?_ _ | refine Below.trans ?_ (Below.mono ‹Below _ _ _› (by first | (simp; done) | (simp; omega) | omega))))⟩

theorem mul_any (a b c d : Int) (w : World) :
    Calls Try.prog 88 #[.agg #[.int .i64 a, .int .i64 b], .agg #[.int .i64 c, .int .i64 d]] w fun e w' => e = .returned (.agg #[.int .i64 (Fx.mulLo a b c d), .int .i64 (Fx.mulHi a b c d)]) ∧ Below w.heap.size w w' := by
  by_cases h : Fx.v2 a b c d = true
  · have H := Lib.hid h; clear h
    obtain ⟨u0, u1, u2⟩ := Fx.vb_true.1 (Fx.v2_true.1 H.out).1
    obtain ⟨v0, v1, v2⟩ := Fx.vb_true.1 (Fx.v2_true.1 H.out).2
    have pp := Fx.prod_bd a c (by omega) (by omega) (by omega) (by omega)
    have pq := Fx.prod_bd a d (by omega) (by omega) (by omega) (by omega)
    have pr := Fx.prod_bd b c (by omega) (by omega) (by omega) (by omega)
    have ps := Fx.prod_bd b d (by omega) (by omega) (by omega) (by omega)
    have hm1 := Fx.min4_bd (a * c) (a * d) (b * c) (b * d) pp pq pr ps
    have hm2 := Fx.max4_bd (a * c) (a * d) (b * c) (b * d) pp pq pr ps
    go_enter Try.func88, Try.ntmps88
    go_wp2_with fail
    refine (valid2_yes _ _ _ _ _ (Fx.v2_true.1 H.out).1 (Fx.v2_true.1 H.out).2).mono ?_
    rintro e w1 ⟨rfl, hb1⟩
    obtain ⟨hc1, hf1⟩ := bcell hb1
    have hz1 := hb1.size
    try simp at hz1
    have hz1c : w.heap.size + 1 + 1 < w1.heap.size := by omega
    have hz1b : w.heap.size + 1 < w1.heap.size := by omega
    have hz1a : w.heap.size < w1.heap.size := by omega
    have HLo : Hid (Fx.clamp (Fx.min4 (a * c) (a * d) (b * c) (b * d) / 65536) = Fx.mulLo a b c d) := Lib.hid (Fx.ite_yes H.out _)
    have HHi : Hid (Fx.clamp (Fx.ce (Fx.max4 (a * c) (a * d) (b * c) (b * d)) 65536) = Fx.mulHi a b c d) := Lib.hid (Fx.ite_yes H.out _)
    go_wp2_with fail
    generalize a * c = p at *
    generalize a * d = q at *
    generalize b * c = r at *
    generalize b * d = s at *
    go_quiet (fail)
    have i0 : ∀ w, (Instr.index 122 (.agg #[.int .i64 p, .int .i64 q, .int .i64 r, .int .i64 s]) (.int .i64 0)).run Try.prog w = .ok (.int .i64 p) w := fun _ => by kernel_rfl
    have i1 : ∀ w, (Instr.index 122 (.agg #[.int .i64 p, .int .i64 q, .int .i64 r, .int .i64 s]) (.int .i64 1)).run Try.prog w = .ok (.int .i64 q) w := fun _ => by kernel_rfl
    have i2 : ∀ w, (Instr.index 122 (.agg #[.int .i64 p, .int .i64 q, .int .i64 r, .int .i64 s]) (.int .i64 2)).run Try.prog w = .ok (.int .i64 r) w := fun _ => by kernel_rfl
    have i3 : ∀ w, (Instr.index 122 (.agg #[.int .i64 p, .int .i64 q, .int .i64 r, .int .i64 s]) (.int .i64 3)).run Try.prog w = .ok (.int .i64 s) w := fun _ => by kernel_rfl
    go_wp2_with fail
    have hb2 := below_drewN (hb1.alloc hb1.size (.cells #[.int .i64 p, .int .i64 q, .int .i64 r, .int .i64 s] 122)) nq
    generalize (w1.alloc (.cells #[.int .i64 p, .int .i64 q, .int .i64 r, .int .i64 s] 122)).drewN nq = w2 at *
    clear hc1 hf1 hz1a hz1b hz1c
    obtain ⟨hc2, hf2⟩ := bcell hb2
    have hz2 := hb2.size
    try simp at hz2
    have hz2c : w.heap.size + 1 + 1 < w2.heap.size := by omega
    have hz2b : w.heap.size + 1 < w2.heap.size := by omega
    have hz2a : w.heap.size < w2.heap.size := by omega
    go_loop [6, 7, 41] (fun x y i => (i = .int .i64 0 ∧ x = .int .i64 p ∧ y = .int .i64 p) ∨ (i = .int .i64 1 ∧ x = .int .i64 p ∧ y = .int .i64 p) ∨ (i = .int .i64 2 ∧ x = .int .i64 (min p q) ∧ y = .int .i64 (max p q)) ∨ (i = .int .i64 3 ∧ x = .int .i64 (min (min p q) r) ∧ y = .int .i64 (max (max p q) r)) ∨ (i = .int .i64 4 ∧ x = .int .i64 (Fx.min4 p q r s) ∧ y = .int .i64 (Fx.max4 p q r s))) (fun _ _ i => 4 - (intOf i).toNat)
    case atStart => exact .inl ⟨rfl, rfl, rfl⟩
    case round =>
      rcases hrel with ⟨rfl, rfl, rfl⟩ | ⟨rfl, rfl, rfl⟩ | ⟨rfl, rfl, rfl⟩ | ⟨rfl, rfl, rfl⟩ | ⟨rfl, rfl, rfl⟩
      · go_wp2
        go_round
        case rel => exact .inr (.inl ⟨rfl, by simp, by simp⟩)
        case measure => simp [intOf]
      · go_wp2
        go_round
        case rel => exact .inr (.inr (.inl ⟨rfl, rfl, rfl⟩))
        case measure => simp [intOf]
      · go_wp2
        go_round
        case rel => exact .inr (.inr (.inr (.inl ⟨rfl, by rw [show min p (min q r) = min (min p q) r from by omega], by rw [show max p (max q r) = max (max p q) r from by omega]⟩)))
        case measure => simp [intOf]
      · go_wp2
        go_round
        case rel => exact .inr (.inr (.inr (.inr ⟨rfl, by rw [show min p (min q (min r s)) = Fx.min4 p q r s from by unfold Fx.min4; omega], by rw [show max p (max q (max r s)) = Fx.max4 p q r s from by unfold Fx.max4; omega]⟩)))
        case measure => simp [intOf]
      · clear i0 i1 i2 i3
        go_wp2_with fail
        refine (scaled_any _ _ _ (by omega) (by omega)).mono ?_
        rintro e w3 ⟨rfl, hb3⟩
        obtain ⟨hc3, hf3⟩ := bcell hb3
        have hz3 := hb3.size
        try simp at hz3
        have hz3c : w.heap.size + 1 + 1 < w3.heap.size := by omega
        have hz3b : w.heap.size + 1 < w3.heap.size := by omega
        have hz3a : w.heap.size < w3.heap.size := by omega
        go_wp2_with fail
        exact bodyPost_ret (v := .agg #[.int .i64 (Fx.clamp (Fx.min4 p q r s / 65536)), .int .i64 (Fx.clamp (Fx.ce (Fx.max4 p q r s) 65536))]) (by simp [results, Try.results88, go_sem, *]) rfl ⟨ret_iv HLo.out HHi.out, (by repeat (first | exact Below.refl _ _ | refine Below.setCell ?_ (by first | (simp; done) | (simp; omega) | omega) _ | refine Below.alloc ?_ (by first | (simp; done) | (simp; omega) | omega) _ | refine below_drewN ?_ _ | refine Below.trans ?_ (Below.mono ‹Below _ _ _› (by first | (simp; done) | (simp; omega) | omega))))⟩
  · have H := Lib.hid (show Fx.v2 a b c d = false by simpa using h); clear h
    go_enter Try.func88, Try.ntmps88
    go_wp2_with fail
    refine (valid2_no _ _ _ _ _ H.out).mono ?_
    rintro e w1 ⟨rfl, hb1⟩
    obtain ⟨hc1, hf1⟩ := bcell hb1
    have hz1 := hb1.size
    try simp at hz1
    have hz1c : w.heap.size + 1 + 1 < w1.heap.size := by omega
    have hz1b : w.heap.size + 1 < w1.heap.size := by omega
    have hz1a : w.heap.size < w1.heap.size := by omega
    go_wp2_with fail
    exact bodyPost_ret (v := .agg #[.int .i64 0, .int .i64 0]) (by simp [results, Try.results88, go_sem, *]) rfl ⟨(ret_iv (Fx.ite_no H.out _) (Fx.ite_no H.out _)), (by repeat (first | exact Below.refl _ _ | refine Below.setCell ?_ (by first | (simp; done) | (simp; omega) | omega) _ | refine Below.alloc ?_ (by first | (simp; done) | (simp; omega) | omega) _ | refine below_drewN ?_ _ | refine Below.trans ?_ (Below.mono ‹Below _ _ _› (by first | (simp; done) | (simp; omega) | omega))))⟩

end Go.Proofs.Ytgnjconhbloocaa
