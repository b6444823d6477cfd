/- Contract of shape.Bound for placed points and a radius in order. -/
import Derived.Test.YtgnjconhbloocaaBound1
namespace Go.Proofs.Ytgnjconhbloocaa
open Go.RowKit
set_option linter.unusedVariables false

/-- A slice of an array of eight numbers, without the first one. -/
theorem sl8 {w : World} {g : Nat} {t : TypeId} {f : Nat → Int} {n : Nat} (h : Whole w g t (Fx.cells8 f n)) (h1 : 1 ≤ n) (h8 : n ≤ 8) (c : Nat) : IntSl w (.slice (some ⟨g, 1, none⟩) (n - 1) c) ((List.range (n - 1)).map fun i => f (i + 1)) := by
  refine ⟨some ⟨g, 1, none⟩, c, by simp, by simp; omega, fun _ => ⟨g, 1, rfl, h.lt, fun i hi => ?_⟩⟩
  rw [List.length_map, List.length_range] at hi
  rw [h.cell, Fx.cells8_at f n (1 + i) h8 (by omega), Nat.add_comm 1 i]
  simp [List.getD_eq_getElem?_getD, hi]
theorem getD_tail (f : Nat → Int) (n i : Nat) (hi : i < n) : ((List.range n).map fun i => f (i + 1)).getD i 0 = f (i + 1) := by
  simp [List.getD_eq_getElem?_getD, hi]

set_option maxRecDepth 100000 in
set_option maxHeartbeats 2000000 in
theorem bound_yes (v : Value) (L : List Fx.V3) (r : Int) (w : World) (hI : VSl w v L) (hp : Fx.placedB L = true) (hr : 0 ≤ r ∧ r ≤ 1048576) :
    Calls Try.prog 18 #[v, .int .i64 r] w fun e w' => e = .returned (.agg (Fx.boundV L r).arr) ∧ Below w.heap.size w w' := by
  rw [Fx.boundV_yes (Fx.boundOk_yes hp hr)]
  have HI := Lib.hid hI
  obtain ⟨a, c, rfl, hl, hI'⟩ := hI
  have hlen := Fx.placedB_len hp
  obtain ⟨b, o, rfl, hJ⟩ := hI' (by omega)
  have HJ := Lib.hid hJ
  have hbw := hJ.1
  have HP := Lib.hid hp
  have HR := Lib.hid (fun i hi => Fx.allR_at (Fx.placedB_all hp) i hi)
  clear hI' hJ hp
  have d0 : decide (r < 0) = false := by simp; omega
  have d1 : decide (1048576 < r) = false := by simp; omega
  go_enter Try.func18, Try.ntmps18
  go_wp2_with fail
  refine (placed_yes _ L _ (HI.out.ext (ext_alloc (ext_alloc (ext_refl _) _) _)) HP.out).mono ?_
  rintro e w1 ⟨rfl, hb1⟩
  have hZ := ((Whole.new w 34 Fx.V3.zero.arr).alloc (.cells Fx.V3.zero.arr 34)).ext hb1
  have hY := (Whole.new (w.alloc (.cells Fx.V3.zero.arr 34)) 34 Fx.V3.zero.arr).ext hb1
  rw [World.size_alloc] at hY
  have hB1 : Below w.heap.size w w1 := ext_trans (ext_alloc (ext_alloc (ext_refl _) _) _) hb1
  have HZ := Lib.hid hZ; have HY := Lib.hid hY
  clear hZ hb1 hY HI HP d0 d1
  go_wp2_with fail
  go_loopw [23] (fun jv wr => ∃ j : Nat, j ≤ 3 ∧ jv = .int .i64 j ∧ Whole wr w.heap.size 34 Fx.V3.zero.arr ∧ Whole wr (w.heap.size + 1) 34 (Fx.endsTo (fun j => Fx.mnL L j (L.length - 1) - r) (fun j => Fx.mxL L j (L.length - 1) + r) j).arr ∧ Below w.heap.size w wr) (fun jv _ => 3 - (intOf jv).toNat)
  case atStart => exact ⟨0, by omega, rfl, HZ.out, HY.out, hB1⟩
  case round =>
    obtain ⟨j, hj, rfl, hZ, hY, hb⟩ := hrel
    clear HZ HY hB1
    by_cases hj3 : j < 3
    · have HZ := Lib.hid hZ; have HY := Lib.hid hY
      clear hZ hY
      have k0 : (0 : Int) ≤ (j : Int) := by omega
      have k1 : (j : Int) < 3 := by omega
      go_wp2_with fail
      obtain ⟨wo, rfl⟩ : ∃ wo : World, wo = wr := ⟨_, rfl⟩
      have hA0 : Whole ((wo.alloc (.cells (Fx.cells8 (fun i => (L.getD i Fx.V3.zero).lo j) 0) 70)).alloc (.cells (Fx.cells8 (fun i => -(L.getD i Fx.V3.zero).hi j) 0) 70)) wo.heap.size 70 (Fx.cells8 (fun i => (L.getD i Fx.V3.zero).lo j) 0) := (Whole.new wo _ _).alloc _
      have hC0 := Whole.new (wo.alloc (.cells (Fx.cells8 (fun i => (L.getD i Fx.V3.zero).lo j) 0) 70)) 70 (Fx.cells8 (fun i => -(L.getD i Fx.V3.zero).hi j) 0)
      rw [World.size_alloc] at hC0
      have hZ0 := (HZ.out.alloc (.cells (Fx.cells8 (fun i => (L.getD i Fx.V3.zero).lo j) 0) 70)).alloc (.cells (Fx.cells8 (fun i => -(L.getD i Fx.V3.zero).hi j) 0) 70)
      have hY0 := (HY.out.alloc (.cells (Fx.cells8 (fun i => (L.getD i Fx.V3.zero).lo j) 0) 70)).alloc (.cells (Fx.cells8 (fun i => -(L.getD i Fx.V3.zero).hi j) 0) 70)
      have hB0 := ext_alloc (ext_alloc hb (.cells (Fx.cells8 (fun i => (L.getD i Fx.V3.zero).lo j) 0) 70)) (.cells (Fx.cells8 (fun i => -(L.getD i Fx.V3.zero).hi j) 0) 70)
      have hyw : w.heap.size + 1 < wo.heap.size := HY.out.lt
      have HA0 := Lib.hid hA0; have HC0 := Lib.hid hC0; have HZ0 := Lib.hid hZ0; have HY0 := Lib.hid hY0; have HB0 := Lib.hid hB0
      clear hA0 hC0 hZ0 hY0 hB0 hb HZ HY
      go_loopw [28] (fun iv wr => ∃ i : Nat, i ≤ L.length ∧ iv = .int .i64 i ∧ Whole wr wo.heap.size 70 (Fx.cells8 (fun i => (L.getD i Fx.V3.zero).lo j) i) ∧ Whole wr (wo.heap.size + 1) 70 (Fx.cells8 (fun i => -(L.getD i Fx.V3.zero).hi j) i) ∧ Whole wr w.heap.size 34 Fx.V3.zero.arr ∧ Whole wr (w.heap.size + 1) 34 (Fx.endsTo (fun j => Fx.mnL L j (L.length - 1) - r) (fun j => Fx.mxL L j (L.length - 1) + r) j).arr ∧ Below w.heap.size w wr) (fun iv _ => L.length - (intOf iv).toNat)
      case atStart => exact ⟨0, by omega, rfl, HA0.out, HC0.out, HZ0.out, HY0.out, HB0.out⟩
      case round =>
        obtain ⟨i, hi, rfl, hA, hC, hZ, hY, hb⟩ := hrel
        clear HA0 HC0 HZ0 HY0 HB0
        have HA := Lib.hid hA; have HC := Lib.hid hC; have HZ := Lib.hid hZ; have HY := Lib.hid hY
        clear hA hC hZ hY
        by_cases hlt : i < L.length
        · obtain ⟨c0, c1, c2, c3, c4, c5⟩ := (HJ.out.ext hb).at_ i hlt
          have hrx := Fx.near_true.1 (Fx.reachB_at (HR.out i hlt) j hj3)
          have hd : decide ((i : Int) < (L.length : Int)) = true := by simp; omega
          have k2 : (0 : Int) ≤ (i : Int) := by omega
          have k3 : (i : Int) < (L.length : Int) := by omega
          have k4 : (i : Int) < 8 := by omega
          have HA' := Lib.hid (Fx.cells8_next (fun i => (L.getD i Fx.V3.zero).lo j) i (by omega))
          have HC' := Lib.hid (Fx.cells8_next (fun i => -(L.getD i Fx.V3.zero).hi j) i (by omega))
          have ca := (HA.out.cell i).trans (Fx.cells8_any (fun i => (L.getD i Fx.V3.zero).lo j) i i (by omega))
          have cc := (HC.out.cell i).trans (Fx.cells8_any (fun i => -(L.getD i Fx.V3.zero).hi j) i i (by omega))
          rw [if_neg (by omega)] at ca cc
          generalize L.getD i Fx.V3.zero = x at *
          go_wp2_with fail
          have hX := Whole.new wr 34 x.arr
          have HA2 := Lib.hid (HA.out.alloc (.cells x.arr 34))
          have HC2 := Lib.hid (HC.out.alloc (.cells x.arr 34))
          have HZ2 := Lib.hid (HZ.out.alloc (.cells x.arr 34))
          have HY2 := Lib.hid (HY.out.alloc (.cells x.arr 34))
          have hB2 := ext_alloc hb (.cells x.arr 34)
          have ca2 : (wr.alloc (.cells x.arr 34)).cell? ⟨wo.heap.size, i, none⟩ = some (.int .i64 0) := by
            rw [HA2.out.cell i, ← HA.out.cell i]; exact ca
          have cc2 : (wr.alloc (.cells x.arr 34)).cell? ⟨wo.heap.size + 1, i, none⟩ = some (.int .i64 0) := by
            rw [HC2.out.cell i, ← HC.out.cell i]; exact cc
          have hcw : wo.heap.size + 1 < wr.heap.size := HC.out.lt
          have hwz := hb.size
          clear ca cc c0 c1 c2 c3 c4 c5 hb HA HC HZ HY
          unfold Fx.V3.arr at hX hB2 ca2 cc2 HA2 HC2 HZ2 HY2
          generalize wr.alloc (.cells #[.int .i64 x.a, .int .i64 x.b, .int .i64 x.c, .int .i64 x.d, .int .i64 x.e, .int .i64 x.f] 34) = w2 at *
          generalize hgx : wr.heap.size = gx at *
          obtain ⟨p0, p1⟩ := arr_cell x j hj3
          have HCl := Lib.hid ((hX.cell (j * 2)).trans p0)
          have HCh := Lib.hid ((hX.cell (j * 2 + 1)).trans p1)
          generalize x.lo j = xl at *
          generalize x.hi j = xh at *
          clear hX p0 p1 hgx
          have e1 : IntKind.i64.wrap (-xh) = -xh := by rw [IntKind.wrap_i64]; omega
          refine wp_region_noPanic ?_
          refine wp_region_held_drew (S := (fun w' => w'.cell? ⟨gx, j * 2, none⟩ = some (.int .i64 xl) ∧ w'.cell? ⟨gx, j * 2 + 1, none⟩ = some (.int .i64 xh))) (by kernel_rfl) ?_ (fun hHeld => ?_)
          · exact ⟨HCl.out, HCh.out⟩
          refine wpAnyH_take (i := 0) (v := ?_) (by simp only [List.getElem?_toArray, List.getElem?_cons_succ, List.getElem?_cons_zero]; rfl) (by kernel_rfl) (by kernel_rfl) (by kernel_rfl) (fun _ _ _ h => h) (Or.inl ⟨by rfl, ?_⟩) (by assumption) ?_
          rotate_left
          · intro w hSw; (try dsimp only at hSw); go_simp; first | done | with_reducible rfl
          try simp only [Act.put, List.setIfInBounds_toArray, List.set_cons_zero, List.set_cons_succ]
          refine wpAnyH_take (i := 1) (v := ?_) (by simp only [List.getElem?_toArray, List.getElem?_cons_succ, List.getElem?_cons_zero]; rfl) (by kernel_rfl) (by kernel_rfl) (by kernel_rfl) (fun _ _ _ h => h) (Or.inl ⟨by rfl, ?_⟩) (by assumption) ?_
          rotate_left
          · intro w hSw; (try dsimp only at hSw); go_simp; first | done | with_reducible rfl
          try simp only [Act.put, List.setIfInBounds_toArray, List.set_cons_zero, List.set_cons_succ]
          refine wpAnyH_take (i := 2) (v := ?_) (by simp only [List.getElem?_toArray, List.getElem?_cons_succ, List.getElem?_cons_zero]; rfl) (by kernel_rfl) (by kernel_rfl) (by kernel_rfl) (fun _ _ _ h => h) (Or.inl ⟨by rfl, ?_⟩) (by assumption) ?_
          rotate_left
          · intro w hSw; (try dsimp only at hSw); go_simp; first | done | with_reducible rfl
          try simp only [Act.put, List.setIfInBounds_toArray, List.set_cons_zero, List.set_cons_succ]
          refine wpAnyH_take (i := 3) (v := ?_) (by simp only [List.getElem?_toArray, List.getElem?_cons_succ, List.getElem?_cons_zero]; rfl) (by kernel_rfl) (by kernel_rfl) (by kernel_rfl) (fun _ _ _ h => h) (Or.inl ⟨by rfl, ?_⟩) (by assumption) ?_
          rotate_left
          · intro w hSw; (try dsimp only at hSw); go_simp; first | done | with_reducible rfl
          try simp only [Act.put, List.setIfInBounds_toArray, List.set_cons_zero, List.set_cons_succ]
          refine wpAnyH_take (i := 4) (v := ?_) (by simp only [List.getElem?_toArray, List.getElem?_cons_succ, List.getElem?_cons_zero]; rfl) (by kernel_rfl) (by kernel_rfl) (by kernel_rfl) (fun _ _ _ h => h) (Or.inl ⟨by rfl, ?_⟩) (by assumption) ?_
          rotate_left
          · intro w hSw; (try dsimp only at hSw); go_simp; first | done | with_reducible rfl
          try simp only [Act.put, List.setIfInBounds_toArray, List.set_cons_zero, List.set_cons_succ]
          refine wpAnyH_take (i := 5) (v := ?_) (by simp only [List.getElem?_toArray, List.getElem?_cons_succ, List.getElem?_cons_zero]; rfl) (by kernel_rfl) (by kernel_rfl) (by kernel_rfl) (fun _ _ _ h => h) (Or.inl ⟨by rfl, ?_⟩) (by assumption) ?_
          rotate_left
          · intro w hSw; (try dsimp only at hSw); go_simp; first | done | with_reducible rfl
          try simp only [Act.put, List.setIfInBounds_toArray, List.set_cons_zero, List.set_cons_succ]
          refine wpAnyH_take (i := 6) (v := ?_) (by simp only [List.getElem?_toArray, List.getElem?_cons_succ, List.getElem?_cons_zero]; rfl) (by kernel_rfl) (by kernel_rfl) (by kernel_rfl) (fun _ _ _ h => h) (Or.inl ⟨by rfl, ?_⟩) (by assumption) ?_
          rotate_left
          · intro w hSw; (try dsimp only at hSw); go_simp; first | done | with_reducible rfl
          try simp only [Act.put, List.setIfInBounds_toArray, List.set_cons_zero, List.set_cons_succ]
          refine wpAnyH_take (i := 7) (v := ?_) (by simp only [List.getElem?_toArray, List.getElem?_cons_succ, List.getElem?_cons_zero]; rfl) (by kernel_rfl) (by kernel_rfl) (by kernel_rfl) (fun _ _ _ h => h) (Or.inl ⟨by rfl, ?_⟩) (by assumption) ?_
          rotate_left
          · intro w hSw; (try dsimp only at hSw); go_simp; first | done | with_reducible rfl
          try simp only [Act.put, List.setIfInBounds_toArray, List.set_cons_zero, List.set_cons_succ]
          refine wpAnyH_take (i := 8) (v := ?_) (by simp only [List.getElem?_toArray, List.getElem?_cons_succ, List.getElem?_cons_zero]; rfl) (by kernel_rfl) (by kernel_rfl) (by kernel_rfl) (fun _ _ _ h => h) (Or.inl ⟨by rfl, ?_⟩) (by assumption) ?_
          rotate_left
          · intro w hSw; (try dsimp only at hSw); go_simp; first | done | with_reducible rfl
          try simp only [Act.put, List.setIfInBounds_toArray, List.set_cons_zero, List.set_cons_succ]
          refine wpAnyH_take (i := 9) (v := ?_) (by simp only [List.getElem?_toArray, List.getElem?_cons_succ, List.getElem?_cons_zero]; rfl) (by kernel_rfl) (by kernel_rfl) (by kernel_rfl) (fun _ _ _ h => h) (Or.inl ⟨by rfl, ?_⟩) (by assumption) ?_
          rotate_left
          · intro w hSw; (try dsimp only at hSw); go_simp; first | done | with_reducible rfl
          try simp only [Act.put, List.setIfInBounds_toArray, List.set_cons_zero, List.set_cons_succ]
          refine wpAnyH_take (i := 10) (v := ?_) (by simp only [List.getElem?_toArray, List.getElem?_cons_succ, List.getElem?_cons_zero]; rfl) (by kernel_rfl) (by kernel_rfl) (by kernel_rfl) (fun _ _ _ h => h) (Or.inl ⟨by rfl, ?_⟩) (by assumption) ?_
          rotate_left
          · intro w hSw; (try dsimp only at hSw); go_simp; first | done | with_reducible rfl
          try simp only [Act.put, List.setIfInBounds_toArray, List.set_cons_zero, List.set_cons_succ]
          refine wpAnyH_take (i := 11) (v := ?_) (by simp only [List.getElem?_toArray, List.getElem?_cons_succ, List.getElem?_cons_zero]; rfl) (by kernel_rfl) (by kernel_rfl) (by kernel_rfl) (fun _ _ _ h => h) (Or.inl ⟨by rfl, ?_⟩) (by assumption) ?_
          rotate_left
          · intro w hSw; (try dsimp only at hSw); go_simp; first | done | with_reducible rfl
          try simp only [Act.put, List.setIfInBounds_toArray, List.set_cons_zero, List.set_cons_succ]
          refine wpAnyH_ready (rs := [12]) (by kernel_rfl) (by simp) ?_
          refine AllReadyH.cons (by simp only [List.getElem?_toArray, List.getElem?_cons_succ, List.getElem?_cons_zero]; rfl) (fun K hK => ?_) AllReadyH.nil
          have fa := HA2.out.frozen i
          have fc := HC2.out.frozen i
          go_simp
          have hA3 := (HA2.out.store i (.int .i64 xl)).drew
          rw [HA'.out] at hA3
          have HA3 := Lib.hid hA3
          have HC3 := Lib.hid (HC2.out.far (p := ⟨wo.heap.size, i, none⟩) (show wo.heap.size + 1 ≠ wo.heap.size by omega) (.int .i64 xl)).drew
          have HZ3 := Lib.hid (HZ2.out.far (p := ⟨wo.heap.size, i, none⟩) (show w.heap.size ≠ wo.heap.size by omega) (.int .i64 xl)).drew
          have HY3 := Lib.hid (HY2.out.far (p := ⟨wo.heap.size, i, none⟩) (show w.heap.size + 1 ≠ wo.heap.size by omega) (.int .i64 xl)).drew
          have hB3 := ext_drew (ext_set hB2 (p := ⟨wo.heap.size, i, none⟩) (show w.heap.size ≤ wo.heap.size by omega) (.int .i64 xl))
          have cc3 : (w2.setCell ⟨wo.heap.size, i, none⟩ (.int .i64 xl)).drew.cell? ⟨wo.heap.size + 1, i, none⟩ = some (.int .i64 0) := by
            rw [HC3.out.cell i, ← HC2.out.cell i]; exact cc2
          have e3 : (w2.setCell ⟨wo.heap.size, i, none⟩ (.int .i64 xl)).drew.heap[gx]? = w2.heap[gx]? := Below.heap_setCell _ _ _ _ (show gx ≠ wo.heap.size by omega)
          have hK3 : (w2.setCell ⟨wo.heap.size, i, none⟩ (.int .i64 xl)).drew.cell? ⟨gx, j * 2, none⟩ = some (.int .i64 xl) ∧ (w2.setCell ⟨wo.heap.size, i, none⟩ (.int .i64 xl)).drew.cell? ⟨gx, j * 2 + 1, none⟩ = some (.int .i64 xh) := by
            have q1 := HCl.out
            have q2 := HCh.out
            simp only [World.cell?, e3] at q1 q2 ⊢
            exact ⟨q1, q2⟩
          clear hA3 HA2 HC2 HZ2 HY2 hB2 ca2 cc2 fa fc e3 HCl HCh
          generalize (w2.setCell ⟨wo.heap.size, i, none⟩ (.int .i64 xl)).drew = w3 at *
          refine hK.out _ _ ?_ (fun hHeld => ?_)
          · exact hK3
          clear hK K
          try simp only [Act.put, List.setIfInBounds_toArray, List.set_cons_zero, List.set_cons_succ]
          refine wpAnyH_take (i := 13) (v := ?_) (by simp only [List.getElem?_toArray, List.getElem?_cons_succ, List.getElem?_cons_zero]; rfl) (by kernel_rfl) (by kernel_rfl) (by kernel_rfl) (fun _ _ _ h => h) (Or.inl ⟨by rfl, ?_⟩) (by assumption) ?_
          rotate_left
          · intro w hSw; (try dsimp only at hSw); go_simp; first | done | with_reducible rfl
          try simp only [Act.put, List.setIfInBounds_toArray, List.set_cons_zero, List.set_cons_succ]
          refine wpAnyH_ready (rs := [14]) (by kernel_rfl) (by simp) ?_
          refine AllReadyH.cons (by simp only [List.getElem?_toArray, List.getElem?_cons_succ, List.getElem?_cons_zero]; rfl) (fun K hK => ?_) AllReadyH.nil
          have fc := HC3.out.frozen i
          go_simp
          have hC4 := HC3.out.store i (.int .i64 (-xh))
          rw [HC'.out] at hC4
          have HC4 := Lib.hid hC4
          have HA4 := Lib.hid (HA3.out.far (p := ⟨wo.heap.size + 1, i, none⟩) (show wo.heap.size ≠ wo.heap.size + 1 by omega) (.int .i64 (-xh)))
          have HZ4 := Lib.hid (HZ3.out.far (p := ⟨wo.heap.size + 1, i, none⟩) (show w.heap.size ≠ wo.heap.size + 1 by omega) (.int .i64 (-xh)))
          have HY4 := Lib.hid (HY3.out.far (p := ⟨wo.heap.size + 1, i, none⟩) (show w.heap.size + 1 ≠ wo.heap.size + 1 by omega) (.int .i64 (-xh)))
          have hB4 := ext_set hB3 (p := ⟨wo.heap.size + 1, i, none⟩) (show w.heap.size ≤ wo.heap.size + 1 by omega) (.int .i64 (-xh))
          have e3 : (w3.setCell ⟨wo.heap.size + 1, i, none⟩ (.int .i64 (-xh))).heap[gx]? = w3.heap[gx]? := Below.heap_setCell _ _ _ _ (show gx ≠ wo.heap.size + 1 by omega)
          have hK4 : (w3.setCell ⟨wo.heap.size + 1, i, none⟩ (.int .i64 (-xh))).cell? ⟨gx, j * 2, none⟩ = some (.int .i64 xl) ∧ (w3.setCell ⟨wo.heap.size + 1, i, none⟩ (.int .i64 (-xh))).cell? ⟨gx, j * 2 + 1, none⟩ = some (.int .i64 xh) := by
            obtain ⟨q1, q2⟩ := hK3
            simp only [World.cell?, e3] at q1 q2 ⊢
            exact ⟨q1, q2⟩
          clear hC4 HA3 HC3 HZ3 HY3 hB3 cc3 fc e3 hK3 hHeld
          generalize w3.setCell ⟨wo.heap.size + 1, i, none⟩ (.int .i64 (-xh)) = w4 at *
          refine hK.out _ _ ?_ (fun hHeld => ?_)
          · exact hK4
          clear hK K
          try simp only [Act.put, List.setIfInBounds_toArray, List.set_cons_zero, List.set_cons_succ]
          refine wpAnyH_done (by kernel_rfl) ?_ _
          refine NoPanic.normal ?_
          clear hHeld hK4 e1
          go_wp2_with fail
          go_roundw
          case rel => exact ⟨i + 1, by omega, by go_num, HA4.out, HC4.out, HZ4.out, HY4.out, hB4⟩
          case measure => simp [intOf]; omega
        · obtain rfl : i = L.length := by omega
          have hd : decide ((L.length : Int) < (L.length : Int)) = false := by simp
          have k2 : (1 : Int) ≤ (L.length : Int) := by omega
          have k3 : (L.length : Int) ≤ 8 := by omega
          have k4 : L.length ≤ 8 := by omega
          have ca := (HA.out.cell 0).trans (Fx.cells8_at (fun i => (L.getD i Fx.V3.zero).lo j) L.length 0 (by omega) (by omega))
          have cc := (HC.out.cell 0).trans (Fx.cells8_at (fun i => -(L.getD i Fx.V3.zero).hi j) L.length 0 (by omega) (by omega))
          have hbd := Fx.mnL_bd L j hj3 (L.length - 1) (fun i hi => HR.out i (by omega))
          have HMn := Lib.hid (Fx.lst_mn L j ((List.range (L.length - 1)).map fun i => (L.getD (i + 1) Fx.V3.zero).lo j) (L.length - 1) (fun i hi => getD_tail (fun i => (L.getD i Fx.V3.zero).lo j) _ i hi))
          have HMx := Lib.hid (Fx.lst_mx L j ((List.range (L.length - 1)).map fun i => -(L.getD (i + 1) Fx.V3.zero).hi j) (L.length - 1) (fun i hi => getD_tail (fun i => -(L.getD i Fx.V3.zero).hi j) _ i hi))
          have HSa := Lib.hid (fun c => sl8 HA.out (by omega) k4 c)
          have HSc := Lib.hid (fun c => sl8 HC.out (by omega) k4 c)
          have HEn := Lib.hid (Fx.endsTo_next (fun j => Fx.mnL L j (L.length - 1) - r) (fun j => Fx.mxL L j (L.length - 1) + r) j hj3)
          try dsimp only at ca cc
          generalize (L.getD 0 Fx.V3.zero).lo j = lo0 at *
          generalize (L.getD 0 Fx.V3.zero).hi j = hi0 at *
          have HCa := Lib.hid ca; have HCc := Lib.hid cc
          clear ca cc
          go_wp2_with fail
          refine wp_region_noPanic ?_
          refine wp_region_held_drew (S := (fun w' => w'.cell? ⟨wo.heap.size, 0, none⟩ = some (.int .i64 lo0))) (by kernel_rfl) ?_ (fun hHeld => ?_)
          · exact HCa.out
          refine wpAnyH_take (i := 0) (v := ?_) (by simp only [List.getElem?_toArray, List.getElem?_cons_succ, List.getElem?_cons_zero]; rfl) (by kernel_rfl) (by kernel_rfl) (by kernel_rfl) (fun _ _ _ h => h) (Or.inl ⟨by rfl, ?_⟩) (by assumption) ?_
          rotate_left
          · intro w hSw; (try dsimp only at hSw); go_simp; first | done | with_reducible rfl
          try simp only [Act.put, List.setIfInBounds_toArray, List.set_cons_zero, List.set_cons_succ]
          refine wpAnyH_take (i := 1) (v := ?_) (by simp only [List.getElem?_toArray, List.getElem?_cons_succ, List.getElem?_cons_zero]; rfl) (by kernel_rfl) (by kernel_rfl) (by kernel_rfl) (fun _ _ _ h => h) (Or.inl ⟨by rfl, ?_⟩) (by assumption) ?_
          rotate_left
          · intro w hSw; (try dsimp only at hSw); go_simp; first | done | with_reducible rfl
          try simp only [Act.put, List.setIfInBounds_toArray, List.set_cons_zero, List.set_cons_succ]
          refine wpAnyH_take (i := 2) (v := ?_) (by simp only [List.getElem?_toArray, List.getElem?_cons_succ, List.getElem?_cons_zero]; rfl) (by kernel_rfl) (by kernel_rfl) (by kernel_rfl) (fun _ _ _ h => h) (Or.inl ⟨by rfl, ?_⟩) (by assumption) ?_
          rotate_left
          · intro w hSw; (try dsimp only at hSw); go_simp; first | done | with_reducible rfl
          try simp only [Act.put, List.setIfInBounds_toArray, List.set_cons_zero, List.set_cons_succ]
          refine wpAnyH_take (i := 3) (v := ?_) (by simp only [List.getElem?_toArray, List.getElem?_cons_succ, List.getElem?_cons_zero]; rfl) (by kernel_rfl) (by kernel_rfl) (by kernel_rfl) (fun _ _ _ h => h) (Or.inl ⟨by rfl, ?_⟩) (by assumption) ?_
          rotate_left
          · intro w hSw; (try dsimp only at hSw); go_simp; first | done | with_reducible rfl
          try simp only [Act.put, List.setIfInBounds_toArray, List.set_cons_zero, List.set_cons_succ]
          refine wpAnyH_take (i := 4) (v := ?_) (by simp only [List.getElem?_toArray, List.getElem?_cons_succ, List.getElem?_cons_zero]; rfl) (by kernel_rfl) (by kernel_rfl) (by kernel_rfl) (fun _ _ _ h => h) (Or.inl ⟨by rfl, ?_⟩) (by assumption) ?_
          rotate_left
          · intro w hSw; (try dsimp only at hSw); go_simp; first | done | with_reducible rfl
          try simp only [Act.put, List.setIfInBounds_toArray, List.set_cons_zero, List.set_cons_succ]
          refine wpAnyH_take (i := 5) (v := ?_) (by simp only [List.getElem?_toArray, List.getElem?_cons_succ, List.getElem?_cons_zero]; rfl) (by kernel_rfl) (by kernel_rfl) (by kernel_rfl) (fun _ _ _ h => h) (Or.inl ⟨by rfl, ?_⟩) (by assumption) ?_
          rotate_left
          · intro w hSw; (try dsimp only at hSw); go_simp; first | done | with_reducible rfl
          try simp only [Act.put, List.setIfInBounds_toArray, List.set_cons_zero, List.set_cons_succ]
          refine wpAnyH_take (i := 7) (v := ?_) (by simp only [List.getElem?_toArray, List.getElem?_cons_succ, List.getElem?_cons_zero]; rfl) (by kernel_rfl) (by kernel_rfl) (by kernel_rfl) (fun _ _ _ h => h) (Or.inl ⟨by rfl, ?_⟩) (by assumption) ?_
          rotate_left
          · intro w hSw; (try dsimp only at hSw); go_simp; first | done | with_reducible rfl
          try simp only [Act.put, List.setIfInBounds_toArray, List.set_cons_zero, List.set_cons_succ]
          refine wpAnyH_ready (rs := [6]) (by kernel_rfl) (by simp) ?_
          refine AllReadyH.cons (by simp only [List.getElem?_toArray, List.getElem?_cons_succ, List.getElem?_cons_zero]; rfl) (fun K hK => ?_) AllReadyH.nil
          go_simp
          refine (least_any lo0 _ ((List.range (L.length - 1)).map fun i => (L.getD (i + 1) Fx.V3.zero).lo j) _ ((HSa.out 7).ext (ext_drew (ext_refl _)))).mono ?_
          rintro e w2 ⟨rfl, hw2⟩
          rw [List.length_map, List.length_range, HMn.out]
          subst hw2
          generalize Fx.mnL L j (L.length - 1) = mn at *
          go_wp2_with fail
          refine hK.out _ _ ?_ (fun hHeld => ?_)
          · exact HCa.out
          clear hK K
          try simp only [Act.put, List.setIfInBounds_toArray, List.set_cons_zero, List.set_cons_succ]
          have e1 : IntKind.i64.wrap (mn - r) = mn - r := by rw [IntKind.wrap_i64]; omega
          refine wpAnyH_take (i := 8) (v := ?_) (by simp only [List.getElem?_toArray, List.getElem?_cons_succ, List.getElem?_cons_zero]; rfl) (by kernel_rfl) (by kernel_rfl) (by kernel_rfl) (fun _ _ _ h => h) (Or.inl ⟨by rfl, ?_⟩) (by assumption) ?_
          rotate_left
          · intro w hSw; (try dsimp only at hSw); go_simp; first | done | with_reducible rfl
          try simp only [Act.put, List.setIfInBounds_toArray, List.set_cons_zero, List.set_cons_succ]
          refine wpAnyH_take (i := 9) (v := ?_) (by simp only [List.getElem?_toArray, List.getElem?_cons_succ, List.getElem?_cons_zero]; rfl) (by kernel_rfl) (by kernel_rfl) (by kernel_rfl) (fun _ _ _ h => h) (Or.inl ⟨by rfl, ?_⟩) (by assumption) ?_
          rotate_left
          · intro w hSw; (try dsimp only at hSw); go_simp; first | done | with_reducible rfl
          try simp only [Act.put, List.setIfInBounds_toArray, List.set_cons_zero, List.set_cons_succ]
          refine wpAnyH_take (i := 10) (v := ?_) (by simp only [List.getElem?_toArray, List.getElem?_cons_succ, List.getElem?_cons_zero]; rfl) (by kernel_rfl) (by kernel_rfl) (by kernel_rfl) (fun _ _ _ h => h) (Or.inl ⟨by rfl, ?_⟩) (by assumption) ?_
          rotate_left
          · intro w hSw; (try dsimp only at hSw); go_simp; first | done | with_reducible rfl
          try simp only [Act.put, List.setIfInBounds_toArray, List.set_cons_zero, List.set_cons_succ]
          refine wpAnyH_ready (rs := [11]) (by kernel_rfl) (by simp) ?_
          refine AllReadyH.cons (by simp only [List.getElem?_toArray, List.getElem?_cons_succ, List.getElem?_cons_zero]; rfl) (fun K hK => ?_) AllReadyH.nil
          have fy := HY.out.frozen (j * 2)
          have cy := (HY.out.cell (j * 2)).trans (arr_cell _ j hj3).1
          generalize (Fx.endsTo (fun j => Fx.mnL L j (L.length - 1) - r) (fun j => Fx.mxL L j (L.length - 1) + r) j).lo j = yl at *
          go_simp
          have HY3 := Lib.hid (HY.out.store (j * 2) (.int .i64 (mn - r))).drew
          have HZ3 := Lib.hid (HZ.out.far (p := ⟨w.heap.size + 1, j * 2, none⟩) (show w.heap.size ≠ w.heap.size + 1 by omega) (.int .i64 (mn - r))).drew
          have HC3 := Lib.hid (HC.out.far (p := ⟨w.heap.size + 1, j * 2, none⟩) (show wo.heap.size + 1 ≠ w.heap.size + 1 by omega) (.int .i64 (mn - r))).drew
          have hA3 := (HA.out.far (p := ⟨w.heap.size + 1, j * 2, none⟩) (show wo.heap.size ≠ w.heap.size + 1 by omega) (.int .i64 (mn - r))).drew
          have hB3 := ext_drew (ext_set hb (p := ⟨w.heap.size + 1, j * 2, none⟩) (show w.heap.size ≤ w.heap.size + 1 by omega) (.int .i64 (mn - r)))
          have hK3 : (wr.setCell ⟨w.heap.size + 1, j * 2, none⟩ (.int .i64 (mn - r))).drew.cell? ⟨wo.heap.size, 0, none⟩ = some (.int .i64 lo0) := by
            rw [hA3.cell, ← HA.out.cell]; exact HCa.out
          have HCc3 : Hid ((wr.setCell ⟨w.heap.size + 1, j * 2, none⟩ (.int .i64 (mn - r))).drew.cell? ⟨wo.heap.size + 1, 0, none⟩ = some (.int .i64 (-hi0))) := Lib.hid (by
            rw [HC3.out.cell, ← HC.out.cell]; exact HCc.out)
          have HSc3 := Lib.hid (fun c => sl8 HC3.out (by omega) k4 c)
          clear hA3 fy cy HY HZ HC HA hb HCa HCc HSa HSc hHeld
          generalize (wr.setCell ⟨w.heap.size + 1, j * 2, none⟩ (.int .i64 (mn - r))).drew = w3 at *
          refine hK.out _ _ ?_ (fun hHeld => ?_)
          · exact hK3
          clear hK K
          try simp only [Act.put, List.setIfInBounds_toArray, List.set_cons_zero, List.set_cons_succ]
          refine wpAnyH_done (by kernel_rfl) ?_ _
          refine NoPanic.normal ?_
          clear hK3 hHeld e1
          go_wp2_with fail
          refine wp_region_noPanic ?_
          refine wp_region_held_drew (S := (fun w' => w'.cell? ⟨wo.heap.size + 1, 0, none⟩ = some (.int .i64 (-hi0)))) (by kernel_rfl) ?_ (fun hHeld => ?_)
          · exact HCc3.out
          refine wpAnyH_take (i := 0) (v := ?_) (by simp only [List.getElem?_toArray, List.getElem?_cons_succ, List.getElem?_cons_zero]; rfl) (by kernel_rfl) (by kernel_rfl) (by kernel_rfl) (fun _ _ _ h => h) (Or.inl ⟨by rfl, ?_⟩) (by assumption) ?_
          rotate_left
          · intro w hSw; (try dsimp only at hSw); go_simp; first | done | with_reducible rfl
          try simp only [Act.put, List.setIfInBounds_toArray, List.set_cons_zero, List.set_cons_succ]
          refine wpAnyH_take (i := 1) (v := ?_) (by simp only [List.getElem?_toArray, List.getElem?_cons_succ, List.getElem?_cons_zero]; rfl) (by kernel_rfl) (by kernel_rfl) (by kernel_rfl) (fun _ _ _ h => h) (Or.inl ⟨by rfl, ?_⟩) (by assumption) ?_
          rotate_left
          · intro w hSw; (try dsimp only at hSw); go_simp; first | done | with_reducible rfl
          try simp only [Act.put, List.setIfInBounds_toArray, List.set_cons_zero, List.set_cons_succ]
          refine wpAnyH_take (i := 2) (v := ?_) (by simp only [List.getElem?_toArray, List.getElem?_cons_succ, List.getElem?_cons_zero]; rfl) (by kernel_rfl) (by kernel_rfl) (by kernel_rfl) (fun _ _ _ h => h) (Or.inl ⟨by rfl, ?_⟩) (by assumption) ?_
          rotate_left
          · intro w hSw; (try dsimp only at hSw); go_simp; first | done | with_reducible rfl
          try simp only [Act.put, List.setIfInBounds_toArray, List.set_cons_zero, List.set_cons_succ]
          refine wpAnyH_take (i := 3) (v := ?_) (by simp only [List.getElem?_toArray, List.getElem?_cons_succ, List.getElem?_cons_zero]; rfl) (by kernel_rfl) (by kernel_rfl) (by kernel_rfl) (fun _ _ _ h => h) (Or.inl ⟨by rfl, ?_⟩) (by assumption) ?_
          rotate_left
          · intro w hSw; (try dsimp only at hSw); go_simp; first | done | with_reducible rfl
          try simp only [Act.put, List.setIfInBounds_toArray, List.set_cons_zero, List.set_cons_succ]
          refine wpAnyH_take (i := 4) (v := ?_) (by simp only [List.getElem?_toArray, List.getElem?_cons_succ, List.getElem?_cons_zero]; rfl) (by kernel_rfl) (by kernel_rfl) (by kernel_rfl) (fun _ _ _ h => h) (Or.inl ⟨by rfl, ?_⟩) (by assumption) ?_
          rotate_left
          · intro w hSw; (try dsimp only at hSw); go_simp; first | done | with_reducible rfl
          try simp only [Act.put, List.setIfInBounds_toArray, List.set_cons_zero, List.set_cons_succ]
          refine wpAnyH_take (i := 5) (v := ?_) (by simp only [List.getElem?_toArray, List.getElem?_cons_succ, List.getElem?_cons_zero]; rfl) (by kernel_rfl) (by kernel_rfl) (by kernel_rfl) (fun _ _ _ h => h) (Or.inl ⟨by rfl, ?_⟩) (by assumption) ?_
          rotate_left
          · intro w hSw; (try dsimp only at hSw); go_simp; first | done | with_reducible rfl
          try simp only [Act.put, List.setIfInBounds_toArray, List.set_cons_zero, List.set_cons_succ]
          refine wpAnyH_take (i := 6) (v := ?_) (by simp only [List.getElem?_toArray, List.getElem?_cons_succ, List.getElem?_cons_zero]; rfl) (by kernel_rfl) (by kernel_rfl) (by kernel_rfl) (fun _ _ _ h => h) (Or.inl ⟨by rfl, ?_⟩) (by assumption) ?_
          rotate_left
          · intro w hSw; (try dsimp only at hSw); go_simp; first | done | with_reducible rfl
          try simp only [Act.put, List.setIfInBounds_toArray, List.set_cons_zero, List.set_cons_succ]
          refine wpAnyH_ready (rs := [7]) (by kernel_rfl) (by simp) ?_
          refine AllReadyH.cons (by simp only [List.getElem?_toArray, List.getElem?_cons_succ, List.getElem?_cons_zero]; rfl) (fun K hK => ?_) AllReadyH.nil
          go_simp
          refine (least_any (-hi0) _ ((List.range (L.length - 1)).map fun i => -(L.getD (i + 1) Fx.V3.zero).hi j) _ ((HSc3.out 7).ext (ext_drew (ext_refl _)))).mono ?_
          rintro e w4 ⟨rfl, hw4⟩
          rw [List.length_map, List.length_range, HMx.out]
          subst hw4
          generalize Fx.mxL L j (L.length - 1) = mx at *
          go_wp2_with fail
          refine hK.out _ _ ?_ (fun hHeld => ?_)
          · exact HCc3.out
          clear hK K
          try simp only [Act.put, List.setIfInBounds_toArray, List.set_cons_zero, List.set_cons_succ]
          have e1 : IntKind.i64.wrap (r + mx) = mx + r := by rw [IntKind.wrap_i64]; omega
          refine wpAnyH_take (i := 8) (v := ?_) (by simp only [List.getElem?_toArray, List.getElem?_cons_succ, List.getElem?_cons_zero]; rfl) (by kernel_rfl) (by kernel_rfl) (by kernel_rfl) (fun _ _ _ h => h) (Or.inl ⟨by rfl, ?_⟩) (by assumption) ?_
          rotate_left
          · intro w hSw; (try dsimp only at hSw); go_simp; first | done | with_reducible rfl
          try simp only [Act.put, List.setIfInBounds_toArray, List.set_cons_zero, List.set_cons_succ]
          refine wpAnyH_take (i := 9) (v := ?_) (by simp only [List.getElem?_toArray, List.getElem?_cons_succ, List.getElem?_cons_zero]; rfl) (by kernel_rfl) (by kernel_rfl) (by kernel_rfl) (fun _ _ _ h => h) (Or.inl ⟨by rfl, ?_⟩) (by assumption) ?_
          rotate_left
          · intro w hSw; (try dsimp only at hSw); go_simp; first | done | with_reducible rfl
          try simp only [Act.put, List.setIfInBounds_toArray, List.set_cons_zero, List.set_cons_succ]
          refine wpAnyH_take (i := 10) (v := ?_) (by simp only [List.getElem?_toArray, List.getElem?_cons_succ, List.getElem?_cons_zero]; rfl) (by kernel_rfl) (by kernel_rfl) (by kernel_rfl) (fun _ _ _ h => h) (Or.inl ⟨by rfl, ?_⟩) (by assumption) ?_
          rotate_left
          · intro w hSw; (try dsimp only at hSw); go_simp; first | done | with_reducible rfl
          try simp only [Act.put, List.setIfInBounds_toArray, List.set_cons_zero, List.set_cons_succ]
          refine wpAnyH_ready (rs := [11]) (by kernel_rfl) (by simp) ?_
          refine AllReadyH.cons (by simp only [List.getElem?_toArray, List.getElem?_cons_succ, List.getElem?_cons_zero]; rfl) (fun K hK => ?_) AllReadyH.nil
          have fy := HY3.out.frozen (j * 2 + 1)
          have cy := HY3.out.cell (j * 2 + 1)
          have hy2 : ∃ u : Int, ((Fx.endsTo (fun j => Fx.mnL L j (L.length - 1) - r) (fun j => Fx.mxL L j (L.length - 1) + r) j).arr.setIfInBounds (j * 2) (.int .i64 (mn - r)))[j * 2 + 1]? = some (.int .i64 u) := by
            rw [Array.getElem?_setIfInBounds, if_neg (by omega)]
            exact ⟨_, (arr_cell _ j hj3).2⟩
          obtain ⟨yh, hyh⟩ := hy2
          rw [hyh] at cy
          have hY4 := HY3.out.store (j * 2 + 1) (.int .i64 (mx + r))
          rw [HEn.out] at hY4
          have HY4 := Lib.hid hY4.drew
          clear hyh hY4
          go_simp
          have HZ4 := Lib.hid (HZ3.out.far (p := ⟨w.heap.size + 1, j * 2 + 1, none⟩) (show w.heap.size ≠ w.heap.size + 1 by omega) (.int .i64 (mx + r))).drew
          have hC4 := (HC3.out.far (p := ⟨w.heap.size + 1, j * 2 + 1, none⟩) (show wo.heap.size + 1 ≠ w.heap.size + 1 by omega) (.int .i64 (mx + r))).drew
          have hB4 := ext_drew (ext_set hB3 (p := ⟨w.heap.size + 1, j * 2 + 1, none⟩) (show w.heap.size ≤ w.heap.size + 1 by omega) (.int .i64 (mx + r)))
          have hK4 : (w3.setCell ⟨w.heap.size + 1, j * 2 + 1, none⟩ (.int .i64 (mx + r))).drew.cell? ⟨wo.heap.size + 1, 0, none⟩ = some (.int .i64 (-hi0)) := by
            rw [hC4.cell, ← HC3.out.cell]; exact HCc3.out
          clear hC4 fy cy HY3 HZ3 HC3 hB3 HCc3 HSc3 hHeld
          generalize (w3.setCell ⟨w.heap.size + 1, j * 2 + 1, none⟩ (.int .i64 (mx + r))).drew = w4 at *
          refine hK.out _ _ ?_ (fun hHeld => ?_)
          · exact hK4
          clear hK K
          try simp only [Act.put, List.setIfInBounds_toArray, List.set_cons_zero, List.set_cons_succ]
          refine wpAnyH_done (by kernel_rfl) ?_ _
          refine NoPanic.normal ?_
          clear hK4 hHeld e1
          go_wp2_with fail
          go_roundw
          case rel => exact ⟨j + 1, by omega, by go_num, HZ4.out, HY4.out, hB4⟩
          case measure => simp [intOf]; omega
    · obtain rfl : j = 3 := by omega
      rw [Fx.endsTo_three] at hY
      have HZ := Lib.hid hZ
      generalize hx : Fx.ofEnds (fun j => Fx.mnL L j (L.length - 1) - r) (fun j => Fx.mxL L j (L.length - 1) + r) = x at *
      have HX := Lib.hid hx
      clear hx
      obtain ⟨⟨z0, z1, z2, z3, z4, z5⟩, ⟨y0, y1, y2, y3, y4, y5⟩⟩ := hZ.six
      obtain ⟨⟨s0, s1, s2, s3, s4, s5⟩, _⟩ := hY.six
      simp only [Fx.V3.zero] at z0 z1 z2 z3 z4 z5
      clear hZ hY
      go_wp2_with fail
      exact bodyPost_ret (ret_bound (x := x) (set6_whole x HZ.out) rfl) rfl ⟨by rw [HX.out], set6_ext x hb (Nat.le_refl _)⟩

theorem bound_any (v : Value) (L : List Fx.V3) (r : Int) (w : World) (hI : VSl w v L) :
    Calls Try.prog 18 #[v, .int .i64 r] w fun e w' => e = .returned (.agg (Fx.boundV L r).arr) ∧ Below w.heap.size w w' := by
  by_cases hp : Fx.placedB L = true
  · by_cases hr : 0 ≤ r ∧ r ≤ 1048576
    · exact bound_yes v L r w hI hp hr
    · exact bound_no v L r w hI (Fx.boundOk_2 hr)
  · exact bound_no v L r w hI (Fx.boundOk_1 (by simpa using hp))
end Go.Proofs.Ytgnjconhbloocaa
