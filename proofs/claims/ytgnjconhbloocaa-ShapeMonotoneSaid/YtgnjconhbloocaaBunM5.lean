/- Contract of shape.Place. Contract of the reference's Centers. Comparing lists of points, and lists of vectors of intervals. Contract of the reference's Place, and the comparison of both. Powers of an angle: plain bounds, and the contract of the reference's powers. General facts: a block stored over whole; results that lie in memory. Contract of the reference's powers. Contracts of the reference's enclosure, sine and cosine: an interval between 0 and 1 is returned. Contracts of the reference's Quarter, Mod, Sin, Cos. -/
import Derived.Test.YtgnjconhbloocaaBunM4
import Derived.Test.YtgnjconhbloocaaBunM1
namespace Go.Proofs.Ytgnjconhbloocaa
open Go.RowKit
set_option linter.unusedVariables false

/-- Where a pose places a point. -/
def Fx.placePt (p : Fx.Ps) (q : Int × Int × Int) : Fx.V3 := Fx.applyP p (Fx.ofV q.1 q.2.1 q.2.2)
def Fx.placeL (r : Int) (P : List (Int × Int × Int)) (p : Fx.Ps) : List Fx.V3 := if Fx.shapeOk r P then P.map (Fx.placePt p) else []
theorem Fx.placeL_no {r : Int} {P : List (Int × Int × Int)} {p : Fx.Ps} (h : Fx.shapeOk r P = false) : Fx.placeL r P p = [] := by unfold Fx.placeL; rw [h]; rfl
theorem Fx.placeL_yes {r : Int} {P : List (Int × Int × Int)} {p : Fx.Ps} (h : Fx.shapeOk r P = true) : Fx.placeL r P p = P.map (Fx.placePt p) := by unfold Fx.placeL; rw [h]; rfl

/-- The first k points placed; the others are zero. -/
def Fx.placeTo (p : Fx.Ps) (P : List (Int × Int × Int)) (k : Nat) : List Fx.V3 := (P.take k).map (Fx.placePt p) ++ List.replicate (P.length - k) Fx.V3.zero
theorem Fx.placeTo_len (p : Fx.Ps) (P : List (Int × Int × Int)) (k : Nat) (hk : k ≤ P.length) : (Fx.placeTo p P k).length = P.length := by unfold Fx.placeTo; simp; omega
theorem Fx.placeTo_set (p : Fx.Ps) (P : List (Int × Int × Int)) (k : Nat) (hk : k < P.length) : (Fx.placeTo p P k).set k (Fx.placePt p (P.getD k (0, 0, 0))) = Fx.placeTo p P (k + 1) := by
  unfold Fx.placeTo
  have hl : ((P.take k).map (Fx.placePt p)).length = k := by simp; omega
  rw [List.set_append_right _ _ (by omega), hl, Nat.sub_self, show P.length - k = (P.length - (k + 1)) + 1 by omega, List.replicate_succ, List.set_cons_zero, List.take_add_one, List.map_append, List.getD_eq_getElem?_getD, List.getElem?_eq_getElem hk]
  simp
theorem Fx.placeTo_full (p : Fx.Ps) (P : List (Int × Int × Int)) : Fx.placeTo p P P.length = P.map (Fx.placePt p) := by unfold Fx.placeTo; simp

/-- One vector of a row of vectors stored anew. -/
theorem vCells_set (x : Fx.V3) : ∀ (L : List Fx.V3) (i : Nat), i < L.length → ((((((vCells L).set (i * 6) (.int .i64 x.a)).set (i * 6 + 1) (.int .i64 x.b)).set (i * 6 + 2) (.int .i64 x.c)).set (i * 6 + 3) (.int .i64 x.d)).set (i * 6 + 4) (.int .i64 x.e)).set (i * 6 + 5) (.int .i64 x.f) = vCells (L.set i x)
  | [], i, h => absurd h (by simp)
  | a :: L, 0, _ => by simp [vCells, Fx.V3.cells]
  | a :: L, i + 1, h => by
    have ih := vCells_set x L i (by simpa using h)
    have e : ∀ M : List Fx.V3, vCells (a :: M) = a.cells ++ vCells M := fun M => by simp [vCells]
    have h6 : a.cells.length = 6 := rfl
    rw [List.set_cons_succ, e, e, ← ih]
    rw [List.set_append_right _ _ (by omega), List.set_append_right _ _ (by omega), List.set_append_right _ _ (by omega), List.set_append_right _ _ (by omega), List.set_append_right _ _ (by omega), List.set_append_right _ _ (by omega), h6]
    rw [show (i + 1) * 6 - 6 = i * 6 by omega, show (i + 1) * 6 + 1 - 6 = i * 6 + 1 by omega, show (i + 1) * 6 + 2 - 6 = i * 6 + 2 by omega, show (i + 1) * 6 + 3 - 6 = i * 6 + 3 by omega, show (i + 1) * 6 + 4 - 6 = i * 6 + 4 by omega, show (i + 1) * 6 + 5 - 6 = i * 6 + 5 by omega]
theorem Whole.storeV {w : World} {g : Nat} {t : TypeId} {L : List Fx.V3} (h : Whole w g t (vCells L).toArray) (x : Fx.V3) (i : Nat) (hi : i < L.length) : Whole (w.setCells g (i * 6) x.arr.toList) g t (vCells (L.set i x)).toArray := by
  have h' := (((((h.store (i * 6) (.int .i64 x.a)).store (i * 6 + 1) (.int .i64 x.b)).store (i * 6 + 2) (.int .i64 x.c)).store (i * 6 + 3) (.int .i64 x.d)).store (i * 6 + 4) (.int .i64 x.e)).store (i * 6 + 5) (.int .i64 x.f)
  simp only [List.setIfInBounds_toArray, vCells_set x L i hi] at h'
  exact h'
theorem made_ivecs (n : Nat) : (madeCells (Value.agg #[.int .i64 0, .int .i64 0, .int .i64 0, .int .i64 0, .int .i64 0, .int .i64 0]).cells (n * 6)).toList = vCells (List.replicate n Fx.V3.zero) := by
  apply List.ext_getElem?
  intro t
  by_cases ht : t < n * 6
  · have e := vCells_get (List.replicate n Fx.V3.zero) (t / 6) (by rw [List.length_replicate]; omega) (t % 6) (by omega)
    rw [show t / 6 * 6 + t % 6 = t by omega] at e
    rw [e, List.getD_eq_getElem?_getD, List.getElem?_replicate, if_pos (by omega)]
    have h6 : t % 6 = 0 ∨ t % 6 = 1 ∨ t % 6 = 2 ∨ t % 6 = 3 ∨ t % 6 = 4 ∨ t % 6 = 5 := by omega
    simp [madeCells, Value.cells, ht]
    rcases h6 with h | h | h | h | h | h <;> simp [h, Fx.V3.cells, Fx.V3.zero]
  · rw [List.getElem?_eq_none (l := vCells _) (by rw [vCells_len, List.length_replicate]; omega), List.getElem?_eq_none]
    simp [madeCells, Value.cells]
    omega
/-- A made row, known whole. -/
theorem whole_of_owns {w : World} {base size n g : Nat} {e : TypeId} {xs : List Value} (h : w.ownsRow base e size (.slice (some ⟨g, 0, none⟩) n n) n xs) : Whole w g e xs.toArray := by
  rcases h.2 with ⟨h1, _⟩ | ⟨g', cap', cur, h1, h2, h3, h4, h5, h6, h7⟩
  · simp at h1
  · simp only [Value.slice.injEq, Option.some.injEq, Addr.mk.injEq, and_true, true_and] at h1
    obtain ⟨rfl, rfl⟩ := h1
    unfold Whole
    rw [h3]
    rw [List.take_of_length_le (by rw [Array.length_toList, h6]; exact Nat.le_refl _)] at h7
    rw [← h7]
theorem VSl.of_whole {w : World} {g : Nat} {t : TypeId} {L : List Fx.V3} (h : Whole w g t (vCells L).toArray) (hl : L.length ≤ 9223372036854775807) (c : Nat) : VSl w (.slice (some ⟨g, 0, none⟩) L.length c) L :=
  ⟨_, c, rfl, hl, fun _ => ⟨g, 0, rfl, h.lt, fun i hi j hj => by rw [Nat.zero_add, h.cell, List.getElem?_toArray]; exact vCells_get L i hi j hj⟩⟩

/-- A list of vectors is returned. -/
def GivesV (L : List Fx.V3) (w : World) (e : Ending) (w' : World) : Prop := ∃ u, e = .returned u ∧ VSl w' u L ∧ Below w.heap.size w w'
theorem GivesV.form {L : List Fx.V3} {w w' : World} {e : Ending} (h : GivesV L w e w') : ∃ (a : Option Addr) (c : Nat), e = .returned (.slice a L.length c) ∧ VSl w' (.slice a L.length c) L ∧ Below w.heap.size w w' := by
  obtain ⟨u, rfl, hp, hb⟩ := h
  obtain ⟨a, c, rfl, h1, h2⟩ := hp
  exact ⟨a, c, rfl, ⟨a, c, rfl, h1, h2⟩, hb⟩
theorem VSl.nil (w : World) (a : Option Addr) (c : Nat) : VSl w (.slice a 0 c) [] := ⟨a, c, rfl, by simp, fun h => absurd h (by simp)⟩

set_option maxRecDepth 100000 in
set_option maxHeartbeats 2000000 in
theorem place_any (lk r : Int) (v : Value) (P : List (Int × Int × Int)) (p : Fx.Ps) (w : World) (hP : PSl w v P) :
    Calls Try.prog 27 #[.agg #[.int .i64 lk, .int .i64 r, v], .agg p.arr] w (GivesV (Fx.placeL r P p) w) := by
  have HP := Lib.hid hP
  obtain ⟨a, c, rfl, hl, _⟩ := hP
  by_cases hk : Fx.shapeOk r P = true
  · rw [Fx.placeL_yes hk]
    have hlen := Fx.shapeOk_len hk
    have HK := Lib.hid hk
    clear hk
    obtain ⟨i0, hi, hz0, hz1, hz2⟩ := info_parts info_ivec
    go_enter Try.func27, Try.ntmps27
    go_wp2_with fail
    have h2 := blocks2 w 48 52 #[.int .i64 lk, .int .i64 r, .slice a P.length c] p.arr
    generalize (w.alloc (.cells #[.int .i64 lk, .int .i64 r, .slice a P.length c] 48)).alloc (.cells p.arr 52) = w0 at *
    obtain ⟨hA, hB, hb⟩ := h2
    refine (check_any lk r _ P _ (HP.out.ext hb)).mono ?_
    rintro e w1 ⟨rfl, hb1⟩
    rw [HK.out]
    have hA1 := hA.ext hb1
    have HB1 := Lib.hid (hB.ext hb1)
    have s2 : w1.cell? ⟨w.heap.size, 2, none⟩ = some (.slice a P.length c) := hA1.cell 2
    have hB1 := ext_trans hb hb1
    obtain ⟨wm, hmk, hownm, hgm⟩ := run_makeSlice_full w1 w1.heap.size 22 34 i0 (.agg #[.int .i64 0, .int .i64 0, .int .i64 0, .int .i64 0, .int .i64 0, .int .i64 0]) 6 Try.underlying22 hi hz0 hz1 .i64 .i64 P.length (by omega) (by rw [hz2]; omega) (by unfold maxLen; omega) (Nat.le_refl _)
    rw [made_ivecs] at hownm
    have Bm : Below w1.heap.size w1 wm := (ext_refl w1).grown hgm (Nat.le_refl _) (fun k e => by cases e)
    have hV0 := whole_of_owns hownm
    have hBm := ext_trans hB1 Bm
    have s2m : wm.cell? ⟨w.heap.size, 2, none⟩ = some (.slice a P.length c) := (hA1.ext Bm).cell 2
    have HBm := Lib.hid (HB1.out.ext Bm)
    have HV0 : Hid (Whole wm w1.heap.size 34 (vCells (Fx.placeTo p P 0)).toArray) := Lib.hid hV0
    have hgz := hB1.size
    have hgp := HB1.out.lt
    clear hA hB hb hb1 hA1 hownm hgm hV0 hB1 Bm HB1 HK
    go_wp2_with fail
    generalize w1.heap.size = g at *
    clear hmk s2 s2m
    go_loopw [18] (fun iv wr => ∃ k : Nat, k ≤ P.length ∧ iv = .int .i64 k ∧ Whole wr g 34 (vCells (Fx.placeTo p P k)).toArray ∧ Whole wr (w.heap.size + 1) 52 p.arr ∧ Below w.heap.size w wr) (fun iv _ => P.length - (intOf iv).toNat)
    case atStart => exact ⟨0, by omega, rfl, HV0.out, HBm.out, hBm⟩
    case round =>
      obtain ⟨k, hk, rfl, hV, hB, hb⟩ := hrel
      clear HV0 HBm hBm
      have HV := Lib.hid hV; have HB := Lib.hid hB
      clear hV hB
      by_cases hlt : k < P.length
      · obtain ⟨b, o, rfl, hbw, c0, c1, c2⟩ := HP.out.at_ hb k hlt
        have HSt := Lib.hid (Fx.placeTo_set p P k hlt)
        have hll := Fx.placeTo_len p P k hk
        generalize P.getD k (0, 0, 0) = q at *
        obtain ⟨x, y, z⟩ := q
        dsimp only at c0 c1 c2
        have hd : decide ((k : Int) < (P.length : Int)) = true := by simp; omega
        have k0 : (0 : Int) ≤ (k : Int) := by omega
        have k1 : (k : Int) < (P.length : Int) := by omega
        go_wp2_with fail
        have hX := Whole.new wr 66 #[.int .i64 x, .int .i64 y, .int .i64 z]
        have HV2 := Lib.hid (HV.out.alloc (.cells #[.int .i64 x, .int .i64 y, .int .i64 z] 66))
        have HB2 := Lib.hid (HB.out.alloc (.cells #[.int .i64 x, .int .i64 y, .int .i64 z] 66))
        have hb2 := ext_alloc hb (.cells #[.int .i64 x, .int .i64 y, .int .i64 z] 66)
        clear c0 c1 c2 hb HV HB
        generalize wr.alloc (.cells #[.int .i64 x, .int .i64 y, .int .i64 z] 66) = w2 at *
        generalize wr.heap.size = gx at *
        have HX := Lib.hid hX
        clear hX
        refine wp_region_noPanic ?_
        refine wp_region_until_drew (k := 7) (S := fun w' => Below w2.heap.size w2 w') (by kernel_rfl) (ext_drew (ext_refl _)) (fun hHeld => ?_)
        refine wpAnyU_take (i := 0) (v := ?_) (by simp only [List.getElem?_toArray, List.getElem?_cons_succ, List.getElem?_cons_zero]; rfl) (by kernel_rfl) (by kernel_rfl) (by kernel_rfl) (by kernel_rfl) (by kernel_rfl) (fun _ _ _ h => h) (Or.inl ⟨by rfl, ?_⟩) (by assumption) ?_
        rotate_left
        · intro w hSw; (try dsimp only at hSw); go_simp; first | done | with_reducible rfl
        try simp only [Act.put, List.setIfInBounds_toArray, List.set_cons_zero, List.set_cons_succ]
        refine wpAnyU_take (i := 1) (v := ?_) (by simp only [List.getElem?_toArray, List.getElem?_cons_succ, List.getElem?_cons_zero]; rfl) (by kernel_rfl) (by kernel_rfl) (by kernel_rfl) (by kernel_rfl) (by kernel_rfl) (fun _ _ _ h => h) (Or.inl ⟨by rfl, ?_⟩) (by assumption) ?_
        rotate_left
        · intro w hSw; (try dsimp only at hSw); go_simp; first | done | with_reducible rfl
        try simp only [Act.put, List.setIfInBounds_toArray, List.set_cons_zero, List.set_cons_succ]
        refine wpAnyU_take (i := 2) (by simp only [List.getElem?_toArray, List.getElem?_cons_succ, List.getElem?_cons_zero]; rfl) (by kernel_rfl) (by kernel_rfl) (by kernel_rfl) (by kernel_rfl) (by kernel_rfl) (fun _ _ _ h => h) (yields_load (by rfl) _ _ rfl (w.heap.size + 1) (0) (by rfl) p.arr.toList _ HB2.out.all HB2.out.lt Try.underlying52 rfl (by kernel_rfl)) (by assumption) ?_
        try simp only [Act.put, List.setIfInBounds_toArray, List.set_cons_zero, List.set_cons_succ]
        refine wpAnyU_take (i := 3) (by simp only [List.getElem?_toArray, List.getElem?_cons_succ, List.getElem?_cons_zero]; rfl) (by kernel_rfl) (by kernel_rfl) (by kernel_rfl) (by kernel_rfl) (by kernel_rfl) (fun _ _ _ h => h) (yields_load (by rfl) _ _ rfl gx (0) (by rfl) [.int .i64 x, .int .i64 y, .int .i64 z] _ HX.out.all HX.out.lt Try.underlying66 rfl (by kernel_rfl)) (by assumption) ?_
        try simp only [Act.put, List.setIfInBounds_toArray, List.set_cons_zero, List.set_cons_succ]
        refine wpAnyU_ready (rs := [4]) (by kernel_rfl) (by simp) ?_
        refine AllReadyU.cons (by simp only [List.getElem?_toArray, List.getElem?_cons_succ, List.getElem?_cons_zero]; rfl) (fun K hK => ?_) AllReadyU.nil
        go_simp
        refine (mpoint_any x y z _).mono ?_
        rintro e w_4 ⟨rfl, hb_4⟩
        have hHeld' := ext_trans hHeld hb_4
        clear hHeld hb_4
        go_wp2_with fail
        refine hK.out _ _ hHeld' (fun hHeld => ?_)
        clear hK K hHeld'
        try simp only [Act.put, List.setIfInBounds_toArray, List.set_cons_zero, List.set_cons_succ]
        refine wpAnyU_ready (rs := [5]) (by kernel_rfl) (by simp) ?_
        refine AllReadyU.cons (by simp only [List.getElem?_toArray, List.getElem?_cons_succ, List.getElem?_cons_zero]; rfl) (fun K hK => ?_) AllReadyU.nil
        go_simp
        refine (papply_any p (Fx.ofV x y z) _).mono ?_
        rintro e w_5 ⟨rfl, hb_5⟩
        have hHeld' := ext_trans hHeld hb_5
        clear hHeld hb_5
        go_wp2_with fail
        refine hK.out _ _ hHeld' (fun hHeld => ?_)
        clear hK K hHeld'
        try simp only [Act.put, List.setIfInBounds_toArray, List.set_cons_zero, List.set_cons_succ]
        refine wpAnyU_take (i := 6) (v := ?_) (by simp only [List.getElem?_toArray, List.getElem?_cons_succ, List.getElem?_cons_zero]; rfl) (by kernel_rfl) (by kernel_rfl) (by kernel_rfl) (by kernel_rfl) (by kernel_rfl) (fun _ _ _ h => h) (Or.inl ⟨by rfl, ?_⟩) (by assumption) ?_
        rotate_left
        · intro w hSw; (try dsimp only at hSw); go_simp; first | done | with_reducible rfl
        try simp only [Act.put, List.setIfInBounds_toArray, List.set_cons_zero, List.set_cons_succ]
        have hV7 := HV2.out.ext hHeld
        have HB7 := Lib.hid (HB2.out.ext hHeld)
        have hB7 := ext_trans hb2 hHeld
        clear HV2 HB2 hb2 hHeld HX
        refine wpAnyU_ready (rs := [7]) (by kernel_rfl) (by simp) ?_
        refine AllReadyU.last (by simp only [List.getElem?_toArray, List.getElem?_cons_succ, List.getElem?_cons_zero]; rfl) (fun K hK => ?_) AllReadyU.nil
        rw [if_pos (by rfl)]
        refine wp_store_mid _ _ _ rfl g (k * 6) (Fx.placePt p (x, y, z)).arr rfl rfl (there_of hV7 _ _ (by rw [arr_size, List.size_toArray, vCells_len, hll]; omega)) (by kernel_rfl) (arr_one _) ?_
        have hVn := hV7.storeV (Fx.placePt p (x, y, z)) k (by omega)
        rw [HSt.out] at hVn
        have HVn := Lib.hid hVn
        have HBn := Lib.hid (HB7.out.farN (Fx.placePt p (x, y, z)).arr.toList (show w.heap.size + 1 ≠ g by omega) (k * 6))
        have hBn := ext_setN (Fx.placePt p (x, y, z)).arr.toList hB7 hgz (k * 6)
        refine hK.out _ _ ?_
        clear hK K hV7 HB7 hB7 hVn
        try simp only [Act.put, List.setIfInBounds_toArray, List.set_cons_zero, List.set_cons_succ]
        refine wpAnyU_done (by kernel_rfl) ?_ _
        refine NoPanic.normal ?_
        generalize w_5.setCells g (k * 6) (Fx.placePt p (x, y, z)).arr.toList = w8 at *
        go_wp2_with fail
        go_roundw
        case rel => exact ⟨k + 1, by omega, by go_num, HVn.out, HBn.out, hBn⟩
        case measure => simp [intOf]; omega
      · obtain rfl : k = P.length := by omega
        have hd : decide ((P.length : Int) < (P.length : Int)) = false := by simp
        have hVf : VSl wr (.slice (some ⟨g, 0, none⟩) P.length P.length) (P.map (Fx.placePt p)) := by
          have h := HV.out
          rw [Fx.placeTo_full] at h
          have h' := VSl.of_whole h (by rw [List.length_map]; omega) P.length
          rw [List.length_map] at h'
          exact h'
        have HF := Lib.hid hVf
        clear hVf HV
        go_wp2_with fail
        go_ret
        exact ⟨_, rfl, HF.out, hb⟩
  · have hk : Fx.shapeOk r P = false := by simpa using hk
    rw [Fx.placeL_no hk]
    have HK := Lib.hid hk
    clear hk
    go_enter Try.func27, Try.ntmps27
    go_wp2_with fail
    refine (check_any lk r _ P _ (HP.out.ext (ext_alloc (ext_alloc (ext_refl _) _) _))).mono ?_
    rintro e w1 ⟨rfl, hb1⟩
    rw [HK.out]
    go_wp2_with fail
    go_ret
    exact ⟨_, rfl, VSl.nil _ _ _, ext_trans (ext_alloc (ext_alloc (ext_refl _) _) _) hb1⟩
end Go.Proofs.Ytgnjconhbloocaa

namespace Go.Proofs.Ytgnjconhbloocaa
open Go.RowKit
set_option linter.unusedVariables false

theorem rowTo_full (f : Nat → Int) (N : Nat) : rowTo f N N = (List.range N).map fun t => .int .i64 (f t) := by
  apply List.ext_getElem?
  intro t
  by_cases ht : t < N
  · rw [rowTo_get f N N t ht, if_pos ht]; simp [ht]
  · rw [List.getElem?_eq_none (by rw [rowTo_len]; omega), List.getElem?_eq_none (by simp; omega)]
theorem rowTo_snoc3 (f : Nat → Int) (k : Nat) : rowTo f ((k + 1) * 3) ((k + 1) * 3) = rowTo f (k * 3) (k * 3) ++ [.int .i64 (f (k * 3 + 0)), .int .i64 (f (k * 3 + 1)), .int .i64 (f (k * 3 + 2))] := by
  rw [rowTo_full, rowTo_full, show (k + 1) * 3 = k * 3 + 1 + 1 + 1 by omega, List.range_succ, List.range_succ, List.range_succ]
  simp

/-- The six cells of a vector. -/
abbrev Six (b o : Nat) (x : Fx.V3) (w' : World) : Prop := w'.cell? ⟨b, o, none⟩ = some (.int .i64 x.a) ∧ w'.cell? ⟨b, o + 1, none⟩ = some (.int .i64 x.b) ∧ w'.cell? ⟨b, o + 2, none⟩ = some (.int .i64 x.c) ∧ w'.cell? ⟨b, o + 3, none⟩ = some (.int .i64 x.d) ∧ w'.cell? ⟨b, o + 4, none⟩ = some (.int .i64 x.e) ∧ w'.cell? ⟨b, o + 5, none⟩ = some (.int .i64 x.f)
theorem Six.step {b o B : Nat} {x : Fx.V3} {w1 w2 : World} (h : Six b o x w1) (hb : Below B w1 w2) (hl : b < B) : Six b o x w2 := by
  obtain ⟨s0, s1, s2, s3, s4, s5⟩ := h
  exact ⟨(hb.cell (p := ⟨b, _, none⟩) hl).trans s0, (hb.cell (p := ⟨b, _, none⟩) hl).trans s1, (hb.cell (p := ⟨b, _, none⟩) hl).trans s2, (hb.cell (p := ⟨b, _, none⟩) hl).trans s3, (hb.cell (p := ⟨b, _, none⟩) hl).trans s4, (hb.cell (p := ⟨b, _, none⟩) hl).trans s5⟩

set_option maxRecDepth 100000 in
set_option maxHeartbeats 2000000 in
theorem rcenters_any (v : Value) (L : List Fx.V3) (w : World) (hI : VSl w v L) :
    Calls Try.prog 39 #[v] w (GivesP (Fx.centers L) w) := by
  have HI := Lib.hid hI
  obtain ⟨a, c, rfl, hl, hI'⟩ := hI
  by_cases hp : Fx.placedB L = true
  · rw [Fx.centers_yes hp]
    have hlen := Fx.placedB_len hp
    obtain ⟨b, o, rfl, hJ⟩ := hI' (by omega)
    have HJ := Lib.hid hJ
    have hbw := hJ.1
    have HP := Lib.hid hp
    clear hI' hJ hp
    obtain ⟨i0, hi, hz0, hz1, hz2⟩ := info_parts info_vec
    go_enter Try.func39, Try.ntmps39
    go_wp2_with fail
    refine (rplaced_yes _ L _ HI.out HP.out).mono ?_
    rintro e w1 ⟨rfl, hb1⟩
    clear HI HP
    go_wp2_with fail
    go_loopw [3, 4] (fun ov iv wr => ∃ i : Nat, i ≤ L.length ∧ iv = .int .i64 i ∧ wr.ownsRow w.heap.size 66 3 ov i (rowTo (Fx.ctrAt L) (i * 3) (i * 3)) ∧ Below w.heap.size w wr) (fun _ iv _ => L.length - (intOf iv).toNat)
    case atStart => exact ⟨0, by omega, by go_num, World.ownsRow_nil _ _ _ _, hb1⟩
    case round =>
      obtain ⟨i, hil, rfl, hO, hb⟩ := hrel
      clear hb1
      by_cases hlt : i < L.length
      · obtain ⟨c0, c1, c2, c3, c4, c5⟩ := (HJ.out.ext hb).at_ i hlt
        have HF0 := Lib.hid (Fx.ctrAt_eq L i 0 (by omega)); have HF1 := Lib.hid (Fx.ctrAt_eq L i 1 (by omega)); have HF2 := Lib.hid (Fx.ctrAt_eq L i 2 (by omega))
        generalize L.getD i Fx.V3.zero = x at *
        have hd : decide ((i : Int) < (L.length : Int)) = true := by simp; omega
        have k0 : (0 : Int) ≤ (i : Int) := by omega
        have k1 : (i : Int) < (L.length : Int) := by omega
        have HO := Lib.hid hO
        have H0 := Lib.hid c0; have H1 := Lib.hid c1; have H2 := Lib.hid c2; have H3 := Lib.hid c3; have H4 := Lib.hid c4; have H5 := Lib.hid c5
        clear hO c0 c1 c2 c3 c4 c5
        have hww := hb.size
        go_wp2_with fail
        refine wp_region_noPanic ?_
        refine wp_region_held_drew (S := (fun w' => w'.cell? ⟨b, o + i * 6, none⟩ = some (.int .i64 x.a) ∧ w'.cell? ⟨b, o + i * 6 + 1, none⟩ = some (.int .i64 x.b) ∧ w'.cell? ⟨b, o + i * 6 + 2, none⟩ = some (.int .i64 x.c) ∧ w'.cell? ⟨b, o + i * 6 + 3, none⟩ = some (.int .i64 x.d) ∧ w'.cell? ⟨b, o + i * 6 + 4, none⟩ = some (.int .i64 x.e) ∧ w'.cell? ⟨b, o + i * 6 + 5, none⟩ = some (.int .i64 x.f))) (by kernel_rfl) ?_ (fun hHeld => ?_)
        · exact ⟨H0.out, H1.out, H2.out, H3.out, H4.out, H5.out⟩
        refine wpAnyH_take (i := 0) (v := ?_) (by simp only [List.getElem?_toArray, List.getElem?_cons_succ, List.getElem?_cons_zero]; rfl) (by kernel_rfl) (by kernel_rfl) (by kernel_rfl) (fun _ _ _ h => h) (Or.inl ⟨by rfl, ?_⟩) (by assumption) ?_
        rotate_left
        · intro w hSw; (try dsimp only at hSw); go_simp; first | done | with_reducible rfl
        try simp only [Act.put, List.setIfInBounds_toArray, List.set_cons_zero, List.set_cons_succ]
        refine wpAnyH_take (i := 1) (v := ?_) (by simp only [List.getElem?_toArray, List.getElem?_cons_succ, List.getElem?_cons_zero]; rfl) (by kernel_rfl) (by kernel_rfl) (by kernel_rfl) (fun _ _ _ h => h) (Or.inl ⟨by rfl, ?_⟩) (by assumption) ?_
        rotate_left
        · intro w hSw; (try dsimp only at hSw); go_simp; first | done | with_reducible rfl
        try simp only [Act.put, List.setIfInBounds_toArray, List.set_cons_zero, List.set_cons_succ]
        refine wpAnyH_take (i := 2) (v := ?_) (by simp only [List.getElem?_toArray, List.getElem?_cons_succ, List.getElem?_cons_zero]; rfl) (by kernel_rfl) (by kernel_rfl) (by kernel_rfl) (fun _ _ _ h => h) (Or.inl ⟨by rfl, ?_⟩) (by assumption) ?_
        rotate_left
        · intro w hSw; (try dsimp only at hSw); go_simp; first | done | with_reducible rfl
        try simp only [Act.put, List.setIfInBounds_toArray, List.set_cons_zero, List.set_cons_succ]
        refine wpAnyH_take (i := 3) (v := ?_) (by simp only [List.getElem?_toArray, List.getElem?_cons_succ, List.getElem?_cons_zero]; rfl) (by kernel_rfl) (by kernel_rfl) (by kernel_rfl) (fun _ _ _ h => h) (Or.inl ⟨by rfl, ?_⟩) (by assumption) ?_
        rotate_left
        · intro w hSw; (try dsimp only at hSw); go_simp; first | done | with_reducible rfl
        try simp only [Act.put, List.setIfInBounds_toArray, List.set_cons_zero, List.set_cons_succ]
        refine wpAnyH_take (i := 4) (v := ?_) (by simp only [List.getElem?_toArray, List.getElem?_cons_succ, List.getElem?_cons_zero]; rfl) (by kernel_rfl) (by kernel_rfl) (by kernel_rfl) (fun _ _ _ h => h) (Or.inl ⟨by rfl, ?_⟩) (by assumption) ?_
        rotate_left
        · intro w hSw; (try dsimp only at hSw); go_simp; first | done | with_reducible rfl
        try simp only [Act.put, List.setIfInBounds_toArray, List.set_cons_zero, List.set_cons_succ]
        refine wpAnyH_take (i := 5) (v := ?_) (by simp only [List.getElem?_toArray, List.getElem?_cons_succ, List.getElem?_cons_zero]; rfl) (by kernel_rfl) (by kernel_rfl) (by kernel_rfl) (fun _ _ _ h => h) (Or.inl ⟨by rfl, ?_⟩) (by assumption) ?_
        rotate_left
        · intro w hSw; (try dsimp only at hSw); go_simp; first | done | with_reducible rfl
        try simp only [Act.put, List.setIfInBounds_toArray, List.set_cons_zero, List.set_cons_succ]
        refine wpAnyH_take (i := 7) (v := ?_) (by simp only [List.getElem?_toArray, List.getElem?_cons_succ, List.getElem?_cons_zero]; rfl) (by kernel_rfl) (by kernel_rfl) (by kernel_rfl) (fun _ _ _ h => h) (Or.inl ⟨by rfl, ?_⟩) (by assumption) ?_
        rotate_left
        · intro w hSw; (try dsimp only at hSw); go_simp; first | done | with_reducible rfl
        try simp only [Act.put, List.setIfInBounds_toArray, List.set_cons_zero, List.set_cons_succ]
        refine wpAnyH_take (i := 8) (v := ?_) (by simp only [List.getElem?_toArray, List.getElem?_cons_succ, List.getElem?_cons_zero]; rfl) (by kernel_rfl) (by kernel_rfl) (by kernel_rfl) (fun _ _ _ h => h) (Or.inl ⟨by rfl, ?_⟩) (by assumption) ?_
        rotate_left
        · intro w hSw; (try dsimp only at hSw); go_simp; first | done | with_reducible rfl
        try simp only [Act.put, List.setIfInBounds_toArray, List.set_cons_zero, List.set_cons_succ]
        refine wpAnyH_take (i := 9) (v := ?_) (by simp only [List.getElem?_toArray, List.getElem?_cons_succ, List.getElem?_cons_zero]; rfl) (by kernel_rfl) (by kernel_rfl) (by kernel_rfl) (fun _ _ _ h => h) (Or.inl ⟨by rfl, ?_⟩) (by assumption) ?_
        rotate_left
        · intro w hSw; (try dsimp only at hSw); go_simp; first | done | with_reducible rfl
        try simp only [Act.put, List.setIfInBounds_toArray, List.set_cons_zero, List.set_cons_succ]
        refine wpAnyH_take (i := 10) (v := ?_) (by simp only [List.getElem?_toArray, List.getElem?_cons_succ, List.getElem?_cons_zero]; rfl) (by kernel_rfl) (by kernel_rfl) (by kernel_rfl) (fun _ _ _ h => h) (Or.inl ⟨by rfl, ?_⟩) (by assumption) ?_
        rotate_left
        · intro w hSw; (try dsimp only at hSw); go_simp; first | done | with_reducible rfl
        try simp only [Act.put, List.setIfInBounds_toArray, List.set_cons_zero, List.set_cons_succ]
        refine wpAnyH_take (i := 11) (v := ?_) (by simp only [List.getElem?_toArray, List.getElem?_cons_succ, List.getElem?_cons_zero]; rfl) (by kernel_rfl) (by kernel_rfl) (by kernel_rfl) (fun _ _ _ h => h) (Or.inl ⟨by rfl, ?_⟩) (by assumption) ?_
        rotate_left
        · intro w hSw; (try dsimp only at hSw); go_simp; first | done | with_reducible rfl
        try simp only [Act.put, List.setIfInBounds_toArray, List.set_cons_zero, List.set_cons_succ]
        refine wpAnyH_take (i := 13) (v := ?_) (by simp only [List.getElem?_toArray, List.getElem?_cons_succ, List.getElem?_cons_zero]; rfl) (by kernel_rfl) (by kernel_rfl) (by kernel_rfl) (fun _ _ _ h => h) (Or.inl ⟨by rfl, ?_⟩) (by assumption) ?_
        rotate_left
        · intro w hSw; (try dsimp only at hSw); go_simp; first | done | with_reducible rfl
        try simp only [Act.put, List.setIfInBounds_toArray, List.set_cons_zero, List.set_cons_succ]
        refine wpAnyH_take (i := 14) (v := ?_) (by simp only [List.getElem?_toArray, List.getElem?_cons_succ, List.getElem?_cons_zero]; rfl) (by kernel_rfl) (by kernel_rfl) (by kernel_rfl) (fun _ _ _ h => h) (Or.inl ⟨by rfl, ?_⟩) (by assumption) ?_
        rotate_left
        · intro w hSw; (try dsimp only at hSw); go_simp; first | done | with_reducible rfl
        try simp only [Act.put, List.setIfInBounds_toArray, List.set_cons_zero, List.set_cons_succ]
        refine wpAnyH_take (i := 15) (v := ?_) (by simp only [List.getElem?_toArray, List.getElem?_cons_succ, List.getElem?_cons_zero]; rfl) (by kernel_rfl) (by kernel_rfl) (by kernel_rfl) (fun _ _ _ h => h) (Or.inl ⟨by rfl, ?_⟩) (by assumption) ?_
        rotate_left
        · intro w hSw; (try dsimp only at hSw); go_simp; first | done | with_reducible rfl
        try simp only [Act.put, List.setIfInBounds_toArray, List.set_cons_zero, List.set_cons_succ]
        refine wpAnyH_take (i := 16) (v := ?_) (by simp only [List.getElem?_toArray, List.getElem?_cons_succ, List.getElem?_cons_zero]; rfl) (by kernel_rfl) (by kernel_rfl) (by kernel_rfl) (fun _ _ _ h => h) (Or.inl ⟨by rfl, ?_⟩) (by assumption) ?_
        rotate_left
        · intro w hSw; (try dsimp only at hSw); go_simp; first | done | with_reducible rfl
        try simp only [Act.put, List.setIfInBounds_toArray, List.set_cons_zero, List.set_cons_succ]
        refine wpAnyH_take (i := 17) (v := ?_) (by simp only [List.getElem?_toArray, List.getElem?_cons_succ, List.getElem?_cons_zero]; rfl) (by kernel_rfl) (by kernel_rfl) (by kernel_rfl) (fun _ _ _ h => h) (Or.inl ⟨by rfl, ?_⟩) (by assumption) ?_
        rotate_left
        · intro w hSw; (try dsimp only at hSw); go_simp; first | done | with_reducible rfl
        try simp only [Act.put, List.setIfInBounds_toArray, List.set_cons_zero, List.set_cons_succ]
        refine wpAnyH_ready (rs := [6]) (by kernel_rfl) (by simp) ?_
        refine AllReadyH.cons (by simp only [List.getElem?_toArray, List.getElem?_cons_succ, List.getElem?_cons_zero]; rfl) (fun K hK => ?_) AllReadyH.nil
        go_simp
        refine (rmid_any x.a x.b _).mono ?_
        rintro e w2 ⟨rfl, hb2⟩
        have hB2 := ext_trans (ext_drew hb) hb2
        have HO2 := Lib.hid (owns_ext (owns_ext HO.out (ext_drew (ext_refl _))) hb2)
        have hz2' := hb2.size
        have hz2w : wr.heap.size ≤ w2.heap.size := hz2'
        go_wp2_with fail
        refine hK.out _ _ ?_ (fun hHeld => ?_)
        · exact Six.step hHeld hb2 (show b < wr.drew.heap.size by first | omega | exact (show b < wr.heap.size by omega))
        clear hK K hb2 HO hb
        try simp only [Act.put, List.setIfInBounds_toArray, List.set_cons_zero, List.set_cons_succ]
        refine wpAnyH_ready (rs := [12]) (by kernel_rfl) (by simp) ?_
        refine AllReadyH.cons (by simp only [List.getElem?_toArray, List.getElem?_cons_succ, List.getElem?_cons_zero]; rfl) (fun K hK => ?_) AllReadyH.nil
        go_simp
        refine (rmid_any x.c x.d _).mono ?_
        rintro e w3 ⟨rfl, hb3⟩
        have hB3 := ext_trans hB2 hb3
        have HO3 := Lib.hid (owns_ext HO2.out hb3)
        have hz3' := hb3.size
        go_wp2_with fail
        refine hK.out _ _ ?_ (fun hHeld => ?_)
        · exact Six.step hHeld hb3 (show b < w2.heap.size by first | omega | exact (show b < wr.heap.size by omega))
        clear hK K hb3 HO2 hB2
        try simp only [Act.put, List.setIfInBounds_toArray, List.set_cons_zero, List.set_cons_succ]
        refine wpAnyH_ready (rs := [18]) (by kernel_rfl) (by simp) ?_
        refine AllReadyH.cons (by simp only [List.getElem?_toArray, List.getElem?_cons_succ, List.getElem?_cons_zero]; rfl) (fun K hK => ?_) AllReadyH.nil
        go_simp
        refine (rmid_any x.e x.f _).mono ?_
        rintro e w4 ⟨rfl, hb4⟩
        have hB4 := ext_trans hB3 hb4
        have HO4 := Lib.hid (owns_ext HO3.out hb4)
        have hz4' := hb4.size
        go_wp2_with fail
        refine hK.out _ _ ?_ (fun hHeld => ?_)
        · exact Six.step hHeld hb4 (show b < w3.heap.size by first | omega | exact (show b < wr.heap.size by omega))
        clear hK K hb4 HO3 hB3
        try simp only [Act.put, List.setIfInBounds_toArray, List.set_cons_zero, List.set_cons_succ]
        have G0 : Hid (Fx.ctrAt L (i * 3 + 0) = Fx.mid x.a x.b) := HF0
        have G1 : Hid (Fx.ctrAt L (i * 3 + 1) = Fx.mid x.c x.d) := HF1
        have G2 : Hid (Fx.ctrAt L (i * 3 + 2) = Fx.mid x.e x.f) := HF2
        clear HF0 HF1 HF2
        generalize Fx.mid x.a x.b = y0 at *
        generalize Fx.mid x.c x.d = y1 at *
        generalize Fx.mid x.e x.f = y2 at *
        refine wpAnyH_take (i := 19) (v := ?_) (by simp only [List.getElem?_toArray, List.getElem?_cons_succ, List.getElem?_cons_zero]; rfl) (by kernel_rfl) (by kernel_rfl) (by kernel_rfl) (fun _ _ _ h => h) (Or.inl ⟨by rfl, ?_⟩) (by assumption) ?_
        rotate_left
        · intro w hSw; (try dsimp only at hSw); go_simp; first | done | with_reducible rfl
        try simp only [Act.put, List.setIfInBounds_toArray, List.set_cons_zero, List.set_cons_succ]
        refine wpAnyH_ready (rs := [20]) (by kernel_rfl) (by simp) ?_
        refine AllReadyH.cons (by simp only [List.getElem?_toArray, List.getElem?_cons_succ, List.getElem?_cons_zero]; rfl) (fun K hK => ?_) AllReadyH.nil
        go_simp
        refine hK.out _ _ ?_ (fun hHeld => ?_)
        · exact Six.step hHeld (ext_alloc (ext_refl w4) _) (show b < w4.heap.size by omega)
        clear hK K
        try simp only [Act.put, List.setIfInBounds_toArray, List.set_cons_zero, List.set_cons_succ]
        have hww4 := hB4.size
        refine wpAnyH_ready (rs := [21]) (by kernel_rfl) (by simp) ?_
        refine AllReadyH.cons (by simp only [List.getElem?_toArray, List.getElem?_cons_succ, List.getElem?_cons_zero]; rfl) (fun K hK => ?_) AllReadyH.nil
        refine step_append_lies _ (by rfl) _ _ _ (by rfl) w.heap.size 66 i0 _ 3 24 Try.underlying46 hi hz0 hz1 hz2 rfl (by omega) u3 i (rowTo (Fx.ctrAt L) (i * 3) (i * 3)) (by rfl) (HO4.out.alloc _) ⟨w4.heap.size, 0, none⟩ 1 1 [.int .i64 y0, .int .i64 y1, .int .i64 y2] (by rfl) (by rfl) (World.news_of_block (cs := #[.int .i64 y0, .int .i64 y1, .int .i64 y2]) (t := 66) (fr := (0, 0)) (heap_alloc_new w4 _)) (by simp [Value.oneCell']) (by omega) (by unfold maxLen; omega) (by omega) (by simp; omega) (w4.heap.size + 1) (by simp) ?_
        intro g' cap w5 hown5 hgrow hat hlt5
        have hb5 : Below w.heap.size w w5 := (ext_alloc hB4 _).grown hgrow (by simp; omega) (fun k e => by have := (HO4.out.lt k e).1; omega)
        have hnext : w5.ownsRow w.heap.size 66 3 (.slice (some ⟨g', 0, none⟩) (i + 1) cap) (i + 1) (rowTo (Fx.ctrAt L) ((i + 1) * 3) ((i + 1) * 3)) := by
          rw [rowTo_snoc3, G0.out, G1.out, G2.out]; exact hown5
        have HN := Lib.hid hnext
        have hS5 : Six b (o + i * 6) x w5 := Six.step hHeld ((Below.refl w.heap.size _).grown hgrow (by simp; omega) (fun k e => by have := (HO4.out.lt k e).1; omega)) hbw
        clear hnext hown5 hgrow hat hlt5 hHeld
        refine hK.out _ _ ?_ (fun hHeld => ?_)
        · exact hS5
        clear hK K hS5
        try simp only [Act.put, List.setIfInBounds_toArray, List.set_cons_zero, List.set_cons_succ]
        refine wpAnyH_take (i := 22) (v := ?_) (by simp only [List.getElem?_toArray, List.getElem?_cons_succ, List.getElem?_cons_zero]; rfl) (by kernel_rfl) (by kernel_rfl) (by kernel_rfl) (fun _ _ _ h => h) (Or.inl ⟨by rfl, ?_⟩) (by assumption) ?_
        rotate_left
        · intro w hSw; (try dsimp only at hSw); go_simp; first | done | with_reducible rfl
        try simp only [Act.put, List.setIfInBounds_toArray, List.set_cons_zero, List.set_cons_succ]
        refine wpAnyH_done (by kernel_rfl) ?_ _
        refine NoPanic.normal ?_
        clear hHeld
        go_wp2_with fail
        go_roundw
        case rel => exact ⟨i + 1, by omega, by go_num, HN.out, hb5⟩
        case measure => simp [intOf]; omega
      · obtain rfl : i = L.length := by omega
        have hd : decide ((L.length : Int) < (L.length : Int)) = false := by simp
        have HO := Lib.hid (PSl.of_row hO (by omega))
        clear hO
        go_wp2_with fail
        go_ret
        exact ⟨_, rfl, HO.out, hb⟩
  · have hp : Fx.placedB L = false := by simpa using hp
    rw [Fx.centers_no hp]
    have HP := Lib.hid hp
    clear hp hI'
    go_enter Try.func39, Try.ntmps39
    go_wp2_with fail
    refine (rplaced_no _ L _ HI.out HP.out).mono ?_
    rintro e w1 ⟨rfl, hb1⟩
    go_wp2_with fail
    go_ret
    exact ⟨_, rfl, PSl.nil _ _ _, hb1⟩
end Go.Proofs.Ytgnjconhbloocaa

namespace Go.Proofs.Ytgnjconhbloocaa
open Go.RowKit
set_option linter.unusedVariables false

theorem cells_i64 : Try.prog.cellsOf 2 = 1 := by kernel_rfl
theorem eq_i64 (d : Nat) (a : Int) (w : World) : (Op.equalIn (d + 2) 2 (.int .i64 a) (.int .i64 a)).run Try.prog w = .ok true w := by
  simp [go_sem]

@[go_sem] theorem eq_vec (a b c : Int) (w : World) : (Op.equalIn 10000 66 (.agg #[.int .i64 a, .int .i64 b, .int .i64 c]) (.agg #[.int .i64 a, .int .i64 b, .int .i64 c])).run Try.prog w = .ok true w := by
  obtain ⟨i0, hi, _⟩ := info_parts info_int64'
  have p0 : (part 2 #[.int .i64 a, .int .i64 b, .int .i64 c] (0 * 1)).run Try.prog w = .ok (.int .i64 a) w := by kernel_rfl
  have p1 : (part 2 #[.int .i64 a, .int .i64 b, .int .i64 c] (1 * 1)).run Try.prog w = .ok (.int .i64 b) w := by kernel_rfl
  have p2 : (part 2 #[.int .i64 a, .int .i64 b, .int .i64 c] (2 * 1)).run Try.prog w = .ok (.int .i64 c) w := by kernel_rfl
  rw [run_equalIn_array w 9999 _ _ Try.underlying66 hi, cells_i64, show List.range 3 = [0, 1, 2] from rfl]
  simp only [Op.eqItems, Sem.run_bind, p0, p1, p2, eq_i64 9997, Result.andThen_ok, Bool.not_true, Bool.false_eq_true, if_false, Sem.run_pure]

set_option maxRecDepth 100000 in
set_option maxHeartbeats 1000000 in
theorem samevec_any (v u : Value) (P : List (Int × Int × Int)) (w : World) (hv : PSl w v P) (hu : PSl w u P) :
    Calls Try.prog 37 #[v, u] w fun e w' => e = .returned (.bool true) ∧ Below w.heap.size w w' := by
  obtain ⟨a, c, rfl, hl, h⟩ := hv
  obtain ⟨a2, c2, rfl, _, h2⟩ := hu
  have H := Lib.hid h; have H2 := Lib.hid h2
  clear h h2
  go_enter Try.func37, Try.ntmps37
  go_wp2_with fail
  go_loopw [5] (fun jv wr => ∃ k : Nat, k ≤ P.length ∧ jv = .int .i64 k ∧ Below w.heap.size w wr) (fun jv _ => P.length - (intOf jv).toNat)
  case atStart => exact ⟨0, by omega, by go_num, ext_refl _⟩
  case round =>
    obtain ⟨k, hk, rfl, hb⟩ := hrel
    by_cases hlt : k < P.length
    · obtain ⟨b, o, rfl, hbw, hc⟩ := H.out (by omega)
      obtain ⟨b2, o2, rfl, hbw2, hc2⟩ := H2.out (by omega)
      obtain ⟨q0, q1, q2⟩ := hc k hlt
      obtain ⟨r0, r1, r2⟩ := hc2 k hlt
      have d0 := (hb.cell (p := ⟨b, o + k * 3, none⟩) hbw).trans q0
      have d1 := (hb.cell (p := ⟨b, o + k * 3 + 1, none⟩) hbw).trans q1
      have d2 := (hb.cell (p := ⟨b, o + k * 3 + 2, none⟩) hbw).trans q2
      have f0 := (hb.cell (p := ⟨b2, o2 + k * 3, none⟩) hbw2).trans r0
      have f1 := (hb.cell (p := ⟨b2, o2 + k * 3 + 1, none⟩) hbw2).trans r1
      have f2 := (hb.cell (p := ⟨b2, o2 + k * 3 + 2, none⟩) hbw2).trans r2
      have hd : decide ((k : Int) < (P.length : Int)) = true := by simp; omega
      have k0 : (0 : Int) ≤ (k : Int) := by omega
      have k1 : (k : Int) < (P.length : Int) := by omega
      clear hc hc2 q0 q1 q2 r0 r1 r2
      generalize (P.getD k (0, 0, 0)).1 = x at *
      generalize (P.getD k (0, 0, 0)).2.1 = y at *
      generalize (P.getD k (0, 0, 0)).2.2 = z at *
      go_wp2_with fail
      go_quiet (fail)
      go_wp2_with fail
      go_roundw
      case rel => exact ⟨k + 1, by omega, by go_num, ext_drewN hb _⟩
      case measure => simp [intOf]; omega
    · obtain rfl : k = P.length := by omega
      go_wp2_with fail
      go_ret
      exact ⟨rfl, hb⟩

set_option maxRecDepth 100000 in
set_option maxHeartbeats 1000000 in
theorem sameivec_any (v u : Value) (L : List Fx.V3) (w : World) (hv : VSl w v L) (hu : VSl w u L) :
    Calls Try.prog 45 #[v, u] w fun e w' => e = .returned (.bool true) ∧ Below w.heap.size w w' := by
  obtain ⟨a, c, rfl, hl, h⟩ := hv
  obtain ⟨a2, c2, rfl, _, h2⟩ := hu
  have H := Lib.hid h; have H2 := Lib.hid h2
  clear h h2
  go_enter Try.func45, Try.ntmps45
  go_wp2_with fail
  go_loopw [5] (fun jv wr => ∃ k : Nat, k ≤ L.length ∧ jv = .int .i64 k ∧ Below w.heap.size w wr) (fun jv _ => L.length - (intOf jv).toNat)
  case atStart => exact ⟨0, by omega, by go_num, ext_refl _⟩
  case round =>
    obtain ⟨k, hk, rfl, hb⟩ := hrel
    by_cases hlt : k < L.length
    · obtain ⟨b, o, rfl, hJ⟩ := H.out (by omega)
      obtain ⟨b2, o2, rfl, hJ2⟩ := H2.out (by omega)
      obtain ⟨c0, c1, c2, c3, c4, c5⟩ := (hJ.ext hb).at_ k hlt
      obtain ⟨f0, f1, f2, f3, f4, f5⟩ := (hJ2.ext hb).at_ k hlt
      have hd : decide ((k : Int) < (L.length : Int)) = true := by simp; omega
      have k0 : (0 : Int) ≤ (k : Int) := by omega
      have k1 : (k : Int) < (L.length : Int) := by omega
      clear hJ hJ2
      generalize L.getD k Fx.V3.zero = x at *
      go_wp2_with fail
      go_quiet (fail)
      go_wp2_with fail
      go_roundw
      case rel => exact ⟨k + 1, by omega, by go_num, ext_drewN hb _⟩
      case measure => simp [intOf]; omega
    · obtain rfl : k = L.length := by omega
      go_wp2_with fail
      go_ret
      exact ⟨rfl, hb⟩
end Go.Proofs.Ytgnjconhbloocaa

namespace Go.Proofs.Ytgnjconhbloocaa
open Go.RowKit
set_option linter.unusedVariables false

/-- What stays while a point is placed. -/
abbrev KeepL (w : World) (s : Value) (lk r : Int) (p : Fx.Ps) (w' : World) : Prop :=
  w'.cell? ⟨w.heap.size, 2, none⟩ = some s ∧ Whole w' w.heap.size 48 #[.int .i64 lk, .int .i64 r, s] ∧ Whole w' (w.heap.size + 1) 52 p.arr ∧ Below w.heap.size w w'
theorem KeepL.step {w : World} {s : Value} {lk r : Int} {p : Fx.Ps} {w1 w2 : World} (h : KeepL w s lk r p w1) (hb : Below w1.heap.size w1 w2) : KeepL w s lk r p w2 :=
  ⟨(h.2.1.ext hb).cell 2, h.2.1.ext hb, h.2.2.1.ext hb, ext_trans h.2.2.2 hb⟩
theorem KeepL.grow {w : World} {s : Value} {lk r : Int} {p : Fx.Ps} {w1 w2 : World} {row : Option Nat} (h : KeepL w s lk r p w1) (hg : w1.grownBy w2 row) (h0 : some w.heap.size ≠ row) (h1 : some (w.heap.size + 1) ≠ row) (hr : ∀ k, row = some k → w.heap.size ≤ k) : KeepL w s lk r p w2 :=
  ⟨(h.2.1.grown hg h0).cell 2, h.2.1.grown hg h0, h.2.2.1.grown hg h1, h.2.2.2.grown hg h.2.2.2.size hr⟩
theorem pt_range {w : World} {b o : Nat} {x y z : Int} (h0 : w.cell? ⟨b, o, none⟩ = some (.int .i64 x)) (h1 : w.cell? ⟨b, o + 1, none⟩ = some (.int .i64 y)) (h2 : w.cell? ⟨b, o + 2, none⟩ = some (.int .i64 z)) : w.rangeAt b o [.int .i64 x, .int .i64 y, .int .i64 z] := fun j v hj => by
  match j, hj with
  | 0, hj => rw [← hj]; exact h0
  | 1, hj => rw [← hj]; exact h1
  | 2, hj => rw [← hj]; exact h2
  | n + 3, hj => simp at hj
theorem vCells_take (p : Fx.Ps) (P : List (Int × Int × Int)) (k : Nat) (hk : k < P.length) : vCells ((P.take (k + 1)).map (Fx.placePt p)) = vCells ((P.take k).map (Fx.placePt p)) ++ (Fx.placePt p (P.getD k (0, 0, 0))).cells := by
  rw [List.take_add_one, List.map_append, List.getD_eq_getElem?_getD, List.getElem?_eq_getElem hk]
  simp [vCells]

set_option maxRecDepth 100000 in
set_option maxHeartbeats 2000000 in
theorem rplace_any (lk r : Int) (v : Value) (P : List (Int × Int × Int)) (p : Fx.Ps) (w : World) (hP : PSl w v P) :
    Calls Try.prog 46 #[.agg #[.int .i64 lk, .int .i64 r, v], .agg p.arr] w (GivesV (Fx.placeL r P p) w) := by
  have HP := Lib.hid hP
  obtain ⟨a, c, rfl, hl, _⟩ := hP
  by_cases hk : Fx.shapeOk r P = true
  · rw [Fx.placeL_yes hk]
    have hlen := Fx.shapeOk_len hk
    have HK := Lib.hid hk
    clear hk
    obtain ⟨i0, hi, hz0, hz1, hz2⟩ := info_parts info_ivec
    go_enter Try.func46, Try.ntmps46
    go_wp2_with fail
    have h2 := blocks2 w 48 52 #[.int .i64 lk, .int .i64 r, .slice a P.length c] p.arr
    generalize (w.alloc (.cells #[.int .i64 lk, .int .i64 r, .slice a P.length c] 48)).alloc (.cells p.arr 52) = w0 at *
    obtain ⟨hA, hB, hb⟩ := h2
    have HK0 : Hid (KeepL w (.slice a P.length c) lk r p w0) := Lib.hid ⟨hA.cell 2, hA, hB, hb⟩
    clear hA hB
    refine (rcheck_any lk r _ P _ (HP.out.ext hb)).mono ?_
    rintro e w1 ⟨rfl, hb1⟩
    rw [HK.out]
    have HK1 := Lib.hid (HK0.out.step hb1)
    clear hb hb1 HK0 HK
    go_wp2_with fail
    go_loopw [5, 6] (fun ov iv wr => ∃ k : Nat, k ≤ P.length ∧ iv = .int .i64 k ∧ wr.ownsRow (w.heap.size + 1 + 1) 34 6 ov k (vCells ((P.take k).map (Fx.placePt p))) ∧ Hid (KeepL w (.slice a P.length c) lk r p wr)) (fun _ iv _ => P.length - (intOf iv).toNat)
    case atStart => exact ⟨0, by omega, by go_num, World.ownsRow_nil _ _ _ _, HK1⟩
    case round =>
      obtain ⟨k, hk, rfl, hO, hKp⟩ := hrel
      clear HK1
      have HO := Lib.hid hO
      clear hO
      have s2 := hKp.out.1
      have hb := hKp.out.2.2.2
      by_cases hlt : k < P.length
      · obtain ⟨b, o, rfl, hbw, c0, c1, c2⟩ := HP.out.at_ hb k hlt
        have HR := Lib.hid (pt_range c0 c1 c2)
        have HE := Lib.hid (vCells_take p P k hlt)
        generalize P.getD k (0, 0, 0) = q at *
        obtain ⟨x, y, z⟩ := q
        dsimp only at HR HE
        have hd : decide ((k : Int) < (P.length : Int)) = true := by simp; omega
        have k0 : (0 : Int) ≤ (k : Int) := by omega
        have k1 : (k : Int) < (P.length : Int) := by omega
        have hzz := hKp.out.2.2.1.lt
        clear c0 c1 c2
        go_wp2_with fail
        have HRw : Hid (∀ w', Below w.heap.size w w' → w'.rangeAt b (o + k * 3) [.int .i64 x, .int .i64 y, .int .i64 z]) := Lib.hid (fun w' h => fun j v hj => ((h.cell (p := ⟨b, _, none⟩) hbw).trans ((hb.cell (p := ⟨b, _, none⟩) hbw).symm.trans (HR.out j v hj))))
        clear HR
        refine wp_region_noPanic ?_
        refine wp_region_held_drew (S := (fun w' => w'.cell? ⟨w.heap.size, 2, none⟩ = some (.slice (some ⟨b, o, none⟩) P.length c) ∧ Whole w' w.heap.size 48 #[.int .i64 lk, .int .i64 r, .slice (some ⟨b, o, none⟩) P.length c] ∧ Whole w' (w.heap.size + 1) 52 p.arr ∧ Below w.heap.size w w')) (by kernel_rfl) ?_ (fun hHeld => ?_)
        · exact hKp.out.step (ext_drew (ext_refl _))
        refine wpAnyH_take (i := 0) (v := ?_) (by simp only [List.getElem?_toArray, List.getElem?_cons_succ, List.getElem?_cons_zero]; rfl) (by kernel_rfl) (by kernel_rfl) (by kernel_rfl) (fun _ _ _ h => h) (Or.inl ⟨by rfl, ?_⟩) (by assumption) ?_
        rotate_left
        · intro w hSw; (try dsimp only at hSw); go_simp; first | done | with_reducible rfl
        try simp only [Act.put, List.setIfInBounds_toArray, List.set_cons_zero, List.set_cons_succ]
        refine wpAnyH_take (i := 1) (by simp only [List.getElem?_toArray, List.getElem?_cons_succ, List.getElem?_cons_zero]; rfl) (by kernel_rfl) (by kernel_rfl) (by kernel_rfl) (fun _ _ _ h => h) (yieldsIf_load_mid (by rfl) _ _ rfl (w.heap.size + 1) (0) (by rfl) p.arr.toList _ (fun w' h => h.2.2.1.all) Try.underlying52 rfl (by kernel_rfl)) (by assumption) ?_
        try simp only [Act.put, List.setIfInBounds_toArray, List.set_cons_zero, List.set_cons_succ]
        refine wpAnyH_take (i := 2) (v := ?_) (by simp only [List.getElem?_toArray, List.getElem?_cons_succ, List.getElem?_cons_zero]; rfl) (by kernel_rfl) (by kernel_rfl) (by kernel_rfl) (fun _ _ _ h => h) (Or.inl ⟨by rfl, ?_⟩) (by assumption) ?_
        rotate_left
        · intro w hSw; (try dsimp only at hSw); go_simp; first | done | with_reducible rfl
        try simp only [Act.put, List.setIfInBounds_toArray, List.set_cons_zero, List.set_cons_succ]
        refine wpAnyH_take (i := 3) (v := ?_) (by simp only [List.getElem?_toArray, List.getElem?_cons_succ, List.getElem?_cons_zero]; rfl) (by kernel_rfl) (by kernel_rfl) (by kernel_rfl) (fun _ _ _ h => h) (Or.inl ⟨by rfl, ?_⟩) (by assumption) ?_
        rotate_left
        · intro w hSw; (try dsimp only at hSw); go_simp; first | done | with_reducible rfl
        try simp only [Act.put, List.setIfInBounds_toArray, List.set_cons_zero, List.set_cons_succ]
        refine wpAnyH_take (i := 4) (v := ?_) (by simp only [List.getElem?_toArray, List.getElem?_cons_succ, List.getElem?_cons_zero]; rfl) (by kernel_rfl) (by kernel_rfl) (by kernel_rfl) (fun _ _ _ h => h) (Or.inl ⟨by rfl, ?_⟩) (by assumption) ?_
        rotate_left
        · intro w hSw; (try dsimp only at hSw); go_simp; first | done | with_reducible rfl
        try simp only [Act.put, List.setIfInBounds_toArray, List.set_cons_zero, List.set_cons_succ]
        refine wpAnyH_take (i := 5) (v := ?_) (by simp only [List.getElem?_toArray, List.getElem?_cons_succ, List.getElem?_cons_zero]; rfl) (by kernel_rfl) (by kernel_rfl) (by kernel_rfl) (fun _ _ _ h => h) (Or.inl ⟨by rfl, ?_⟩) (by assumption) ?_
        rotate_left
        · intro w hSw; (try dsimp only at hSw); go_simp; first | done | with_reducible rfl
        try simp only [Act.put, List.setIfInBounds_toArray, List.set_cons_zero, List.set_cons_succ]
        refine wpAnyH_take (i := 6) (by simp only [List.getElem?_toArray, List.getElem?_cons_succ, List.getElem?_cons_zero]; rfl) (by kernel_rfl) (by kernel_rfl) (by kernel_rfl) (fun _ _ _ h => h) (yieldsIf_load_mid (by rfl) _ _ rfl b (o + k * 3) (by rfl) [.int .i64 x, .int .i64 y, .int .i64 z] _ (fun w' h => HRw.out w' h.2.2.2) Try.underlying66 rfl (by kernel_rfl)) (by assumption) ?_
        try simp only [Act.put, List.setIfInBounds_toArray, List.set_cons_zero, List.set_cons_succ]
        refine wpAnyH_ready (rs := [7]) (by kernel_rfl) (by simp) ?_
        refine AllReadyH.cons (by simp only [List.getElem?_toArray, List.getElem?_cons_succ, List.getElem?_cons_zero]; rfl) (fun K hK => ?_) AllReadyH.nil
        go_simp
        refine (rpoint_any x y z _).mono ?_
        rintro e w2 ⟨rfl, hb2⟩
        have HO2 := Lib.hid (owns_ext (owns_ext HO.out (ext_drew (ext_refl _))) hb2)
        go_wp2_with fail
        refine hK.out _ _ ?_ (fun hHeld => ?_)
        · exact KeepL.step hHeld hb2
        clear hK K hb2 HO hKp s2 hb
        try simp only [Act.put, List.setIfInBounds_toArray, List.set_cons_zero, List.set_cons_succ]
        refine wpAnyH_ready (rs := [8]) (by kernel_rfl) (by simp) ?_
        refine AllReadyH.cons (by simp only [List.getElem?_toArray, List.getElem?_cons_succ, List.getElem?_cons_zero]; rfl) (fun K hK => ?_) AllReadyH.nil
        go_simp
        refine (rapply_any p (Fx.ofV x y z) _).mono ?_
        rintro e w3 ⟨rfl, hb3⟩
        have HO3 := Lib.hid (owns_ext HO2.out hb3)
        go_wp2_with fail
        refine hK.out _ _ ?_ (fun hHeld => ?_)
        · exact KeepL.step hHeld hb3
        clear hK K hb3 HO2
        try simp only [Act.put, List.setIfInBounds_toArray, List.set_cons_zero, List.set_cons_succ]
        have hqq : Fx.applyP p (Fx.ofV x y z) = Fx.placePt p (x, y, z) := rfl
        rw [hqq]
        clear hqq
        generalize Fx.placePt p (x, y, z) = u at *
        unfold Fx.V3.arr
        refine wpAnyH_ready (rs := [9]) (by kernel_rfl) (by simp) ?_
        refine AllReadyH.cons (by simp only [List.getElem?_toArray, List.getElem?_cons_succ, List.getElem?_cons_zero]; rfl) (fun K hK => ?_) AllReadyH.nil
        go_simp
        refine hK.out _ _ ?_ (fun hHeld => ?_)
        · exact KeepL.step hHeld (ext_alloc (ext_refl w3) _)
        clear hK K
        try simp only [Act.put, List.setIfInBounds_toArray, List.set_cons_zero, List.set_cons_succ]
        have hww4 := hHeld.2.2.2.size
        have hgp : w.heap.size + 1 < w3.heap.size + 1 := by have h := hHeld.2.2.1.lt; simpa using h
        refine wpAnyH_ready (rs := [10]) (by kernel_rfl) (by simp) ?_
        refine AllReadyH.cons (by simp only [List.getElem?_toArray, List.getElem?_cons_succ, List.getElem?_cons_zero]; rfl) (fun K hK => ?_) AllReadyH.nil
        refine step_append_lies _ (by rfl) _ _ _ (by rfl) (w.heap.size + 1 + 1) 34 i0 _ 6 48 Try.underlying22 hi hz0 hz1 hz2 rfl (by omega) u5 k (vCells ((P.take k).map (Fx.placePt p))) (by rfl) (HO3.out.alloc _) ⟨w3.heap.size, 0, none⟩ 1 1 u.cells (by rfl) (by rfl) (World.news_of_block (cs := #[.int .i64 u.a, .int .i64 u.b, .int .i64 u.c, .int .i64 u.d, .int .i64 u.e, .int .i64 u.f]) (t := 34) (fr := (0, 0)) (heap_alloc_new w3 _)) (by simp [Fx.V3.cells, Value.oneCell']) (by omega) (by unfold maxLen; omega) (by omega) (by simp; omega) (w3.heap.size + 1) (by simp) ?_
        intro g' cap w5 hown5 hgrow hat hlt5
        have hnext : w5.ownsRow (w.heap.size + 1 + 1) 34 6 (.slice (some ⟨g', 0, none⟩) (k + 1) cap) (k + 1) (vCells ((P.take (k + 1)).map (Fx.placePt p))) := by
          rw [HE.out]; exact hown5
        have HN := Lib.hid hnext
        have HK5 := Lib.hid (KeepL.grow hHeld hgrow (fun e => by have := (HO3.out.lt _ e.symm).1; omega) (fun e => by have := (HO3.out.lt _ e.symm).1; omega) (fun m e => by have := (HO3.out.lt m e).1; omega))
        clear hnext hown5 hgrow hat hlt5 hHeld HO3
        refine hK.out _ _ ?_ (fun hHeld => ?_)
        · exact HK5.out
        clear hK K
        try simp only [Act.put, List.setIfInBounds_toArray, List.set_cons_zero, List.set_cons_succ]
        refine wpAnyH_take (i := 11) (v := ?_) (by simp only [List.getElem?_toArray, List.getElem?_cons_succ, List.getElem?_cons_zero]; rfl) (by kernel_rfl) (by kernel_rfl) (by kernel_rfl) (fun _ _ _ h => h) (Or.inl ⟨by rfl, ?_⟩) (by assumption) ?_
        rotate_left
        · intro w hSw; (try dsimp only at hSw); go_simp; first | done | with_reducible rfl
        try simp only [Act.put, List.setIfInBounds_toArray, List.set_cons_zero, List.set_cons_succ]
        refine wpAnyH_done (by kernel_rfl) ?_ _
        refine NoPanic.normal ?_
        clear hHeld
        go_wp2_with fail
        go_roundw
        case rel => exact ⟨k + 1, by omega, by go_num, HN.out, HK5⟩
        case measure => simp [intOf]; omega
      · obtain rfl : k = P.length := by omega
        have hd : decide ((P.length : Int) < (P.length : Int)) = false := by simp
        have hVf : VSl wr u5 (P.map (Fx.placePt p)) := by
          have h := HO.out
          rw [List.take_length] at h
          exact VSl.of_owns (L := P.map (Fx.placePt p)) (by rw [List.length_map]; exact h) (by rw [List.length_map]; omega)
        have HF := Lib.hid hVf
        clear hVf HO
        go_wp2_with fail
        go_ret
        exact ⟨_, rfl, HF.out, hb⟩
  · have hk : Fx.shapeOk r P = false := by simpa using hk
    rw [Fx.placeL_no hk]
    have HK := Lib.hid hk
    clear hk
    go_enter Try.func46, Try.ntmps46
    go_wp2_with fail
    refine (rcheck_any lk r _ P _ (HP.out.ext (ext_alloc (ext_alloc (ext_refl _) _) _))).mono ?_
    rintro e w1 ⟨rfl, hb1⟩
    rw [HK.out]
    go_wp2_with fail
    go_ret
    exact ⟨_, rfl, VSl.nil _ _ _, ext_trans (ext_alloc (ext_alloc (ext_refl _) _) _) hb1⟩

set_option maxRecDepth 100000 in
set_option maxHeartbeats 2000000 in
theorem places_any (lk r : Int) (v : Value) (P : List (Int × Int × Int)) (p : Fx.Ps) (w : World) (hP : PSl w v P) :
    Calls Try.prog 23 #[.agg #[.int .i64 lk, .int .i64 r, v], .agg p.arr] w fun e w' => e = .returned (.bool true) ∧ Below w.heap.size w w' := by
  have HP := Lib.hid hP
  obtain ⟨a, c, rfl, hl, _⟩ := hP
  go_enter Try.func23, Try.ntmps23
  go_wp2_with fail
  have h2 := blocks2 w 48 52 #[.int .i64 lk, .int .i64 r, .slice a P.length c] p.arr
  generalize (w.alloc (.cells #[.int .i64 lk, .int .i64 r, .slice a P.length c] 48)).alloc (.cells p.arr 52) = w0 at *
  obtain ⟨hA, hB, hb⟩ := h2
  have HA := Lib.hid hA; have HB := Lib.hid hB
  have HP0 := Lib.hid (HP.out.ext hb)
  clear hA hB HP
  refine wp_region_noPanic ?_
  refine wp_region_held_drew (S := (fun w' => Below w0.heap.size w0 w')) (by kernel_rfl) ?_ (fun hHeld => ?_)
  · exact ext_drew (ext_refl _)
  refine wpAnyH_take (i := 0) (by simp only [List.getElem?_toArray, List.getElem?_cons_succ, List.getElem?_cons_zero]; rfl) (by kernel_rfl) (by kernel_rfl) (by kernel_rfl) (fun _ _ _ h => h) (yieldsIf_load_mid (by rfl) _ _ rfl w.heap.size (0) (by rfl) [.int .i64 lk, .int .i64 r, .slice a P.length c] _ (fun w' h => range_ext HA.out.all h HA.out.lt) Try.underlying48 rfl (by kernel_rfl)) (by assumption) ?_
  try simp only [Act.put, List.setIfInBounds_toArray, List.set_cons_zero, List.set_cons_succ]
  refine wpAnyH_take (i := 2) (by simp only [List.getElem?_toArray, List.getElem?_cons_succ, List.getElem?_cons_zero]; rfl) (by kernel_rfl) (by kernel_rfl) (by kernel_rfl) (fun _ _ _ h => h) (yieldsIf_load_mid (by rfl) _ _ rfl w.heap.size (0) (by rfl) [.int .i64 lk, .int .i64 r, .slice a P.length c] _ (fun w' h => range_ext HA.out.all h HA.out.lt) Try.underlying48 rfl (by kernel_rfl)) (by assumption) ?_
  try simp only [Act.put, List.setIfInBounds_toArray, List.set_cons_zero, List.set_cons_succ]
  refine wpAnyH_ready (rs := [1]) (by kernel_rfl) (by simp) ?_
  refine AllReadyH.cons (by simp only [List.getElem?_toArray, List.getElem?_cons_succ, List.getElem?_cons_zero]; rfl) (fun K hK => ?_) AllReadyH.nil
  go_simp
  refine (check_any lk r _ P _ (HP0.out.ext hHeld)).mono ?_
  rintro e w_1 ⟨rfl, hb_1⟩
  have hHeld' := ext_trans hHeld hb_1
  clear hHeld hb_1
  go_wp2_with fail
  refine hK.out _ _ hHeld' (fun hHeld => ?_)
  clear hK K hHeld'
  try simp only [Act.put, List.setIfInBounds_toArray, List.set_cons_zero, List.set_cons_succ]
  refine wpAnyH_ready (rs := [3]) (by kernel_rfl) (by simp) ?_
  refine AllReadyH.cons (by simp only [List.getElem?_toArray, List.getElem?_cons_succ, List.getElem?_cons_zero]; rfl) (fun K hK => ?_) AllReadyH.nil
  go_simp
  refine (rcheck_any lk r _ P _ (HP0.out.ext hHeld)).mono ?_
  rintro e w_3 ⟨rfl, hb_3⟩
  have hHeld' := ext_trans hHeld hb_3
  clear hHeld hb_3
  go_wp2_with fail
  refine hK.out _ _ hHeld' (fun hHeld => ?_)
  clear hK K hHeld'
  try simp only [Act.put, List.setIfInBounds_toArray, List.set_cons_zero, List.set_cons_succ]
  generalize Fx.shapeOk r P = sk at *
  refine wpAnyH_take (i := 4) (v := ?_) (by simp only [List.getElem?_toArray, List.getElem?_cons_succ, List.getElem?_cons_zero]; rfl) (by kernel_rfl) (by kernel_rfl) (by kernel_rfl) (fun _ _ _ h => h) (Or.inl ⟨by rfl, ?_⟩) (by assumption) ?_
  rotate_left
  · intro w hSw; (try dsimp only at hSw); go_simp; first | done | with_reducible rfl
  try simp only [Act.put, List.setIfInBounds_toArray, List.set_cons_zero, List.set_cons_succ]
  refine wpAnyH_take (i := 5) (v := ?_) (by simp only [List.getElem?_toArray, List.getElem?_cons_succ, List.getElem?_cons_zero]; rfl) (by kernel_rfl) (by kernel_rfl) (by kernel_rfl) (fun _ _ _ h => h) (Or.inl ⟨by rfl, ?_⟩) (by assumption) ?_
  rotate_left
  · intro w hSw; (try dsimp only at hSw); go_simp; first | done | with_reducible rfl
  try simp only [Act.put, List.setIfInBounds_toArray, List.set_cons_zero, List.set_cons_succ]
  refine wpAnyH_take (i := 6) (by simp only [List.getElem?_toArray, List.getElem?_cons_succ, List.getElem?_cons_zero]; rfl) (by kernel_rfl) (by kernel_rfl) (by kernel_rfl) (fun _ _ _ h => h) (yieldsIf_load_mid (by rfl) _ _ rfl w.heap.size (0) (by rfl) [.int .i64 lk, .int .i64 r, .slice a P.length c] _ (fun w' h => range_ext HA.out.all h HA.out.lt) Try.underlying48 rfl (by kernel_rfl)) (by assumption) ?_
  try simp only [Act.put, List.setIfInBounds_toArray, List.set_cons_zero, List.set_cons_succ]
  refine wpAnyH_take (i := 7) (by simp only [List.getElem?_toArray, List.getElem?_cons_succ, List.getElem?_cons_zero]; rfl) (by kernel_rfl) (by kernel_rfl) (by kernel_rfl) (fun _ _ _ h => h) (yieldsIf_load_mid (by rfl) _ _ rfl (w.heap.size + 1) (0) (by rfl) p.arr.toList _ (fun w' h => range_ext HB.out.all h HB.out.lt) Try.underlying52 rfl (by kernel_rfl)) (by assumption) ?_
  try simp only [Act.put, List.setIfInBounds_toArray, List.set_cons_zero, List.set_cons_succ]
  refine wpAnyH_take (i := 9) (by simp only [List.getElem?_toArray, List.getElem?_cons_succ, List.getElem?_cons_zero]; rfl) (by kernel_rfl) (by kernel_rfl) (by kernel_rfl) (fun _ _ _ h => h) (yieldsIf_load_mid (by rfl) _ _ rfl w.heap.size (0) (by rfl) [.int .i64 lk, .int .i64 r, .slice a P.length c] _ (fun w' h => range_ext HA.out.all h HA.out.lt) Try.underlying48 rfl (by kernel_rfl)) (by assumption) ?_
  try simp only [Act.put, List.setIfInBounds_toArray, List.set_cons_zero, List.set_cons_succ]
  refine wpAnyH_take (i := 10) (by simp only [List.getElem?_toArray, List.getElem?_cons_succ, List.getElem?_cons_zero]; rfl) (by kernel_rfl) (by kernel_rfl) (by kernel_rfl) (fun _ _ _ h => h) (yieldsIf_load_mid (by rfl) _ _ rfl (w.heap.size + 1) (0) (by rfl) p.arr.toList _ (fun w' h => range_ext HB.out.all h HB.out.lt) Try.underlying52 rfl (by kernel_rfl)) (by assumption) ?_
  try simp only [Act.put, List.setIfInBounds_toArray, List.set_cons_zero, List.set_cons_succ]
  refine wpAnyH_ready (rs := [8]) (by kernel_rfl) (by simp) ?_
  refine AllReadyH.cons (by simp only [List.getElem?_toArray, List.getElem?_cons_succ, List.getElem?_cons_zero]; rfl) (fun K hK => ?_) AllReadyH.nil
  go_simp
  refine (place_any lk r _ P p _ (HP0.out.ext hHeld)).mono ?_
  rintro e w5 h5
  obtain ⟨a5, c5, rfl, hp5, hb5⟩ := h5.form
  have HP5 := Lib.hid hp5
  have hHeld' := ext_trans hHeld hb5
  clear h5 hp5 hb5 hHeld
  go_wp2_with fail
  refine hK.out _ _ hHeld' (fun hHeld => ?_)
  clear hK K hHeld'
  try simp only [Act.put, List.setIfInBounds_toArray, List.set_cons_zero, List.set_cons_succ]
  refine wpAnyH_ready (rs := [11]) (by kernel_rfl) (by simp) ?_
  refine AllReadyH.cons (by simp only [List.getElem?_toArray, List.getElem?_cons_succ, List.getElem?_cons_zero]; rfl) (fun K hK => ?_) AllReadyH.nil
  go_simp
  refine (rplace_any lk r _ P p _ (HP0.out.ext hHeld)).mono ?_
  rintro e w6 h6
  obtain ⟨a6, c6, rfl, hp6, hb6⟩ := h6.form
  have HP6 := Lib.hid hp6
  have HP5' := Lib.hid (HP5.out.ext hb6)
  have hHeld' := ext_trans hHeld hb6
  clear h6 hp6 hb6 hHeld HP5
  go_wp2_with fail
  refine hK.out _ _ hHeld' (fun hHeld => ?_)
  clear hK K hHeld'
  try simp only [Act.put, List.setIfInBounds_toArray, List.set_cons_zero, List.set_cons_succ]
  refine wpAnyH_ready (rs := [12]) (by kernel_rfl) (by simp) ?_
  refine AllReadyH.cons (by simp only [List.getElem?_toArray, List.getElem?_cons_succ, List.getElem?_cons_zero]; rfl) (fun K hK => ?_) AllReadyH.nil
  go_simp
  refine (sameivec_any _ _ (Fx.placeL r P p) _ HP5'.out HP6.out).mono ?_
  rintro e w_12 ⟨rfl, hb_12⟩
  have hHeld' := ext_trans hHeld hb_12
  clear hHeld hb_12
  go_wp2_with fail
  refine hK.out _ _ hHeld' (fun hHeld => ?_)
  clear hK K hHeld'
  try simp only [Act.put, List.setIfInBounds_toArray, List.set_cons_zero, List.set_cons_succ]
  refine wpAnyH_take (i := 13) (v := ?_) (by simp only [List.getElem?_toArray, List.getElem?_cons_succ, List.getElem?_cons_zero]; rfl) (by kernel_rfl) (by kernel_rfl) (by kernel_rfl) (fun _ _ _ h => h) (Or.inl ⟨by rfl, ?_⟩) (by assumption) ?_
  rotate_left
  · intro w hSw; (try dsimp only at hSw); go_simp; first | done | with_reducible rfl
  try simp only [Act.put, List.setIfInBounds_toArray, List.set_cons_zero, List.set_cons_succ]
  refine wpAnyH_take (i := 14) (v := ?_) (by simp only [List.getElem?_toArray, List.getElem?_cons_succ, List.getElem?_cons_zero]; rfl) (by kernel_rfl) (by kernel_rfl) (by kernel_rfl) (fun _ _ _ h => h) (Or.inl ⟨by rfl, ?_⟩) (by assumption) ?_
  rotate_left
  · intro w hSw; (try dsimp only at hSw); go_simp; first | done | with_reducible rfl
  try simp only [Act.put, List.setIfInBounds_toArray, List.set_cons_zero, List.set_cons_succ]
  refine wpAnyH_done (by kernel_rfl) ?_ _
  refine NoPanic.normal ?_
  have hB7 := ext_trans hb hHeld
  clear hHeld
  go_wp2_with fail
  go_ret
  exact ⟨rfl, hB7⟩
end Go.Proofs.Ytgnjconhbloocaa

namespace Go.Proofs.Ytgnjconhbloocaa
open Go.RowKit
set_option linter.unusedVariables false

/-- Lower and upper bounds of the powers, from the first on. -/
def Fx.powA (a : Int) : Nat → Int
  | 0 => a
  | k + 1 => Fx.powA a k * a / 1073741824
def Fx.powB (b : Int) : Nat → Int
  | 0 => b
  | k + 1 => Fx.ce (Fx.powB b k * b) 1073741824
def Fx.pwA (x : Int) (k : Nat) : Int := Fx.powA (x * 6746518852 / 65536) k
def Fx.pwB (x : Int) (k : Nat) : Int := Fx.powB (Fx.ce (x * 6746518853) 65536) k
theorem Fx.pwA_next (x : Int) (k : Nat) : Fx.pwA x (k + 1) = Fx.pwA x k * Fx.pwA x 0 / 1073741824 := rfl
theorem Fx.pwB_next (x : Int) (k : Nat) : Fx.pwB x (k + 1) = Fx.ce (Fx.pwB x k * Fx.pwB x 0) 1073741824 := rfl
theorem Fx.pwA_zero (x : Int) : Fx.pwA x 0 = x * 6746518852 / 65536 := rfl
theorem Fx.pwB_zero (x : Int) : Fx.pwB x 0 = Fx.ce (x * 6746518853) 65536 := rfl
theorem Fx.ce_le (a b c : Int) (hb : 0 < b) (h : a ≤ b * c) : Fx.ce a b ≤ c := by
  unfold Fx.ce
  have : -c ≤ (-a) / b := by rw [Int.le_ediv_iff_mul_le hb, Int.neg_mul, Int.mul_comm]; omega
  omega
theorem Fx.fl_le_ce (a b c : Int) (hb : 0 < b) (h : a ≤ c) : a / b ≤ Fx.ce c b := by
  rw [Fx.ce_eq c b hb]
  have := Int.ediv_le_ediv hb h
  split <;> omega
theorem Fx.pw_first (x : Int) (h0 : 0 ≤ x) (h1 : x ≤ 8192) : 0 ≤ Fx.pwA x 0 ∧ Fx.pwA x 0 ≤ Fx.pwB x 0 ∧ Fx.pwB x 0 ≤ 843314858 := by
  refine ⟨?_, ?_, ?_⟩
  · rw [Fx.pwA_zero]; omega
  · rw [Fx.pwA_zero, Fx.pwB_zero]; exact Fx.fl_le_ce _ _ _ (by omega) (by omega)
  · rw [Fx.pwB_zero]; exact Fx.ce_le _ _ _ (by omega) (by omega)
theorem Fx.pw_bd (x : Int) (h0 : 0 ≤ x) (h1 : x ≤ 8192) : ∀ k : Nat, 0 ≤ Fx.pwA x k ∧ Fx.pwA x k ≤ Fx.pwB x k ∧ Fx.pwB x k ≤ 843314858 ∧ Fx.pwA x (k + 1) ≤ Fx.pwA x k
  | k => by
    have hf := Fx.pw_first x h0 h1
    have step : ∀ k : Nat, (0 ≤ Fx.pwA x k ∧ Fx.pwA x k ≤ Fx.pwB x k ∧ Fx.pwB x k ≤ 843314858) → (0 ≤ Fx.pwA x (k + 1) ∧ Fx.pwA x (k + 1) ≤ Fx.pwB x (k + 1) ∧ Fx.pwB x (k + 1) ≤ 843314858) ∧ Fx.pwA x (k + 1) ≤ Fx.pwA x k := fun k ih => by
      have m1 := Int.mul_nonneg ih.1 hf.1
      have m2 : Fx.pwA x k * Fx.pwA x 0 ≤ Fx.pwB x k * Fx.pwB x 0 := Int.mul_le_mul ih.2.1 hf.2.1 hf.1 (by omega)
      have m3 : Fx.pwB x k * Fx.pwB x 0 ≤ 843314858 * 843314858 := Int.mul_le_mul ih.2.2 hf.2.2 (by omega) (by omega)
      have m4 : Fx.pwA x k * Fx.pwA x 0 ≤ Fx.pwA x k * 843314858 := Int.mul_le_mul_of_nonneg_left (by omega) ih.1
      refine ⟨⟨?_, ?_, ?_⟩, ?_⟩
      · rw [Fx.pwA_next]; omega
      · rw [Fx.pwA_next, Fx.pwB_next]; exact Fx.fl_le_ce _ _ _ (by omega) m2
      · rw [Fx.pwB_next]; exact Fx.ce_le _ _ _ (by omega) (by omega)
      · rw [Fx.pwA_next]; omega
    have all : ∀ k : Nat, 0 ≤ Fx.pwA x k ∧ Fx.pwA x k ≤ Fx.pwB x k ∧ Fx.pwB x k ≤ 843314858 := fun k => by
      induction k with
      | zero => exact hf
      | succ k ih => exact (step k ih).1
    exact ⟨(all k).1, (all k).2.1, (all k).2.2, (step k (all k)).2⟩
theorem Fx.pw_mul (x : Int) (h0 : 0 ≤ x) (h1 : x ≤ 8192) (k : Nat) : (0 ≤ Fx.pwA x k * Fx.pwA x 0 ∧ Fx.pwA x k * Fx.pwA x 0 ≤ 711179949733020164) ∧ (0 ≤ Fx.pwB x k * Fx.pwB x 0 ∧ Fx.pwB x k * Fx.pwB x 0 ≤ 711179949733020164) := by
  have hf := Fx.pw_first x h0 h1
  have hk := Fx.pw_bd x h0 h1 k
  have m1 := Int.mul_nonneg hk.1 hf.1
  have m2 : Fx.pwA x k * Fx.pwA x 0 ≤ 843314858 * 843314858 := Int.mul_le_mul (by omega) (by omega) hf.1 (by omega)
  have m3 : Fx.pwB x k * Fx.pwB x 0 ≤ 843314858 * 843314858 := Int.mul_le_mul hk.2.2.1 hf.2.2 (by omega) (by omega)
  have m4 := Int.mul_nonneg (show 0 ≤ Fx.pwB x k by omega) (show 0 ≤ Fx.pwB x 0 by omega)
  omega

/-- The cells of an array of eleven numbers: those from 1 to i - 1 are laid. -/
def Fx.cells11 (f : Nat → Int) (i : Nat) : Array Value :=
  #[.int .i64 0, .int .i64 (if 1 < i then f 0 else 0), .int .i64 (if 2 < i then f 1 else 0), .int .i64 (if 3 < i then f 2 else 0), .int .i64 (if 4 < i then f 3 else 0), .int .i64 (if 5 < i then f 4 else 0), .int .i64 (if 6 < i then f 5 else 0), .int .i64 (if 7 < i then f 6 else 0), .int .i64 (if 8 < i then f 7 else 0), .int .i64 (if 9 < i then f 8 else 0), .int .i64 (if 10 < i then f 9 else 0)]
theorem Fx.cells11_next (f : Nat → Int) : ∀ k : Nat, k < 10 → (Fx.cells11 f (k + 1)).setIfInBounds (k + 1) (.int .i64 (f k)) = Fx.cells11 f (k + 2)
  | 0, _ => rfl
  | 1, _ => rfl
  | 2, _ => rfl
  | 3, _ => rfl
  | 4, _ => rfl
  | 5, _ => rfl
  | 6, _ => rfl
  | 7, _ => rfl
  | 8, _ => rfl
  | 9, _ => rfl
theorem Fx.cells11_any (f : Nat → Int) (i : Nat) : ∀ k : Nat, k < 10 → (Fx.cells11 f i)[k + 1]? = some (.int .i64 (if k + 1 < i then f k else 0))
  | 0, _ => rfl
  | 1, _ => rfl
  | 2, _ => rfl
  | 3, _ => rfl
  | 4, _ => rfl
  | 5, _ => rfl
  | 6, _ => rfl
  | 7, _ => rfl
  | 8, _ => rfl
  | 9, _ => rfl
theorem Fx.cells11_one (f : Nat → Int) (i : Nat) : ((Fx.cells11 f i).all fun v => v.oneCell') = true := by simp [Fx.cells11, Value.oneCell']
end Go.Proofs.Ytgnjconhbloocaa

namespace Go.Proofs.Ytgnjconhbloocaa
open Go.RowKit
set_option linter.unusedVariables false

/-- A row with vs written from o on. -/
def writeAt : Array Value → Nat → List Value → Array Value
  | cs, _, [] => cs
  | cs, o, v :: vs => writeAt (cs.setIfInBounds o v) (o + 1) vs
theorem writeAt_size : ∀ (vs : List Value) (cs : Array Value) (o : Nat), (writeAt cs o vs).size = cs.size
  | [], _, _ => rfl
  | v :: vs, cs, o => by rw [writeAt, writeAt_size vs]; simp
theorem writeAt_get : ∀ (vs : List Value) (cs : Array Value) (o j : Nat), (writeAt cs o vs)[j]? = if o ≤ j ∧ j < o + vs.length ∧ j < cs.size then vs[j - o]? else cs[j]?
  | [], cs, o, j => by rw [writeAt, if_neg (by simp; omega)]
  | v :: vs, cs, o, j => by
    rw [writeAt, writeAt_get vs, Array.size_setIfInBounds, Array.getElem?_setIfInBounds]
    simp only [List.length_cons]
    by_cases e : j = o
    · subst e
      rw [if_neg (by omega), if_pos rfl]
      by_cases c : j < cs.size
      · rw [if_pos c, if_pos (by omega)]; simp
      · rw [if_neg c, if_neg (by omega), Array.getElem?_eq_none (by omega)]
    · rw [if_neg (show ¬ o = j by omega)]
      by_cases c : o + 1 ≤ j ∧ j < o + 1 + vs.length ∧ j < cs.size
      · rw [if_pos c, if_pos (by omega), show j - o = (j - (o + 1)) + 1 by omega, List.getElem?_cons_succ]
      · rw [if_neg c, if_neg (by omega)]
theorem writeAt_full (cs : Array Value) (vs : Array Value) (h : vs.size = cs.size) : writeAt cs 0 vs.toList = vs := by
  apply Array.ext_getElem?
  intro j
  rw [writeAt_get]
  by_cases c : j < cs.size
  · rw [if_pos ⟨by omega, by rw [Array.length_toList]; omega, c⟩]; simp
  · rw [if_neg (by omega), Array.getElem?_eq_none (by omega), Array.getElem?_eq_none (by omega)]
theorem Whole.write {g : Nat} {t : TypeId} : ∀ (vs : List Value) {w : World} {cs : Array Value} (_ : Whole w g t cs) (o : Nat), Whole (w.setCells g o vs) g t (writeAt cs o vs)
  | [], _, _, h, _ => h
  | v :: vs, w, cs, h, o => Whole.write vs (w := w.setCell ⟨g, o, none⟩ v) (h.store o v) (o + 1)
theorem Whole.full {w : World} {g : Nat} {t : TypeId} {cs : Array Value} (h : Whole w g t cs) (vs : Array Value) (hs : vs.size = cs.size) : Whole (w.setCells g 0 vs.toList) g t vs := by
  have h' := h.write vs.toList 0
  rw [writeAt_full cs vs hs] at h'
  exact h'
theorem there_all {w : World} {g : Nat} {t : TypeId} {cs : Array Value} (h : Whole w g t cs) (n : Nat) (hn : n ≤ cs.size) : w.there g 0 n := fun j hj => by
  refine ⟨?_, h.frozen _⟩
  rw [h.cell, Nat.zero_add, Array.getElem?_eq_getElem (show j < cs.size by omega)]
  rfl
theorem ext_same {w w' : World} (h : w = w') : Below w.heap.size w w' := by subst h; exact ext_refl _

section
variable {P : Program} {F : Func} {tmps : Array Value} {w : World}
/-- One result, in memory. -/
theorem ret_cell {k g : Nat} {t : TypeId} {cs : Array Value} {d : TypeDesc} (hF : F.results = #[.cell k t]) (h2 : tmps.getD k undef = .pointer (some ⟨g, 0, none⟩)) (hW : Whole w g t cs) (hu : P.underlying t = some d) (hd : d.isRow = true) (hi : (P.info? t).map (·.size) = some cs.size) :
    (results F tmps).run P w = .ok (.agg cs) w := by
  have r1 := run_loadVar_mid (P := P) w g 0 t cs.toList d hW.all hu hd (by rw [hi, Array.length_toList])
  have h2' : tmps[k]?.getD undef = .pointer (some ⟨g, 0, none⟩) := by simpa using h2
  simp [results, hF, h2', asAddr, r1]
/-- Two results, in memory. -/
theorem ret_cells {k g k' g' : Nat} {t t' : TypeId} {cs cs' : Array Value} {d d' : TypeDesc} (hF : F.results = #[.cell k t, .cell k' t']) (h2 : tmps.getD k undef = .pointer (some ⟨g, 0, none⟩)) (h3 : tmps.getD k' undef = .pointer (some ⟨g', 0, none⟩)) (hW : Whole w g t cs) (hW' : Whole w g' t' cs') (hu : P.underlying t = some d) (hd : d.isRow = true) (hi : (P.info? t).map (·.size) = some cs.size) (hu' : P.underlying t' = some d') (hd' : d'.isRow = true) (hi' : (P.info? t').map (·.size) = some cs'.size) :
    (results F tmps).run P w = .ok (.tuple #[.agg cs, .agg cs']) w := by
  have r1 := run_loadVar_mid (P := P) w g 0 t cs.toList d hW.all hu hd (by rw [hi, Array.length_toList])
  have r2 := run_loadVar_mid (P := P) w g' 0 t' cs'.toList d' hW'.all hu' hd' (by rw [hi', Array.length_toList])
  have h2' : tmps[k]?.getD undef = .pointer (some ⟨g, 0, none⟩) := by simpa using h2
  have h3' : tmps[k']?.getD undef = .pointer (some ⟨g', 0, none⟩) := by simpa using h3
  simp [results, hF, h2', h3', asAddr, r1, r2]
end
end Go.Proofs.Ytgnjconhbloocaa

namespace Go.Proofs.Ytgnjconhbloocaa
open Go.RowKit
set_option linter.unusedVariables false

abbrev zero11 : Array Value := #[.int .i64 0, .int .i64 0, .int .i64 0, .int .i64 0, .int .i64 0, .int .i64 0, .int .i64 0, .int .i64 0, .int .i64 0, .int .i64 0, .int .i64 0]
theorem floor_ext (a b : Int) (w : World) (h0 : -9223372036854775808 ≤ a) (h1 : a ≤ 9223372036854775807) (hb : 0 < b) :
    Calls Try.prog 70 #[.int .i64 a, .int .i64 b] w fun e w' => e = .returned (.int .i64 (a / b)) ∧ Below w.heap.size w w' := (floor_any a b w h0 h1 hb).mono fun e w' h => ⟨h.1, ext_same h.2⟩
theorem ceil_ext (a b : Int) (w : World) (h0 : -9223372036854775808 ≤ a) (h1 : a ≤ 9223372036854775807) (hb : 0 < b) :
    Calls Try.prog 86 #[.int .i64 a, .int .i64 b] w fun e w' => e = .returned (.int .i64 (Fx.ce a b)) ∧ Below w.heap.size w w' := (ceil_any a b w h0 h1 hb).mono fun e w' h => ⟨h.1, ext_same h.2⟩

set_option maxRecDepth 100000 in
set_option maxHeartbeats 2000000 in
theorem powers_any (x : Int) (w : World) (h0 : 0 ≤ x) (h1 : x ≤ 8192) :
    Calls Try.prog 98 #[.int .i64 x] w fun e w' => e = .returned (.tuple #[.agg (Fx.cells11 (Fx.pwA x) 11), .agg (Fx.cells11 (Fx.pwB x) 11)]) ∧ Below w.heap.size w w' := by
  have HA0 := Lib.hid (Fx.pwA_zero x); have HB0 := Lib.hid (Fx.pwB_zero x)
  have HMu := Lib.hid (fun k => Fx.pw_mul x h0 h1 k)
  have HNA := Lib.hid (fun n => Fx.pwA_next x n); have HNB := Lib.hid (fun n => Fx.pwB_next x n)
  go_enter Try.func98, Try.ntmps98
  go_wp2_with fail
  have h4 := blocks4 w 123 123 123 123 zero11 zero11 zero11 zero11
  generalize (((w.alloc (.cells zero11 123)).alloc (.cells zero11 123)).alloc (.cells zero11 123)).alloc (.cells zero11 123) = w0 at *
  obtain ⟨hA, hB, hC0, hD0, hb0⟩ := h4
  have hC : Whole w0 (w.heap.size + 1 + 1) 123 (Fx.cells11 (Fx.pwA x) 1) := hC0
  have hD : Whole w0 (w.heap.size + 1 + 1 + 1) 123 (Fx.cells11 (Fx.pwB x) 1) := hD0
  clear hC0 hD0
  refine (floor_ext _ _ _ (by omega) (by omega) (by omega)).mono ?_
  rintro e w1 ⟨rfl, hb1⟩
  rw [← HA0.out]
  have hC1 := hC.ext hb1
  have HA1 := Lib.hid (hA.ext hb1); have HB1 := Lib.hid (hB.ext hb1); have HD1 := Lib.hid (hD.ext hb1)
  have hB1 := ext_trans hb0 hb1
  have c1 := (hC1.cell 1).trans (Fx.cells11_any (Fx.pwA x) 1 0 (by omega))
  have f1 := hC1.frozen 1
  have hC2 := hC1.store 1 (.int .i64 (Fx.pwA x 0))
  rw [Fx.cells11_next (Fx.pwA x) 0 (by omega)] at hC2
  have HC2 := Lib.hid hC2
  have HA2 := Lib.hid (HA1.out.far (p := ⟨w.heap.size + 1 + 1, 1, none⟩) (show w.heap.size ≠ w.heap.size + 1 + 1 by omega) (.int .i64 (Fx.pwA x 0)))
  have HB2 := Lib.hid (HB1.out.far (p := ⟨w.heap.size + 1 + 1, 1, none⟩) (show w.heap.size + 1 ≠ w.heap.size + 1 + 1 by omega) (.int .i64 (Fx.pwA x 0)))
  have HD2 := Lib.hid (HD1.out.far (p := ⟨w.heap.size + 1 + 1, 1, none⟩) (show w.heap.size + 1 + 1 + 1 ≠ w.heap.size + 1 + 1 by omega) (.int .i64 (Fx.pwA x 0)))
  have hB2 := ext_set hB1 (p := ⟨w.heap.size + 1 + 1, 1, none⟩) (show w.heap.size ≤ w.heap.size + 1 + 1 by omega) (.int .i64 (Fx.pwA x 0))
  clear hA hB hC hD hb0 hb1 hC1 HA1 HB1 HD1 hB1 hC2
  generalize hEA : Fx.pwA x 0 = a0 at *
  have HEA := Lib.hid hEA
  clear hEA
  go_wp2_with fail
  clear c1 f1
  generalize w1.setCell ⟨w.heap.size + 1 + 1, 1, none⟩ (.int .i64 a0) = w2 at *
  refine (ceil_ext _ _ _ (by omega) (by omega) (by omega)).mono ?_
  rintro e w3 ⟨rfl, hb3⟩
  rw [← HB0.out]
  have hD3 := HD2.out.ext hb3
  have HA3 := Lib.hid (HA2.out.ext hb3); have HB3 := Lib.hid (HB2.out.ext hb3); have HC3 := Lib.hid (HC2.out.ext hb3)
  have hB3 := ext_trans hB2 hb3
  have c1 := (hD3.cell 1).trans (Fx.cells11_any (Fx.pwB x) 1 0 (by omega))
  have f1 := hD3.frozen 1
  have hD4 := hD3.store 1 (.int .i64 (Fx.pwB x 0))
  rw [Fx.cells11_next (Fx.pwB x) 0 (by omega)] at hD4
  have HD4 := Lib.hid hD4
  have HA4 := Lib.hid (HA3.out.far (p := ⟨w.heap.size + 1 + 1 + 1, 1, none⟩) (show w.heap.size ≠ w.heap.size + 1 + 1 + 1 by omega) (.int .i64 (Fx.pwB x 0)))
  have HB4 := Lib.hid (HB3.out.far (p := ⟨w.heap.size + 1 + 1 + 1, 1, none⟩) (show w.heap.size + 1 ≠ w.heap.size + 1 + 1 + 1 by omega) (.int .i64 (Fx.pwB x 0)))
  have HC4 := Lib.hid (HC3.out.far (p := ⟨w.heap.size + 1 + 1 + 1, 1, none⟩) (show w.heap.size + 1 + 1 ≠ w.heap.size + 1 + 1 + 1 by omega) (.int .i64 (Fx.pwB x 0)))
  have hB4 := ext_set hB3 (p := ⟨w.heap.size + 1 + 1 + 1, 1, none⟩) (show w.heap.size ≤ w.heap.size + 1 + 1 + 1 by omega) (.int .i64 (Fx.pwB x 0))
  clear hb3 hD3 HA2 HB2 HC2 HD2 hB2 hB3 HA3 HB3 HC3 hD4
  generalize hEB : Fx.pwB x 0 = b0 at *
  have HEB := Lib.hid hEB
  clear hEB
  go_wp2_with fail
  clear c1 f1
  generalize w3.setCell ⟨w.heap.size + 1 + 1 + 1, 1, none⟩ (.int .i64 b0) = w4 at *
  go_loopw [6] (fun jv wr => ∃ n : Nat, n ≤ 9 ∧ jv = .int .i64 ((n : Int) + 2) ∧ Whole wr w.heap.size 123 zero11 ∧ Whole wr (w.heap.size + 1) 123 zero11 ∧ Whole wr (w.heap.size + 1 + 1) 123 (Fx.cells11 (Fx.pwA x) (n + 2)) ∧ Whole wr (w.heap.size + 1 + 1 + 1) 123 (Fx.cells11 (Fx.pwB x) (n + 2)) ∧ Below w.heap.size w wr) (fun jv _ => 11 - (intOf jv).toNat)
  case atStart => exact ⟨0, by omega, by go_num, HA4.out, HB4.out, HC4.out, HD4.out, hB4⟩
  case round =>
    obtain ⟨n, hn, rfl, hA, hB, hC, hD, hb⟩ := hrel
    clear HA4 HB4 HC4 HD4 hB4
    have HA := Lib.hid hA; have HB := Lib.hid hB; have HC := Lib.hid hC; have HD := Lib.hid hD
    by_cases hn9 : n < 9
    · have ca := (hC.cell (n + 1)).trans (Fx.cells11_any (Fx.pwA x) (n + 2) n (by omega))
      rw [if_pos (by omega)] at ca
      have c1 := (hC.cell 1).trans (Fx.cells11_any (Fx.pwA x) (n + 2) 0 (by omega))
      rw [if_pos (by omega), HEA.out] at c1
      have cz := (hC.cell (n + 2)).trans (Fx.cells11_any (Fx.pwA x) (n + 2) (n + 1) (by omega))
      rw [if_neg (by omega)] at cz
      have da := (hD.cell (n + 1)).trans (Fx.cells11_any (Fx.pwB x) (n + 2) n (by omega))
      rw [if_pos (by omega)] at da
      have d1 := (hD.cell 1).trans (Fx.cells11_any (Fx.pwB x) (n + 2) 0 (by omega))
      rw [if_pos (by omega), HEB.out] at d1
      have dz := (hD.cell (n + 2)).trans (Fx.cells11_any (Fx.pwB x) (n + 2) (n + 1) (by omega))
      rw [if_neg (by omega)] at dz
      have hzC := hC.lt; have hzD := hD.lt
      have HXA := Lib.hid (Fx.cells11_next (Fx.pwA x) (n + 1) (by omega)); have HXB := Lib.hid (Fx.cells11_next (Fx.pwB x) (n + 1) (by omega))
      have HN1 := Lib.hid (HNA.out n); have HN2 := Lib.hid (HNB.out n)
      have hmu := HMu.out n
      clear hA hB hC hD
      generalize Fx.pwA x n = an at *
      generalize Fx.pwB x n = bn at *
      generalize hna1 : Fx.pwA x (n + 1) = an1 at *
      generalize hnb1 : Fx.pwB x (n + 1) = bn1 at *
      clear hna1 hnb1
      have k0 : (0 : Int) ≤ (n : Int) + 1 := by omega
      have k1 : (n : Int) + 1 < 11 := by omega
      have k2 : ((n : Int) + 1).toNat = n + 1 := by omega
      have k3 : (0 : Int) ≤ (n : Int) + 2 := by omega
      have k4 : (n : Int) + 2 < 11 := by omega
      have k5 : ((n : Int) + 2).toNat = n + 2 := by omega
      have k6 : decide ((n : Int) + 2 ≤ 10) = true := by simp; omega
      have e1 : IntKind.i64.wrap ((n : Int) + 2 - 1) = (n : Int) + 1 := by rw [IntKind.wrap_i64]; omega
      have e2 : IntKind.i64.wrap (an * a0) = an * a0 := by rw [IntKind.wrap_i64]; omega
      have e3 : IntKind.i64.wrap (bn * b0) = bn * b0 := by rw [IntKind.wrap_i64]; omega
      go_wp2_with fail
      refine wp_region_noPanic ?_
      refine wp_region_until_drew (k := 10) (S := fun w' => Below wr.heap.size wr w') (by kernel_rfl) (ext_drew (ext_refl _)) (fun hHeld => ?_)
      refine wpAnyU_take (i := 0) (v := ?_) (by simp only [List.getElem?_toArray, List.getElem?_cons_succ, List.getElem?_cons_zero]; rfl) (by kernel_rfl) (by kernel_rfl) (by kernel_rfl) (by kernel_rfl) (by kernel_rfl) (fun _ _ _ h => h) (Or.inl ⟨by rfl, ?_⟩) (by assumption) ?_
      rotate_left
      · intro w hSw; (try dsimp only at hSw); have hcS := (bcell hSw).1; clear hSw; go_simp; first | done | with_reducible rfl
      try simp only [Act.put, List.setIfInBounds_toArray, List.set_cons_zero, List.set_cons_succ]
      refine wpAnyU_take (i := 1) (v := ?_) (by simp only [List.getElem?_toArray, List.getElem?_cons_succ, List.getElem?_cons_zero]; rfl) (by kernel_rfl) (by kernel_rfl) (by kernel_rfl) (by kernel_rfl) (by kernel_rfl) (fun _ _ _ h => h) (Or.inl ⟨by rfl, ?_⟩) (by assumption) ?_
      rotate_left
      · intro w hSw; (try dsimp only at hSw); have hcS := (bcell hSw).1; clear hSw; go_simp; first | done | with_reducible rfl
      try simp only [Act.put, List.setIfInBounds_toArray, List.set_cons_zero, List.set_cons_succ]
      refine wpAnyU_take (i := 2) (v := ?_) (by simp only [List.getElem?_toArray, List.getElem?_cons_succ, List.getElem?_cons_zero]; rfl) (by kernel_rfl) (by kernel_rfl) (by kernel_rfl) (by kernel_rfl) (by kernel_rfl) (fun _ _ _ h => h) (Or.inl ⟨by rfl, ?_⟩) (by assumption) ?_
      rotate_left
      · intro w hSw; (try dsimp only at hSw); have hcS := (bcell hSw).1; clear hSw; go_simp; first | done | with_reducible rfl
      try simp only [Act.put, List.setIfInBounds_toArray, List.set_cons_zero, List.set_cons_succ]
      refine wpAnyU_take (i := 3) (v := ?_) (by simp only [List.getElem?_toArray, List.getElem?_cons_succ, List.getElem?_cons_zero]; rfl) (by kernel_rfl) (by kernel_rfl) (by kernel_rfl) (by kernel_rfl) (by kernel_rfl) (fun _ _ _ h => h) (Or.inl ⟨by rfl, ?_⟩) (by assumption) ?_
      rotate_left
      · intro w hSw; (try dsimp only at hSw); have hcS := (bcell hSw).1; clear hSw; go_simp; first | done | with_reducible rfl
      try simp only [Act.put, List.setIfInBounds_toArray, List.set_cons_zero, List.set_cons_succ]
      refine wpAnyU_take (i := 4) (v := ?_) (by simp only [List.getElem?_toArray, List.getElem?_cons_succ, List.getElem?_cons_zero]; rfl) (by kernel_rfl) (by kernel_rfl) (by kernel_rfl) (by kernel_rfl) (by kernel_rfl) (fun _ _ _ h => h) (Or.inl ⟨by rfl, ?_⟩) (by assumption) ?_
      rotate_left
      · intro w hSw; (try dsimp only at hSw); have hcS := (bcell hSw).1; clear hSw; go_simp; first | done | with_reducible rfl
      try simp only [Act.put, List.setIfInBounds_toArray, List.set_cons_zero, List.set_cons_succ]
      refine wpAnyU_take (i := 5) (v := ?_) (by simp only [List.getElem?_toArray, List.getElem?_cons_succ, List.getElem?_cons_zero]; rfl) (by kernel_rfl) (by kernel_rfl) (by kernel_rfl) (by kernel_rfl) (by kernel_rfl) (fun _ _ _ h => h) (Or.inl ⟨by rfl, ?_⟩) (by assumption) ?_
      rotate_left
      · intro w hSw; (try dsimp only at hSw); have hcS := (bcell hSw).1; clear hSw; go_simp; first | done | with_reducible rfl
      try simp only [Act.put, List.setIfInBounds_toArray, List.set_cons_zero, List.set_cons_succ]
      refine wpAnyU_take (i := 6) (v := ?_) (by simp only [List.getElem?_toArray, List.getElem?_cons_succ, List.getElem?_cons_zero]; rfl) (by kernel_rfl) (by kernel_rfl) (by kernel_rfl) (by kernel_rfl) (by kernel_rfl) (fun _ _ _ h => h) (Or.inl ⟨by rfl, ?_⟩) (by assumption) ?_
      rotate_left
      · intro w hSw; (try dsimp only at hSw); have hcS := (bcell hSw).1; clear hSw; go_simp; first | done | with_reducible rfl
      try simp only [Act.put, List.setIfInBounds_toArray, List.set_cons_zero, List.set_cons_succ]
      refine wpAnyU_take (i := 7) (v := ?_) (by simp only [List.getElem?_toArray, List.getElem?_cons_succ, List.getElem?_cons_zero]; rfl) (by kernel_rfl) (by kernel_rfl) (by kernel_rfl) (by kernel_rfl) (by kernel_rfl) (fun _ _ _ h => h) (Or.inl ⟨by rfl, ?_⟩) (by assumption) ?_
      rotate_left
      · intro w hSw; (try dsimp only at hSw); have hcS := (bcell hSw).1; clear hSw; go_simp; first | done | with_reducible rfl
      try simp only [Act.put, List.setIfInBounds_toArray, List.set_cons_zero, List.set_cons_succ]
      refine wpAnyU_ready (rs := [8]) (by kernel_rfl) (by simp) ?_
      refine AllReadyU.cons (by simp only [List.getElem?_toArray, List.getElem?_cons_succ, List.getElem?_cons_zero]; rfl) (fun K hK => ?_) AllReadyU.nil
      go_simp
      refine (floor_ext _ _ _ (by omega) (by omega) (by omega)).mono ?_
      rintro e w_8 ⟨rfl, hb_8⟩
      have hHeld' := ext_trans hHeld hb_8
      clear hHeld hb_8
      go_wp2_with fail
      refine hK.out _ _ hHeld' (fun hHeld => ?_)
      clear hK K hHeld'
      try simp only [Act.put, List.setIfInBounds_toArray, List.set_cons_zero, List.set_cons_succ]
      rw [← HN1.out]
      refine wpAnyU_take (i := 9) (v := ?_) (by simp only [List.getElem?_toArray, List.getElem?_cons_succ, List.getElem?_cons_zero]; rfl) (by kernel_rfl) (by kernel_rfl) (by kernel_rfl) (by kernel_rfl) (by kernel_rfl) (fun _ _ _ h => h) (Or.inl ⟨by rfl, ?_⟩) (by assumption) ?_
      rotate_left
      · intro w hSw; (try dsimp only at hSw); go_simp; first | done | with_reducible rfl
      try simp only [Act.put, List.setIfInBounds_toArray, List.set_cons_zero, List.set_cons_succ]
      have hC7 := HC.out.ext hHeld
      have HA7 := Lib.hid (HA.out.ext hHeld); have HB7 := Lib.hid (HB.out.ext hHeld); have HD7 := Lib.hid (HD.out.ext hHeld)
      have hB7 := ext_trans hb hHeld
      have cz7 : w_8.cell? ⟨w.heap.size + 1 + 1, n + 2, none⟩ = some (.int .i64 0) := (hHeld.cell (p := ⟨w.heap.size + 1 + 1, n + 2, none⟩) hzC).trans cz
      have fz7 := hC7.frozen (n + 2)
      clear HA HB HC hb hHeld ca c1 cz
      refine wpAnyU_ready (rs := [10]) (by kernel_rfl) (by simp) ?_
      refine AllReadyU.last (by simp only [List.getElem?_toArray, List.getElem?_cons_succ, List.getElem?_cons_zero]; rfl) (fun K hK => ?_) AllReadyU.nil
      go_simp
      have hCn := hC7.store (n + 2) (.int .i64 an1)
      rw [HXA.out] at hCn
      have HCn := Lib.hid hCn
      have HAn := Lib.hid (HA7.out.far (p := ⟨w.heap.size + 1 + 1, n + 2, none⟩) (show w.heap.size ≠ w.heap.size + 1 + 1 by omega) (.int .i64 an1))
      have HBn := Lib.hid (HB7.out.far (p := ⟨w.heap.size + 1 + 1, n + 2, none⟩) (show w.heap.size + 1 ≠ w.heap.size + 1 + 1 by omega) (.int .i64 an1))
      have HDn := Lib.hid (HD7.out.far (p := ⟨w.heap.size + 1 + 1, n + 2, none⟩) (show w.heap.size + 1 + 1 + 1 ≠ w.heap.size + 1 + 1 by omega) (.int .i64 an1))
      have hBn := ext_set hB7 (p := ⟨w.heap.size + 1 + 1, n + 2, none⟩) (show w.heap.size ≤ w.heap.size + 1 + 1 by omega) (.int .i64 an1)
      clear hC7 HA7 HB7 HD7 hB7 hCn cz7 fz7
      generalize w_8.setCell ⟨w.heap.size + 1 + 1, n + 2, none⟩ (.int .i64 an1) = w5 at *
      refine hK.out _ _ ?_
      clear hK K
      try simp only [Act.put, List.setIfInBounds_toArray, List.set_cons_zero, List.set_cons_succ]
      refine wpAnyU_done (by kernel_rfl) ?_ _
      refine NoPanic.normal ?_
      have hDe : ∀ i : Nat, w5.cell? ⟨w.heap.size + 1 + 1 + 1, i, none⟩ = wr.cell? ⟨w.heap.size + 1 + 1 + 1, i, none⟩ := fun i => (HDn.out.cell i).trans (HD.out.cell i).symm
      have da5 := (hDe (n + 1)).trans da
      have d15 := (hDe 1).trans d1
      have dz5 := (hDe (n + 2)).trans dz
      have hzD5 := HDn.out.lt
      clear hDe da d1 dz HD hzC hzD
      go_wp2_with fail
      refine wp_region_noPanic ?_
      refine wp_region_until_drew (k := 10) (S := fun w' => Below w5.heap.size w5 w') (by kernel_rfl) (ext_drew (ext_refl _)) (fun hHeld => ?_)
      refine wpAnyU_take (i := 0) (v := ?_) (by simp only [List.getElem?_toArray, List.getElem?_cons_succ, List.getElem?_cons_zero]; rfl) (by kernel_rfl) (by kernel_rfl) (by kernel_rfl) (by kernel_rfl) (by kernel_rfl) (fun _ _ _ h => h) (Or.inl ⟨by rfl, ?_⟩) (by assumption) ?_
      rotate_left
      · intro w hSw; (try dsimp only at hSw); have hcS := (bcell hSw).1; clear hSw; go_simp; first | done | with_reducible rfl
      try simp only [Act.put, List.setIfInBounds_toArray, List.set_cons_zero, List.set_cons_succ]
      refine wpAnyU_take (i := 1) (v := ?_) (by simp only [List.getElem?_toArray, List.getElem?_cons_succ, List.getElem?_cons_zero]; rfl) (by kernel_rfl) (by kernel_rfl) (by kernel_rfl) (by kernel_rfl) (by kernel_rfl) (fun _ _ _ h => h) (Or.inl ⟨by rfl, ?_⟩) (by assumption) ?_
      rotate_left
      · intro w hSw; (try dsimp only at hSw); have hcS := (bcell hSw).1; clear hSw; go_simp; first | done | with_reducible rfl
      try simp only [Act.put, List.setIfInBounds_toArray, List.set_cons_zero, List.set_cons_succ]
      refine wpAnyU_take (i := 2) (v := ?_) (by simp only [List.getElem?_toArray, List.getElem?_cons_succ, List.getElem?_cons_zero]; rfl) (by kernel_rfl) (by kernel_rfl) (by kernel_rfl) (by kernel_rfl) (by kernel_rfl) (fun _ _ _ h => h) (Or.inl ⟨by rfl, ?_⟩) (by assumption) ?_
      rotate_left
      · intro w hSw; (try dsimp only at hSw); have hcS := (bcell hSw).1; clear hSw; go_simp; first | done | with_reducible rfl
      try simp only [Act.put, List.setIfInBounds_toArray, List.set_cons_zero, List.set_cons_succ]
      refine wpAnyU_take (i := 3) (v := ?_) (by simp only [List.getElem?_toArray, List.getElem?_cons_succ, List.getElem?_cons_zero]; rfl) (by kernel_rfl) (by kernel_rfl) (by kernel_rfl) (by kernel_rfl) (by kernel_rfl) (fun _ _ _ h => h) (Or.inl ⟨by rfl, ?_⟩) (by assumption) ?_
      rotate_left
      · intro w hSw; (try dsimp only at hSw); have hcS := (bcell hSw).1; clear hSw; go_simp; first | done | with_reducible rfl
      try simp only [Act.put, List.setIfInBounds_toArray, List.set_cons_zero, List.set_cons_succ]
      refine wpAnyU_take (i := 4) (v := ?_) (by simp only [List.getElem?_toArray, List.getElem?_cons_succ, List.getElem?_cons_zero]; rfl) (by kernel_rfl) (by kernel_rfl) (by kernel_rfl) (by kernel_rfl) (by kernel_rfl) (fun _ _ _ h => h) (Or.inl ⟨by rfl, ?_⟩) (by assumption) ?_
      rotate_left
      · intro w hSw; (try dsimp only at hSw); have hcS := (bcell hSw).1; clear hSw; go_simp; first | done | with_reducible rfl
      try simp only [Act.put, List.setIfInBounds_toArray, List.set_cons_zero, List.set_cons_succ]
      refine wpAnyU_take (i := 5) (v := ?_) (by simp only [List.getElem?_toArray, List.getElem?_cons_succ, List.getElem?_cons_zero]; rfl) (by kernel_rfl) (by kernel_rfl) (by kernel_rfl) (by kernel_rfl) (by kernel_rfl) (fun _ _ _ h => h) (Or.inl ⟨by rfl, ?_⟩) (by assumption) ?_
      rotate_left
      · intro w hSw; (try dsimp only at hSw); have hcS := (bcell hSw).1; clear hSw; go_simp; first | done | with_reducible rfl
      try simp only [Act.put, List.setIfInBounds_toArray, List.set_cons_zero, List.set_cons_succ]
      refine wpAnyU_take (i := 6) (v := ?_) (by simp only [List.getElem?_toArray, List.getElem?_cons_succ, List.getElem?_cons_zero]; rfl) (by kernel_rfl) (by kernel_rfl) (by kernel_rfl) (by kernel_rfl) (by kernel_rfl) (fun _ _ _ h => h) (Or.inl ⟨by rfl, ?_⟩) (by assumption) ?_
      rotate_left
      · intro w hSw; (try dsimp only at hSw); have hcS := (bcell hSw).1; clear hSw; go_simp; first | done | with_reducible rfl
      try simp only [Act.put, List.setIfInBounds_toArray, List.set_cons_zero, List.set_cons_succ]
      refine wpAnyU_take (i := 7) (v := ?_) (by simp only [List.getElem?_toArray, List.getElem?_cons_succ, List.getElem?_cons_zero]; rfl) (by kernel_rfl) (by kernel_rfl) (by kernel_rfl) (by kernel_rfl) (by kernel_rfl) (fun _ _ _ h => h) (Or.inl ⟨by rfl, ?_⟩) (by assumption) ?_
      rotate_left
      · intro w hSw; (try dsimp only at hSw); have hcS := (bcell hSw).1; clear hSw; go_simp; first | done | with_reducible rfl
      try simp only [Act.put, List.setIfInBounds_toArray, List.set_cons_zero, List.set_cons_succ]
      refine wpAnyU_ready (rs := [8]) (by kernel_rfl) (by simp) ?_
      refine AllReadyU.cons (by simp only [List.getElem?_toArray, List.getElem?_cons_succ, List.getElem?_cons_zero]; rfl) (fun K hK => ?_) AllReadyU.nil
      go_simp
      refine (ceil_ext _ _ _ (by omega) (by omega) (by omega)).mono ?_
      rintro e w_8 ⟨rfl, hb_8⟩
      have hHeld' := ext_trans hHeld hb_8
      clear hHeld hb_8
      go_wp2_with fail
      refine hK.out _ _ hHeld' (fun hHeld => ?_)
      clear hK K hHeld'
      try simp only [Act.put, List.setIfInBounds_toArray, List.set_cons_zero, List.set_cons_succ]
      rw [← HN2.out]
      refine wpAnyU_take (i := 9) (v := ?_) (by simp only [List.getElem?_toArray, List.getElem?_cons_succ, List.getElem?_cons_zero]; rfl) (by kernel_rfl) (by kernel_rfl) (by kernel_rfl) (by kernel_rfl) (by kernel_rfl) (fun _ _ _ h => h) (Or.inl ⟨by rfl, ?_⟩) (by assumption) ?_
      rotate_left
      · intro w hSw; (try dsimp only at hSw); go_simp; first | done | with_reducible rfl
      try simp only [Act.put, List.setIfInBounds_toArray, List.set_cons_zero, List.set_cons_succ]
      have hD7 := HDn.out.ext hHeld
      have HA7 := Lib.hid (HAn.out.ext hHeld); have HB7 := Lib.hid (HBn.out.ext hHeld); have HC7 := Lib.hid (HCn.out.ext hHeld)
      have hB7 := ext_trans hBn hHeld
      have dz7 := (hHeld.cell (p := ⟨w.heap.size + 1 + 1 + 1, n + 2, none⟩) hzD5).trans dz5
      have fz7 := hD7.frozen (n + 2)
      clear HAn HBn HCn HDn hBn hHeld da5 d15 dz5
      refine wpAnyU_ready (rs := [10]) (by kernel_rfl) (by simp) ?_
      refine AllReadyU.last (by simp only [List.getElem?_toArray, List.getElem?_cons_succ, List.getElem?_cons_zero]; rfl) (fun K hK => ?_) AllReadyU.nil
      go_simp
      have hDn := hD7.store (n + 2) (.int .i64 bn1)
      rw [HXB.out] at hDn
      have HDn := Lib.hid hDn
      have HAn := Lib.hid (HA7.out.far (p := ⟨w.heap.size + 1 + 1 + 1, n + 2, none⟩) (show w.heap.size ≠ w.heap.size + 1 + 1 + 1 by omega) (.int .i64 bn1))
      have HBn := Lib.hid (HB7.out.far (p := ⟨w.heap.size + 1 + 1 + 1, n + 2, none⟩) (show w.heap.size + 1 ≠ w.heap.size + 1 + 1 + 1 by omega) (.int .i64 bn1))
      have HCn := Lib.hid (HC7.out.far (p := ⟨w.heap.size + 1 + 1 + 1, n + 2, none⟩) (show w.heap.size + 1 + 1 ≠ w.heap.size + 1 + 1 + 1 by omega) (.int .i64 bn1))
      have hBn := ext_set hB7 (p := ⟨w.heap.size + 1 + 1 + 1, n + 2, none⟩) (show w.heap.size ≤ w.heap.size + 1 + 1 + 1 by omega) (.int .i64 bn1)
      clear hD7 HA7 HB7 HC7 hB7 hDn dz7 fz7
      generalize w_8.setCell ⟨w.heap.size + 1 + 1 + 1, n + 2, none⟩ (.int .i64 bn1) = w6 at *
      refine hK.out _ _ ?_
      clear hK K
      try simp only [Act.put, List.setIfInBounds_toArray, List.set_cons_zero, List.set_cons_succ]
      refine wpAnyU_done (by kernel_rfl) ?_ _
      refine NoPanic.normal ?_
      clear e1 e2 e3 k2 k5
      go_wp2_with fail
      go_roundw
      case rel => exact ⟨n + 1, by omega, by go_num, HAn.out, HBn.out, HCn.out, HDn.out, hBn⟩
      case measure => simp [intOf]; omega
    · obtain rfl : n = 9 := by omega
      clear hA hB hC hD
      go_wp2_with fail
      generalize hfa : Fx.cells11 (Fx.pwA x) (9 + 2) = fa at *
      generalize hfb : Fx.cells11 (Fx.pwB x) (9 + 2) = fb at *
      have HFA : Hid (Fx.cells11 (Fx.pwA x) 11 = fa) := Lib.hid hfa
      have HFB : Hid (Fx.cells11 (Fx.pwB x) 11 = fb) := Lib.hid hfb
      have hsa : fa.size = 11 := by rw [← hfa]; rfl
      have hsb : fb.size = 11 := by rw [← hfb]; rfl
      have hoa : (fa.all fun v => v.oneCell') = true := by rw [← hfa]; exact Fx.cells11_one _ _
      have hob : (fb.all fun v => v.oneCell') = true := by rw [← hfb]; exact Fx.cells11_one _ _
      have HIA : Hid ((Try.prog.info? 123).map (·.size) = some fa.size) := Lib.hid (by rw [hsa]; kernel_rfl)
      have HIB : Hid ((Try.prog.info? 123).map (·.size) = some fb.size) := Lib.hid (by rw [hsb]; kernel_rfl)
      clear hfa hfb
      refine wp_region_noPanic ?_
      refine wp_region_held_drew (S := (fun w' => Whole w' (w.heap.size + 1 + 1) 123 fa ∧ Whole w' (w.heap.size + 1 + 1 + 1) 123 fb)) (by kernel_rfl) ?_ (fun hHeld => ?_)
      · exact ⟨HC.out.drew, HD.out.drew⟩
      refine wpAnyH_take (i := 0) (by simp only [List.getElem?_toArray, List.getElem?_cons_succ, List.getElem?_cons_zero]; rfl) (by kernel_rfl) (by kernel_rfl) (by kernel_rfl) (fun _ _ _ h => h) (yieldsIf_load_mid (by rfl) _ _ rfl (w.heap.size + 1 + 1) 0 (by rfl) fa.toList _ (fun w' h => h.1.all) Try.underlying123 rfl (by rw [Array.length_toList]; exact HIA.out)) (by assumption) ?_
      try simp only [Act.put, List.setIfInBounds_toArray, List.set_cons_zero, List.set_cons_succ]
      refine wpAnyH_take (i := 1) (by simp only [List.getElem?_toArray, List.getElem?_cons_succ, List.getElem?_cons_zero]; rfl) (by kernel_rfl) (by kernel_rfl) (by kernel_rfl) (fun _ _ _ h => h) (yieldsIf_load_mid (by rfl) _ _ rfl (w.heap.size + 1 + 1 + 1) 0 (by rfl) fb.toList _ (fun w' h => h.2.all) Try.underlying123 rfl (by rw [Array.length_toList]; exact HIB.out)) (by assumption) ?_
      try simp only [Act.put, List.setIfInBounds_toArray, List.set_cons_zero, List.set_cons_succ]
      refine wpAnyH_ready (rs := [2]) (by kernel_rfl) (by simp) ?_
      refine AllReadyH.cons (by simp only [List.getElem?_toArray, List.getElem?_cons_succ, List.getElem?_cons_zero]; rfl) (fun K hK => ?_) AllReadyH.nil
      rw [if_pos (by rfl)]
      refine wp_store_mid _ _ _ rfl w.heap.size 0 fa rfl rfl (there_all HA.out.drew fa.size (by rw [hsa]; exact Nat.le_refl _)) HIA.out hoa ?_
      have HA2 := Lib.hid (HA.out.drew.full fa hsa)
      have HB2 := Lib.hid (HB.out.drew.farN fa.toList (show w.heap.size + 1 ≠ w.heap.size by omega) 0)
      have hC2 := HC.out.drew.farN fa.toList (show w.heap.size + 1 + 1 ≠ w.heap.size by omega) 0
      have hD2 := HD.out.drew.farN fa.toList (show w.heap.size + 1 + 1 + 1 ≠ w.heap.size by omega) 0
      have hb2 := ext_setN fa.toList (ext_drew hb) (Nat.le_refl _) 0
      clear hHeld
      generalize wr.drew.setCells w.heap.size 0 fa.toList = w5 at *
      refine hK.out _ _ ⟨hC2, hD2⟩ (fun hHeld => ?_)
      clear hK K HA HB HC HD hb
      try simp only [Act.put, List.setIfInBounds_toArray, List.set_cons_zero, List.set_cons_succ]
      refine wpAnyH_ready (rs := [3]) (by kernel_rfl) (by simp) ?_
      refine AllReadyH.cons (by simp only [List.getElem?_toArray, List.getElem?_cons_succ, List.getElem?_cons_zero]; rfl) (fun K hK => ?_) AllReadyH.nil
      rw [if_pos (by rfl)]
      refine wp_store_mid _ _ _ rfl (w.heap.size + 1) 0 fb rfl rfl (there_all HB2.out fb.size (by rw [hsb]; exact Nat.le_refl _)) HIB.out hob ?_
      have HB3 := Lib.hid (HB2.out.full fb hsb)
      have HA3 := Lib.hid (HA2.out.farN fb.toList (show w.heap.size ≠ w.heap.size + 1 by omega) 0)
      have hC3 := hC2.farN fb.toList (show w.heap.size + 1 + 1 ≠ w.heap.size + 1 by omega) 0
      have hD3 := hD2.farN fb.toList (show w.heap.size + 1 + 1 + 1 ≠ w.heap.size + 1 by omega) 0
      have hb3 := ext_setN fb.toList hb2 (show w.heap.size ≤ w.heap.size + 1 by omega) 0
      clear hHeld
      generalize w5.setCells (w.heap.size + 1) 0 fb.toList = w6 at *
      refine hK.out _ _ ⟨hC3, hD3⟩ (fun hHeld => ?_)
      clear hK K HA2 HB2 hC2 hD2 hC3 hD3 hb2 hHeld
      try simp only [Act.put, List.setIfInBounds_toArray, List.set_cons_zero, List.set_cons_succ]
      refine wpAnyH_done (by kernel_rfl) ?_ _
      refine NoPanic.normal ?_
      go_wp2_with fail
      exact bodyPost_ret (ret_cells Try.results98 rfl rfl HA3.out HB3.out Try.underlying123 rfl HIA.out Try.underlying123 rfl HIB.out) rfl ⟨by rw [HFA.out, HFB.out], hb3⟩
end Go.Proofs.Ytgnjconhbloocaa

namespace Go.Proofs.Ytgnjconhbloocaa
open Go.RowKit
set_option linter.unusedVariables false

theorem ce_pos (b k : Int) (hk : 0 < k) (h : 0 ≤ b) : 0 ≤ Fx.ce b k ∧ Fx.ce b k ≤ b ∧ b / k ≤ Fx.ce b k := by
  refine ⟨?_, ?_, Fx.fl_le_ce b k b hk (Int.le_refl _)⟩
  · have := Fx.fl_le_ce b k b hk (Int.le_refl _)
    have := Int.ediv_nonneg h (Int.le_of_lt hk)
    omega
  · refine Fx.ce_le b k b hk ?_
    have := Int.mul_le_mul_of_nonneg_right (show (1 : Int) ≤ k by omega) h
    omega

set_option maxRecDepth 100000 in
theorem enclosure_any (lo hi : Int) (w : World) (h1 : lo ≤ hi) (h2 : lo ≤ 1073741824) (h3 : 0 ≤ hi) (h4 : -4294967296 ≤ lo) (h5 : hi ≤ 4294967296) :
    Calls Try.prog 99 #[.int .i64 lo, .int .i64 hi] w (PartOf 0 65536 w) := by
  have q1 := Fx.fl_le_ce lo 16384 hi (by omega) h1
  have q2 := ce_pos hi 16384 (by omega) h3
  go_enter Try.func99, Try.ntmps99
  go_wp2_with fail
  refine (floor_any _ _ _ (by omega) (by omega) (by omega)).mono ?_
  rintro e w' ⟨rfl, rfl⟩
  go_wp2_with fail
  refine (ceil_any _ _ _ (by omega) (by omega) (by omega)).mono ?_
  rintro e w' ⟨rfl, rfl⟩
  generalize Fx.ce hi 16384 = c at *
  generalize hlo : lo / 16384 = l at *
  have hl : l ≤ 65536 := by omega
  clear hlo
  go_wp2_with fail
  exact bodyPost_ret (v := .agg #[.int .i64 (max 0 l), .int .i64 (min 65536 c)]) (by simp [results, Try.results99, go_sem]) rfl ⟨_, _, by omega, by omega, by omega, rfl, (by repeat (first | assumption | exact ext_refl _ | refine ext_alloc ?_ _ | refine ext_drewN ?_ _ | refine ext_drew ?_ | refine ext_set ?_ (by first | (simp; done) | (simp; omega) | omega) _ | refine ext_trans ?_ ‹Below _ _ _›))⟩

theorem cells11_full (f : Nat → Int) : Fx.cells11 f 11 = #[.int .i64 0, .int .i64 (f 0), .int .i64 (f 1), .int .i64 (f 2), .int .i64 (f 3), .int .i64 (f 4), .int .i64 (f 5), .int .i64 (f 6), .int .i64 (f 7), .int .i64 (f 8), .int .i64 (f 9)] := rfl

set_option maxRecDepth 100000 in
set_option maxHeartbeats 2000000 in
theorem sine_any (x : Int) (w : World) (h0 : 0 ≤ x) (h1 : x ≤ 8192) :
    Calls Try.prog 95 #[.int .i64 x] w (PartOf 0 65536 w) := by
  have b0 := Fx.pw_bd x h0 h1 0; have b1 := Fx.pw_bd x h0 h1 1; have b2 := Fx.pw_bd x h0 h1 2; have b3 := Fx.pw_bd x h0 h1 3; have b4 := Fx.pw_bd x h0 h1 4; have b5 := Fx.pw_bd x h0 h1 5; have b6 := Fx.pw_bd x h0 h1 6; have b7 := Fx.pw_bd x h0 h1 7; have b8 := Fx.pw_bd x h0 h1 8
  simp only [Nat.reduceAdd] at b0 b1 b2 b3 b4 b5 b6 b7 b8
  go_enter Try.func95, Try.ntmps95
  go_wp2_with fail
  refine (powers_any x _ h0 h1).mono ?_
  rintro e w1 ⟨rfl, hb1⟩
  rw [cells11_full, cells11_full]
  generalize Fx.pwA x 0 = a0 at *
  generalize Fx.pwA x 1 = a1 at *
  generalize Fx.pwA x 2 = a2 at *
  generalize Fx.pwA x 3 = a3 at *
  generalize Fx.pwA x 4 = a4 at *
  generalize Fx.pwA x 5 = a5 at *
  generalize Fx.pwA x 6 = a6 at *
  generalize Fx.pwA x 7 = a7 at *
  generalize Fx.pwA x 8 = a8 at *
  generalize Fx.pwA x 9 = a9 at *
  generalize Fx.pwB x 0 = c0 at *
  generalize Fx.pwB x 1 = c1 at *
  generalize Fx.pwB x 2 = c2 at *
  generalize Fx.pwB x 3 = c3 at *
  generalize Fx.pwB x 4 = c4 at *
  generalize Fx.pwB x 5 = c5 at *
  generalize Fx.pwB x 6 = c6 at *
  generalize Fx.pwB x 7 = c7 at *
  generalize Fx.pwB x 8 = c8 at *
  generalize Fx.pwB x 9 = c9 at *
  have q2 := ce_pos c2 6 (by omega) (by omega)
  have q6 := ce_pos c6 5040 (by omega) (by omega)
  have q4 := ce_pos c4 120 (by omega) (by omega)
  have q8 := ce_pos c8 362880 (by omega) (by omega)
  have HZ := Lib.hid ((Whole.new w 32 #[.int .i64 0, .int .i64 0]).ext hb1)
  have hB1 := ext_trans (ext_alloc (ext_refl w) (.cells #[.int .i64 0, .int .i64 0] 32)) hb1
  have hzw : w.heap.size < w1.heap.size := HZ.out.lt
  clear hb1
  go_wp2_with fail
  have h2 := blocks2 w1 123 123 #[.int .i64 0, .int .i64 a0, .int .i64 a1, .int .i64 a2, .int .i64 a3, .int .i64 a4, .int .i64 a5, .int .i64 a6, .int .i64 a7, .int .i64 a8, .int .i64 a9] #[.int .i64 0, .int .i64 c0, .int .i64 c1, .int .i64 c2, .int .i64 c3, .int .i64 c4, .int .i64 c5, .int .i64 c6, .int .i64 c7, .int .i64 c8, .int .i64 c9]
  generalize (w1.alloc (.cells #[.int .i64 0, .int .i64 a0, .int .i64 a1, .int .i64 a2, .int .i64 a3, .int .i64 a4, .int .i64 a5, .int .i64 a6, .int .i64 a7, .int .i64 a8, .int .i64 a9] 123)).alloc (.cells #[.int .i64 0, .int .i64 c0, .int .i64 c1, .int .i64 c2, .int .i64 c3, .int .i64 c4, .int .i64 c5, .int .i64 c6, .int .i64 c7, .int .i64 c8, .int .i64 c9] 123) = w2 at *
  obtain ⟨hA, hC, hb2⟩ := h2
  have pa0 : w2.cell? ⟨w1.heap.size, 1, none⟩ = some (.int .i64 a0) := hA.cell 1
  have pa2 : w2.cell? ⟨w1.heap.size, 3, none⟩ = some (.int .i64 a2) := hA.cell 3
  have pa4 : w2.cell? ⟨w1.heap.size, 5, none⟩ = some (.int .i64 a4) := hA.cell 5
  have pa6 : w2.cell? ⟨w1.heap.size, 7, none⟩ = some (.int .i64 a6) := hA.cell 7
  have pc0 : w2.cell? ⟨w1.heap.size + 1, 1, none⟩ = some (.int .i64 c0) := hC.cell 1
  have pc2 : w2.cell? ⟨w1.heap.size + 1, 3, none⟩ = some (.int .i64 c2) := hC.cell 3
  have pc4 : w2.cell? ⟨w1.heap.size + 1, 5, none⟩ = some (.int .i64 c4) := hC.cell 5
  have pc6 : w2.cell? ⟨w1.heap.size + 1, 7, none⟩ = some (.int .i64 c6) := hC.cell 7
  have pc8 : w2.cell? ⟨w1.heap.size + 1, 9, none⟩ = some (.int .i64 c8) := hC.cell 9
  have hB2 := ext_trans hB1 hb2
  have HZ2 := Lib.hid (HZ.out.ext hb2)
  clear hA hC hb2 HZ hB1
  generalize w1.heap.size = g at *
  go_quiet (first | (go_at_call 86; exact qsame (ceil_any _ _ _ (by omega) (by omega) (by omega))) | (go_at_call 70; exact qsame (floor_any _ _ _ (by omega) (by omega) (by omega))))
  have hl1 : a0 - Fx.ce c2 6 + a4 / 120 - Fx.ce c6 5040 ≤ c0 - a2 / 6 + Fx.ce c4 120 - a6 / 5040 + Fx.ce c8 362880 := by omega
  have hl2 : a0 - Fx.ce c2 6 + a4 / 120 - Fx.ce c6 5040 ≤ 1073741824 := by omega
  have hl4 : -4294967296 ≤ a0 - Fx.ce c2 6 + a4 / 120 - Fx.ce c6 5040 := by omega
  have hl3 : 0 ≤ c0 - a2 / 6 + Fx.ce c4 120 - a6 / 5040 + Fx.ce c8 362880 := by omega
  have hl5 : c0 - a2 / 6 + Fx.ce c4 120 - a6 / 5040 + Fx.ce c8 362880 ≤ 4294967296 := by omega
  have hB3 := ext_drewN hB2 nq
  have HZ3 := Lib.hid (HZ2.out.drewN nq)
  have ra2 : (w2.drewN nq).cell? ⟨g, 3, none⟩ = some (.int .i64 a2) := pa2
  have ra6 : (w2.drewN nq).cell? ⟨g, 7, none⟩ = some (.int .i64 a6) := pa6
  have rc0 : (w2.drewN nq).cell? ⟨g + 1, 1, none⟩ = some (.int .i64 c0) := pc0
  have rc4 : (w2.drewN nq).cell? ⟨g + 1, 5, none⟩ = some (.int .i64 c4) := pc4
  have rc8 : (w2.drewN nq).cell? ⟨g + 1, 9, none⟩ = some (.int .i64 c8) := pc8
  clear pa0 pa2 pa4 pa6 pc0 pc2 pc4 pc6 pc8 hB2 HZ2
  generalize w2.drewN nq = w3 at *
  generalize a0 - Fx.ce c2 6 + a4 / 120 - Fx.ce c6 5040 = lo at *
  go_wp2_with fail
  go_quiet (first | (go_at_call 86; exact qsame (ceil_any _ _ _ (by omega) (by omega) (by omega))) | (go_at_call 70; exact qsame (floor_any _ _ _ (by omega) (by omega) (by omega))))
  generalize c0 - a2 / 6 + Fx.ce c4 120 - a6 / 5040 + Fx.ce c8 362880 = hi at *
  go_wp2_with fail
  refine (enclosure_any lo hi _ hl1 hl2 hl3 hl4 hl5).mono ?_
  rintro e w4 ⟨l, h, u0, u1, u2, rfl, hb4⟩
  have hZ4 := (HZ3.out.drewN _).ext hb4
  have hB4 := ext_trans (ext_drewN hB3 _) hb4
  have z0 : _ = some (Value.int .i64 0) := hZ4.cell 0
  have z1 : _ = some (Value.int .i64 0) := hZ4.cell 1
  have f0 := hZ4.frozen 0
  have f1 := hZ4.frozen 1
  have HF := Lib.hid (hZ4.store2 0 (.int .i64 l) (.int .i64 h) rfl)
  have hB5 := ext_setN [.int .i64 l, .int .i64 h] hB4 (Nat.le_refl _) 0
  clear hZ4 hb4 HZ3 hB3 ra2 ra6 rc0 rc4 rc8
  go_wp2_with fail
  exact bodyPost_ret (ret_cell Try.results95 rfl HF.out Try.underlying32 rfl (by kernel_rfl)) rfl ⟨l, h, u0, u1, u2, rfl, hB5⟩

set_option maxRecDepth 100000 in
set_option maxHeartbeats 2000000 in
theorem cosine_any (x : Int) (w : World) (h0 : 0 ≤ x) (h1 : x ≤ 8192) :
    Calls Try.prog 96 #[.int .i64 x] w (PartOf 0 65536 w) := by
  have b0 := Fx.pw_bd x h0 h1 0; have b1 := Fx.pw_bd x h0 h1 1; have b2 := Fx.pw_bd x h0 h1 2; have b3 := Fx.pw_bd x h0 h1 3; have b4 := Fx.pw_bd x h0 h1 4; have b5 := Fx.pw_bd x h0 h1 5; have b6 := Fx.pw_bd x h0 h1 6; have b7 := Fx.pw_bd x h0 h1 7; have b8 := Fx.pw_bd x h0 h1 8; have b9 := Fx.pw_bd x h0 h1 9
  simp only [Nat.reduceAdd] at b0 b1 b2 b3 b4 b5 b6 b7 b8 b9
  go_enter Try.func96, Try.ntmps96
  go_wp2_with fail
  refine (powers_any x _ h0 h1).mono ?_
  rintro e w1 ⟨rfl, hb1⟩
  rw [cells11_full, cells11_full]
  generalize Fx.pwA x 0 = a0 at *
  generalize Fx.pwA x 1 = a1 at *
  generalize Fx.pwA x 2 = a2 at *
  generalize Fx.pwA x 3 = a3 at *
  generalize Fx.pwA x 4 = a4 at *
  generalize Fx.pwA x 5 = a5 at *
  generalize Fx.pwA x 6 = a6 at *
  generalize Fx.pwA x 7 = a7 at *
  generalize Fx.pwA x 8 = a8 at *
  generalize Fx.pwA x 9 = a9 at *
  generalize Fx.pwA x 10 = a10 at *
  generalize Fx.pwB x 0 = c0 at *
  generalize Fx.pwB x 1 = c1 at *
  generalize Fx.pwB x 2 = c2 at *
  generalize Fx.pwB x 3 = c3 at *
  generalize Fx.pwB x 4 = c4 at *
  generalize Fx.pwB x 5 = c5 at *
  generalize Fx.pwB x 6 = c6 at *
  generalize Fx.pwB x 7 = c7 at *
  generalize Fx.pwB x 8 = c8 at *
  generalize Fx.pwB x 9 = c9 at *
  have q1 := ce_pos c1 2 (by omega) (by omega)
  have q5 := ce_pos c5 720 (by omega) (by omega)
  have q9 := ce_pos c9 3628800 (by omega) (by omega)
  have q3 := ce_pos c3 24 (by omega) (by omega)
  have q7 := ce_pos c7 40320 (by omega) (by omega)
  have HZ := Lib.hid ((Whole.new w 32 #[.int .i64 0, .int .i64 0]).ext hb1)
  have hB1 := ext_trans (ext_alloc (ext_refl w) (.cells #[.int .i64 0, .int .i64 0] 32)) hb1
  have hzw : w.heap.size < w1.heap.size := HZ.out.lt
  clear hb1
  go_wp2_with fail
  have h2 := blocks2 w1 123 123 #[.int .i64 0, .int .i64 a0, .int .i64 a1, .int .i64 a2, .int .i64 a3, .int .i64 a4, .int .i64 a5, .int .i64 a6, .int .i64 a7, .int .i64 a8, .int .i64 a9] #[.int .i64 0, .int .i64 c0, .int .i64 c1, .int .i64 c2, .int .i64 c3, .int .i64 c4, .int .i64 c5, .int .i64 c6, .int .i64 c7, .int .i64 c8, .int .i64 c9]
  generalize (w1.alloc (.cells #[.int .i64 0, .int .i64 a0, .int .i64 a1, .int .i64 a2, .int .i64 a3, .int .i64 a4, .int .i64 a5, .int .i64 a6, .int .i64 a7, .int .i64 a8, .int .i64 a9] 123)).alloc (.cells #[.int .i64 0, .int .i64 c0, .int .i64 c1, .int .i64 c2, .int .i64 c3, .int .i64 c4, .int .i64 c5, .int .i64 c6, .int .i64 c7, .int .i64 c8, .int .i64 c9] 123) = w2 at *
  obtain ⟨hA, hC, hb2⟩ := h2
  have pa1 : w2.cell? ⟨w1.heap.size, 2, none⟩ = some (.int .i64 a1) := hA.cell 2
  have pa3 : w2.cell? ⟨w1.heap.size, 4, none⟩ = some (.int .i64 a3) := hA.cell 4
  have pa5 : w2.cell? ⟨w1.heap.size, 6, none⟩ = some (.int .i64 a5) := hA.cell 6
  have pa7 : w2.cell? ⟨w1.heap.size, 8, none⟩ = some (.int .i64 a7) := hA.cell 8
  have pc1 : w2.cell? ⟨w1.heap.size + 1, 2, none⟩ = some (.int .i64 c1) := hC.cell 2
  have pc3 : w2.cell? ⟨w1.heap.size + 1, 4, none⟩ = some (.int .i64 c3) := hC.cell 4
  have pc5 : w2.cell? ⟨w1.heap.size + 1, 6, none⟩ = some (.int .i64 c5) := hC.cell 6
  have pc7 : w2.cell? ⟨w1.heap.size + 1, 8, none⟩ = some (.int .i64 c7) := hC.cell 8
  have pc9 : w2.cell? ⟨w1.heap.size + 1, 10, none⟩ = some (.int .i64 c9) := hC.cell 10
  have hB2 := ext_trans hB1 hb2
  have HZ2 := Lib.hid (HZ.out.ext hb2)
  clear hA hC hb2 HZ hB1
  generalize w1.heap.size = g at *
  go_quiet (first | (go_at_call 86; exact qsame (ceil_any _ _ _ (by omega) (by omega) (by omega))) | (go_at_call 70; exact qsame (floor_any _ _ _ (by omega) (by omega) (by omega))))
  have hl1 : 1073741824 - Fx.ce c1 2 + a3 / 24 - Fx.ce c5 720 + a7 / 40320 - Fx.ce c9 3628800 ≤ 1073741824 - a1 / 2 + Fx.ce c3 24 - a5 / 720 + Fx.ce c7 40320 := by omega
  have hl2 : 1073741824 - Fx.ce c1 2 + a3 / 24 - Fx.ce c5 720 + a7 / 40320 - Fx.ce c9 3628800 ≤ 1073741824 := by omega
  have hl4 : -4294967296 ≤ 1073741824 - Fx.ce c1 2 + a3 / 24 - Fx.ce c5 720 + a7 / 40320 - Fx.ce c9 3628800 := by omega
  have hl3 : 0 ≤ 1073741824 - a1 / 2 + Fx.ce c3 24 - a5 / 720 + Fx.ce c7 40320 := by omega
  have hl5 : 1073741824 - a1 / 2 + Fx.ce c3 24 - a5 / 720 + Fx.ce c7 40320 ≤ 4294967296 := by omega
  have hB3 := ext_drewN hB2 nq
  have HZ3 := Lib.hid (HZ2.out.drewN nq)
  have ra1 : (w2.drewN nq).cell? ⟨g, 2, none⟩ = some (.int .i64 a1) := pa1
  have ra5 : (w2.drewN nq).cell? ⟨g, 6, none⟩ = some (.int .i64 a5) := pa5
  have rc3 : (w2.drewN nq).cell? ⟨g + 1, 4, none⟩ = some (.int .i64 c3) := pc3
  have rc7 : (w2.drewN nq).cell? ⟨g + 1, 8, none⟩ = some (.int .i64 c7) := pc7
  clear pa1 pa3 pa5 pa7 pc1 pc3 pc5 pc7 pc9 hB2 HZ2
  generalize w2.drewN nq = w3 at *
  generalize 1073741824 - Fx.ce c1 2 + a3 / 24 - Fx.ce c5 720 + a7 / 40320 - Fx.ce c9 3628800 = lo at *
  go_wp2_with fail
  go_quiet (first | (go_at_call 86; exact qsame (ceil_any _ _ _ (by omega) (by omega) (by omega))) | (go_at_call 70; exact qsame (floor_any _ _ _ (by omega) (by omega) (by omega))))
  generalize 1073741824 - a1 / 2 + Fx.ce c3 24 - a5 / 720 + Fx.ce c7 40320 = hi at *
  go_wp2_with fail
  refine (enclosure_any lo hi _ hl1 hl2 hl3 hl4 hl5).mono ?_
  rintro e w4 ⟨l, h, u0, u1, u2, rfl, hb4⟩
  have hZ4 := (HZ3.out.drewN _).ext hb4
  have hB4 := ext_trans (ext_drewN hB3 _) hb4
  have z0 : _ = some (Value.int .i64 0) := hZ4.cell 0
  have z1 : _ = some (Value.int .i64 0) := hZ4.cell 1
  have f0 := hZ4.frozen 0
  have f1 := hZ4.frozen 1
  have HF := Lib.hid (hZ4.store2 0 (.int .i64 l) (.int .i64 h) rfl)
  have hB5 := ext_setN [.int .i64 l, .int .i64 h] hB4 (Nat.le_refl _) 0
  clear hZ4 hb4 HZ3 hB3 ra1 ra5 rc3 rc7
  go_wp2_with fail
  exact bodyPost_ret (ret_cell Try.results96 rfl HF.out Try.underlying32 rfl (by kernel_rfl)) rfl ⟨l, h, u0, u1, u2, rfl, hB5⟩
end Go.Proofs.Ytgnjconhbloocaa

namespace Go.Proofs.Ytgnjconhbloocaa
open Go.RowKit
set_option linter.unusedVariables false

theorem mod_any (a : Int) (w : World) (h0 : -9223372036854775808 ≤ a) (h1 : a ≤ 9223372036854775807) :
    Calls Try.prog 91 #[.int .i64 a] w fun e w' => ∃ m : Int, 0 ≤ m ∧ m < 65536 ∧ e = .returned (.int .i64 m) ∧ w = w' := by
  have b1 := Fx.tmod_bd a 65536 (by omega)
  go_enter Try.func91, Try.ntmps91
  generalize hr : a.tmod 65536 = r at *
  go_wp2_with fail
  go_ret
  exact ⟨_, by omega, by omega, rfl, rfl⟩

set_option maxRecDepth 100000 in
theorem quarter_any (r : Int) (w : World) (h0 : 0 ≤ r) (h1 : r ≤ 16384) :
    Calls Try.prog 92 #[.int .i64 r] w (PartOf 0 65536 w) := by
  by_cases hr : r ≤ 8192
  · have d1 : decide (r ≤ 8192) = true := by simp; omega
    go_enter Try.func92, Try.ntmps92
    go_wp2_with fail
    refine (sine_any r _ h0 hr).mono ?_
    rintro e w4 ⟨l, h, u0, u1, u2, rfl, hb4⟩
    have hZ4 := (Whole.new w 32 #[.int .i64 0, .int .i64 0]).ext hb4
    have hB4 := ext_trans (ext_alloc (ext_refl w) (.cells #[.int .i64 0, .int .i64 0] 32)) hb4
    have z0 : _ = some (Value.int .i64 0) := hZ4.cell 0
    have z1 : _ = some (Value.int .i64 0) := hZ4.cell 1
    have f0 := hZ4.frozen 0
    have f1 := hZ4.frozen 1
    have HF := Lib.hid (hZ4.store2 0 (.int .i64 l) (.int .i64 h) rfl)
    have hB5 := ext_setN [.int .i64 l, .int .i64 h] hB4 (Nat.le_refl _) 0
    clear hZ4 hb4
    go_wp2_with fail
    exact bodyPost_ret (ret_cell Try.results92 rfl HF.out Try.underlying32 rfl (by kernel_rfl)) rfl ⟨l, h, u0, u1, u2, rfl, hB5⟩
  · have d1 : decide (r ≤ 8192) = false := by simp; omega
    go_enter Try.func92, Try.ntmps92
    go_wp2_with fail
    refine (cosine_any (16384 - r) _ (by omega) (by omega)).mono ?_
    rintro e w4 ⟨l, h, u0, u1, u2, rfl, hb4⟩
    have hZ4 := (Whole.new w 32 #[.int .i64 0, .int .i64 0]).ext hb4
    have hB4 := ext_trans (ext_alloc (ext_refl w) (.cells #[.int .i64 0, .int .i64 0] 32)) hb4
    have z0 : _ = some (Value.int .i64 0) := hZ4.cell 0
    have z1 : _ = some (Value.int .i64 0) := hZ4.cell 1
    have f0 := hZ4.frozen 0
    have f1 := hZ4.frozen 1
    have HF := Lib.hid (hZ4.store2 0 (.int .i64 l) (.int .i64 h) rfl)
    have hB5 := ext_setN [.int .i64 l, .int .i64 h] hB4 (Nat.le_refl _) 0
    clear hZ4 hb4
    go_wp2_with fail
    exact bodyPost_ret (ret_cell Try.results92 rfl HF.out Try.underlying32 rfl (by kernel_rfl)) rfl ⟨l, h, u0, u1, u2, rfl, hB5⟩

theorem neg_unit {l h : Int} (u0 : 0 ≤ l) (u1 : l ≤ h) (u2 : h ≤ 65536) : Fx.negLo l h = -h ∧ Fx.negHi l h = -l := by
  have e : Fx.vb l h = true := by rw [Fx.vb_true]; omega
  unfold Fx.negLo Fx.negHi
  rw [e]
  exact ⟨rfl, rfl⟩

set_option maxRecDepth 100000 in
set_option maxHeartbeats 1000000 in
theorem sin_any (a : Int) (w : World) (h0 : -9223372036854775808 ≤ a) (h1 : a ≤ 9223372036854775807) :
    Calls Try.prog 84 #[.int .i64 a] w (PartOf (-65536) 65536 w) := by
  go_enter Try.func84, Try.ntmps84
  go_wp2_with fail
  refine (mod_any a _ h0 h1).mono ?_
  rintro e w1 ⟨m, m0, m1, rfl, rfl⟩
  by_cases hc0 : m < 16384
  · have e1 : m / 16384 = 0 := by omega
    have e2 : 0 ≤ m % 16384 := by omega
    have e3 : m % 16384 < 16384 := by omega
    go_wp2_with fail
    refine (quarter_any (m % 16384) _ (by omega) (by omega)).mono ?_
    rintro e w4 ⟨l, h, u0, u1, u2, rfl, hb4⟩
    have hZ4 := (Whole.new w 32 #[.int .i64 0, .int .i64 0]).ext hb4
    have hB4 := ext_trans (ext_alloc (ext_refl w) (.cells #[.int .i64 0, .int .i64 0] 32)) hb4
    have z0 : _ = some (Value.int .i64 0) := hZ4.cell 0
    have z1 : _ = some (Value.int .i64 0) := hZ4.cell 1
    have f0 := hZ4.frozen 0
    have f1 := hZ4.frozen 1
    have HF := Lib.hid (hZ4.store2 0 (.int .i64 l) (.int .i64 h) rfl)
    have hB5 := ext_setN [.int .i64 l, .int .i64 h] hB4 (Nat.le_refl _) 0
    clear hZ4 hb4
    go_wp2_with fail
    exact bodyPost_ret (ret_cell Try.results84 rfl HF.out Try.underlying32 rfl (by kernel_rfl)) rfl ⟨l, h, by omega, u1, by omega, rfl, hB5⟩
  · skip
    by_cases hc1 : m < 32768
    · have e1 : m / 16384 = 1 := by omega
      have e2 : 0 ≤ m % 16384 := by omega
      have e3 : m % 16384 < 16384 := by omega
      go_wp2_with fail
      refine (quarter_any (16384 - m % 16384) _ (by omega) (by omega)).mono ?_
      rintro e w4 ⟨l, h, u0, u1, u2, rfl, hb4⟩
      have hZ4 := (Whole.new w 32 #[.int .i64 0, .int .i64 0]).ext hb4
      have hB4 := ext_trans (ext_alloc (ext_refl w) (.cells #[.int .i64 0, .int .i64 0] 32)) hb4
      have z0 : _ = some (Value.int .i64 0) := hZ4.cell 0
      have z1 : _ = some (Value.int .i64 0) := hZ4.cell 1
      have f0 := hZ4.frozen 0
      have f1 := hZ4.frozen 1
      have HF := Lib.hid (hZ4.store2 0 (.int .i64 l) (.int .i64 h) rfl)
      have hB5 := ext_setN [.int .i64 l, .int .i64 h] hB4 (Nat.le_refl _) 0
      clear hZ4 hb4
      go_wp2_with fail
      exact bodyPost_ret (ret_cell Try.results84 rfl HF.out Try.underlying32 rfl (by kernel_rfl)) rfl ⟨l, h, by omega, u1, by omega, rfl, hB5⟩
    · skip
      by_cases hc2 : m < 49152
      · have e1 : m / 16384 = 2 := by omega
        have e2 : 0 ≤ m % 16384 := by omega
        have e3 : m % 16384 < 16384 := by omega
        go_wp2_with fail
        refine (quarter_any (m % 16384) _ (by omega) (by omega)).mono ?_
        rintro e w3 ⟨l0, hh0, u0, u1, u2, rfl, hb3⟩
        go_wp2_with fail
        refine (rneg_any l0 hh0 _).mono ?_
        rintro e w4 ⟨rfl, hb4'⟩
        rw [(neg_unit u0 u1 u2).1, (neg_unit u0 u1 u2).2]
        have hb4 := ext_trans hb3 hb4'
        clear hb3 hb4'
        obtain ⟨l, hl⟩ : ∃ l : Int, l = -hh0 := ⟨_, rfl⟩
        obtain ⟨h, hh⟩ : ∃ h : Int, h = -l0 := ⟨_, rfl⟩
        rw [← hl, ← hh]
        have v0 : -65536 ≤ l := by omega
        have v1 : l ≤ h := by omega
        have v2 : h ≤ 65536 := by omega
        clear hl hh
        have hZ4 := (Whole.new w 32 #[.int .i64 0, .int .i64 0]).ext hb4
        have hB4 := ext_trans (ext_alloc (ext_refl w) (.cells #[.int .i64 0, .int .i64 0] 32)) hb4
        have z0 : _ = some (Value.int .i64 0) := hZ4.cell 0
        have z1 : _ = some (Value.int .i64 0) := hZ4.cell 1
        have f0 := hZ4.frozen 0
        have f1 := hZ4.frozen 1
        have HF := Lib.hid (hZ4.store2 0 (.int .i64 l) (.int .i64 h) rfl)
        have hB5 := ext_setN [.int .i64 l, .int .i64 h] hB4 (Nat.le_refl _) 0
        clear hZ4 hb4
        go_wp2_with fail
        exact bodyPost_ret (ret_cell Try.results84 rfl HF.out Try.underlying32 rfl (by kernel_rfl)) rfl ⟨l, h, v0, v1, v2, rfl, hB5⟩
      · skip
        have e1 : m / 16384 = 3 := by omega
        have e2 : 0 ≤ m % 16384 := by omega
        have e3 : m % 16384 < 16384 := by omega
        go_wp2_with fail
        refine (quarter_any (16384 - m % 16384) _ (by omega) (by omega)).mono ?_
        rintro e w3 ⟨l0, hh0, u0, u1, u2, rfl, hb3⟩
        go_wp2_with fail
        refine (rneg_any l0 hh0 _).mono ?_
        rintro e w4 ⟨rfl, hb4'⟩
        rw [(neg_unit u0 u1 u2).1, (neg_unit u0 u1 u2).2]
        have hb4 := ext_trans hb3 hb4'
        clear hb3 hb4'
        obtain ⟨l, hl⟩ : ∃ l : Int, l = -hh0 := ⟨_, rfl⟩
        obtain ⟨h, hh⟩ : ∃ h : Int, h = -l0 := ⟨_, rfl⟩
        rw [← hl, ← hh]
        have v0 : -65536 ≤ l := by omega
        have v1 : l ≤ h := by omega
        have v2 : h ≤ 65536 := by omega
        clear hl hh
        have hZ4 := (Whole.new w 32 #[.int .i64 0, .int .i64 0]).ext hb4
        have hB4 := ext_trans (ext_alloc (ext_refl w) (.cells #[.int .i64 0, .int .i64 0] 32)) hb4
        have z0 : _ = some (Value.int .i64 0) := hZ4.cell 0
        have z1 : _ = some (Value.int .i64 0) := hZ4.cell 1
        have f0 := hZ4.frozen 0
        have f1 := hZ4.frozen 1
        have HF := Lib.hid (hZ4.store2 0 (.int .i64 l) (.int .i64 h) rfl)
        have hB5 := ext_setN [.int .i64 l, .int .i64 h] hB4 (Nat.le_refl _) 0
        clear hZ4 hb4
        go_wp2_with fail
        exact bodyPost_ret (ret_cell Try.results84 rfl HF.out Try.underlying32 rfl (by kernel_rfl)) rfl ⟨l, h, v0, v1, v2, rfl, hB5⟩

set_option maxRecDepth 100000 in
theorem cos_any (a : Int) (w : World) (h0 : -9223372036854775808 ≤ a) (h1 : a ≤ 9223372036854775807) :
    Calls Try.prog 83 #[.int .i64 a] w (PartOf (-65536) 65536 w) := by
  go_enter Try.func83, Try.ntmps83
  go_wp2_with fail
  refine (mod_any a _ h0 h1).mono ?_
  rintro e w1 ⟨m, m0, m1, rfl, rfl⟩
  go_wp2_with fail
  refine (sin_any (m + 16384) _ (by omega) (by omega)).mono ?_
  rintro e w4 ⟨l, h, u0, u1, u2, rfl, hb4⟩
  have hZ4 := (Whole.new w 32 #[.int .i64 0, .int .i64 0]).ext hb4
  have hB4 := ext_trans (ext_alloc (ext_refl w) (.cells #[.int .i64 0, .int .i64 0] 32)) hb4
  have z0 : _ = some (Value.int .i64 0) := hZ4.cell 0
  have z1 : _ = some (Value.int .i64 0) := hZ4.cell 1
  have f0 := hZ4.frozen 0
  have f1 := hZ4.frozen 1
  have HF := Lib.hid (hZ4.store2 0 (.int .i64 l) (.int .i64 h) rfl)
  have hB5 := ext_setN [.int .i64 l, .int .i64 h] hB4 (Nat.le_refl _) 0
  clear hZ4 hb4
  go_wp2_with fail
  exact bodyPost_ret (ret_cell Try.results83 rfl HF.out Try.underlying32 rfl (by kernel_rfl)) rfl ⟨l, h, u0, u1, u2, rfl, hB5⟩
end Go.Proofs.Ytgnjconhbloocaa
