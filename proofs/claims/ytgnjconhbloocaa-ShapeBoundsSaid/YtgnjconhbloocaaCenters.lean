/- Contracts of Centers, of the program and of the reference. -/
import Derived.Test.YtgnjconhbloocaaRBound
import Derived.Test.YtgnjconhbloocaaBoxed
namespace Go.Proofs.Ytgnjconhbloocaa
open Go.RowKit
set_option linter.unusedVariables false

/-- The middle of a vector of intervals. -/
def Fx.ctr (x : Fx.V3) : Int × Int × Int := (Fx.mid x.a x.b, Fx.mid x.c x.d, Fx.mid x.e x.f)
def Fx.centers (L : List Fx.V3) : List (Int × Int × Int) := if Fx.placedB L then L.map Fx.ctr else []
theorem Fx.centers_no {L : List Fx.V3} (h : Fx.placedB L = false) : Fx.centers L = [] := by unfold Fx.centers; rw [h]; rfl
theorem Fx.centers_yes {L : List Fx.V3} (h : Fx.placedB L = true) : Fx.centers L = L.map Fx.ctr := by unfold Fx.centers; rw [h]; rfl

/-- Number t of the row of the middles. -/
def Fx.ctrAt (L : List Fx.V3) (t : Nat) : Int := Fx.mid ((L.getD (t / 3) Fx.V3.zero).lo (t % 3)) ((L.getD (t / 3) Fx.V3.zero).hi (t % 3))
theorem Fx.ctrAt_eq (L : List Fx.V3) (i k : Nat) (hk : k < 3) : Fx.ctrAt L (i * 3 + k) = Fx.mid ((L.getD i Fx.V3.zero).lo k) ((L.getD i Fx.V3.zero).hi k) := by
  unfold Fx.ctrAt
  rw [show (i * 3 + k) / 3 = i by omega, show (i * 3 + k) % 3 = k by omega]

/-- A row of N numbers of which the first m are those of f; the others are 0. -/
def rowTo (f : Nat → Int) (N m : Nat) : List Value := (List.range N).map fun t => .int .i64 (if t < m then f t else 0)
theorem rowTo_len (f : Nat → Int) (N m : Nat) : (rowTo f N m).length = N := by simp [rowTo]
theorem rowTo_get (f : Nat → Int) (N m t : Nat) (ht : t < N) : (rowTo f N m)[t]? = some (.int .i64 (if t < m then f t else 0)) := by simp [rowTo, ht]
theorem rowTo_set (f : Nat → Int) (N m : Nat) : (rowTo f N m).set m (.int .i64 (f m)) = rowTo f N (m + 1) := by
  apply List.ext_getElem?
  intro t
  rw [List.getElem?_set]
  by_cases ht : t < N
  · rw [rowTo_get f N m t ht, rowTo_get f N (m + 1) t ht, rowTo_len]
    by_cases e : m = t
    · subst e
      rw [if_pos rfl, if_pos ht, if_pos (by omega)]
    · rw [if_neg e]
      by_cases c : t < m
      · rw [if_pos c, if_pos (by omega)]
      · rw [if_neg c, if_neg (by omega)]
  · rw [List.getElem?_eq_none (by rw [rowTo_len]; omega), List.getElem?_eq_none (by rw [rowTo_len]; omega), rowTo_len]
    by_cases e : m = t
    · rw [if_pos e, if_neg (by omega)]
    · rw [if_neg e]
theorem made_vecs (f : Nat → Int) (n : Nat) : (madeCells (Value.agg #[.int .i64 0, .int .i64 0, .int .i64 0]).cells (n * 3)).toList = rowTo f (n * 3) 0 := by
  apply List.ext_getElem?
  intro t
  by_cases ht : t < n * 3
  · rw [rowTo_get f _ _ t ht]
    have h3 : t % 3 = 0 ∨ t % 3 = 1 ∨ t % 3 = 2 := by omega
    simp [madeCells, Value.cells, ht]
    rcases h3 with h | h | h <;> simp [h]
  · rw [List.getElem?_eq_none (l := rowTo f (n * 3) 0) (by rw [rowTo_len]; omega)]
    rw [List.getElem?_eq_none]
    simp [madeCells, Value.cells]
    omega

theorem PSl.ext {w w' : World} {v : Value} {P : List (Int × Int × Int)} (h : PSl w v P) (hb : Below w.heap.size w w') : PSl w' v P := by
  obtain ⟨a, c, hv, hl, h⟩ := h
  refine ⟨a, c, hv, hl, fun h0 => ?_⟩
  obtain ⟨b, o, ha, hbw, hI⟩ := h h0
  refine ⟨b, o, ha, Nat.lt_of_lt_of_le hbw hb.size, fun i hi => ?_⟩
  obtain ⟨h1, h2, h3⟩ := hI i hi
  exact ⟨(hb.cell (p := ⟨b, _, none⟩) hbw).trans h1, (hb.cell (p := ⟨b, _, none⟩) hbw).trans h2, (hb.cell (p := ⟨b, _, none⟩) hbw).trans h3⟩
theorem PSl.nil (w : World) (a : Option Addr) (c : Nat) : PSl w (.slice a 0 c) [] := ⟨a, c, rfl, by simp, fun h => absurd h (by simp)⟩

theorem map_ctr_getD (L : List Fx.V3) (i : Nat) (hi : i < L.length) : (L.map Fx.ctr).getD i (0, 0, 0) = Fx.ctr (L.getD i Fx.V3.zero) := by
  simp only [List.getD_eq_getElem?_getD, List.getElem?_map, List.getElem?_eq_getElem hi]; rfl

theorem PSl.of_row {w : World} {base : Nat} {e : TypeId} {v : Value} {L : List Fx.V3} (h : w.ownsRow base e 3 v L.length (rowTo (Fx.ctrAt L) (L.length * 3) (L.length * 3))) (hn : L.length ≤ 8) : PSl w v (L.map Fx.ctr) := by
  have hl := h.lt
  have h' := h
  obtain ⟨h0, h⟩ := h
  rcases h with ⟨h1, h2⟩ | ⟨g, cap, cur, rfl, hg, hh, h⟩
  · have : L = [] := by cases L with | nil => rfl | cons a l => simp at h2
    subst this
    rw [h1]
    exact PSl.nil _ _ _
  · refine ⟨some ⟨g, 0, none⟩, cap, by simp, by simp; omega, fun _ => ⟨g, 0, rfl, (hl g rfl).2, fun i hi => ?_⟩⟩
    rw [List.length_map] at hi
    rw [map_ctr_getD L i hi]
    have hc : ∀ k : Nat, k < 3 → w.cell? ⟨g, i * 3 + k, none⟩ = some (.int .i64 (Fx.mid ((L.getD i Fx.V3.zero).lo k) ((L.getD i Fx.V3.zero).hi k))) := fun k hk => by
      rw [h'.cellAt (i * 3 + k) (by omega), rowTo_get _ _ _ _ (by omega), if_pos (by omega), Fx.ctrAt_eq L i k hk]
    rw [Nat.zero_add]
    exact ⟨hc 0 (by omega), hc 1 (by omega), hc 2 (by omega)⟩

theorem info_vec : (Try.prog.info? 66).map (fun i => (i.zero, i.size, i.bytes)) = some (some (.agg #[.int .i64 0, .int .i64 0, .int .i64 0]), 3, 24) := by kernel_rfl

/-- A list of points is returned. -/
def GivesP (P : List (Int × Int × Int)) (w : World) (e : Ending) (w' : World) : Prop := ∃ u, e = .returned u ∧ PSl w' u P ∧ Below w.heap.size w w'

set_option maxRecDepth 100000 in
set_option maxHeartbeats 2000000 in
theorem centers_any (v : Value) (L : List Fx.V3) (w : World) (hI : VSl w v L) :
    Calls Try.prog 38 #[v] w (GivesP (Fx.centers L) w) := by
  have HI := Lib.hid hI
  obtain ⟨a, c, rfl, hl, hI'⟩ := hI
  by_cases hp : Fx.placedB L = true
  · rw [Fx.centers_yes hp]
    have hlen := Fx.placedB_len hp
    obtain ⟨b, o, rfl, hJ⟩ := hI' (by omega)
    have HJ := Lib.hid hJ
    have hbw := hJ.1
    have HP := Lib.hid hp
    clear hI' hJ hp
    obtain ⟨i0, hi, hz0, hz1, hz2⟩ := info_parts info_vec
    go_enter Try.func38, Try.ntmps38
    go_wp2_with fail
    refine (placed_yes _ L _ HI.out HP.out).mono ?_
    rintro e w1 ⟨rfl, hb1⟩
    obtain ⟨wm, hmk, hownm, hgm⟩ := run_makeSlice_full w1 w1.heap.size 46 66 i0 (.agg #[.int .i64 0, .int .i64 0, .int .i64 0]) 3 Try.underlying46 hi hz0 hz1 .i64 .i64 L.length (by omega) (by rw [hz2]; omega) (by unfold maxLen; omega) (Nat.le_refl _)
    rw [made_vecs (Fx.ctrAt L)] at hownm
    have Bm : Below w1.heap.size w1 wm := (ext_refl w1).grown hgm (Nat.le_refl _) (fun k e => by cases e)
    have Bw := ext_trans hb1 Bm
    have hsz := hb1.size
    have HO := Lib.hid (owns_base hownm hsz)
    clear hownm hgm hb1 Bm HI HP
    go_wp2_with fail
    generalize hg1 : w1.heap.size = g at *
    clear hmk hg1
    go_loopw [16] (fun iv wr => ∃ i : Nat, i ≤ L.length ∧ iv = .int .i64 i ∧ wr.ownsRow w.heap.size 66 3 (.slice (some ⟨g, 0, none⟩) L.length L.length) L.length (rowTo (Fx.ctrAt L) (L.length * 3) (i * 3)) ∧ Below w.heap.size w wr) (fun iv _ => L.length - (intOf iv).toNat)
    case atStart => exact ⟨0, by omega, rfl, by rw [Nat.zero_mul]; exact HO.out, Bw⟩
    case round =>
      obtain ⟨i, hil, rfl, hO, hb⟩ := hrel
      clear HO Bw
      by_cases hlt : i < L.length
      · obtain ⟨c0, c1, c2, c3, c4, c5⟩ := (HJ.out.ext hb).at_ i hlt
        have HFe := Lib.hid (fun j hj => Fx.ctrAt_eq L i j hj)
        generalize L.getD i Fx.V3.zero = x at *
        have hd : decide ((i : Int) < (L.length : Int)) = true := by simp; omega
        have k0 : (0 : Int) ≤ (i : Int) := by omega
        have k1 : (i : Int) < (L.length : Int) := by omega
        have HO := Lib.hid hO
        clear hO
        go_wp2_with fail
        obtain ⟨wo, hwo⟩ : ∃ wo : World, wo = wr := ⟨_, rfl⟩
        subst hwo
        have HO0 := Lib.hid (HO.out.alloc (.cells x.arr 34))
        have HB0 := Lib.hid (ext_alloc hb (.cells x.arr 34))
        clear c0 c1 c2 c3 c4 c5 HO hb
        go_loopw [22] (fun jv wr => ∃ j : Nat, j ≤ 3 ∧ jv = .int .i64 j ∧ wr.ownsRow w.heap.size 66 3 (.slice (some ⟨g, 0, none⟩) L.length L.length) L.length (rowTo (Fx.ctrAt L) (L.length * 3) (i * 3 + j)) ∧ Below w.heap.size w wr) (fun jv _ => 3 - (intOf jv).toNat)
        case atStart => exact ⟨0, by omega, rfl, HO0.out, HB0.out⟩
        case round =>
          obtain ⟨j, hj, rfl, hO, hbj⟩ := hrel
          clear HO0 HB0
          by_cases hj3 : j < 3
          · have hix := fun w => idx3 x j hj3 w
            have HF := Lib.hid (HFe.out j hj3)
            generalize x.lo j = xl at *
            generalize x.hi j = xh at *
            have k2 : (0 : Int) ≤ (j : Int) := by omega
            have k3 : (j : Int) < 3 := by omega
            have HO := Lib.hid hO
            have hgl := hO.lt g rfl
            clear hO
            go_wp2_with fail
            have hX := Whole.new wr 32 #[.int .i64 xl, .int .i64 xh]
            have HO2 := Lib.hid (HO.out.alloc (.cells #[.int .i64 xl, .int .i64 xh] 32))
            have hB2 := ext_alloc hbj (.cells #[.int .i64 xl, .int .i64 xh] 32)
            have hz2 : wr.heap.size < (wr.alloc (.cells #[.int .i64 xl, .int .i64 xh] 32)).heap.size := by simp
            clear HO hbj
            generalize wr.alloc (.cells #[.int .i64 xl, .int .i64 xh] 32) = w2 at *
            generalize wr.heap.size = gx at *
            have HCl : Hid (w2.cell? ⟨gx, 0, none⟩ = some (.int .i64 xl)) := Lib.hid (hX.cell 0)
            have HCh : Hid (w2.cell? ⟨gx, 1, none⟩ = some (.int .i64 xh)) := Lib.hid (hX.cell 1)
            clear hX
            refine wp_region_noPanic ?_
            refine wp_region_held_drew (S := (fun w' => w'.cell? ⟨gx, 0, none⟩ = some (.int .i64 xl) ∧ w'.cell? ⟨gx, 1, none⟩ = some (.int .i64 xh))) (by kernel_rfl) ?_ (fun hHeld => ?_)
            · exact ⟨HCl.out, HCh.out⟩
            refine wpAnyH_take (i := 0) (v := ?_) (by simp only [List.getElem?_toArray, List.getElem?_cons_succ, List.getElem?_cons_zero]; rfl) (by kernel_rfl) (by kernel_rfl) (by kernel_rfl) (fun _ _ _ h => h) (Or.inl ⟨by rfl, ?_⟩) (by assumption) ?_
            rotate_left
            · intro w hSw; (try dsimp only at hSw); go_simp; first | done | with_reducible rfl
            try simp only [Act.put, List.setIfInBounds_toArray, List.set_cons_zero, List.set_cons_succ]
            refine wpAnyH_take (i := 1) (v := ?_) (by simp only [List.getElem?_toArray, List.getElem?_cons_succ, List.getElem?_cons_zero]; rfl) (by kernel_rfl) (by kernel_rfl) (by kernel_rfl) (fun _ _ _ h => h) (Or.inl ⟨by rfl, ?_⟩) (by assumption) ?_
            rotate_left
            · intro w hSw; (try dsimp only at hSw); go_simp; first | done | with_reducible rfl
            try simp only [Act.put, List.setIfInBounds_toArray, List.set_cons_zero, List.set_cons_succ]
            refine wpAnyH_take (i := 2) (v := ?_) (by simp only [List.getElem?_toArray, List.getElem?_cons_succ, List.getElem?_cons_zero]; rfl) (by kernel_rfl) (by kernel_rfl) (by kernel_rfl) (fun _ _ _ h => h) (Or.inl ⟨by rfl, ?_⟩) (by assumption) ?_
            rotate_left
            · intro w hSw; (try dsimp only at hSw); go_simp; first | done | with_reducible rfl
            try simp only [Act.put, List.setIfInBounds_toArray, List.set_cons_zero, List.set_cons_succ]
            refine wpAnyH_take (i := 3) (v := ?_) (by simp only [List.getElem?_toArray, List.getElem?_cons_succ, List.getElem?_cons_zero]; rfl) (by kernel_rfl) (by kernel_rfl) (by kernel_rfl) (fun _ _ _ h => h) (Or.inl ⟨by rfl, ?_⟩) (by assumption) ?_
            rotate_left
            · intro w hSw; (try dsimp only at hSw); go_simp; first | done | with_reducible rfl
            try simp only [Act.put, List.setIfInBounds_toArray, List.set_cons_zero, List.set_cons_succ]
            refine wpAnyH_take (i := 5) (v := ?_) (by simp only [List.getElem?_toArray, List.getElem?_cons_succ, List.getElem?_cons_zero]; rfl) (by kernel_rfl) (by kernel_rfl) (by kernel_rfl) (fun _ _ _ h => h) (Or.inl ⟨by rfl, ?_⟩) (by assumption) ?_
            rotate_left
            · intro w hSw; (try dsimp only at hSw); go_simp; first | done | with_reducible rfl
            try simp only [Act.put, List.setIfInBounds_toArray, List.set_cons_zero, List.set_cons_succ]
            refine wpAnyH_ready (rs := [4]) (by kernel_rfl) (by simp) ?_
            refine AllReadyH.cons (by simp only [List.getElem?_toArray, List.getElem?_cons_succ, List.getElem?_cons_zero]; rfl) (fun K hK => ?_) AllReadyH.nil
            go_simp
            refine (mid_any xl xh _).mono ?_
            rintro e w3 ⟨rfl, hb3⟩
            rw [← HF.out]
            have HO3 := Lib.hid (owns_ext (owns_ext HO2.out (ext_drew (ext_refl _))) hb3)
            have hB3 := ext_trans (ext_drew hB2) hb3
            have hK3 : w3.cell? ⟨gx, 0, none⟩ = some (.int .i64 xl) ∧ w3.cell? ⟨gx, 1, none⟩ = some (.int .i64 xh) := ⟨(hb3.cell (p := ⟨gx, 0, none⟩) hz2).trans HCl.out, (hb3.cell (p := ⟨gx, 1, none⟩) hz2).trans HCh.out⟩
            go_wp2_with fail
            refine hK.out _ _ ?_ (fun hHeld => ?_)
            · exact hK3
            clear hK K HO2 hB2 hb3
            try simp only [Act.put, List.setIfInBounds_toArray, List.set_cons_zero, List.set_cons_succ]
            refine wpAnyH_take (i := 6) (v := ?_) (by simp only [List.getElem?_toArray, List.getElem?_cons_succ, List.getElem?_cons_zero]; rfl) (by kernel_rfl) (by kernel_rfl) (by kernel_rfl) (fun _ _ _ h => h) (Or.inl ⟨by rfl, ?_⟩) (by assumption) ?_
            rotate_left
            · intro w hSw; (try dsimp only at hSw); go_simp; first | done | with_reducible rfl
            try simp only [Act.put, List.setIfInBounds_toArray, List.set_cons_zero, List.set_cons_succ]
            refine wpAnyH_ready (rs := [7]) (by kernel_rfl) (by simp) ?_
            refine AllReadyH.cons (by simp only [List.getElem?_toArray, List.getElem?_cons_succ, List.getElem?_cons_zero]; rfl) (fun K hK => ?_) AllReadyH.nil
            have ck := (HO3.out.cellAt (i * 3 + j) (by omega)).trans (rowTo_get (Fx.ctrAt L) _ _ (i * 3 + j) (by omega))
            have fk := HO3.out.frozenAt (i * 3 + j)
            have hst := (HO3.out.stored (i * 3 + j) (.int .i64 (Fx.ctrAt L (i * 3 + j)))).1
            rw [rowTo_set] at hst
            have HO4 := Lib.hid hst
            have hB4 := ext_set hB3 (p := ⟨g, i * 3 + j, none⟩) hgl.1 (.int .i64 (Fx.ctrAt L (i * 3 + j)))
            have e4 : (w3.setCell ⟨g, i * 3 + j, none⟩ (.int .i64 (Fx.ctrAt L (i * 3 + j)))).heap[gx]? = w3.heap[gx]? := Below.heap_setCell _ _ _ _ (show gx ≠ g by omega)
            have hK4 : (w3.setCell ⟨g, i * 3 + j, none⟩ (.int .i64 (Fx.ctrAt L (i * 3 + j)))).cell? ⟨gx, 0, none⟩ = some (.int .i64 xl) ∧ (w3.setCell ⟨g, i * 3 + j, none⟩ (.int .i64 (Fx.ctrAt L (i * 3 + j)))).cell? ⟨gx, 1, none⟩ = some (.int .i64 xh) := by
              obtain ⟨q1, q2⟩ := hK3
              simp only [World.cell?, e4] at q1 q2 ⊢
              exact ⟨q1, q2⟩
            clear hst e4 hK3 hHeld
            generalize Fx.ctrAt L (i * 3 + j) = y at *
            go_simp
            generalize w3.setCell ⟨g, i * 3 + j, none⟩ (.int .i64 y) = w4 at *
            refine hK.out _ _ ?_ (fun hHeld => ?_)
            · exact hK4
            clear hK K hK4 HO3 hB3 ck fk
            try simp only [Act.put, List.setIfInBounds_toArray, List.set_cons_zero, List.set_cons_succ]
            refine wpAnyH_done (by kernel_rfl) ?_ _
            refine NoPanic.normal ?_
            clear hHeld
            go_wp2_with fail
            go_roundw
            case rel => exact ⟨j + 1, by omega, by go_num, HO4.out, hB4⟩
            case measure => simp [intOf]; omega
          · obtain rfl : j = 3 := by omega
            have HO := Lib.hid (show wr.ownsRow w.heap.size 66 3 (.slice (some ⟨g, 0, none⟩) L.length L.length) L.length (rowTo (Fx.ctrAt L) (L.length * 3) ((i + 1) * 3)) from (by rw [show (i + 1) * 3 = i * 3 + 3 by omega]; exact hO))
            clear hO
            go_wp2_with fail
            go_roundw
            case rel => exact ⟨i + 1, by omega, by go_num, HO.out, hbj⟩
            case measure => simp [intOf]; omega
      · obtain rfl : i = L.length := by omega
        have hd : decide ((L.length : Int) < (L.length : Int)) = false := by simp
        have HO := Lib.hid (PSl.of_row hO (by omega))
        clear hO
        go_wp2_with fail
        go_ret
        exact ⟨_, rfl, HO.out, hb⟩
  · have hp : Fx.placedB L = false := by simpa using hp
    rw [Fx.centers_no hp]
    have HP := Lib.hid hp
    clear hp hI'
    go_enter Try.func38, Try.ntmps38
    go_wp2_with fail
    refine (placed_no _ L _ HI.out HP.out).mono ?_
    rintro e w1 ⟨rfl, hb1⟩
    go_wp2_with fail
    go_ret
    exact ⟨_, rfl, PSl.nil _ _ _, hb1⟩

end Go.Proofs.Ytgnjconhbloocaa
