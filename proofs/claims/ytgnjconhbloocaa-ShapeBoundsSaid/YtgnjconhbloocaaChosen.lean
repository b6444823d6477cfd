/- Contract of the maker that chooses points within placed points. -/
import Derived.Test.YtgnjconhbloocaaCombLaw
import Derived.Test.YtgnjconhbloocaaPoint
namespace Go.Proofs.Ytgnjconhbloocaa
open Go.RowKit
set_option linter.unusedVariables false

/-- A number of the interval from a to b is returned, as an interval. -/
def OneOf (a b : Int) (w : World) (e : Ending) (w' : World) : Prop := ∃ x : Int, a ≤ x ∧ x ≤ b ∧ e = .returned (.agg #[.int .i64 x, .int .i64 x]) ∧ Below w.heap.size w w'

theorem part0_any (a b m : Int) (w : World) (hv : Fx.vb a b = true) :
    Calls Try.prog 25 #[.agg #[.int .i64 a, .int .i64 b], .int .i64 m, .int .i64 0] w (OneOf a b w) := by
  obtain ⟨u0, u1, u2⟩ := Fx.vb_true.1 hv
  clear hv
  have s0 := Int.emod_nonneg m (show (b - a + 1 : Int) ≠ 0 by omega)
  have s1 := Int.emod_lt_of_pos m (show (0 : Int) < b - a + 1 by omega)
  go_enter Try.func25, Try.ntmps25
  go_wp2_with fail
  go_quiet ((go_at_call 17; exact qsame (round_any _ _ _ (by omega) (by omega))))
  have hb1 := below_drewN (Below.refl ((w.alloc (.cells #[.int .i64 a, .int .i64 b] 32)).alloc (.cells #[.int .i64 0, .int .i64 0] 32)).heap.size ((w.alloc (.cells #[.int .i64 a, .int .i64 b] 32)).alloc (.cells #[.int .i64 0, .int .i64 0] 32))) nq
  generalize ((w.alloc (.cells #[.int .i64 a, .int .i64 b] 32)).alloc (.cells #[.int .i64 0, .int .i64 0] 32)).drewN nq = w1 at *
  obtain ⟨hc1, hf1⟩ := bcell hb1
  have hz1 := hb1.size
  try simp at hz1
  have hz1b : w.heap.size + 1 < w1.heap.size := by omega
  have hz1a : w.heap.size < w1.heap.size := by omega
  go_wp2_with fail
  exact bodyPost_ret (v := .agg #[.int .i64 (a + m % (b - a + 1)), .int .i64 (a + m % (b - a + 1))]) (by simp [results, Try.results25, go_sem, *]) rfl ⟨_, by omega, by omega, rfl, (by repeat (first | exact Below.refl _ _ | refine Below.setCell ?_ (by first | (simp; done) | (simp; omega) | omega) _ | refine Below.alloc ?_ (by first | (simp; done) | (simp; omega) | omega) _ | refine below_drewN ?_ _ | refine Below.trans ?_ (Below.mono ‹Below _ _ _› (by first | (simp; done) | (simp; omega) | omega))))⟩

theorem setV_took {x y : Fx.V3} {q : Int} {j : Nat} (hj : j < 3) (hm : Took x y j) (hq : x.lo j ≤ q ∧ q ≤ x.hi j) : Took x (setV y q q j) (j + 1) := by
  intro i hi
  match j, hj, i, hi with
  | 0, _, 0, _ => exact ⟨rfl, hq⟩
  | 1, _, 0, _ => exact hm 0 (by omega)
  | 1, _, 1, _ => exact ⟨rfl, hq⟩
  | 2, _, 0, _ => exact hm 0 (by omega)
  | 2, _, 1, _ => exact hm 1 (by omega)
  | 2, _, 2, _ => exact ⟨rfl, hq⟩

/-- Points within the points of L are returned. -/
def GivesChosen (L : List Fx.V3) (w : World) (e : Ending) (w' : World) : Prop :=
  ∃ (v : Value) (M : List Fx.V3), e = .returned v ∧ M.length = L.length ∧ (∀ i : Nat, i < L.length → Took (L.getD i Fx.V3.zero) (M.getD i Fx.V3.zero) 3) ∧ w'.ownsRow w.heap.size 34 6 v M.length (vCells M) ∧ Below w.heap.size w w'

theorem there_of {w : World} {g : Nat} {t : TypeId} {cs : Array Value} (h : Whole w g t cs) (o n : Nat) (hn : o + n ≤ cs.size) : w.there g o n := fun j hj => by
  refine ⟨?_, h.frozen _⟩
  rw [h.cell, Array.getElem?_eq_getElem (show o + j < cs.size by omega)]
  rfl

set_option maxRecDepth 100000 in
set_option maxHeartbeats 2000000 in
theorem chosen_any (v u : Value) (L : List Fx.V3) (xs : List Int) (w : World) (hI : VSl w v L) (hU : IntSl w u xs) (hl : L.length ≤ 5) (hR : Fx.allR L = true) :
    Calls Try.prog 15 #[v, u] w (GivesChosen L w) := by
  have HU := Lib.hid hU
  obtain ⟨a, c, rfl, _, h0⟩ := hI
  obtain ⟨a2, c2, rfl, _, _⟩ := hU
  have H0 := Lib.hid h0
  have HR := Lib.hid hR
  clear h0 hR
  obtain ⟨i0, hi, hz0, hz1, hz2⟩ := info_parts info_ivec
  go_enter Try.func15, Try.ntmps15
  go_wp2_with fail
  refine (from_any _ xs _ HU.out).mono ?_
  rintro e w1 ⟨rfl, hs1, hb1⟩
  clear HU
  have HS1 := Lib.hid hs1
  clear hs1
  go_wp2_with fail
  go_loopw [6, 7] (fun ov jv wr => ∃ (M : List Fx.V3), M.length ≤ L.length ∧ jv = .int .i64 M.length ∧ Hid (∀ i : Nat, i < M.length → Took (L.getD i Fx.V3.zero) (M.getD i Fx.V3.zero) 3) ∧ wr.ownsRow (w.heap.size + 1) 34 6 ov M.length (vCells M) ∧ Src wr w.heap.size w.heap.size ∧ Below w.heap.size w wr) (fun _ jv _ => L.length - (intOf jv).toNat)
  case atStart => exact ⟨[], by simp, by go_num, Lib.hid (fun i hi => absurd hi (by simp)), World.ownsRow_nil _ _ _ _, HS1.out, hb1⟩
  case round =>
    obtain ⟨M, hml, rfl, hT, hown, hs, hb⟩ := hrel
    clear HS1 hb1
    by_cases hlt : M.length < L.length
    · obtain ⟨b, o, rfl, hJ⟩ := H0.out (by omega)
      have HJ := Lib.hid hJ
      have hbw := hJ.1
      clear hJ
      have hxr := Fx.allR_at HR.out M.length hlt
      have HXR := Lib.hid hxr
      clear hxr
      have hd : decide ((M.length : Int) < (L.length : Int)) = true := by simp; omega
      have hm4 : M.length ≤ 4 := by omega
      go_wp2_with fail
      obtain ⟨wo, rfl⟩ : ∃ wo : World, wo = wr := ⟨_, rfl⟩
      have hswo := hs.lt
      have hown0 := hown.alloc (.cells Fx.V3.zero.arr 34)
      have hs0 := hs.alloc (.cells Fx.V3.zero.arr 34)
      have hV0 := Whole.new wo 34 Fx.V3.zero.arr
      have hb0 := ext_alloc hb (.cells Fx.V3.zero.arr 34)
      have hnov : ∀ {ov : Value}, wo.ownsRow (w.heap.size + 1) 34 6 ov M.length (vCells M) → some wo.heap.size ≠ ov.ownBlock := fun ho e => by have := (ho.lt _ e.symm).2; omega
      have hne0 := hnov hown
      clear hown hs hb hnov
      go_loopw [9] (fun jv wr => ∃ (j : Nat) (y : Fx.V3), j ≤ 3 ∧ jv = .int .i64 j ∧ Hid (Took (L.getD M.length Fx.V3.zero) y j) ∧ Whole wr wo.heap.size 34 y.arr ∧ wr.ownsRow (w.heap.size + 1) 34 6 u6 M.length (vCells M) ∧ Src wr w.heap.size w.heap.size ∧ Below w.heap.size w wr) (fun jv _ => 3 - (intOf jv).toNat)
      case atStart => exact ⟨0, _, by omega, rfl, Lib.hid (fun i hi => absurd hi (by omega)), hV0, hown0, hs0, hb0⟩
      case round =>
        obtain ⟨j, y, hj, rfl, hTk, hV, hown, hs, hbj⟩ := hrel
        clear hV0 hown0 hs0 hb0
        by_cases hj3 : j < 3
        · obtain ⟨cl, ch⟩ := (HJ.out.ext hbj).part M.length hlt j hj3
          have hvb := Fx.near_true.1 (Fx.reachB_at HXR.out j hj3)
          have HNx := Lib.hid (fun q => setV_took (q := q) hj3 hTk.out)
          generalize L.getD M.length Fx.V3.zero = x at *
          generalize hlo : x.lo j = lo at *
          generalize hhi : x.hi j = hi at *
          have HLo := Lib.hid hlo; have HHi := Lib.hid hhi
          clear hlo hhi
          have HCl := Lib.hid cl; have HCh := Lib.hid ch
          clear cl ch
          have HV := Lib.hid hV; have HO := Lib.hid hown; have HS := Lib.hid hs
          clear hV hown hs
          have k0 : (0 : Int) ≤ (j : Int) := by omega
          have k1 : (j : Int) < 3 := by omega
          have k2 : (0 : Int) ≤ (M.length : Int) := by omega
          have k3 : (M.length : Int) < (L.length : Int) := by omega
          go_wp2_with fail
          refine wp_region_noPanic ?_
          refine wp_region_held_drew (S := (fun w' => w'.cell? ⟨b, o + M.length * 6 + j * 2, none⟩ = some (.int .i64 lo) ∧ w'.cell? ⟨b, o + M.length * 6 + j * 2 + 1, none⟩ = some (.int .i64 hi))) (by kernel_rfl) ?_ (fun hHeld => ?_)
          · exact ⟨HCl.out, HCh.out⟩
          refine wpAnyH_take (i := 0) (v := ?_) (by simp only [List.getElem?_toArray, List.getElem?_cons_succ, List.getElem?_cons_zero]; rfl) (by kernel_rfl) (by kernel_rfl) (by kernel_rfl) (fun _ _ _ h => h) (Or.inl ⟨by rfl, ?_⟩) (by assumption) ?_
          rotate_left
          · intro w hSw; (try dsimp only at hSw); go_simp; first | done | with_reducible rfl
          try simp only [Act.put, List.setIfInBounds_toArray, List.set_cons_zero, List.set_cons_succ]
          refine wpAnyH_take (i := 1) (v := ?_) (by simp only [List.getElem?_toArray, List.getElem?_cons_succ, List.getElem?_cons_zero]; rfl) (by kernel_rfl) (by kernel_rfl) (by kernel_rfl) (fun _ _ _ h => h) (Or.inl ⟨by rfl, ?_⟩) (by assumption) ?_
          rotate_left
          · intro w hSw; (try dsimp only at hSw); go_simp; first | done | with_reducible rfl
          try simp only [Act.put, List.setIfInBounds_toArray, List.set_cons_zero, List.set_cons_succ]
          refine wpAnyH_take (i := 2) (v := ?_) (by simp only [List.getElem?_toArray, List.getElem?_cons_succ, List.getElem?_cons_zero]; rfl) (by kernel_rfl) (by kernel_rfl) (by kernel_rfl) (fun _ _ _ h => h) (Or.inl ⟨by rfl, ?_⟩) (by assumption) ?_
          rotate_left
          · intro w hSw; (try dsimp only at hSw); go_simp; first | done | with_reducible rfl
          try simp only [Act.put, List.setIfInBounds_toArray, List.set_cons_zero, List.set_cons_succ]
          refine wpAnyH_take (i := 3) (v := ?_) (by simp only [List.getElem?_toArray, List.getElem?_cons_succ, List.getElem?_cons_zero]; rfl) (by kernel_rfl) (by kernel_rfl) (by kernel_rfl) (fun _ _ _ h => h) (Or.inl ⟨by rfl, ?_⟩) (by assumption) ?_
          rotate_left
          · intro w hSw; (try dsimp only at hSw); go_simp; first | done | with_reducible rfl
          try simp only [Act.put, List.setIfInBounds_toArray, List.set_cons_zero, List.set_cons_succ]
          refine wpAnyH_take (i := 4) (v := ?_) (by simp only [List.getElem?_toArray, List.getElem?_cons_succ, List.getElem?_cons_zero]; rfl) (by kernel_rfl) (by kernel_rfl) (by kernel_rfl) (fun _ _ _ h => h) (Or.inl ⟨by rfl, ?_⟩) (by assumption) ?_
          rotate_left
          · intro w hSw; (try dsimp only at hSw); go_simp; first | done | with_reducible rfl
          try simp only [Act.put, List.setIfInBounds_toArray, List.set_cons_zero, List.set_cons_succ]
          refine wpAnyH_take (i := 5) (v := ?_) (by simp only [List.getElem?_toArray, List.getElem?_cons_succ, List.getElem?_cons_zero]; rfl) (by kernel_rfl) (by kernel_rfl) (by kernel_rfl) (fun _ _ _ h => h) (Or.inl ⟨by rfl, ?_⟩) (by assumption) ?_
          rotate_left
          · intro w hSw; (try dsimp only at hSw); go_simp; first | done | with_reducible rfl
          try simp only [Act.put, List.setIfInBounds_toArray, List.set_cons_zero, List.set_cons_succ]
          refine wpAnyH_take (i := 6) (v := ?_) (by simp only [List.getElem?_toArray, List.getElem?_cons_succ, List.getElem?_cons_zero]; rfl) (by kernel_rfl) (by kernel_rfl) (by kernel_rfl) (fun _ _ _ h => h) (Or.inl ⟨by rfl, ?_⟩) (by assumption) ?_
          rotate_left
          · intro w hSw; (try dsimp only at hSw); go_simp; first | done | with_reducible rfl
          try simp only [Act.put, List.setIfInBounds_toArray, List.set_cons_zero, List.set_cons_succ]
          refine wpAnyH_take (i := 7) (v := ?_) (by simp only [List.getElem?_toArray, List.getElem?_cons_succ, List.getElem?_cons_zero]; rfl) (by kernel_rfl) (by kernel_rfl) (by kernel_rfl) (fun _ _ _ h => h) (Or.inl ⟨by rfl, ?_⟩) (by assumption) ?_
          rotate_left
          · intro w hSw; (try dsimp only at hSw); go_simp; first | done | with_reducible rfl
          try simp only [Act.put, List.setIfInBounds_toArray, List.set_cons_zero, List.set_cons_succ]
          refine wpAnyH_ready (rs := [8]) (by kernel_rfl) (by simp) ?_
          refine AllReadyH.cons (by simp only [List.getElem?_toArray, List.getElem?_cons_succ, List.getElem?_cons_zero]; rfl) (fun K hK => ?_) AllReadyH.nil
          go_simp
          refine (next_any w.heap.size w.heap.size _ _ (HS.out.ext (ext_drew (ext_refl _))) (by omega) (by omega)).mono ?_
          rintro e w2 ⟨r, r0, r1, rfl, hs2, hg2⟩
          have hne : some b ≠ some w.heap.size := fun e => by injection e; omega
          have hwr : w.heap.size < wr.heap.size := HS.out.lt
          have hgv : wo.heap.size ≠ w.heap.size := by omega
          have hvw : wo.heap.size < wr.heap.size := HV.out.lt
          have hV2 : Whole w2 wo.heap.size 34 y.arr := HV.out.drew.away hg2 hgv
          have hO2 := owns_away (owns_ext HO.out (ext_drew (ext_refl _))) hg2 (by omega)
          have hB2 : Below w.heap.size w w2 := below_grown (ext_drew hbj) (Nat.le_refl _) (Nat.le_refl _) hg2
          have HS2 := Lib.hid hs2; have HV2 := Lib.hid hV2; have HO2 := Lib.hid hO2
          clear hs2 hV2 hO2
          go_wp2_with fail
          refine hK.out _ _ ?_ (fun hHeld => ?_)
          · exact ⟨(hg2.cell_far ⟨b, _, none⟩ (show b < wr.heap.size by omega) hne).trans HCl.out, (hg2.cell_far ⟨b, _, none⟩ (show b < wr.heap.size by omega) hne).trans HCh.out⟩
          clear hK K hg2 HS HV HO hbj
          try simp only [Act.put, List.setIfInBounds_toArray, List.set_cons_zero, List.set_cons_succ]
          refine wpAnyH_ready (rs := [9]) (by kernel_rfl) (by simp) ?_
          refine AllReadyH.cons (by simp only [List.getElem?_toArray, List.getElem?_cons_succ, List.getElem?_cons_zero]; rfl) (fun K hK => ?_) AllReadyH.nil
          go_simp
          refine (part0_any lo hi r _ (by rw [Fx.vb_true]; omega)).mono ?_
          rintro e w3 ⟨q, q0, q1, rfl, hb3⟩
          have hw2 := HS2.out.lt
          have HS3 := Lib.hid (HS2.out.ext hb3); have HV3 := Lib.hid (HV2.out.ext hb3); have HO3 := Lib.hid (owns_ext HO2.out hb3)
          have hB3 := ext_trans hB2 hb3
          go_wp2_with fail
          refine hK.out _ _ ?_ (fun hHeld => ?_)
          · exact ⟨(hb3.cell (p := ⟨b, _, none⟩) (show b < w2.heap.size by omega)).trans hHeld.1, (hb3.cell (p := ⟨b, _, none⟩) (show b < w2.heap.size by omega)).trans hHeld.2⟩
          clear hK K hb3 HS2 HV2 HO2 hB2 hw2
          try simp only [Act.put, List.setIfInBounds_toArray, List.set_cons_zero, List.set_cons_succ]
          refine wpAnyH_take (i := 10) (v := ?_) (by simp only [List.getElem?_toArray, List.getElem?_cons_succ, List.getElem?_cons_zero]; rfl) (by kernel_rfl) (by kernel_rfl) (by kernel_rfl) (fun _ _ _ h => h) (Or.inl ⟨by rfl, ?_⟩) (by assumption) ?_
          rotate_left
          · intro w hSw; (try dsimp only at hSw); go_simp; first | done | with_reducible rfl
          try simp only [Act.put, List.setIfInBounds_toArray, List.set_cons_zero, List.set_cons_succ]
          refine wpAnyH_ready (rs := [11]) (by kernel_rfl) (by simp) ?_
          refine AllReadyH.cons (by simp only [List.getElem?_toArray, List.getElem?_cons_succ, List.getElem?_cons_zero]; rfl) (fun K hK => ?_) AllReadyH.nil
          rw [if_pos (by rfl)]
          refine wp_store_mid _ _ _ rfl wo.heap.size (j * 2) #[.int .i64 q, .int .i64 q] rfl rfl (there_of HV3.out _ _ (by simp [Fx.V3.arr]; omega)) (by kernel_rfl) (by simp [Value.oneCell']) ?_
          have hgw : w.heap.size ≤ wo.heap.size := by omega
          have hVn : Whole (w3.setCells wo.heap.size (j * 2) [.int .i64 q, .int .i64 q]) wo.heap.size 34 (setV y q q j).arr := by
            have h := (HV3.out.store (j * 2) (.int .i64 q)).store (j * 2 + 1) (.int .i64 q)
            rw [setV_arr y q q j hj3] at h
            exact h
          have hOn : (w3.setCells wo.heap.size (j * 2) [.int .i64 q, .int .i64 q]).ownsRow (w.heap.size + 1) 34 6 u6 M.length (vCells M) :=
            owns_set (owns_set HO3.out (p := ⟨wo.heap.size, j * 2, none⟩) hne0 (.int .i64 q)) (p := ⟨wo.heap.size, j * 2 + 1, none⟩) hne0 (.int .i64 q)
          have hSn : Src (w3.setCells wo.heap.size (j * 2) [.int .i64 q, .int .i64 q]) w.heap.size w.heap.size :=
            (HS3.out.set (p := ⟨wo.heap.size, j * 2, none⟩) (Ne.symm hgv) hgw (.int .i64 q)).set (p := ⟨wo.heap.size, j * 2 + 1, none⟩) (Ne.symm hgv) hgw (.int .i64 q)
          have hBn : Below w.heap.size w (w3.setCells wo.heap.size (j * 2) [.int .i64 q, .int .i64 q]) :=
            ext_set (ext_set hB3 (p := ⟨wo.heap.size, j * 2, none⟩) hgw (.int .i64 q)) (p := ⟨wo.heap.size, j * 2 + 1, none⟩) hgw (.int .i64 q)
          have HTn := Lib.hid (HNx.out q ⟨q0, q1⟩)
          have hKp : (w3.setCells wo.heap.size (j * 2) [.int .i64 q, .int .i64 q]).cell? ⟨b, o + M.length * 6 + j * 2, none⟩ = some (.int .i64 lo) ∧ (w3.setCells wo.heap.size (j * 2) [.int .i64 q, .int .i64 q]).cell? ⟨b, o + M.length * 6 + j * 2 + 1, none⟩ = some (.int .i64 hi) := by
            have e : (w3.setCells wo.heap.size (j * 2) [.int .i64 q, .int .i64 q]).heap[b]? = w3.heap[b]? := by
              show (((w3.setCell ⟨wo.heap.size, j * 2, none⟩ _).setCell ⟨wo.heap.size, j * 2 + 1, none⟩ _)).heap[b]? = _
              rw [Below.heap_setCell _ _ _ _ (show b ≠ wo.heap.size by omega), Below.heap_setCell _ _ _ _ (show b ≠ wo.heap.size by omega)]
            simp only [World.cell?, e]
            exact hHeld
          refine hK.out _ _ ?_ (fun hHeld => ?_)
          · exact hKp
          clear hK K hKp
          try simp only [Act.put, List.setIfInBounds_toArray, List.set_cons_zero, List.set_cons_succ]
          refine wpAnyH_done (by kernel_rfl) ?_ _
          refine NoPanic.normal ?_
          clear hHeld
          generalize w3.setCells wo.heap.size (j * 2) [.int .i64 q, .int .i64 q] = w4 at *
          have HV4 := Lib.hid hVn; have HO4 := Lib.hid hOn; have HS4 := Lib.hid hSn
          clear hVn hOn hSn HV3 HO3 HS3 hB3
          go_wp2_with fail
          go_roundw
          case rel => exact ⟨j + 1, _, by omega, by go_num, HTn, HV4.out, HO4.out, HS4.out, hBn⟩
          case measure => simp [intOf]; omega
        · obtain rfl : j = 3 := by omega
          have t0 : _ = some (Value.int .i64 y.a) := hV.cell 0
          have t1 : _ = some (Value.int .i64 y.b) := hV.cell 1
          have t2 : _ = some (Value.int .i64 y.c) := hV.cell 2
          have t3 : _ = some (Value.int .i64 y.d) := hV.cell 3
          have t4 : _ = some (Value.int .i64 y.e) := hV.cell 4
          have t5 : _ = some (Value.int .i64 y.f) := hV.cell 5
          have hvw : wo.heap.size < wr.heap.size := hV.lt
          have HS := Lib.hid hs
          clear hV hs
          go_wp2_with (at_builtin; refine wpList_append_lies _ rfl _ _ _ rfl (w.heap.size + 1) 34 i0 _ 6 48 Try.underlying22 hi hz0 hz1 hz2 rfl (by omega) _ M.length (vCells M) rfl (hown.alloc _) ⟨wr.heap.size, 0, none⟩ 1 1 y.cells rfl rfl (World.news_of_block (cs := #[.int .i64 y.a, .int .i64 y.b, .int .i64 y.c, .int .i64 y.d, .int .i64 y.e, .int .i64 y.f]) (t := 34) (fr := (0, 0)) (heap_alloc_new wr _)) (by simp [Fx.V3.cells, Value.oneCell']) (by omega) (by unfold maxLen; omega) (by omega) (by simp; omega) (wr.heap.size + 1) (by simp) ?_; intro g' cap w11 hown11 hgrow hat hlt11)
          have hb11 : Below w.heap.size w w11 := (ext_alloc hbj _).grown hgrow (by simp; omega) (fun k e => by have := (hown.lt k e).1; omega)
          have hs11 := (HS.out.alloc (.cells #[.int .i64 y.a, .int .i64 y.b, .int .i64 y.c, .int .i64 y.d, .int .i64 y.e, .int .i64 y.f] 34)).grown hgrow (fun e => by have := (hown.lt _ e.symm).1; omega) (fun k e => by have := (hown.lt k e).1; omega)
          have hnext : w11.ownsRow (w.heap.size + 1) 34 6 (.slice (some ⟨g', 0, none⟩) (M.length + 1) cap) (M ++ [y]).length (vCells (M ++ [y])) := by
            rw [vCells_snoc, List.length_append]; exact hown11
          have HTx : Hid (∀ i : Nat, i < (M ++ [y]).length → Took (L.getD i Fx.V3.zero) ((M ++ [y]).getD i Fx.V3.zero) 3) := Lib.hid (fun i hi => by
            rw [List.length_append, List.length_singleton] at hi
            by_cases e : i < M.length
            · have := hT.out i e
              simp only [List.getD_eq_getElem?_getD, List.getElem?_append_left e] at this ⊢
              exact this
            · obtain rfl : i = M.length := by omega
              have := hTk.out
              simp only [List.getD_eq_getElem?_getD, List.getElem?_concat_length] at this ⊢
              exact this)
          have HN := Lib.hid hnext; have HS11 := Lib.hid hs11
          clear hnext hs11 hown11 hgrow hat hlt11 HS t0 t1 t2 t3 t4 t5
          go_wp2_with fail
          go_roundw
          case rel => exact ⟨_, by rw [List.length_append]; exact hlt, by simp, HTx, HN.out, HS11.out, hb11⟩
          case measure => simp [intOf]; omega
    · have hd : decide ((M.length : Int) < (L.length : Int)) = false := by simp; omega
      have HO := Lib.hid (owns_base hown (show w.heap.size ≤ w.heap.size + 1 by omega))
      have hml' : M.length = L.length := by omega
      have HL := Lib.hid hml'
      clear hown hs hml'
      go_wp2_with fail
      go_ret
      exact ⟨_, M, rfl, HL.out, by rw [← HL.out]; exact hT.out, HO.out, hb⟩
end Go.Proofs.Ytgnjconhbloocaa
