/- ShapeMonotone: the law returns true for every input, and each argument reads afterwards as it read before. Conditions: none. -/
import Derived.Test.YtgnjconhbloocaaRows
import Derived.Test.YtgnjconhbloocaaBunM8
import Derived.Test.YtgnjconhbloocaaBunM9
import Derived.Test.YtgnjconhbloocaaBunM6
import Derived.Test.YtgnjconhbloocaaBunM1
import Derived.ProofKit
import Derived.OpenShut
import Derived.ShutString
import Derived.ChangeOld
import Derived.Below
import Derived.Lib.SmallJoins
namespace Go.Proofs.Ytgnjconhbloocaa.shapeMonotone
open Go.ChangeShapes Go.WideShapes Go.ChangeAt Go.RowKit
set_option linter.unusedVariables false

theorem own : ownKnob Try.prog.godebug = none := by kernel_rfl
theorem laidOut : laidOutB Try.prog = true := by kernel_rfl

/-- What is known while the part of the pose is made. -/
abbrev KM (W : World) (g gp : Nat) (p : Fx.Ps) (w' : World) : Prop := Kept W g g w' ∧ Whole w' gp 52 p.arr ∧ W.heap.size ≤ gp
theorem vat_range {w : World} {b o : Nat} {L : List Fx.V3} (h : VAt w b o L) (i : Nat) (hi : i < L.length) : w.rangeAt b (o + i * 6) (L.getD i Fx.V3.zero).arr.toList := fun j u hj => by
  have hj6 : j < 6 := by
    by_cases c : j < 6
    · exact c
    · rw [List.getElem?_eq_none (by rw [Array.length_toList, arr_size]; omega)] at hj; cases hj
  exact (h.2 i hi j hj6).trans hj
theorem place_row {q p : Fx.Ps} {r : Int} {Q : List (Int × Int × Int)} (hq : ValidP q) (hp : PartO q p 3) (hok : Fx.shapeOk r Q = true) (i : Nat) (hi : i < Q.length) (k : Nat) (hk : k < 3) :
    Fx.withinB (((Fx.placeL r Q p).getD i Fx.V3.zero).lo k) (((Fx.placeL r Q p).getD i Fx.V3.zero).hi k) (((Fx.placeL r Q q).getD i Fx.V3.zero).lo k) (((Fx.placeL r Q q).getD i Fx.V3.zero).hi k) = true := by
  rw [Fx.placeL_yes hok, Fx.placeL_yes hok]
  simp only [List.getD_eq_getElem?_getD, List.getElem?_map, List.getElem?_eq_getElem hi, Option.map_some, Option.getD_some]
  exact place_part hq hp _ k hk
theorem there2 {w : World} {g o : Nat} {t : TypeId} {cs : Array Value} (h : Whole w g t cs) (ho : o + 2 ≤ cs.size) : w.there g o 2 := fun j hj => by
  have := there_all h cs.size (Nat.le_refl _) (o + j) (by omega)
  simpa [Nat.add_assoc] using this
section
variable {W : World} {g gp : Nat} {p : Fx.Ps} {w1 w2 : World}
theorem KM.ext (h : KM W g gp p w1) (hb : Below w1.heap.size w1 w2) : KM W g gp p w2 := ⟨h.1.ext hb, h.2.1.ext hb, h.2.2⟩
theorem KM.next (h : KM W g gp p w1) (hs : Src w2 g g) (hg : w1.grownBy w2 (some g)) : KM W g gp p w2 := ⟨h.1.next hs hg, h.2.1.grown hg (fun e => by injection e with e; have := h.1.2.1; have := h.2.2; omega), h.2.2⟩
theorem KM.setT (h : KM W g gp p w1) (i : Nat) (hi : i < 3) (a b : Int) : KM W g gp (setT p i a b) (w1.setCells gp (18 + i * 2) [.int .i64 a, .int .i64 b]) := ⟨h.1.setN h.2.2 _ _, h.2.1.store2 _ _ _ (setT_arr p a b i hi), h.2.2⟩
theorem KM.setR (h : KM W g gp p w1) (i k : Nat) (hi : i < 3) (hk : k < 3) (a b : Int) : KM W g gp (setR p i k a b) (w1.setCells gp (i * 6 + k * 2) [.int .i64 a, .int .i64 b]) := ⟨h.1.setN h.2.2 _ _, h.2.1.store2 _ _ _ (setR_arr p a b i k hi hk), h.2.2⟩
end

set_option maxRecDepth 100000 in
set_option maxHeartbeats 600000 in
theorem walk (v0 : Value) (xs0 : List Int) (v1 : Value) (xs1 : List Int) (v2 : Value) (xs2 : List Int) (w : World) (h0 : IntSl w v0 xs0) (h1 : IntSl w v1 xs1) (h2 : IntSl w v2 xs2) :
    Calls Try.prog 9 #[v0, v1, v2] w fun e w' => e = .returned (.bool true) ∧ Below w.heap.size w w' := by
  have H0 := Lib.hid h0; have H1 := Lib.hid h1; have H2 := Lib.hid h2
  obtain ⟨a0, c0, rfl, _, _⟩ := h0
  obtain ⟨a1, c1, rfl, _, _⟩ := h1
  obtain ⟨a2, c2, rfl, _, _⟩ := h2
  go_enter Try.func9, Try.ntmps9
  go_wp2_with fail
  refine (some_any _ xs0 _ H0.out).mono ?_
  rintro e w1 ⟨r, v, Q, rfl, hok, hQ, hB1⟩
  have HQ1 := Lib.hid hQ
  obtain ⟨av, cv, rfl, _, _⟩ := hQ
  have H11 := Lib.hid (H1.out.ext hB1)
  have hl := hB1.size
  clear H1 H0
  go_wp2_with fail
  obtain ⟨g, hg1⟩ : ∃ g, g = w1.heap.size := ⟨_, rfl⟩
  refine (from_at _ xs1 _ g H11.out hg1.symm).mono ?_
  rintro e w2 ⟨rfl, hs2, hb2⟩
  have hgl : w1.heap.size ≤ g := by omega
  clear H11 hg1
  go_wp2_with fail
  refine (pose_any g g w2 hs2).mono ?_
  rintro e w3 ⟨q, hq, rfl, hk⟩
  have HV := Lib.hid hq
  have hb3 : Below w1.heap.size w1 w3 := below_grown hb2 (Nat.le_refl _) (by omega) hk.2.2
  have HQ3 := Lib.hid (HQ1.out.ext hb3)
  have hB3 := ext_trans hB1 hb3
  have o1 := HQ3.out.oneC
  clear HQ1 hb3 hb2 hs2 hk hB1 hq hgl hl
  obtain ⟨hN1, hN2, hN3⟩ := blocks2 w3 48 52 #[.int .i64 0, .int .i64 0, .slice none 0 0] zero24
  have HN1 := Lib.hid hN1; have HN2 := Lib.hid (Whole.farN (g' := w3.heap.size) [.int .i64 (-1), .int .i64 r, .slice av Q.length cv] hN2 (by omega) 0)
  have HN4 := Lib.hid (Whole.farN (g' := w3.heap.size + 1) q.arr.toList (hN1.full #[.int .i64 (-1), .int .i64 r, .slice av Q.length cv] rfl) (by omega) 0)
  have HN5 := Lib.hid (HN2.out.full q.arr q.size)
  have HN6 := Lib.hid (ext_setN (g' := w3.heap.size + 1) q.arr.toList (ext_setN (g' := w3.heap.size) [.int .i64 (-1), .int .i64 r, .slice av Q.length cv] hN3 (by omega) 0) (by omega) 0)
  have hq1 := pose_one q
  have HT := Lib.hid (there_all HN2.out q.arr.size (by rw [q.size]; exact Nat.le_refl _))
  have HI : Hid ((Try.prog.info? 52).map (·.size) = some q.arr.size) := Lib.hid (by rw [q.size]; kernel_rfl)
  clear hN1 hN2 hN3
  go_wp2_with (refine wpList_store_mid rfl 48 _ _ rfl w3.heap.size 0 #[.int .i64 (-1), .int .i64 r, .slice av Q.length cv] rfl rfl (there_all HN1.out 3 (Nat.le_refl _)) (by kernel_rfl) (by simp [Value.oneCell'] <;> exact o1) (wpList_store_mid rfl 52 _ _ rfl (w3.heap.size + 1) 0 q.arr rfl rfl HT.out HI.out hq1 ?_); (have HP4 := Lib.hid (HQ3.out.ext HN6.out)); (have hB4 := ext_trans hB3 HN6.out); clear HN1 HN2 HN6 HT HI hq1 HQ3 hB3; generalize (((w3.alloc (.cells #[.int .i64 0, .int .i64 0, .slice none 0 0] 48)).alloc (.cells zero24 52)).setCells w3.heap.size 0 _).setCells (w3.heap.size + 1) 0 _ = w4 at *)
  obtain ⟨g2, hg2⟩ : ∃ g, g = w4.heap.size := ⟨_, rfl⟩
  refine (from_at _ xs2 _ g2 (H2.out.ext hB4) hg2.symm).mono ?_
  rintro e w5 ⟨rfl, hs5, hb5⟩
  have hgl : w4.heap.size ≤ g2 := by omega
  have hlC := HN4.out.lt
  have hlD := HN5.out.lt
  have hgs : w3.heap.size ≠ g2 := by omega
  have hgq : w3.heap.size + 1 ≠ g2 := by omega
  have HC5 := Lib.hid (HN4.out.ext hb5); have HD5 := Lib.hid (HN5.out.ext hb5)
  have hg5 := hs5.lt
  have HK := Lib.hid (show KM w5 g2 w5.heap.size ⟨⟨Fx.V3.zero, Fx.V3.zero, Fx.V3.zero⟩, Fx.V3.zero⟩ (w5.alloc (.cells zero24 52)) from ⟨(Kept.refl hs5).alloc _, Whole.new w5 52 zero24, Nat.le_refl _⟩)
  clear hg2 H2 HN4 HN5 hs5 hlC hlD
  generalize hzz : (⟨⟨Fx.V3.zero, Fx.V3.zero, Fx.V3.zero⟩, Fx.V3.zero⟩ : Fx.Ps) = p0 at HK
  clear hzz
  go_wp2_with fail
  go_loopw [11] (fun iv wr => ∃ (i : Nat) (pp : Fx.Ps), i ≤ 3 ∧ iv = .int .i64 i ∧ Hid (PartO q pp i) ∧ Hid (KM w5 g2 w5.heap.size pp wr)) (fun iv _ => 3 - (intOf iv).toNat)
  case atStart => exact ⟨0, p0, by omega, by go_num, Lib.hid (zero_part q p0), HK⟩
  case round =>
    obtain ⟨i, pp, hi3, rfl, HO, HS⟩ := hrel
    clear HK
    by_cases hlt : i < 3
    · have hd : (i : Int) < 3 := by omega
      go_wp2_with fail
      refine wp_region_noPanic ?_
      refine wp_region_until_drew (k := 12) (S := (fun w' => KM w5 g2 w5.heap.size pp w')) (by kernel_rfl) ?_ (fun hHeld => ?_)
      · exact KM.ext HS.out (ext_drew (ext_refl _))
      clear HS
      refine wpAnyU_take (i := 0) (v := ?_) (by simp only [List.getElem?_toArray, List.getElem?_cons_succ, List.getElem?_cons_zero]; rfl) (by kernel_rfl) (by kernel_rfl) (by kernel_rfl) (by kernel_rfl) (by kernel_rfl) (fun _ _ _ h => h) (Or.inl ⟨by rfl, ?_⟩) (by assumption) ?_
      rotate_left
      · intro w hSw; (try dsimp only at hSw); go_simp; first | done | with_reducible rfl
      try simp only [Act.put, List.setIfInBounds_toArray, List.set_cons_zero, List.set_cons_succ]
      refine wpAnyU_take (i := 1) (v := ?_) (by simp only [List.getElem?_toArray, List.getElem?_cons_succ, List.getElem?_cons_zero]; rfl) (by kernel_rfl) (by kernel_rfl) (by kernel_rfl) (by kernel_rfl) (by kernel_rfl) (fun _ _ _ h => h) (Or.inl ⟨by rfl, ?_⟩) (by assumption) ?_
      rotate_left
      · intro w hSw; (try dsimp only at hSw); go_simp; first | done | with_reducible rfl
      try simp only [Act.put, List.setIfInBounds_toArray, List.set_cons_zero, List.set_cons_succ]
      refine wpAnyU_take (i := 2) (v := ?_) (by simp only [List.getElem?_toArray, List.getElem?_cons_succ, List.getElem?_cons_zero]; rfl) (by kernel_rfl) (by kernel_rfl) (by kernel_rfl) (by kernel_rfl) (by kernel_rfl) (fun _ _ _ h => h) (Or.inl ⟨by rfl, ?_⟩) (by assumption) ?_
      rotate_left
      · intro w hSw; (try dsimp only at hSw); go_simp; first | done | with_reducible rfl
      try simp only [Act.put, List.setIfInBounds_toArray, List.set_cons_zero, List.set_cons_succ]
      refine wpAnyU_take (i := 3) (v := ?_) (by simp only [List.getElem?_toArray, List.getElem?_cons_succ, List.getElem?_cons_zero]; rfl) (by kernel_rfl) (by kernel_rfl) (by kernel_rfl) (by kernel_rfl) (by kernel_rfl) (fun _ _ _ h => h) (Or.inl ⟨by rfl, ?_⟩) (by assumption) ?_
      rotate_left
      · intro w hSw; (try dsimp only at hSw); go_simp; first | done | with_reducible rfl
      try simp only [Act.put, List.setIfInBounds_toArray, List.set_cons_zero, List.set_cons_succ]
      refine wpAnyU_take (i := 4) (by simp only [List.getElem?_toArray, List.getElem?_cons_succ, List.getElem?_cons_zero]; rfl) (by kernel_rfl) (by kernel_rfl) (by kernel_rfl) (by kernel_rfl) (by kernel_rfl) (fun _ _ _ h => h) (yieldsIf_load_mid (by rfl) _ _ rfl (w3.heap.size + 1) (18 + i * 2) (by rfl) [.int .i64 (q.T.lo i), .int .i64 (q.T.hi i)] _ (fun w' h => (h.1.whole HD5.out hgq).rowT i hlt) Try.underlying32 rfl (by kernel_rfl)) (by assumption) ?_
      try simp only [Act.put, List.setIfInBounds_toArray, List.set_cons_zero, List.set_cons_succ]
      refine wpAnyU_take (i := 5) (v := ?_) (by simp only [List.getElem?_toArray, List.getElem?_cons_succ, List.getElem?_cons_zero]; rfl) (by kernel_rfl) (by kernel_rfl) (by kernel_rfl) (by kernel_rfl) (by kernel_rfl) (fun _ _ _ h => h) (Or.inl ⟨by rfl, ?_⟩) (by assumption) ?_
      rotate_left
      · intro w hSw; (try dsimp only at hSw); go_simp; first | done | with_reducible rfl
      try simp only [Act.put, List.setIfInBounds_toArray, List.set_cons_zero, List.set_cons_succ]
      refine wpAnyU_take (i := 7) (v := ?_) (by simp only [List.getElem?_toArray, List.getElem?_cons_succ, List.getElem?_cons_zero]; rfl) (by kernel_rfl) (by kernel_rfl) (by kernel_rfl) (by kernel_rfl) (by kernel_rfl) (fun _ _ _ h => h) (Or.inl ⟨by rfl, ?_⟩) (by assumption) ?_
      rotate_left
      · intro w hSw; (try dsimp only at hSw); go_simp; first | done | with_reducible rfl
      try simp only [Act.put, List.setIfInBounds_toArray, List.set_cons_zero, List.set_cons_succ]
      refine wpAnyU_takeB (i := 10) [11, 12] (v := ?_) (by simp only [List.getElem?_toArray, List.getElem?_cons_succ, List.getElem?_cons_zero]; rfl) (by kernel_rfl) (by kernel_rfl) (by kernel_rfl) (by decide) (by kernel_rfl) (by kernel_rfl) (by kernel_rfl) (fun _ _ _ h => h) (Or.inl ⟨by rfl, ?_⟩) (by assumption) ?_
      rotate_left
      · intro w hSw; (try dsimp only at hSw); go_simp; first | done | with_reducible rfl
      try simp only [Act.put, List.setIfInBounds_toArray, List.set_cons_zero, List.set_cons_succ]
      refine wpAnyU_ready (rs := [6]) (by kernel_rfl) (by simp) ?_
      refine AllReadyU.cons (by simp only [List.getElem?_toArray, List.getElem?_cons_succ, List.getElem?_cons_zero]; rfl) (fun K hK => ?_) AllReadyU.nil
      go_simp
      refine (next_any g2 g2 1073741824 _ hHeld.1.1 (by omega) (by omega)).mono ?_
      rintro e w_6 ⟨x, x0, x1, rfl, hs_6, hg_6⟩
      go_wp2_with fail
      refine hK.out _ _ ?_ (fun hHeld => ?_)
      · exact KM.next hHeld hs_6 hg_6
      clear hK K hs_6 hg_6
      try simp only [Act.put, List.setIfInBounds_toArray, List.set_cons_zero, List.set_cons_succ]
      refine wpAnyU_ready (rs := [8]) (by kernel_rfl) (by simp) ?_
      refine AllReadyU.cons (by simp only [List.getElem?_toArray, List.getElem?_cons_succ, List.getElem?_cons_zero]; rfl) (fun K hK => ?_) AllReadyU.nil
      go_simp
      refine (next_any g2 g2 1073741824 _ hHeld.1.1 (by omega) (by omega)).mono ?_
      rintro e w_8 ⟨y, y0, y1, rfl, hs_8, hg_8⟩
      go_wp2_with fail
      refine hK.out _ _ ?_ (fun hHeld => ?_)
      · exact KM.next hHeld hs_8 hg_8
      clear hK K hs_8 hg_8
      try simp only [Act.put, List.setIfInBounds_toArray, List.set_cons_zero, List.set_cons_succ]
      refine wpAnyU_ready (rs := [9]) (by kernel_rfl) (by simp) ?_
      refine AllReadyU.cons (by simp only [List.getElem?_toArray, List.getElem?_cons_succ, List.getElem?_cons_zero]; rfl) (fun K hK => ?_) AllReadyU.nil
      go_simp
      refine (part_any (q.T.lo i) (q.T.hi i) x y _ (HV.out.2 i hlt)).mono ?_
      rintro e w_9 ⟨a, b, ha, hab, hb, rfl, hb9⟩
      go_wp2_with fail
      refine hK.out _ _ ?_ (fun hHeld => ?_)
      · exact KM.ext hHeld hb9
      clear hK K hb9
      try simp only [Act.put, List.setIfInBounds_toArray, List.set_cons_zero, List.set_cons_succ]
      refine wpAnyU_take (i := 11) (v := ?_) (by simp only [List.getElem?_toArray, List.getElem?_cons_succ, List.getElem?_cons_zero]; rfl) (by kernel_rfl) (by kernel_rfl) (by kernel_rfl) (by kernel_rfl) (by kernel_rfl) (fun _ _ _ h => h) (Or.inl ⟨by rfl, ?_⟩) (by assumption) ?_
      rotate_left
      · intro w hSw; (try dsimp only at hSw); go_simp; first | done | with_reducible rfl
      try simp only [Act.put, List.setIfInBounds_toArray, List.set_cons_zero, List.set_cons_succ]
      have HPn := Lib.hid (HO.out.set hlt (a := a) (b := b) ⟨ha, hab, hb⟩)
      have HSn := Lib.hid (KM.setT hHeld i hlt a b)
      have HTh := Lib.hid (there2 hHeld.2.1 (o := 18 + i * 2) (by rw [pp.size]; omega))
      refine wpAnyU_store (by kernel_rfl) (by simp only [List.getElem?_toArray, List.getElem?_cons_succ, List.getElem?_cons_zero]; rfl) rfl 32 _ _ rfl w5.heap.size (18 + i * 2) #[.int .i64 a, .int .i64 b] rfl rfl HTh.out (by kernel_rfl) (two_one _ _) ?_
      refine wpAnyU_done (by kernel_rfl) ?_ _
      refine NoPanic.normal ?_
      clear hHeld HTh HO
      generalize w_9.setCells w5.heap.size (18 + i * 2) _ = w6 at *
      go_wp2_with fail
      generalize setT pp i a b = p1 at *
      go_loopw [12] (fun kv wr => ∃ (k : Nat) (pp : Fx.Ps), k ≤ 3 ∧ kv = .int .i64 k ∧ Hid (PartI q pp i k) ∧ Hid (KM w5 g2 w5.heap.size pp wr)) (fun kv _ => 3 - (intOf kv).toNat)
      case atStart => exact ⟨0, p1, by omega, by go_num, HPn, HSn⟩
      case round =>
      obtain ⟨k, pp, hk3, rfl, HO, HS⟩ := hrel
      clear HPn HSn
      by_cases hlk : k < 3
      · have hdk : (k : Int) < 3 := by omega
        go_wp2_with fail
        refine wp_region_noPanic ?_
        refine wp_region_until_drew (k := 16) (S := (fun w' => KM w5 g2 w5.heap.size pp w')) (by kernel_rfl) ?_ (fun hHeld => ?_)
        · exact KM.ext HS.out (ext_drew (ext_refl _))
        clear HS
        refine wpAnyU_take (i := 0) (v := ?_) (by simp only [List.getElem?_toArray, List.getElem?_cons_succ, List.getElem?_cons_zero]; rfl) (by kernel_rfl) (by kernel_rfl) (by kernel_rfl) (by kernel_rfl) (by kernel_rfl) (fun _ _ _ h => h) (Or.inl ⟨by rfl, ?_⟩) (by assumption) ?_
        rotate_left
        · intro w hSw; (try dsimp only at hSw); go_simp; first | done | with_reducible rfl
        try simp only [Act.put, List.setIfInBounds_toArray, List.set_cons_zero, List.set_cons_succ]
        refine wpAnyU_take (i := 1) (v := ?_) (by simp only [List.getElem?_toArray, List.getElem?_cons_succ, List.getElem?_cons_zero]; rfl) (by kernel_rfl) (by kernel_rfl) (by kernel_rfl) (by kernel_rfl) (by kernel_rfl) (fun _ _ _ h => h) (Or.inl ⟨by rfl, ?_⟩) (by assumption) ?_
        rotate_left
        · intro w hSw; (try dsimp only at hSw); go_simp; first | done | with_reducible rfl
        try simp only [Act.put, List.setIfInBounds_toArray, List.set_cons_zero, List.set_cons_succ]
        refine wpAnyU_take (i := 2) (v := ?_) (by simp only [List.getElem?_toArray, List.getElem?_cons_succ, List.getElem?_cons_zero]; rfl) (by kernel_rfl) (by kernel_rfl) (by kernel_rfl) (by kernel_rfl) (by kernel_rfl) (fun _ _ _ h => h) (Or.inl ⟨by rfl, ?_⟩) (by assumption) ?_
        rotate_left
        · intro w hSw; (try dsimp only at hSw); go_simp; first | done | with_reducible rfl
        try simp only [Act.put, List.setIfInBounds_toArray, List.set_cons_zero, List.set_cons_succ]
        refine wpAnyU_take (i := 3) (v := ?_) (by simp only [List.getElem?_toArray, List.getElem?_cons_succ, List.getElem?_cons_zero]; rfl) (by kernel_rfl) (by kernel_rfl) (by kernel_rfl) (by kernel_rfl) (by kernel_rfl) (fun _ _ _ h => h) (Or.inl ⟨by rfl, ?_⟩) (by assumption) ?_
        rotate_left
        · intro w hSw; (try dsimp only at hSw); go_simp; first | done | with_reducible rfl
        try simp only [Act.put, List.setIfInBounds_toArray, List.set_cons_zero, List.set_cons_succ]
        refine wpAnyU_take (i := 4) (v := ?_) (by simp only [List.getElem?_toArray, List.getElem?_cons_succ, List.getElem?_cons_zero]; rfl) (by kernel_rfl) (by kernel_rfl) (by kernel_rfl) (by kernel_rfl) (by kernel_rfl) (fun _ _ _ h => h) (Or.inl ⟨by rfl, ?_⟩) (by assumption) ?_
        rotate_left
        · intro w hSw; (try dsimp only at hSw); go_simp; first | done | with_reducible rfl
        try simp only [Act.put, List.setIfInBounds_toArray, List.set_cons_zero, List.set_cons_succ]
        refine wpAnyU_take (i := 5) (v := ?_) (by simp only [List.getElem?_toArray, List.getElem?_cons_succ, List.getElem?_cons_zero]; rfl) (by kernel_rfl) (by kernel_rfl) (by kernel_rfl) (by kernel_rfl) (by kernel_rfl) (fun _ _ _ h => h) (Or.inl ⟨by rfl, ?_⟩) (by assumption) ?_
        rotate_left
        · intro w hSw; (try dsimp only at hSw); go_simp; first | done | with_reducible rfl
        try simp only [Act.put, List.setIfInBounds_toArray, List.set_cons_zero, List.set_cons_succ]
        refine wpAnyU_take (i := 6) (v := ?_) (by simp only [List.getElem?_toArray, List.getElem?_cons_succ, List.getElem?_cons_zero]; rfl) (by kernel_rfl) (by kernel_rfl) (by kernel_rfl) (by kernel_rfl) (by kernel_rfl) (fun _ _ _ h => h) (Or.inl ⟨by rfl, ?_⟩) (by assumption) ?_
        rotate_left
        · intro w hSw; (try dsimp only at hSw); go_simp; first | done | with_reducible rfl
        try simp only [Act.put, List.setIfInBounds_toArray, List.set_cons_zero, List.set_cons_succ]
        refine wpAnyU_take (i := 7) (by simp only [List.getElem?_toArray, List.getElem?_cons_succ, List.getElem?_cons_zero]; rfl) (by kernel_rfl) (by kernel_rfl) (by kernel_rfl) (by kernel_rfl) (by kernel_rfl) (fun _ _ _ h => h) (yieldsIf_load_mid (by rfl) _ _ rfl (w3.heap.size + 1) (i * 6 + k * 2) (by rfl) [.int .i64 ((q.R.row i).lo k), .int .i64 ((q.R.row i).hi k)] _ (fun w' h => (h.1.whole HD5.out hgq).rowR i k hlt hlk) Try.underlying32 rfl (by kernel_rfl)) (by assumption) ?_
        try simp only [Act.put, List.setIfInBounds_toArray, List.set_cons_zero, List.set_cons_succ]
        refine wpAnyU_take (i := 8) (v := ?_) (by simp only [List.getElem?_toArray, List.getElem?_cons_succ, List.getElem?_cons_zero]; rfl) (by kernel_rfl) (by kernel_rfl) (by kernel_rfl) (by kernel_rfl) (by kernel_rfl) (fun _ _ _ h => h) (Or.inl ⟨by rfl, ?_⟩) (by assumption) ?_
        rotate_left
        · intro w hSw; (try dsimp only at hSw); go_simp; first | done | with_reducible rfl
        try simp only [Act.put, List.setIfInBounds_toArray, List.set_cons_zero, List.set_cons_succ]
        refine wpAnyU_take (i := 10) (v := ?_) (by simp only [List.getElem?_toArray, List.getElem?_cons_succ, List.getElem?_cons_zero]; rfl) (by kernel_rfl) (by kernel_rfl) (by kernel_rfl) (by kernel_rfl) (by kernel_rfl) (fun _ _ _ h => h) (Or.inl ⟨by rfl, ?_⟩) (by assumption) ?_
        rotate_left
        · intro w hSw; (try dsimp only at hSw); go_simp; first | done | with_reducible rfl
        try simp only [Act.put, List.setIfInBounds_toArray, List.set_cons_zero, List.set_cons_succ]
        refine wpAnyU_takeB (i := 13) [14, 15, 16] (v := ?_) (by simp only [List.getElem?_toArray, List.getElem?_cons_succ, List.getElem?_cons_zero]; rfl) (by kernel_rfl) (by kernel_rfl) (by kernel_rfl) (by decide) (by kernel_rfl) (by kernel_rfl) (by kernel_rfl) (fun _ _ _ h => h) (Or.inl ⟨by rfl, ?_⟩) (by assumption) ?_
        rotate_left
        · intro w hSw; (try dsimp only at hSw); go_simp; first | done | with_reducible rfl
        try simp only [Act.put, List.setIfInBounds_toArray, List.set_cons_zero, List.set_cons_succ]
        refine wpAnyU_takeB (i := 14) [15, 16] (v := ?_) (by simp only [List.getElem?_toArray, List.getElem?_cons_succ, List.getElem?_cons_zero]; rfl) (by kernel_rfl) (by kernel_rfl) (by kernel_rfl) (by decide) (by kernel_rfl) (by kernel_rfl) (by kernel_rfl) (fun _ _ _ h => h) (Or.inl ⟨by rfl, ?_⟩) (by assumption) ?_
        rotate_left
        · intro w hSw; (try dsimp only at hSw); go_simp; first | done | with_reducible rfl
        try simp only [Act.put, List.setIfInBounds_toArray, List.set_cons_zero, List.set_cons_succ]
        refine wpAnyU_ready (rs := [9]) (by kernel_rfl) (by simp) ?_
        refine AllReadyU.cons (by simp only [List.getElem?_toArray, List.getElem?_cons_succ, List.getElem?_cons_zero]; rfl) (fun K hK => ?_) AllReadyU.nil
        go_simp
        refine (next_any g2 g2 1073741824 _ hHeld.1.1 (by omega) (by omega)).mono ?_
        rintro e w_9 ⟨x, x0, x1, rfl, hs_9, hg_9⟩
        go_wp2_with fail
        refine hK.out _ _ ?_ (fun hHeld => ?_)
        · exact KM.next hHeld hs_9 hg_9
        clear hK K hs_9 hg_9
        try simp only [Act.put, List.setIfInBounds_toArray, List.set_cons_zero, List.set_cons_succ]
        refine wpAnyU_ready (rs := [11]) (by kernel_rfl) (by simp) ?_
        refine AllReadyU.cons (by simp only [List.getElem?_toArray, List.getElem?_cons_succ, List.getElem?_cons_zero]; rfl) (fun K hK => ?_) AllReadyU.nil
        go_simp
        refine (next_any g2 g2 1073741824 _ hHeld.1.1 (by omega) (by omega)).mono ?_
        rintro e w_11 ⟨y, y0, y1, rfl, hs_11, hg_11⟩
        go_wp2_with fail
        refine hK.out _ _ ?_ (fun hHeld => ?_)
        · exact KM.next hHeld hs_11 hg_11
        clear hK K hs_11 hg_11
        try simp only [Act.put, List.setIfInBounds_toArray, List.set_cons_zero, List.set_cons_succ]
        refine wpAnyU_ready (rs := [12]) (by kernel_rfl) (by simp) ?_
        refine AllReadyU.cons (by simp only [List.getElem?_toArray, List.getElem?_cons_succ, List.getElem?_cons_zero]; rfl) (fun K hK => ?_) AllReadyU.nil
        go_simp
        refine (part_any ((q.R.row i).lo k) ((q.R.row i).hi k) x y _ (HV.out.1 i k hlt hlk)).mono ?_
        rintro e w_12 ⟨a, b, ha, hab, hb, rfl, hb9⟩
        go_wp2_with fail
        refine hK.out _ _ ?_ (fun hHeld => ?_)
        · exact KM.ext hHeld hb9
        clear hK K hb9
        try simp only [Act.put, List.setIfInBounds_toArray, List.set_cons_zero, List.set_cons_succ]
        refine wpAnyU_take (i := 15) (v := ?_) (by simp only [List.getElem?_toArray, List.getElem?_cons_succ, List.getElem?_cons_zero]; rfl) (by kernel_rfl) (by kernel_rfl) (by kernel_rfl) (by kernel_rfl) (by kernel_rfl) (fun _ _ _ h => h) (Or.inl ⟨by rfl, ?_⟩) (by assumption) ?_
        rotate_left
        · intro w hSw; (try dsimp only at hSw); go_simp; first | done | with_reducible rfl
        try simp only [Act.put, List.setIfInBounds_toArray, List.set_cons_zero, List.set_cons_succ]
        have HPn := Lib.hid (HO.out.set hlt hlk (a := a) (b := b) ⟨ha, hab, hb⟩)
        have HSn := Lib.hid (KM.setR hHeld i k hlt hlk a b)
        have HTh := Lib.hid (there2 hHeld.2.1 (o := i * 6 + k * 2) (by rw [pp.size]; omega))
        refine wpAnyU_store (by kernel_rfl) (by simp only [List.getElem?_toArray, List.getElem?_cons_succ, List.getElem?_cons_zero]; rfl) rfl 32 _ _ rfl w5.heap.size (i * 6 + k * 2) #[.int .i64 a, .int .i64 b] rfl rfl HTh.out (by kernel_rfl) (two_one _ _) ?_
        refine wpAnyU_done (by kernel_rfl) ?_ _
        refine NoPanic.normal ?_
        clear hHeld HTh HO
        generalize w_12.setCells w5.heap.size (i * 6 + k * 2) _ = w7 at *
        generalize setR pp i k a b = p2 at *
        go_wp2_with fail
        go_roundw
        case rel => exact ⟨k + 1, p2, by omega, by go_num, HPn, HSn⟩
        case measure => simp [intOf]; omega
      · obtain rfl : k = 3 := by omega
        go_wp2_with fail
        go_roundw
        case rel => exact ⟨i + 1, pp, by omega, by go_num, Lib.hid HO.out.done, HS⟩
        case measure => simp [intOf]; omega
    · obtain rfl : i = 3 := by omega
      clear hlt
      go_wp2_with fail
      have hb6 := below_grown hb5 (Nat.le_refl _) hgl HS.out.1.2.2
      have HC := Lib.hid (HS.out.1.whole HC5.out hgs); have HD := Lib.hid (HS.out.1.whole HD5.out hgq); have HE := Lib.hid HS.out.2.1
      have HP := Lib.hid (HP4.out.ext hb6)
      have hB6 := ext_trans hB4 hb6
      have HPo := Lib.hid HO.out
      clear HS HO HC5 HD5 HP4 hb5 hb6 hgs hgq hg5 hgl hB4
      refine wp_region_noPanic ?_
      refine wp_region_held_drew (S := (fun w' => Below wr.heap.size wr w')) (by kernel_rfl) ?_ (fun hHeld => ?_)
      · exact ext_drew (ext_refl _)
      refine wpAnyH_take (i := 0) (by simp only [List.getElem?_toArray, List.getElem?_cons_succ, List.getElem?_cons_zero]; rfl) (by kernel_rfl) (by kernel_rfl) (by kernel_rfl) (fun _ _ _ h => h) (yieldsIf_load_mid (by rfl) _ _ rfl w3.heap.size (0) (by rfl) [.int .i64 (-1), .int .i64 r, .slice av Q.length cv] _ (fun w' h => range_ext HC.out.all h HC.out.lt) Try.underlying48 rfl (by kernel_rfl)) (by assumption) ?_
      try simp only [Act.put, List.setIfInBounds_toArray, List.set_cons_zero, List.set_cons_succ]
      refine wpAnyH_take (i := 1) (by simp only [List.getElem?_toArray, List.getElem?_cons_succ, List.getElem?_cons_zero]; rfl) (by kernel_rfl) (by kernel_rfl) (by kernel_rfl) (fun _ _ _ h => h) (yieldsIf_load_mid (by rfl) _ _ rfl w5.heap.size (0) (by rfl) pp.arr.toList _ (fun w' h => range_ext HE.out.all h HE.out.lt) Try.underlying52 rfl (by kernel_rfl)) (by assumption) ?_
      try simp only [Act.put, List.setIfInBounds_toArray, List.set_cons_zero, List.set_cons_succ]
      refine wpAnyH_take (i := 3) (by simp only [List.getElem?_toArray, List.getElem?_cons_succ, List.getElem?_cons_zero]; rfl) (by kernel_rfl) (by kernel_rfl) (by kernel_rfl) (fun _ _ _ h => h) (yieldsIf_load_mid (by rfl) _ _ rfl w3.heap.size (0) (by rfl) [.int .i64 (-1), .int .i64 r, .slice av Q.length cv] _ (fun w' h => range_ext HC.out.all h HC.out.lt) Try.underlying48 rfl (by kernel_rfl)) (by assumption) ?_
      try simp only [Act.put, List.setIfInBounds_toArray, List.set_cons_zero, List.set_cons_succ]
      refine wpAnyH_take (i := 4) (by simp only [List.getElem?_toArray, List.getElem?_cons_succ, List.getElem?_cons_zero]; rfl) (by kernel_rfl) (by kernel_rfl) (by kernel_rfl) (fun _ _ _ h => h) (yieldsIf_load_mid (by rfl) _ _ rfl (w3.heap.size + 1) (0) (by rfl) q.arr.toList _ (fun w' h => range_ext HD.out.all h HD.out.lt) Try.underlying52 rfl (by kernel_rfl)) (by assumption) ?_
      try simp only [Act.put, List.setIfInBounds_toArray, List.set_cons_zero, List.set_cons_succ]
      have e1 : (Fx.placeL r Q pp).length = Q.length := by rw [Fx.placeL_yes hok, List.length_map]
      have e2 : (Fx.placeL r Q q).length = Q.length := by rw [Fx.placeL_yes hok, List.length_map]
      refine wpAnyH_ready (rs := [2]) (by kernel_rfl) (by simp) ?_
      refine AllReadyH.cons (by simp only [List.getElem?_toArray, List.getElem?_cons_succ, List.getElem?_cons_zero]; rfl) (fun K hK => ?_) AllReadyH.nil
      go_simp
      refine (place_any (-1) r _ Q pp _ (HP.out.ext hHeld)).mono ?_
      rintro e w6 h6
      obtain ⟨a6, c6, rfl, hp6, hb6⟩ := h6.form
      have HP6 := Lib.hid hp6
      have hHeld' := ext_trans hHeld hb6
      clear h6 hp6 hb6 hHeld
      go_wp2_with fail
      refine hK.out _ _ hHeld' (fun hHeld => ?_)
      clear hK K hHeld'
      try simp only [Act.put, List.setIfInBounds_toArray, List.set_cons_zero, List.set_cons_succ]
      refine wpAnyH_ready (rs := [5]) (by kernel_rfl) (by simp) ?_
      refine AllReadyH.cons (by simp only [List.getElem?_toArray, List.getElem?_cons_succ, List.getElem?_cons_zero]; rfl) (fun K hK => ?_) AllReadyH.nil
      go_simp
      refine (place_any (-1) r _ Q q _ (HP.out.ext hHeld)).mono ?_
      rintro e w7 h7
      obtain ⟨a7, c7, rfl, hp7, hb7⟩ := h7.form
      have HP7 := Lib.hid hp7
      have HP6' := Lib.hid (HP6.out.ext hb7)
      have hHeld' := ext_trans hHeld hb7
      clear h7 hp7 hb7 hHeld HP6
      go_wp2_with fail
      refine hK.out _ _ hHeld' (fun hHeld => ?_)
      clear hK K hHeld'
      try simp only [Act.put, List.setIfInBounds_toArray, List.set_cons_zero, List.set_cons_succ]
      refine wpAnyH_take (i := 6) (v := ?_) (by simp only [List.getElem?_toArray, List.getElem?_cons_succ, List.getElem?_cons_zero]; rfl) (by kernel_rfl) (by kernel_rfl) (by kernel_rfl) (fun _ _ _ h => h) (Or.inl ⟨by rfl, ?_⟩) (by assumption) ?_
      rotate_left
      · intro w hSw; (try dsimp only at hSw); go_simp; first | done | with_reducible rfl
      try simp only [Act.put, List.setIfInBounds_toArray, List.set_cons_zero, List.set_cons_succ]
      refine wpAnyH_take (i := 7) (v := ?_) (by simp only [List.getElem?_toArray, List.getElem?_cons_succ, List.getElem?_cons_zero]; rfl) (by kernel_rfl) (by kernel_rfl) (by kernel_rfl) (fun _ _ _ h => h) (Or.inl ⟨by rfl, ?_⟩) (by assumption) ?_
      rotate_left
      · intro w hSw; (try dsimp only at hSw); go_simp; first | done | with_reducible rfl
      try simp only [Act.put, List.setIfInBounds_toArray, List.set_cons_zero, List.set_cons_succ]
      refine wpAnyH_done (by kernel_rfl) ?_ _
      refine NoPanic.normal ?_
      have hcv : w7.cell? ⟨w3.heap.size, 2, none⟩ = some (.slice av Q.length cv) := (HC.out.ext hHeld).cell 2
      have hB7 := ext_trans hB6 hHeld
      have HA : Hid (VSl w7 (.slice a6 Q.length c6) (Fx.placeL r Q pp)) := Lib.hid (by have := HP6'.out; rwa [e1] at this)
      have HB : Hid (VSl w7 (.slice a7 Q.length c7) (Fx.placeL r Q q)) := Lib.hid (by have := HP7.out; rwa [e2] at this)
      have hW := place_row HV.out HPo.out hok
      have HW := Lib.hid hW
      have HE1 := Lib.hid e1; have HE2 := Lib.hid e2
      clear hW HP6' HP7 HC HD HE HP hHeld hB6 HPo HV e1 e2
      go_wp2_with fail
      go_loopw [15] (fun iv wr => ∃ i : Nat, i ≤ Q.length ∧ iv = .int .i64 i ∧ Hid (Below w7.heap.size w7 wr)) (fun iv _ => Q.length - (intOf iv).toNat)
      case atStart => exact ⟨0, by omega, by go_num, Lib.hid (ext_refl _)⟩
      case round =>
      obtain ⟨i, hiq, rfl, HK⟩ := hrel
      by_cases hlt : i < Q.length
      · have hd : decide ((i : Int) < (Q.length : Int)) = true := by simp; omega
        obtain ⟨_, _, hx1, k0, hx2⟩ := HA.out
        obtain ⟨b6, o6, hb6, hat6⟩ := hx2 (by rw [HE1.out]; omega)
        simp only [Value.slice.injEq] at hx1
        obtain ⟨rfl, k1, k2⟩ := hx1
        clear k1 k2
        obtain ⟨_, _, hx3, k5, hx4⟩ := HB.out
        obtain ⟨b7, o7, hb7, hat7⟩ := hx4 (by rw [HE2.out]; omega)
        simp only [Value.slice.injEq] at hx3
        obtain ⟨rfl, k3, k4⟩ := hx3
        clear k3 k4
        subst hb6 hb7
        have HR6 := Lib.hid (vat_range hat6 i (by rw [HE1.out]; exact hlt)); have HR7 := Lib.hid (vat_range hat7 i (by rw [HE2.out]; exact hlt))
        have hl6 := hat6.1; have hl7 := hat7.1
        clear hat6 hat7 hx2 hx4 k0 k5
        go_wp2_with fail
        have HX := Lib.hid (HW.out i hlt)
        generalize (Fx.placeL r Q pp).getD i Fx.V3.zero = x6 at HR6 HX
        generalize (Fx.placeL r Q q).getD i Fx.V3.zero = x7 at HR7 HX
        refine wp_region_noPanic ?_
        refine wp_region_held_drew (S := (fun w' => Below w7.heap.size w7 w')) (by kernel_rfl) ?_ (fun hHeld => ?_)
        · exact ext_trans HK.out (ext_drew (ext_refl _))
        clear HK
        refine wpAnyH_take (i := 0) (v := ?_) (by simp only [List.getElem?_toArray, List.getElem?_cons_succ, List.getElem?_cons_zero]; rfl) (by kernel_rfl) (by kernel_rfl) (by kernel_rfl) (fun _ _ _ h => h) (Or.inl ⟨by rfl, ?_⟩) (by assumption) ?_
        rotate_left
        · intro w hSw; (try dsimp only at hSw); go_simp; first | done | with_reducible rfl
        try simp only [Act.put, List.setIfInBounds_toArray, List.set_cons_zero, List.set_cons_succ]
        refine wpAnyH_take (i := 1) (v := ?_) (by simp only [List.getElem?_toArray, List.getElem?_cons_succ, List.getElem?_cons_zero]; rfl) (by kernel_rfl) (by kernel_rfl) (by kernel_rfl) (fun _ _ _ h => h) (Or.inl ⟨by rfl, ?_⟩) (by assumption) ?_
        rotate_left
        · intro w hSw; (try dsimp only at hSw); go_simp; first | done | with_reducible rfl
        try simp only [Act.put, List.setIfInBounds_toArray, List.set_cons_zero, List.set_cons_succ]
        refine wpAnyH_take (i := 2) (v := ?_) (by simp only [List.getElem?_toArray, List.getElem?_cons_succ, List.getElem?_cons_zero]; rfl) (by kernel_rfl) (by kernel_rfl) (by kernel_rfl) (fun _ _ _ h => h) (Or.inl ⟨by rfl, ?_⟩) (by assumption) ?_
        rotate_left
        · intro w hSw; (try dsimp only at hSw); go_simp; first | done | with_reducible rfl
        try simp only [Act.put, List.setIfInBounds_toArray, List.set_cons_zero, List.set_cons_succ]
        refine wpAnyH_take (i := 3) (by simp only [List.getElem?_toArray, List.getElem?_cons_succ, List.getElem?_cons_zero]; rfl) (by kernel_rfl) (by kernel_rfl) (by kernel_rfl) (fun _ _ _ h => h) (yieldsIf_load_mid (by rfl) _ _ rfl b6 ((o6 + i * 6)) (by rfl) x6.arr.toList _ (fun w' h => range_ext HR6.out h hl6) Try.underlying34 rfl (by kernel_rfl)) (by assumption) ?_
        try simp only [Act.put, List.setIfInBounds_toArray, List.set_cons_zero, List.set_cons_succ]
        refine wpAnyH_take (i := 4) (v := ?_) (by simp only [List.getElem?_toArray, List.getElem?_cons_succ, List.getElem?_cons_zero]; rfl) (by kernel_rfl) (by kernel_rfl) (by kernel_rfl) (fun _ _ _ h => h) (Or.inl ⟨by rfl, ?_⟩) (by assumption) ?_
        rotate_left
        · intro w hSw; (try dsimp only at hSw); go_simp; first | done | with_reducible rfl
        try simp only [Act.put, List.setIfInBounds_toArray, List.set_cons_zero, List.set_cons_succ]
        refine wpAnyH_take (i := 5) (v := ?_) (by simp only [List.getElem?_toArray, List.getElem?_cons_succ, List.getElem?_cons_zero]; rfl) (by kernel_rfl) (by kernel_rfl) (by kernel_rfl) (fun _ _ _ h => h) (Or.inl ⟨by rfl, ?_⟩) (by assumption) ?_
        rotate_left
        · intro w hSw; (try dsimp only at hSw); go_simp; first | done | with_reducible rfl
        try simp only [Act.put, List.setIfInBounds_toArray, List.set_cons_zero, List.set_cons_succ]
        refine wpAnyH_take (i := 6) (v := ?_) (by simp only [List.getElem?_toArray, List.getElem?_cons_succ, List.getElem?_cons_zero]; rfl) (by kernel_rfl) (by kernel_rfl) (by kernel_rfl) (fun _ _ _ h => h) (Or.inl ⟨by rfl, ?_⟩) (by assumption) ?_
        rotate_left
        · intro w hSw; (try dsimp only at hSw); go_simp; first | done | with_reducible rfl
        try simp only [Act.put, List.setIfInBounds_toArray, List.set_cons_zero, List.set_cons_succ]
        refine wpAnyH_take (i := 7) (by simp only [List.getElem?_toArray, List.getElem?_cons_succ, List.getElem?_cons_zero]; rfl) (by kernel_rfl) (by kernel_rfl) (by kernel_rfl) (fun _ _ _ h => h) (yieldsIf_load_mid (by rfl) _ _ rfl b7 ((o7 + i * 6)) (by rfl) x7.arr.toList _ (fun w' h => range_ext HR7.out h hl7) Try.underlying34 rfl (by kernel_rfl)) (by assumption) ?_
        try simp only [Act.put, List.setIfInBounds_toArray, List.set_cons_zero, List.set_cons_succ]
        refine wpAnyH_ready (rs := [8]) (by kernel_rfl) (by simp) ?_
        refine AllReadyH.cons (by simp only [List.getElem?_toArray, List.getElem?_cons_succ, List.getElem?_cons_zero]; rfl) (fun K hK => ?_) AllReadyH.nil
        go_simp
        refine (withinvec_any x6 x7 _ HX.out).mono ?_
        rintro e w_8 ⟨rfl, hb_8⟩
        have hHeld' := ext_trans hHeld hb_8
        clear hHeld hb_8
        go_wp2_with fail
        refine hK.out _ _ hHeld' (fun hHeld => ?_)
        clear hK K hHeld'
        try simp only [Act.put, List.setIfInBounds_toArray, List.set_cons_zero, List.set_cons_succ]
        refine wpAnyH_take (i := 9) (v := ?_) (by simp only [List.getElem?_toArray, List.getElem?_cons_succ, List.getElem?_cons_zero]; rfl) (by kernel_rfl) (by kernel_rfl) (by kernel_rfl) (fun _ _ _ h => h) (Or.inl ⟨by rfl, ?_⟩) (by assumption) ?_
        rotate_left
        · intro w hSw; (try dsimp only at hSw); go_simp; first | done | with_reducible rfl
        try simp only [Act.put, List.setIfInBounds_toArray, List.set_cons_zero, List.set_cons_succ]
        refine wpAnyH_done (by kernel_rfl) ?_ _
        refine NoPanic.normal ?_
        have HKn := Lib.hid hHeld
        clear hHeld
        go_wp2_with fail
        go_roundw
        case rel => exact ⟨i + 1, by omega, by go_num, HKn⟩
        case measure => simp [intOf]; omega
      · have hd : decide ((i : Int) < (Q.length : Int)) = false := by simp; omega
        go_wp2_with fail
        refine (awake_any _).mono ?_
        rintro e w8 ⟨rfl, hb8⟩
        have hB8 := ext_trans (ext_trans hB7 HK.out) hb8
        clear hb8
        go_wp2_with fail
        go_ret
        exact ⟨rfl, hB8⟩

set_option maxRecDepth 100000 in
theorem lifted (os : Os) (started : os.Started) (H : Type) (enc : TypeId × Value → H) :
    ReturnsInHanded {} Try.checked os 9 .any (Rows.shapeMonotoneSpec.pre6 enc Try.prog Try.f9 Rows.shapeMonotoneRow.domain false) (Rows.shapeMonotoneSpec.post enc Try.prog Try.f9 false true false false) := by
  refine returnsInHanded_of_change (C := Try.checked) own started (by kernel_rfl) Try.func9
    (ChangeSpec.witness6 (enc := enc) (C := Try.checked) false ⟨#[], #[.slice none 0 0, .slice none 0 0, .slice none 0 0], []⟩ 8 (by kernel_rfl) (by kernel_rfl) (by kernel_rfl) (by kernel_rfl)) ?_
  intro W base args ds gs before hval0 hW hcnd _
  have hval : ∀ (j : Nat) t v, Try.f9.params[j]? = some t → args[j]? = some v → Value.okWide Try.prog W .any base t v := hval0
  have hW' := hW
  obtain ⟨p, q, hA0, hV, rfl, hfz, hnd⟩ := hW
  have hA : DataW.TrodAll enc Try.prog W 0 (fun _ => true) true Try.f9.params.toList args.toList ds p := hA0
  rw [Try.params9] at hA hval
  obtain ⟨v0, vs0, d0, ds0, p0, q0, hargs, rfl, rfl, h0, r0⟩ := trodAll_cons hA
  obtain ⟨v1, vs1, d1, ds1, p1, q1, rfl, rfl, rfl, h1, r1⟩ := trodAll_cons r0
  obtain ⟨v2, vs2, d2, ds2, p2, q2, rfl, rfl, rfl, h2, r2⟩ := trodAll_cons r1
  obtain ⟨rfl, rfl, rfl⟩ := trodAll_nil r2
  obtain rfl : args = #[v0, v1, v2] := by cases args; simp_all
  obtain ⟨rfl, rfl⟩ := trodVars_none hV
  have k0 := h0
  have lt0 : ∀ x ∈ p0, x.block < W.heap.size := by obtain ⟨m, hm⟩ := k0; exact DataW.trod_lt m _ _ _ hm
  have k1 := h1
  have lt1 : ∀ x ∈ p1, x.block < W.heap.size := by obtain ⟨m, hm⟩ := k1; exact DataW.trod_lt m _ _ _ hm
  have k2 := h2
  have lt2 : ∀ x ∈ p2, x.block < W.heap.size := by obtain ⟨m, hm⟩ := k2; exact DataW.trod_lt m _ _ _ hm
  obtain ⟨xs0, hs0, wf0⟩ := open_intsl (hval 0 24 v0 rfl rfl) h0
  obtain ⟨xs1, hs1, wf1⟩ := open_intsl (hval 1 24 v1 rfl rfl) h1
  obtain ⟨xs2, hs2, wf2⟩ := open_intsl (hval 2 24 v2 rfl rfl) h2
  clear hA0 hval0
  refine (walk v0 xs0 v1 xs1 v2 xs2 W hs0 hs1 hs2).mono fun e W' ⟨he, bel⟩ => ?_
  subst he
  exact ⟨_, rfl, _, _, _, [], _, [], hW', trodAll_mk1 (shut_bool Try.underlying4 _), (trodAll_cons_mk (Below.trod laidOut (by kernel_rfl) (of_decide_eq_true (by kernel_rfl)) k0 bel lt0) (trodAll_cons_mk (Below.trod laidOut (by kernel_rfl) (of_decide_eq_true (by kernel_rfl)) k1 bel lt1) (trodAll_cons_mk (Below.trod laidOut (by kernel_rfl) (of_decide_eq_true (by kernel_rfl)) k2 bel lt2) trodAll_mk0))), rfl, bel.frame _, fun h => by cases h⟩

theorem over : Rows.shapeMonotoneRow.holds Try.pinned (OpenSpec.ofChange Rows.shapeMonotoneSpec) :=
  OpenClaim.holds_of_wide 9 Try.f9 rfl rfl rfl rfl rfl rfl rfl ⟨rfl, rfl, rfl, rfl, rfl⟩ rfl rfl rfl rfl rfl (by kernel_rfl) Try.func9 (by kernel_rfl)
    (of_decide_eq_true (by kernel_rfl)) (by unfold Func.isWrapper; first | (rw [if_pos (by decide +kernel)]; kernel_rfl) | (rw [if_neg (by decide +kernel)]; exact ⟨rfl, rfl⟩))
    (fun os started H enc _ => lifted os started H enc)

/-- The statement. -/
theorem proved : Rows.ShapeMonotoneSaid := over
end Go.Proofs.Ytgnjconhbloocaa.shapeMonotone
