/- Contract of the reference's Centers. -/
import Derived.Test.YtgnjconhbloocaaCenters
namespace Go.Proofs.Ytgnjconhbloocaa
open Go.RowKit
set_option linter.unusedVariables false

theorem rowTo_full (f : Nat → Int) (N : Nat) : rowTo f N N = (List.range N).map fun t => .int .i64 (f t) := by
  apply List.ext_getElem?
  intro t
  by_cases ht : t < N
  · rw [rowTo_get f N N t ht, if_pos ht]; simp [ht]
  · rw [List.getElem?_eq_none (by rw [rowTo_len]; omega), List.getElem?_eq_none (by simp; omega)]
theorem rowTo_snoc3 (f : Nat → Int) (k : Nat) : rowTo f ((k + 1) * 3) ((k + 1) * 3) = rowTo f (k * 3) (k * 3) ++ [.int .i64 (f (k * 3 + 0)), .int .i64 (f (k * 3 + 1)), .int .i64 (f (k * 3 + 2))] := by
  rw [rowTo_full, rowTo_full, show (k + 1) * 3 = k * 3 + 1 + 1 + 1 by omega, List.range_succ, List.range_succ, List.range_succ]
  simp

/-- The six cells of a vector. -/
abbrev Six (b o : Nat) (x : Fx.V3) (w' : World) : Prop := w'.cell? ⟨b, o, none⟩ = some (.int .i64 x.a) ∧ w'.cell? ⟨b, o + 1, none⟩ = some (.int .i64 x.b) ∧ w'.cell? ⟨b, o + 2, none⟩ = some (.int .i64 x.c) ∧ w'.cell? ⟨b, o + 3, none⟩ = some (.int .i64 x.d) ∧ w'.cell? ⟨b, o + 4, none⟩ = some (.int .i64 x.e) ∧ w'.cell? ⟨b, o + 5, none⟩ = some (.int .i64 x.f)
theorem Six.step {b o B : Nat} {x : Fx.V3} {w1 w2 : World} (h : Six b o x w1) (hb : Below B w1 w2) (hl : b < B) : Six b o x w2 := by
  obtain ⟨s0, s1, s2, s3, s4, s5⟩ := h
  exact ⟨(hb.cell (p := ⟨b, _, none⟩) hl).trans s0, (hb.cell (p := ⟨b, _, none⟩) hl).trans s1, (hb.cell (p := ⟨b, _, none⟩) hl).trans s2, (hb.cell (p := ⟨b, _, none⟩) hl).trans s3, (hb.cell (p := ⟨b, _, none⟩) hl).trans s4, (hb.cell (p := ⟨b, _, none⟩) hl).trans s5⟩

set_option maxRecDepth 100000 in
set_option maxHeartbeats 2000000 in
theorem rcenters_any (v : Value) (L : List Fx.V3) (w : World) (hI : VSl w v L) :
    Calls Try.prog 39 #[v] w (GivesP (Fx.centers L) w) := by
  have HI := Lib.hid hI
  obtain ⟨a, c, rfl, hl, hI'⟩ := hI
  by_cases hp : Fx.placedB L = true
  · rw [Fx.centers_yes hp]
    have hlen := Fx.placedB_len hp
    obtain ⟨b, o, rfl, hJ⟩ := hI' (by omega)
    have HJ := Lib.hid hJ
    have hbw := hJ.1
    have HP := Lib.hid hp
    clear hI' hJ hp
    obtain ⟨i0, hi, hz0, hz1, hz2⟩ := info_parts info_vec
    go_enter Try.func39, Try.ntmps39
    go_wp2_with fail
    refine (rplaced_yes _ L _ HI.out HP.out).mono ?_
    rintro e w1 ⟨rfl, hb1⟩
    clear HI HP
    go_wp2_with fail
    go_loopw [3, 4] (fun ov iv wr => ∃ i : Nat, i ≤ L.length ∧ iv = .int .i64 i ∧ wr.ownsRow w.heap.size 66 3 ov i (rowTo (Fx.ctrAt L) (i * 3) (i * 3)) ∧ Below w.heap.size w wr) (fun _ iv _ => L.length - (intOf iv).toNat)
    case atStart => exact ⟨0, by omega, by go_num, World.ownsRow_nil _ _ _ _, hb1⟩
    case round =>
      obtain ⟨i, hil, rfl, hO, hb⟩ := hrel
      clear hb1
      by_cases hlt : i < L.length
      · obtain ⟨c0, c1, c2, c3, c4, c5⟩ := (HJ.out.ext hb).at_ i hlt
        have HF0 := Lib.hid (Fx.ctrAt_eq L i 0 (by omega)); have HF1 := Lib.hid (Fx.ctrAt_eq L i 1 (by omega)); have HF2 := Lib.hid (Fx.ctrAt_eq L i 2 (by omega))
        generalize L.getD i Fx.V3.zero = x at *
        have hd : decide ((i : Int) < (L.length : Int)) = true := by simp; omega
        have k0 : (0 : Int) ≤ (i : Int) := by omega
        have k1 : (i : Int) < (L.length : Int) := by omega
        have HO := Lib.hid hO
        have H0 := Lib.hid c0; have H1 := Lib.hid c1; have H2 := Lib.hid c2; have H3 := Lib.hid c3; have H4 := Lib.hid c4; have H5 := Lib.hid c5
        clear hO c0 c1 c2 c3 c4 c5
        have hww := hb.size
        go_wp2_with fail
        refine wp_region_noPanic ?_
        refine wp_region_held_drew (S := (fun w' => w'.cell? ⟨b, o + i * 6, none⟩ = some (.int .i64 x.a) ∧ w'.cell? ⟨b, o + i * 6 + 1, none⟩ = some (.int .i64 x.b) ∧ w'.cell? ⟨b, o + i * 6 + 2, none⟩ = some (.int .i64 x.c) ∧ w'.cell? ⟨b, o + i * 6 + 3, none⟩ = some (.int .i64 x.d) ∧ w'.cell? ⟨b, o + i * 6 + 4, none⟩ = some (.int .i64 x.e) ∧ w'.cell? ⟨b, o + i * 6 + 5, none⟩ = some (.int .i64 x.f))) (by kernel_rfl) ?_ (fun hHeld => ?_)
        · exact ⟨H0.out, H1.out, H2.out, H3.out, H4.out, H5.out⟩
        refine wpAnyH_take (i := 0) (v := ?_) (by simp only [List.getElem?_toArray, List.getElem?_cons_succ, List.getElem?_cons_zero]; rfl) (by kernel_rfl) (by kernel_rfl) (by kernel_rfl) (fun _ _ _ h => h) (Or.inl ⟨by rfl, ?_⟩) (by assumption) ?_
        rotate_left
        · intro w hSw; (try dsimp only at hSw); go_simp; first | done | with_reducible rfl
        try simp only [Act.put, List.setIfInBounds_toArray, List.set_cons_zero, List.set_cons_succ]
        refine wpAnyH_take (i := 1) (v := ?_) (by simp only [List.getElem?_toArray, List.getElem?_cons_succ, List.getElem?_cons_zero]; rfl) (by kernel_rfl) (by kernel_rfl) (by kernel_rfl) (fun _ _ _ h => h) (Or.inl ⟨by rfl, ?_⟩) (by assumption) ?_
        rotate_left
        · intro w hSw; (try dsimp only at hSw); go_simp; first | done | with_reducible rfl
        try simp only [Act.put, List.setIfInBounds_toArray, List.set_cons_zero, List.set_cons_succ]
        refine wpAnyH_take (i := 2) (v := ?_) (by simp only [List.getElem?_toArray, List.getElem?_cons_succ, List.getElem?_cons_zero]; rfl) (by kernel_rfl) (by kernel_rfl) (by kernel_rfl) (fun _ _ _ h => h) (Or.inl ⟨by rfl, ?_⟩) (by assumption) ?_
        rotate_left
        · intro w hSw; (try dsimp only at hSw); go_simp; first | done | with_reducible rfl
        try simp only [Act.put, List.setIfInBounds_toArray, List.set_cons_zero, List.set_cons_succ]
        refine wpAnyH_take (i := 3) (v := ?_) (by simp only [List.getElem?_toArray, List.getElem?_cons_succ, List.getElem?_cons_zero]; rfl) (by kernel_rfl) (by kernel_rfl) (by kernel_rfl) (fun _ _ _ h => h) (Or.inl ⟨by rfl, ?_⟩) (by assumption) ?_
        rotate_left
        · intro w hSw; (try dsimp only at hSw); go_simp; first | done | with_reducible rfl
        try simp only [Act.put, List.setIfInBounds_toArray, List.set_cons_zero, List.set_cons_succ]
        refine wpAnyH_take (i := 4) (v := ?_) (by simp only [List.getElem?_toArray, List.getElem?_cons_succ, List.getElem?_cons_zero]; rfl) (by kernel_rfl) (by kernel_rfl) (by kernel_rfl) (fun _ _ _ h => h) (Or.inl ⟨by rfl, ?_⟩) (by assumption) ?_
        rotate_left
        · intro w hSw; (try dsimp only at hSw); go_simp; first | done | with_reducible rfl
        try simp only [Act.put, List.setIfInBounds_toArray, List.set_cons_zero, List.set_cons_succ]
        refine wpAnyH_take (i := 5) (v := ?_) (by simp only [List.getElem?_toArray, List.getElem?_cons_succ, List.getElem?_cons_zero]; rfl) (by kernel_rfl) (by kernel_rfl) (by kernel_rfl) (fun _ _ _ h => h) (Or.inl ⟨by rfl, ?_⟩) (by assumption) ?_
        rotate_left
        · intro w hSw; (try dsimp only at hSw); go_simp; first | done | with_reducible rfl
        try simp only [Act.put, List.setIfInBounds_toArray, List.set_cons_zero, List.set_cons_succ]
        refine wpAnyH_take (i := 7) (v := ?_) (by simp only [List.getElem?_toArray, List.getElem?_cons_succ, List.getElem?_cons_zero]; rfl) (by kernel_rfl) (by kernel_rfl) (by kernel_rfl) (fun _ _ _ h => h) (Or.inl ⟨by rfl, ?_⟩) (by assumption) ?_
        rotate_left
        · intro w hSw; (try dsimp only at hSw); go_simp; first | done | with_reducible rfl
        try simp only [Act.put, List.setIfInBounds_toArray, List.set_cons_zero, List.set_cons_succ]
        refine wpAnyH_take (i := 8) (v := ?_) (by simp only [List.getElem?_toArray, List.getElem?_cons_succ, List.getElem?_cons_zero]; rfl) (by kernel_rfl) (by kernel_rfl) (by kernel_rfl) (fun _ _ _ h => h) (Or.inl ⟨by rfl, ?_⟩) (by assumption) ?_
        rotate_left
        · intro w hSw; (try dsimp only at hSw); go_simp; first | done | with_reducible rfl
        try simp only [Act.put, List.setIfInBounds_toArray, List.set_cons_zero, List.set_cons_succ]
        refine wpAnyH_take (i := 9) (v := ?_) (by simp only [List.getElem?_toArray, List.getElem?_cons_succ, List.getElem?_cons_zero]; rfl) (by kernel_rfl) (by kernel_rfl) (by kernel_rfl) (fun _ _ _ h => h) (Or.inl ⟨by rfl, ?_⟩) (by assumption) ?_
        rotate_left
        · intro w hSw; (try dsimp only at hSw); go_simp; first | done | with_reducible rfl
        try simp only [Act.put, List.setIfInBounds_toArray, List.set_cons_zero, List.set_cons_succ]
        refine wpAnyH_take (i := 10) (v := ?_) (by simp only [List.getElem?_toArray, List.getElem?_cons_succ, List.getElem?_cons_zero]; rfl) (by kernel_rfl) (by kernel_rfl) (by kernel_rfl) (fun _ _ _ h => h) (Or.inl ⟨by rfl, ?_⟩) (by assumption) ?_
        rotate_left
        · intro w hSw; (try dsimp only at hSw); go_simp; first | done | with_reducible rfl
        try simp only [Act.put, List.setIfInBounds_toArray, List.set_cons_zero, List.set_cons_succ]
        refine wpAnyH_take (i := 11) (v := ?_) (by simp only [List.getElem?_toArray, List.getElem?_cons_succ, List.getElem?_cons_zero]; rfl) (by kernel_rfl) (by kernel_rfl) (by kernel_rfl) (fun _ _ _ h => h) (Or.inl ⟨by rfl, ?_⟩) (by assumption) ?_
        rotate_left
        · intro w hSw; (try dsimp only at hSw); go_simp; first | done | with_reducible rfl
        try simp only [Act.put, List.setIfInBounds_toArray, List.set_cons_zero, List.set_cons_succ]
        refine wpAnyH_take (i := 13) (v := ?_) (by simp only [List.getElem?_toArray, List.getElem?_cons_succ, List.getElem?_cons_zero]; rfl) (by kernel_rfl) (by kernel_rfl) (by kernel_rfl) (fun _ _ _ h => h) (Or.inl ⟨by rfl, ?_⟩) (by assumption) ?_
        rotate_left
        · intro w hSw; (try dsimp only at hSw); go_simp; first | done | with_reducible rfl
        try simp only [Act.put, List.setIfInBounds_toArray, List.set_cons_zero, List.set_cons_succ]
        refine wpAnyH_take (i := 14) (v := ?_) (by simp only [List.getElem?_toArray, List.getElem?_cons_succ, List.getElem?_cons_zero]; rfl) (by kernel_rfl) (by kernel_rfl) (by kernel_rfl) (fun _ _ _ h => h) (Or.inl ⟨by rfl, ?_⟩) (by assumption) ?_
        rotate_left
        · intro w hSw; (try dsimp only at hSw); go_simp; first | done | with_reducible rfl
        try simp only [Act.put, List.setIfInBounds_toArray, List.set_cons_zero, List.set_cons_succ]
        refine wpAnyH_take (i := 15) (v := ?_) (by simp only [List.getElem?_toArray, List.getElem?_cons_succ, List.getElem?_cons_zero]; rfl) (by kernel_rfl) (by kernel_rfl) (by kernel_rfl) (fun _ _ _ h => h) (Or.inl ⟨by rfl, ?_⟩) (by assumption) ?_
        rotate_left
        · intro w hSw; (try dsimp only at hSw); go_simp; first | done | with_reducible rfl
        try simp only [Act.put, List.setIfInBounds_toArray, List.set_cons_zero, List.set_cons_succ]
        refine wpAnyH_take (i := 16) (v := ?_) (by simp only [List.getElem?_toArray, List.getElem?_cons_succ, List.getElem?_cons_zero]; rfl) (by kernel_rfl) (by kernel_rfl) (by kernel_rfl) (fun _ _ _ h => h) (Or.inl ⟨by rfl, ?_⟩) (by assumption) ?_
        rotate_left
        · intro w hSw; (try dsimp only at hSw); go_simp; first | done | with_reducible rfl
        try simp only [Act.put, List.setIfInBounds_toArray, List.set_cons_zero, List.set_cons_succ]
        refine wpAnyH_take (i := 17) (v := ?_) (by simp only [List.getElem?_toArray, List.getElem?_cons_succ, List.getElem?_cons_zero]; rfl) (by kernel_rfl) (by kernel_rfl) (by kernel_rfl) (fun _ _ _ h => h) (Or.inl ⟨by rfl, ?_⟩) (by assumption) ?_
        rotate_left
        · intro w hSw; (try dsimp only at hSw); go_simp; first | done | with_reducible rfl
        try simp only [Act.put, List.setIfInBounds_toArray, List.set_cons_zero, List.set_cons_succ]
        refine wpAnyH_ready (rs := [6]) (by kernel_rfl) (by simp) ?_
        refine AllReadyH.cons (by simp only [List.getElem?_toArray, List.getElem?_cons_succ, List.getElem?_cons_zero]; rfl) (fun K hK => ?_) AllReadyH.nil
        go_simp
        refine (rmid_any x.a x.b _).mono ?_
        rintro e w2 ⟨rfl, hb2⟩
        have hB2 := ext_trans (ext_drew hb) hb2
        have HO2 := Lib.hid (owns_ext (owns_ext HO.out (ext_drew (ext_refl _))) hb2)
        have hz2' := hb2.size
        have hz2w : wr.heap.size ≤ w2.heap.size := hz2'
        go_wp2_with fail
        refine hK.out _ _ ?_ (fun hHeld => ?_)
        · exact Six.step hHeld hb2 (show b < wr.drew.heap.size by first | omega | exact (show b < wr.heap.size by omega))
        clear hK K hb2 HO hb
        try simp only [Act.put, List.setIfInBounds_toArray, List.set_cons_zero, List.set_cons_succ]
        refine wpAnyH_ready (rs := [12]) (by kernel_rfl) (by simp) ?_
        refine AllReadyH.cons (by simp only [List.getElem?_toArray, List.getElem?_cons_succ, List.getElem?_cons_zero]; rfl) (fun K hK => ?_) AllReadyH.nil
        go_simp
        refine (rmid_any x.c x.d _).mono ?_
        rintro e w3 ⟨rfl, hb3⟩
        have hB3 := ext_trans hB2 hb3
        have HO3 := Lib.hid (owns_ext HO2.out hb3)
        have hz3' := hb3.size
        go_wp2_with fail
        refine hK.out _ _ ?_ (fun hHeld => ?_)
        · exact Six.step hHeld hb3 (show b < w2.heap.size by first | omega | exact (show b < wr.heap.size by omega))
        clear hK K hb3 HO2 hB2
        try simp only [Act.put, List.setIfInBounds_toArray, List.set_cons_zero, List.set_cons_succ]
        refine wpAnyH_ready (rs := [18]) (by kernel_rfl) (by simp) ?_
        refine AllReadyH.cons (by simp only [List.getElem?_toArray, List.getElem?_cons_succ, List.getElem?_cons_zero]; rfl) (fun K hK => ?_) AllReadyH.nil
        go_simp
        refine (rmid_any x.e x.f _).mono ?_
        rintro e w4 ⟨rfl, hb4⟩
        have hB4 := ext_trans hB3 hb4
        have HO4 := Lib.hid (owns_ext HO3.out hb4)
        have hz4' := hb4.size
        go_wp2_with fail
        refine hK.out _ _ ?_ (fun hHeld => ?_)
        · exact Six.step hHeld hb4 (show b < w3.heap.size by first | omega | exact (show b < wr.heap.size by omega))
        clear hK K hb4 HO3 hB3
        try simp only [Act.put, List.setIfInBounds_toArray, List.set_cons_zero, List.set_cons_succ]
        have G0 : Hid (Fx.ctrAt L (i * 3 + 0) = Fx.mid x.a x.b) := HF0
        have G1 : Hid (Fx.ctrAt L (i * 3 + 1) = Fx.mid x.c x.d) := HF1
        have G2 : Hid (Fx.ctrAt L (i * 3 + 2) = Fx.mid x.e x.f) := HF2
        clear HF0 HF1 HF2
        generalize Fx.mid x.a x.b = y0 at *
        generalize Fx.mid x.c x.d = y1 at *
        generalize Fx.mid x.e x.f = y2 at *
        refine wpAnyH_take (i := 19) (v := ?_) (by simp only [List.getElem?_toArray, List.getElem?_cons_succ, List.getElem?_cons_zero]; rfl) (by kernel_rfl) (by kernel_rfl) (by kernel_rfl) (fun _ _ _ h => h) (Or.inl ⟨by rfl, ?_⟩) (by assumption) ?_
        rotate_left
        · intro w hSw; (try dsimp only at hSw); go_simp; first | done | with_reducible rfl
        try simp only [Act.put, List.setIfInBounds_toArray, List.set_cons_zero, List.set_cons_succ]
        refine wpAnyH_ready (rs := [20]) (by kernel_rfl) (by simp) ?_
        refine AllReadyH.cons (by simp only [List.getElem?_toArray, List.getElem?_cons_succ, List.getElem?_cons_zero]; rfl) (fun K hK => ?_) AllReadyH.nil
        go_simp
        refine hK.out _ _ ?_ (fun hHeld => ?_)
        · exact Six.step hHeld (ext_alloc (ext_refl w4) _) (show b < w4.heap.size by omega)
        clear hK K
        try simp only [Act.put, List.setIfInBounds_toArray, List.set_cons_zero, List.set_cons_succ]
        have hww4 := hB4.size
        refine wpAnyH_ready (rs := [21]) (by kernel_rfl) (by simp) ?_
        refine AllReadyH.cons (by simp only [List.getElem?_toArray, List.getElem?_cons_succ, List.getElem?_cons_zero]; rfl) (fun K hK => ?_) AllReadyH.nil
        refine step_append_lies _ (by rfl) _ _ _ (by rfl) w.heap.size 66 i0 _ 3 24 Try.underlying46 hi hz0 hz1 hz2 rfl (by omega) u3 i (rowTo (Fx.ctrAt L) (i * 3) (i * 3)) (by rfl) (HO4.out.alloc _) ⟨w4.heap.size, 0, none⟩ 1 1 [.int .i64 y0, .int .i64 y1, .int .i64 y2] (by rfl) (by rfl) (World.news_of_block (cs := #[.int .i64 y0, .int .i64 y1, .int .i64 y2]) (t := 66) (fr := (0, 0)) (heap_alloc_new w4 _)) (by simp [Value.oneCell']) (by omega) (by unfold maxLen; omega) (by omega) (by simp; omega) (w4.heap.size + 1) (by simp) ?_
        intro g' cap w5 hown5 hgrow hat hlt5
        have hb5 : Below w.heap.size w w5 := (ext_alloc hB4 _).grown hgrow (by simp; omega) (fun k e => by have := (HO4.out.lt k e).1; omega)
        have hnext : w5.ownsRow w.heap.size 66 3 (.slice (some ⟨g', 0, none⟩) (i + 1) cap) (i + 1) (rowTo (Fx.ctrAt L) ((i + 1) * 3) ((i + 1) * 3)) := by
          rw [rowTo_snoc3, G0.out, G1.out, G2.out]; exact hown5
        have HN := Lib.hid hnext
        have hS5 : Six b (o + i * 6) x w5 := Six.step hHeld ((Below.refl w.heap.size _).grown hgrow (by simp; omega) (fun k e => by have := (HO4.out.lt k e).1; omega)) hbw
        clear hnext hown5 hgrow hat hlt5 hHeld
        refine hK.out _ _ ?_ (fun hHeld => ?_)
        · exact hS5
        clear hK K hS5
        try simp only [Act.put, List.setIfInBounds_toArray, List.set_cons_zero, List.set_cons_succ]
        refine wpAnyH_take (i := 22) (v := ?_) (by simp only [List.getElem?_toArray, List.getElem?_cons_succ, List.getElem?_cons_zero]; rfl) (by kernel_rfl) (by kernel_rfl) (by kernel_rfl) (fun _ _ _ h => h) (Or.inl ⟨by rfl, ?_⟩) (by assumption) ?_
        rotate_left
        · intro w hSw; (try dsimp only at hSw); go_simp; first | done | with_reducible rfl
        try simp only [Act.put, List.setIfInBounds_toArray, List.set_cons_zero, List.set_cons_succ]
        refine wpAnyH_done (by kernel_rfl) ?_ _
        refine NoPanic.normal ?_
        clear hHeld
        go_wp2_with fail
        go_roundw
        case rel => exact ⟨i + 1, by omega, by go_num, HN.out, hb5⟩
        case measure => simp [intOf]; omega
      · obtain rfl : i = L.length := by omega
        have hd : decide ((L.length : Int) < (L.length : Int)) = false := by simp
        have HO := Lib.hid (PSl.of_row hO (by omega))
        clear hO
        go_wp2_with fail
        go_ret
        exact ⟨_, rfl, HO.out, hb⟩
  · have hp : Fx.placedB L = false := by simpa using hp
    rw [Fx.centers_no hp]
    have HP := Lib.hid hp
    clear hp hI'
    go_enter Try.func39, Try.ntmps39
    go_wp2_with fail
    refine (rplaced_no _ L _ HI.out HP.out).mono ?_
    rintro e w1 ⟨rfl, hb1⟩
    go_wp2_with fail
    go_ret
    exact ⟨_, rfl, PSl.nil _ _ _, hb1⟩
end Go.Proofs.Ytgnjconhbloocaa
