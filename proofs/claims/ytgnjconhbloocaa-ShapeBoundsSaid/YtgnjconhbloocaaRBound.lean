/- Contract of the reference's Bound. -/
import Derived.Test.YtgnjconhbloocaaBound2
import Derived.Test.YtgnjconhbloocaaUntil
namespace Go.Proofs.Ytgnjconhbloocaa
open Go.RowKit
set_option linter.unusedVariables false

/-- Ends of which the first j are new. -/
def Fx.mixF (lo hi lo' hi' : Nat → Int) (j : Nat) : Fx.V3 := ⟨if 0 < j then lo' 0 else lo 0, if 0 < j then hi' 0 else hi 0, if 1 < j then lo' 1 else lo 1, if 1 < j then hi' 1 else hi 1, if 2 < j then lo' 2 else lo 2, if 2 < j then hi' 2 else hi 2⟩
theorem Fx.mixF_zero (lo hi lo' hi' : Nat → Int) : Fx.mixF lo hi lo' hi' 0 = Fx.ofEnds lo hi := rfl
theorem Fx.mixF_three (lo hi lo' hi' : Nat → Int) : Fx.mixF lo hi lo' hi' 3 = Fx.ofEnds lo' hi' := rfl
theorem Fx.mixF_at (lo hi lo' hi' : Nat → Int) : ∀ j : Nat, j < 3 → (Fx.mixF lo hi lo' hi' j).lo j = lo j ∧ (Fx.mixF lo hi lo' hi' j).hi j = hi j
  | 0, _ => ⟨rfl, rfl⟩
  | 1, _ => ⟨rfl, rfl⟩
  | 2, _ => ⟨rfl, rfl⟩
theorem Fx.mixF_next (lo hi lo' hi' : Nat → Int) : ∀ j : Nat, j < 3 → (((Fx.mixF lo hi lo' hi' j).arr.setIfInBounds (j * 2) (.int .i64 (lo' j))).setIfInBounds (j * 2 + 1) (.int .i64 (hi' j))) = (Fx.mixF lo hi lo' hi' (j + 1)).arr
  | 0, _ => rfl
  | 1, _ => rfl
  | 2, _ => rfl
theorem Fx.ends_first (L : List Fx.V3) : (Fx.ofEnds (fun j => Fx.mnL L j 0) (fun j => Fx.mxL L j 0)) = L.getD 0 Fx.V3.zero := rfl
theorem hull_in (a b c d : Int) (h1 : -268435456 ≤ a ∧ a ≤ b ∧ b ≤ 268435456) (h2 : -268435456 ≤ c ∧ c ≤ d ∧ d ≤ 268435456) : Fx.hullLo a b c d = min a c ∧ Fx.hullHi a b c d = max b d := by
  have e : Fx.v2 a b c d = true := by rw [Fx.v2_true, Fx.vb_true, Fx.vb_true]; omega
  unfold Fx.hullLo Fx.hullHi
  rw [e]
  exact ⟨rfl, rfl⟩

theorem ret_rbound {tmps : Array Value} {w : World} {g : Nat} {x : Fx.V3} (hW : Whole w g 34 x.arr) (h2 : tmps.getD 4 undef = .pointer (some ⟨g, 0, none⟩)) :
    (results Try.f36 tmps).run Try.prog w = .ok (.agg x.arr) w := by
  have c0 : _ = some (Value.int .i64 x.a) := hW.cell 0
  have c1 : _ = some (Value.int .i64 x.b) := hW.cell 1
  have c2 : _ = some (Value.int .i64 x.c) := hW.cell 2
  have c3 : _ = some (Value.int .i64 x.d) := hW.cell 3
  have c4 : _ = some (Value.int .i64 x.e) := hW.cell 4
  have c5 : _ = some (Value.int .i64 x.f) := hW.cell 5
  clear hW
  have h2' : tmps[4]?.getD undef = .pointer (some ⟨g, 0, none⟩) := by simpa using h2
  simp [results, Try.results36, go_sem, h2', c0, c1, c2, c3, c4, c5, Fx.V3.arr]

set_option maxRecDepth 100000 in
set_option maxHeartbeats 2000000 in
theorem rbound_no (v : Value) (L : List Fx.V3) (r : Int) (w : World) (hI : VSl w v L) (hno : Fx.boundOk L r = false) :
    Calls Try.prog 36 #[v, .int .i64 r] w fun e w' => e = .returned (.agg (Fx.boundV L r).arr) ∧ Below w.heap.size w w' := by
  rw [Fx.boundV_no hno]
  have HI := Lib.hid hI
  obtain ⟨a, c, rfl, hl, hI'⟩ := hI
  clear hI'
  by_cases hp : Fx.placedB L = true
  · have HP := Lib.hid hp
    have hr : ¬ (0 ≤ r ∧ r ≤ 1048576) := fun h => by rw [Fx.boundOk_yes hp h] at hno; cases hno
    clear hp hno
    by_cases h0 : r < 0
    · have d0 : decide (r < 0) = true := by simp; omega
      clear hr
      go_enter Try.func36, Try.ntmps36
      go_wp2_with fail
      refine (rplaced_yes _ L _ (HI.out.ext (ext_alloc (ext_refl _) _)) HP.out).mono ?_
      rintro e w1 ⟨rfl, hb1⟩
      have hZ := (Whole.new w 34 Fx.V3.zero.arr).ext hb1
      have hB1 : Below w.heap.size w w1 := ext_trans (ext_alloc (ext_refl _) _) hb1
      obtain ⟨⟨z0, z1, z2, z3, z4, z5⟩, ⟨y0, y1, y2, y3, y4, y5⟩⟩ := hZ.six
      simp only [Fx.V3.zero] at z0 z1 z2 z3 z4 z5
      have HZ := Lib.hid hZ
      clear hZ hb1
      go_wp2_with fail
      exact bodyPost_ret (ret_rbound (x := Fx.V3.zero) (set6_whole Fx.V3.zero HZ.out) rfl) rfl ⟨rfl, set6_ext Fx.V3.zero hB1 (Nat.le_refl _)⟩
    · have d0 : decide (r < 0) = false := by simp; omega
      have d1 : decide (1048576 < r) = true := by simp; omega
      clear hr
      go_enter Try.func36, Try.ntmps36
      go_wp2_with fail
      refine (rplaced_yes _ L _ (HI.out.ext (ext_alloc (ext_refl _) _)) HP.out).mono ?_
      rintro e w1 ⟨rfl, hb1⟩
      have hZ := (Whole.new w 34 Fx.V3.zero.arr).ext hb1
      have hB1 : Below w.heap.size w w1 := ext_trans (ext_alloc (ext_refl _) _) hb1
      obtain ⟨⟨z0, z1, z2, z3, z4, z5⟩, ⟨y0, y1, y2, y3, y4, y5⟩⟩ := hZ.six
      simp only [Fx.V3.zero] at z0 z1 z2 z3 z4 z5
      have HZ := Lib.hid hZ
      clear hZ hb1
      go_wp2_with fail
      exact bodyPost_ret (ret_rbound (x := Fx.V3.zero) (set6_whole Fx.V3.zero HZ.out) rfl) rfl ⟨rfl, set6_ext Fx.V3.zero hB1 (Nat.le_refl _)⟩
  · have hp : Fx.placedB L = false := by simpa using hp
    have HP := Lib.hid hp
    clear hp hno
    go_enter Try.func36, Try.ntmps36
    go_wp2_with fail
    refine (rplaced_no _ L _ (HI.out.ext (ext_alloc (ext_refl _) _)) HP.out).mono ?_
    rintro e w1 ⟨rfl, hb1⟩
    have hZ := (Whole.new w 34 Fx.V3.zero.arr).ext hb1
    have hB1 : Below w.heap.size w w1 := ext_trans (ext_alloc (ext_refl _) _) hb1
    obtain ⟨⟨z0, z1, z2, z3, z4, z5⟩, ⟨y0, y1, y2, y3, y4, y5⟩⟩ := hZ.six
    simp only [Fx.V3.zero] at z0 z1 z2 z3 z4 z5
    have HZ := Lib.hid hZ
    clear hZ hb1
    go_wp2_with fail
    exact bodyPost_ret (ret_rbound (x := Fx.V3.zero) (set6_whole Fx.V3.zero HZ.out) rfl) rfl ⟨rfl, set6_ext Fx.V3.zero hB1 (Nat.le_refl _)⟩

set_option maxRecDepth 100000 in
set_option maxHeartbeats 2000000 in
theorem rbound_yes (v : Value) (L : List Fx.V3) (r : Int) (w : World) (hI : VSl w v L) (hp : Fx.placedB L = true) (hr : 0 ≤ r ∧ r ≤ 1048576) :
    Calls Try.prog 36 #[v, .int .i64 r] w fun e w' => e = .returned (.agg (Fx.boundV L r).arr) ∧ Below w.heap.size w w' := by
  rw [Fx.boundV_yes (Fx.boundOk_yes hp hr)]
  have HI := Lib.hid hI
  obtain ⟨a, c, rfl, hl, hI'⟩ := hI
  have hlen := Fx.placedB_len hp
  obtain ⟨b, o, rfl, hJ⟩ := hI' (by omega)
  have HJ := Lib.hid hJ
  have hbw := hJ.1
  have HP := Lib.hid hp
  have HR := Lib.hid (fun i hi => Fx.allR_at (Fx.placedB_all hp) i hi)
  clear hI' hJ hp
  have d0 : decide (r < 0) = false := by simp; omega
  have d1 : decide (1048576 < r) = false := by simp; omega
  go_enter Try.func36, Try.ntmps36
  go_wp2_with fail
  refine (rplaced_yes _ L _ (HI.out.ext (ext_alloc (ext_refl _) _)) HP.out).mono ?_
  rintro e w1 ⟨rfl, hb1⟩
  have hZ := (Whole.new w 34 Fx.V3.zero.arr).ext hb1
  have hB1 : Below w.heap.size w w1 := ext_trans (ext_alloc (ext_refl _) _) hb1
  have hz1 : w.heap.size < w1.heap.size := hZ.lt
  obtain ⟨q0, q1, q2, q3, q4, q5⟩ := (HJ.out.ext hB1).at_ 0 (by omega)
  simp only [Nat.zero_mul, Nat.add_zero] at q0 q1 q2 q3 q4 q5
  have HE0 := Lib.hid (Fx.ends_first L)
  generalize L.getD 0 Fx.V3.zero = x at *
  have k0 : (0 : Int) < (L.length : Int) := by omega
  have HZ := Lib.hid (hZ.alloc (.cells x.arr 34))
  have hB2 := ext_alloc hB1 (.cells x.arr 34)
  have hO : Whole (w1.alloc (.cells x.arr 34)) w1.heap.size 34 (Fx.ofEnds (fun j => Fx.mnL L j 0) (fun j => Fx.mxL L j 0)).arr := by rw [HE0.out]; exact Whole.new w1 _ _
  have HO := Lib.hid hO
  clear hZ hb1 HI HP d0 d1 hO
  go_wp2_with fail
  generalize w1.heap.size = g at *
  clear q0 q1 q2 q3 q4 q5 HE0
  go_loopw [6] (fun iv wr => ∃ i : Nat, i < L.length ∧ iv = .int .i64 ((i : Int) + 1) ∧ Whole wr g 34 (Fx.ofEnds (fun j => Fx.mnL L j i) (fun j => Fx.mxL L j i)).arr ∧ Whole wr w.heap.size 34 Fx.V3.zero.arr ∧ Below w.heap.size w wr) (fun iv _ => L.length - (intOf iv).toNat)
  case atStart => exact ⟨0, by omega, by go_num, HO.out, HZ.out, hB2⟩
  case round =>
    obtain ⟨i, hi, rfl, hO, hZ, hb⟩ := hrel
    clear HO HZ hB2 hB1
    have HZ := Lib.hid hZ; have HO := Lib.hid hO
    clear hZ hO
    by_cases hlt : i + 1 < L.length
    · have hd : decide ((i : Int) + 1 < (L.length : Int)) = true := by simp; omega
      have k1 : (i : Int) + 1 < (L.length : Int) := by omega
      have k2 : (0 : Int) ≤ (i : Int) + 1 := by omega
      have k3 : ((i : Int) + 1).toNat = i + 1 := by omega
      go_wp2_with fail
      obtain ⟨wo, hwo⟩ : ∃ wo : World, wo = wr := ⟨_, rfl⟩
      subst hwo
      go_loopw [7] (fun jv wr => ∃ j : Nat, j ≤ 3 ∧ jv = .int .i64 j ∧ Whole wr g 34 (Fx.mixF (fun j => Fx.mnL L j i) (fun j => Fx.mxL L j i) (fun j => Fx.mnL L j (i + 1)) (fun j => Fx.mxL L j (i + 1)) j).arr ∧ Whole wr w.heap.size 34 Fx.V3.zero.arr ∧ Below w.heap.size w wr) (fun jv _ => 3 - (intOf jv).toNat)
      case atStart => exact ⟨0, by omega, rfl, HO.out, HZ.out, hb⟩
      case round =>
        obtain ⟨j, hj, rfl, hO, hZ, hbj⟩ := hrel
        clear HO HZ hb
        have HZ := Lib.hid hZ; have HO := Lib.hid hO
        clear hZ hO
        by_cases hj3 : j < 3
        · obtain ⟨cl, ch⟩ := (HJ.out.ext hbj).part (i + 1) hlt j hj3
          have hrx := Fx.near_true.1 (Fx.reachB_at (HR.out (i + 1) hlt) j hj3)
          have hbd := Fx.mnL_bd L j hj3 i (fun i hi => HR.out i (by omega))
          have ta := (HO.out.cell (j * 2)).trans (arr_cell _ j hj3).1
          have tb := (HO.out.cell (j * 2 + 1)).trans (arr_cell _ j hj3).2
          rw [(Fx.mixF_at _ _ _ _ j hj3).1] at ta
          rw [(Fx.mixF_at _ _ _ _ j hj3).2] at tb
          have HNx := Lib.hid (Fx.mixF_next (fun j => Fx.mnL L j i) (fun j => Fx.mxL L j i) (fun j => Fx.mnL L j (i + 1)) (fun j => Fx.mxL L j (i + 1)) j hj3)
          have HMn : Hid (Fx.mnL L j (i + 1) = min (Fx.mnL L j i) ((L.getD (i + 1) Fx.V3.zero).lo j)) := Lib.hid rfl
          have HMx : Hid (Fx.mxL L j (i + 1) = max (Fx.mxL L j i) ((L.getD (i + 1) Fx.V3.zero).hi j)) := Lib.hid rfl
          generalize (L.getD (i + 1) Fx.V3.zero).lo j = xl at *
          generalize (L.getD (i + 1) Fx.V3.zero).hi j = xh at *
          try dsimp only at ta tb
          generalize Fx.mnL L j (i + 1) = mn' at *
          generalize Fx.mxL L j (i + 1) = mx' at *
          generalize Fx.mnL L j i = mn at *
          generalize Fx.mxL L j i = mx at *
          have HX := Lib.hid (hull_in mn mx xl xh (by omega) (by omega))
          have HTa := Lib.hid ta; have HTb := Lib.hid tb; have HCl := Lib.hid cl; have HCh := Lib.hid ch
          clear ta tb cl ch
          have k4 : (0 : Int) ≤ (j : Int) := by omega
          have k5 : (j : Int) < 3 := by omega
          go_wp2_with fail
          refine wp_region_noPanic ?_
          refine wp_region_until_drew (k := 12) (S := (fun w' => w'.cell? ⟨g, j * 2, none⟩ = some (.int .i64 mn) ∧ w'.cell? ⟨g, j * 2 + 1, none⟩ = some (.int .i64 mx) ∧ w'.cell? ⟨b, o + (i + 1) * 6 + j * 2, none⟩ = some (.int .i64 xl) ∧ w'.cell? ⟨b, o + (i + 1) * 6 + j * 2 + 1, none⟩ = some (.int .i64 xh))) (by kernel_rfl) ?_ (fun hHeld => ?_)
          · exact ⟨HTa.out, HTb.out, HCl.out, HCh.out⟩
          refine wpAnyU_take (i := 0) (v := ?_) (by simp only [List.getElem?_toArray, List.getElem?_cons_succ, List.getElem?_cons_zero]; rfl) (by kernel_rfl) (by kernel_rfl) (by kernel_rfl) (by kernel_rfl) (by kernel_rfl) (fun _ _ _ h => h) (Or.inl ⟨by rfl, ?_⟩) (by assumption) ?_
          rotate_left
          · intro w hSw; (try dsimp only at hSw); go_simp; first | done | with_reducible rfl
          try simp only [Act.put, List.setIfInBounds_toArray, List.set_cons_zero, List.set_cons_succ]
          refine wpAnyU_take (i := 1) (v := ?_) (by simp only [List.getElem?_toArray, List.getElem?_cons_succ, List.getElem?_cons_zero]; rfl) (by kernel_rfl) (by kernel_rfl) (by kernel_rfl) (by kernel_rfl) (by kernel_rfl) (fun _ _ _ h => h) (Or.inl ⟨by rfl, ?_⟩) (by assumption) ?_
          rotate_left
          · intro w hSw; (try dsimp only at hSw); go_simp; first | done | with_reducible rfl
          try simp only [Act.put, List.setIfInBounds_toArray, List.set_cons_zero, List.set_cons_succ]
          refine wpAnyU_take (i := 2) (v := ?_) (by simp only [List.getElem?_toArray, List.getElem?_cons_succ, List.getElem?_cons_zero]; rfl) (by kernel_rfl) (by kernel_rfl) (by kernel_rfl) (by kernel_rfl) (by kernel_rfl) (fun _ _ _ h => h) (Or.inl ⟨by rfl, ?_⟩) (by assumption) ?_
          rotate_left
          · intro w hSw; (try dsimp only at hSw); go_simp; first | done | with_reducible rfl
          try simp only [Act.put, List.setIfInBounds_toArray, List.set_cons_zero, List.set_cons_succ]
          refine wpAnyU_take (i := 3) (v := ?_) (by simp only [List.getElem?_toArray, List.getElem?_cons_succ, List.getElem?_cons_zero]; rfl) (by kernel_rfl) (by kernel_rfl) (by kernel_rfl) (by kernel_rfl) (by kernel_rfl) (fun _ _ _ h => h) (Or.inl ⟨by rfl, ?_⟩) (by assumption) ?_
          rotate_left
          · intro w hSw; (try dsimp only at hSw); go_simp; first | done | with_reducible rfl
          try simp only [Act.put, List.setIfInBounds_toArray, List.set_cons_zero, List.set_cons_succ]
          refine wpAnyU_take (i := 4) (v := ?_) (by simp only [List.getElem?_toArray, List.getElem?_cons_succ, List.getElem?_cons_zero]; rfl) (by kernel_rfl) (by kernel_rfl) (by kernel_rfl) (by kernel_rfl) (by kernel_rfl) (fun _ _ _ h => h) (Or.inl ⟨by rfl, ?_⟩) (by assumption) ?_
          rotate_left
          · intro w hSw; (try dsimp only at hSw); go_simp; first | done | with_reducible rfl
          try simp only [Act.put, List.setIfInBounds_toArray, List.set_cons_zero, List.set_cons_succ]
          refine wpAnyU_take (i := 5) (v := ?_) (by simp only [List.getElem?_toArray, List.getElem?_cons_succ, List.getElem?_cons_zero]; rfl) (by kernel_rfl) (by kernel_rfl) (by kernel_rfl) (by kernel_rfl) (by kernel_rfl) (fun _ _ _ h => h) (Or.inl ⟨by rfl, ?_⟩) (by assumption) ?_
          rotate_left
          · intro w hSw; (try dsimp only at hSw); go_simp; first | done | with_reducible rfl
          try simp only [Act.put, List.setIfInBounds_toArray, List.set_cons_zero, List.set_cons_succ]
          refine wpAnyU_take (i := 6) (v := ?_) (by simp only [List.getElem?_toArray, List.getElem?_cons_succ, List.getElem?_cons_zero]; rfl) (by kernel_rfl) (by kernel_rfl) (by kernel_rfl) (by kernel_rfl) (by kernel_rfl) (fun _ _ _ h => h) (Or.inl ⟨by rfl, ?_⟩) (by assumption) ?_
          rotate_left
          · intro w hSw; (try dsimp only at hSw); go_simp; first | done | with_reducible rfl
          try simp only [Act.put, List.setIfInBounds_toArray, List.set_cons_zero, List.set_cons_succ]
          refine wpAnyU_take (i := 7) (v := ?_) (by simp only [List.getElem?_toArray, List.getElem?_cons_succ, List.getElem?_cons_zero]; rfl) (by kernel_rfl) (by kernel_rfl) (by kernel_rfl) (by kernel_rfl) (by kernel_rfl) (fun _ _ _ h => h) (Or.inl ⟨by rfl, ?_⟩) (by assumption) ?_
          rotate_left
          · intro w hSw; (try dsimp only at hSw); go_simp; first | done | with_reducible rfl
          try simp only [Act.put, List.setIfInBounds_toArray, List.set_cons_zero, List.set_cons_succ]
          refine wpAnyU_take (i := 8) (v := ?_) (by simp only [List.getElem?_toArray, List.getElem?_cons_succ, List.getElem?_cons_zero]; rfl) (by kernel_rfl) (by kernel_rfl) (by kernel_rfl) (by kernel_rfl) (by kernel_rfl) (fun _ _ _ h => h) (Or.inl ⟨by rfl, ?_⟩) (by assumption) ?_
          rotate_left
          · intro w hSw; (try dsimp only at hSw); go_simp; first | done | with_reducible rfl
          try simp only [Act.put, List.setIfInBounds_toArray, List.set_cons_zero, List.set_cons_succ]
          refine wpAnyU_take (i := 9) (v := ?_) (by simp only [List.getElem?_toArray, List.getElem?_cons_succ, List.getElem?_cons_zero]; rfl) (by kernel_rfl) (by kernel_rfl) (by kernel_rfl) (by kernel_rfl) (by kernel_rfl) (fun _ _ _ h => h) (Or.inl ⟨by rfl, ?_⟩) (by assumption) ?_
          rotate_left
          · intro w hSw; (try dsimp only at hSw); go_simp; first | done | with_reducible rfl
          try simp only [Act.put, List.setIfInBounds_toArray, List.set_cons_zero, List.set_cons_succ]
          refine wpAnyU_ready (rs := [10]) (by kernel_rfl) (by simp) ?_
          refine AllReadyU.cons (by simp only [List.getElem?_toArray, List.getElem?_cons_succ, List.getElem?_cons_zero]; rfl) (fun K hK => ?_) AllReadyU.nil
          go_simp
          refine (rhull_any mn mx xl xh _).mono ?_
          rintro e w2 ⟨rfl, hb2⟩
          rw [HX.out.1, HX.out.2, ← HMn.out, ← HMx.out]
          have hgw : g < wr.heap.size := HO.out.lt
          have hww := hbj.size
          have HO2 := Lib.hid (HO.out.drew.ext hb2)
          have HZ2 := Lib.hid (HZ.out.drew.ext hb2)
          have hB2 := ext_trans (ext_drew hbj) hb2
          go_wp2_with fail
          refine hK.out _ _ ?_ (fun hHeld => ?_)
          · obtain ⟨s1, s2, s3, s4⟩ := hHeld
            exact ⟨(hb2.cell (p := ⟨g, _, none⟩) hgw).trans s1, (hb2.cell (p := ⟨g, _, none⟩) hgw).trans s2, (hb2.cell (p := ⟨b, _, none⟩) (show b < wr.heap.size by omega)).trans s3, (hb2.cell (p := ⟨b, _, none⟩) (show b < wr.heap.size by omega)).trans s4⟩
          clear hK K HO HZ hbj hb2
          try simp only [Act.put, List.setIfInBounds_toArray, List.set_cons_zero, List.set_cons_succ]
          refine wpAnyU_take (i := 11) (v := ?_) (by simp only [List.getElem?_toArray, List.getElem?_cons_succ, List.getElem?_cons_zero]; rfl) (by kernel_rfl) (by kernel_rfl) (by kernel_rfl) (by kernel_rfl) (by kernel_rfl) (fun _ _ _ h => h) (Or.inl ⟨by rfl, ?_⟩) (by assumption) ?_
          rotate_left
          · intro w hSw; (try dsimp only at hSw); go_simp; first | done | with_reducible rfl
          try simp only [Act.put, List.setIfInBounds_toArray, List.set_cons_zero, List.set_cons_succ]
          refine wpAnyU_ready (rs := [12]) (by kernel_rfl) (by simp) ?_
          refine AllReadyU.last (by simp only [List.getElem?_toArray, List.getElem?_cons_succ, List.getElem?_cons_zero]; rfl) (fun K hK => ?_) AllReadyU.nil
          rw [if_pos (by rfl)]
          refine wp_store_mid _ _ _ rfl g (j * 2) #[.int .i64 mn', .int .i64 mx'] rfl rfl (there_of HO2.out _ _ (by simp [Fx.V3.arr]; omega)) (by kernel_rfl) (by simp [Value.oneCell']) ?_
          have hOn : Whole (w2.setCells g (j * 2) [.int .i64 mn', .int .i64 mx']) g 34 (Fx.mixF (fun j => Fx.mnL L j i) (fun j => Fx.mxL L j i) (fun j => Fx.mnL L j (i + 1)) (fun j => Fx.mxL L j (i + 1)) (j + 1)).arr := by
            have h := (HO2.out.store (j * 2) (.int .i64 mn')).store (j * 2 + 1) (.int .i64 mx')
            rw [HNx.out] at h
            exact h
          have hZn : Whole (w2.setCells g (j * 2) [.int .i64 mn', .int .i64 mx']) w.heap.size 34 Fx.V3.zero.arr :=
            (HZ2.out.far (p := ⟨g, j * 2, none⟩) (show w.heap.size ≠ g by omega) (.int .i64 mn')).far (p := ⟨g, j * 2 + 1, none⟩) (show w.heap.size ≠ g by omega) (.int .i64 mx')
          have hBn : Below w.heap.size w (w2.setCells g (j * 2) [.int .i64 mn', .int .i64 mx']) :=
            ext_set (ext_set hB2 (p := ⟨g, j * 2, none⟩) (show w.heap.size ≤ g by omega) (.int .i64 mn')) (p := ⟨g, j * 2 + 1, none⟩) (show w.heap.size ≤ g by omega) (.int .i64 mx')
          refine hK.out _ _ ?_
          clear hK K
          try simp only [Act.put, List.setIfInBounds_toArray, List.set_cons_zero, List.set_cons_succ]
          refine wpAnyU_done (by kernel_rfl) ?_ _
          refine NoPanic.normal ?_
          clear hHeld
          generalize w2.setCells g (j * 2) [.int .i64 mn', .int .i64 mx'] = w4 at *
          have HOn := Lib.hid hOn; have HZn := Lib.hid hZn
          clear hOn hZn HO2 HZ2 hB2
          go_wp2_with fail
          go_roundw
          case rel => exact ⟨j + 1, by omega, by go_num, HOn.out, HZn.out, hBn⟩
          case measure => simp [intOf]; omega
        · obtain rfl : j = 3 := by omega
          go_wp2_with fail
          go_roundw
          case rel => exact ⟨i + 1, by omega, by go_num, HO.out, HZ.out, hbj⟩
          case measure => simp [intOf]; omega
    · have HIl := Lib.hid (show i = L.length - 1 by omega)
      have hd : decide ((i : Int) + 1 < (L.length : Int)) = false := by simp; omega
      have hd' : (L.length : Int) ≤ (i : Int) + 1 := by omega
      go_wp2_with fail
      obtain ⟨wo, hwo⟩ : ∃ wo : World, wo = wr := ⟨_, rfl⟩
      subst hwo
      have hbd := fun j hj3 => Fx.mnL_bd L j hj3 i (fun i hi => HR.out i (by omega))
      have HBD := Lib.hid hbd
      clear hbd
      go_loopw [8] (fun jv wr => ∃ j : Nat, j ≤ 3 ∧ jv = .int .i64 j ∧ Whole wr g 34 (Fx.mixF (fun j => Fx.mnL L j i) (fun j => Fx.mxL L j i) (fun j => Fx.mnL L j i - r) (fun j => Fx.mxL L j i + r) j).arr ∧ Whole wr w.heap.size 34 Fx.V3.zero.arr ∧ Below w.heap.size w wr) (fun jv _ => 3 - (intOf jv).toNat)
      case atStart => exact ⟨0, by omega, rfl, HO.out, HZ.out, hb⟩
      case round =>
        obtain ⟨j, hj, rfl, hO, hZ, hbj⟩ := hrel
        clear HO HZ hb
        have HZ := Lib.hid hZ; have HO := Lib.hid hO
        by_cases hj3 : j < 3
        · clear hZ hO
          have hbd := HBD.out j hj3
          have ta := (HO.out.cell (j * 2)).trans (arr_cell _ j hj3).1
          have tb := (HO.out.cell (j * 2 + 1)).trans (arr_cell _ j hj3).2
          rw [(Fx.mixF_at _ _ _ _ j hj3).1] at ta
          rw [(Fx.mixF_at _ _ _ _ j hj3).2] at tb
          have HNx := Lib.hid (Fx.mixF_next (fun j => Fx.mnL L j i) (fun j => Fx.mxL L j i) (fun j => Fx.mnL L j i - r) (fun j => Fx.mxL L j i + r) j hj3)
          try dsimp only at ta tb
          generalize Fx.mnL L j i = mn at *
          generalize Fx.mxL L j i = mx at *
          have HTa := Lib.hid ta; have HTb := Lib.hid tb
          clear ta tb
          have k4 : (0 : Int) ≤ (j : Int) := by omega
          have k5 : (j : Int) < 3 := by omega
          have e1 : IntKind.i64.wrap (mn - r) = mn - r := by rw [IntKind.wrap_i64]; omega
          have e2 : IntKind.i64.wrap (mx + r) = mx + r := by rw [IntKind.wrap_i64]; omega
          have hgw : g < wr.heap.size := HO.out.lt
          go_wp2_with fail
          refine wp_region_noPanic ?_
          refine wp_region_until_drew (k := 15) (S := (fun w' => w'.cell? ⟨g, j * 2, none⟩ = some (.int .i64 mn) ∧ w'.cell? ⟨g, j * 2 + 1, none⟩ = some (.int .i64 mx))) (by kernel_rfl) ?_ (fun hHeld => ?_)
          · exact ⟨HTa.out, HTb.out⟩
          refine wpAnyU_take (i := 0) (v := ?_) (by simp only [List.getElem?_toArray, List.getElem?_cons_succ, List.getElem?_cons_zero]; rfl) (by kernel_rfl) (by kernel_rfl) (by kernel_rfl) (by kernel_rfl) (by kernel_rfl) (fun _ _ _ h => h) (Or.inl ⟨by rfl, ?_⟩) (by assumption) ?_
          rotate_left
          · intro w hSw; (try dsimp only at hSw); go_simp; first | done | with_reducible rfl
          try simp only [Act.put, List.setIfInBounds_toArray, List.set_cons_zero, List.set_cons_succ]
          refine wpAnyU_take (i := 1) (v := ?_) (by simp only [List.getElem?_toArray, List.getElem?_cons_succ, List.getElem?_cons_zero]; rfl) (by kernel_rfl) (by kernel_rfl) (by kernel_rfl) (by kernel_rfl) (by kernel_rfl) (fun _ _ _ h => h) (Or.inl ⟨by rfl, ?_⟩) (by assumption) ?_
          rotate_left
          · intro w hSw; (try dsimp only at hSw); go_simp; first | done | with_reducible rfl
          try simp only [Act.put, List.setIfInBounds_toArray, List.set_cons_zero, List.set_cons_succ]
          refine wpAnyU_take (i := 2) (v := ?_) (by simp only [List.getElem?_toArray, List.getElem?_cons_succ, List.getElem?_cons_zero]; rfl) (by kernel_rfl) (by kernel_rfl) (by kernel_rfl) (by kernel_rfl) (by kernel_rfl) (fun _ _ _ h => h) (Or.inl ⟨by rfl, ?_⟩) (by assumption) ?_
          rotate_left
          · intro w hSw; (try dsimp only at hSw); go_simp; first | done | with_reducible rfl
          try simp only [Act.put, List.setIfInBounds_toArray, List.set_cons_zero, List.set_cons_succ]
          refine wpAnyU_take (i := 3) (v := ?_) (by simp only [List.getElem?_toArray, List.getElem?_cons_succ, List.getElem?_cons_zero]; rfl) (by kernel_rfl) (by kernel_rfl) (by kernel_rfl) (by kernel_rfl) (by kernel_rfl) (fun _ _ _ h => h) (Or.inl ⟨by rfl, ?_⟩) (by assumption) ?_
          rotate_left
          · intro w hSw; (try dsimp only at hSw); go_simp; first | done | with_reducible rfl
          try simp only [Act.put, List.setIfInBounds_toArray, List.set_cons_zero, List.set_cons_succ]
          refine wpAnyU_take (i := 4) (v := ?_) (by simp only [List.getElem?_toArray, List.getElem?_cons_succ, List.getElem?_cons_zero]; rfl) (by kernel_rfl) (by kernel_rfl) (by kernel_rfl) (by kernel_rfl) (by kernel_rfl) (fun _ _ _ h => h) (Or.inl ⟨by rfl, ?_⟩) (by assumption) ?_
          rotate_left
          · intro w hSw; (try dsimp only at hSw); go_simp; first | done | with_reducible rfl
          try simp only [Act.put, List.setIfInBounds_toArray, List.set_cons_zero, List.set_cons_succ]
          refine wpAnyU_take (i := 5) (v := ?_) (by simp only [List.getElem?_toArray, List.getElem?_cons_succ, List.getElem?_cons_zero]; rfl) (by kernel_rfl) (by kernel_rfl) (by kernel_rfl) (by kernel_rfl) (by kernel_rfl) (fun _ _ _ h => h) (Or.inl ⟨by rfl, ?_⟩) (by assumption) ?_
          rotate_left
          · intro w hSw; (try dsimp only at hSw); go_simp; first | done | with_reducible rfl
          try simp only [Act.put, List.setIfInBounds_toArray, List.set_cons_zero, List.set_cons_succ]
          refine wpAnyU_take (i := 6) (v := ?_) (by simp only [List.getElem?_toArray, List.getElem?_cons_succ, List.getElem?_cons_zero]; rfl) (by kernel_rfl) (by kernel_rfl) (by kernel_rfl) (by kernel_rfl) (by kernel_rfl) (fun _ _ _ h => h) (Or.inl ⟨by rfl, ?_⟩) (by assumption) ?_
          rotate_left
          · intro w hSw; (try dsimp only at hSw); go_simp; first | done | with_reducible rfl
          try simp only [Act.put, List.setIfInBounds_toArray, List.set_cons_zero, List.set_cons_succ]
          refine wpAnyU_take (i := 7) (v := ?_) (by simp only [List.getElem?_toArray, List.getElem?_cons_succ, List.getElem?_cons_zero]; rfl) (by kernel_rfl) (by kernel_rfl) (by kernel_rfl) (by kernel_rfl) (by kernel_rfl) (fun _ _ _ h => h) (Or.inl ⟨by rfl, ?_⟩) (by assumption) ?_
          rotate_left
          · intro w hSw; (try dsimp only at hSw); go_simp; first | done | with_reducible rfl
          try simp only [Act.put, List.setIfInBounds_toArray, List.set_cons_zero, List.set_cons_succ]
          refine wpAnyU_take (i := 8) (v := ?_) (by simp only [List.getElem?_toArray, List.getElem?_cons_succ, List.getElem?_cons_zero]; rfl) (by kernel_rfl) (by kernel_rfl) (by kernel_rfl) (by kernel_rfl) (by kernel_rfl) (fun _ _ _ h => h) (Or.inl ⟨by rfl, ?_⟩) (by assumption) ?_
          rotate_left
          · intro w hSw; (try dsimp only at hSw); go_simp; first | done | with_reducible rfl
          try simp only [Act.put, List.setIfInBounds_toArray, List.set_cons_zero, List.set_cons_succ]
          refine wpAnyU_take (i := 9) (v := ?_) (by simp only [List.getElem?_toArray, List.getElem?_cons_succ, List.getElem?_cons_zero]; rfl) (by kernel_rfl) (by kernel_rfl) (by kernel_rfl) (by kernel_rfl) (by kernel_rfl) (fun _ _ _ h => h) (Or.inl ⟨by rfl, ?_⟩) (by assumption) ?_
          rotate_left
          · intro w hSw; (try dsimp only at hSw); go_simp; first | done | with_reducible rfl
          try simp only [Act.put, List.setIfInBounds_toArray, List.set_cons_zero, List.set_cons_succ]
          refine wpAnyU_take (i := 10) (v := ?_) (by simp only [List.getElem?_toArray, List.getElem?_cons_succ, List.getElem?_cons_zero]; rfl) (by kernel_rfl) (by kernel_rfl) (by kernel_rfl) (by kernel_rfl) (by kernel_rfl) (fun _ _ _ h => h) (Or.inl ⟨by rfl, ?_⟩) (by assumption) ?_
          rotate_left
          · intro w hSw; (try dsimp only at hSw); go_simp; first | done | with_reducible rfl
          try simp only [Act.put, List.setIfInBounds_toArray, List.set_cons_zero, List.set_cons_succ]
          refine wpAnyU_take (i := 11) (v := ?_) (by simp only [List.getElem?_toArray, List.getElem?_cons_succ, List.getElem?_cons_zero]; rfl) (by kernel_rfl) (by kernel_rfl) (by kernel_rfl) (by kernel_rfl) (by kernel_rfl) (fun _ _ _ h => h) (Or.inl ⟨by rfl, ?_⟩) (by assumption) ?_
          rotate_left
          · intro w hSw; (try dsimp only at hSw); go_simp; first | done | with_reducible rfl
          try simp only [Act.put, List.setIfInBounds_toArray, List.set_cons_zero, List.set_cons_succ]
          refine wpAnyU_take (i := 12) (v := ?_) (by simp only [List.getElem?_toArray, List.getElem?_cons_succ, List.getElem?_cons_zero]; rfl) (by kernel_rfl) (by kernel_rfl) (by kernel_rfl) (by kernel_rfl) (by kernel_rfl) (fun _ _ _ h => h) (Or.inl ⟨by rfl, ?_⟩) (by assumption) ?_
          rotate_left
          · intro w hSw; (try dsimp only at hSw); go_simp; first | done | with_reducible rfl
          try simp only [Act.put, List.setIfInBounds_toArray, List.set_cons_zero, List.set_cons_succ]
          refine wpAnyU_take (i := 13) (v := ?_) (by simp only [List.getElem?_toArray, List.getElem?_cons_succ, List.getElem?_cons_zero]; rfl) (by kernel_rfl) (by kernel_rfl) (by kernel_rfl) (by kernel_rfl) (by kernel_rfl) (fun _ _ _ h => h) (Or.inl ⟨by rfl, ?_⟩) (by assumption) ?_
          rotate_left
          · intro w hSw; (try dsimp only at hSw); go_simp; first | done | with_reducible rfl
          try simp only [Act.put, List.setIfInBounds_toArray, List.set_cons_zero, List.set_cons_succ]
          refine wpAnyU_take (i := 14) (v := ?_) (by simp only [List.getElem?_toArray, List.getElem?_cons_succ, List.getElem?_cons_zero]; rfl) (by kernel_rfl) (by kernel_rfl) (by kernel_rfl) (by kernel_rfl) (by kernel_rfl) (fun _ _ _ h => h) (Or.inl ⟨by rfl, ?_⟩) (by assumption) ?_
          rotate_left
          · intro w hSw; (try dsimp only at hSw); go_simp; first | done | with_reducible rfl
          try simp only [Act.put, List.setIfInBounds_toArray, List.set_cons_zero, List.set_cons_succ]
          refine wpAnyU_ready (rs := [15]) (by kernel_rfl) (by simp) ?_
          refine AllReadyU.last (by simp only [List.getElem?_toArray, List.getElem?_cons_succ, List.getElem?_cons_zero]; rfl) (fun K hK => ?_) AllReadyU.nil
          rw [if_pos (by rfl)]
          refine wp_store_mid _ _ _ rfl g (j * 2) #[.int .i64 (mn - r), .int .i64 (mx + r)] rfl rfl (there_of HO.out.drew _ _ (by simp [Fx.V3.arr]; omega)) (by kernel_rfl) (by simp [Value.oneCell']) ?_
          have hOn : Whole (wr.drew.setCells g (j * 2) [.int .i64 (mn - r), .int .i64 (mx + r)]) g 34 (Fx.mixF (fun j => Fx.mnL L j i) (fun j => Fx.mxL L j i) (fun j => Fx.mnL L j i - r) (fun j => Fx.mxL L j i + r) (j + 1)).arr := by
            have h := (HO.out.drew.store (j * 2) (.int .i64 (mn - r))).store (j * 2 + 1) (.int .i64 (mx + r))
            rw [HNx.out] at h
            exact h
          have hZn : Whole (wr.drew.setCells g (j * 2) [.int .i64 (mn - r), .int .i64 (mx + r)]) w.heap.size 34 Fx.V3.zero.arr :=
            (HZ.out.drew.far (p := ⟨g, j * 2, none⟩) (show w.heap.size ≠ g by omega) (.int .i64 (mn - r))).far (p := ⟨g, j * 2 + 1, none⟩) (show w.heap.size ≠ g by omega) (.int .i64 (mx + r))
          have hBn : Below w.heap.size w (wr.drew.setCells g (j * 2) [.int .i64 (mn - r), .int .i64 (mx + r)]) :=
            ext_set (ext_set (ext_drew hbj) (p := ⟨g, j * 2, none⟩) (show w.heap.size ≤ g by omega) (.int .i64 (mn - r))) (p := ⟨g, j * 2 + 1, none⟩) (show w.heap.size ≤ g by omega) (.int .i64 (mx + r))
          refine hK.out _ _ ?_
          clear hK K
          try simp only [Act.put, List.setIfInBounds_toArray, List.set_cons_zero, List.set_cons_succ]
          refine wpAnyU_done (by kernel_rfl) ?_ _
          refine NoPanic.normal ?_
          clear hHeld e1 e2
          generalize wr.drew.setCells g (j * 2) [.int .i64 (mn - r), .int .i64 (mx + r)] = w4 at *
          have HOn := Lib.hid hOn; have HZn := Lib.hid hZn
          clear hOn hZn HO HZ hbj
          go_wp2_with fail
          go_roundw
          case rel => exact ⟨j + 1, by omega, by go_num, HOn.out, HZn.out, hBn⟩
          case measure => simp [intOf]; omega
        · obtain rfl : j = 3 := by omega
          rw [Fx.mixF_three] at hO
          have hx : Fx.ofEnds (fun j => Fx.mnL L j i - r) (fun j => Fx.mxL L j i + r) = Fx.ofEnds (fun j => Fx.mnL L j (L.length - 1) - r) (fun j => Fx.mxL L j (L.length - 1) + r) := by rw [← HIl.out]
          have HX := Lib.hid hx
          clear hx
          generalize Fx.ofEnds (fun j => Fx.mnL L j i - r) (fun j => Fx.mxL L j i + r) = x at *
          obtain ⟨⟨z0, z1, z2, z3, z4, z5⟩, ⟨y0, y1, y2, y3, y4, y5⟩⟩ := hZ.six
          obtain ⟨⟨s0, s1, s2, s3, s4, s5⟩, _⟩ := hO.six
          simp only [Fx.V3.zero] at z0 z1 z2 z3 z4 z5
          clear hZ hO HO
          go_wp2_with fail
          exact bodyPost_ret (ret_rbound (x := x) (set6_whole x HZ.out) rfl) rfl ⟨by rw [HX.out], set6_ext x hbj (Nat.le_refl _)⟩

theorem rbound_any (v : Value) (L : List Fx.V3) (r : Int) (w : World) (hI : VSl w v L) :
    Calls Try.prog 36 #[v, .int .i64 r] w fun e w' => e = .returned (.agg (Fx.boundV L r).arr) ∧ Below w.heap.size w w' := by
  by_cases hp : Fx.placedB L = true
  · by_cases hr : 0 ≤ r ∧ r ≤ 1048576
    · exact rbound_yes v L r w hI hp hr
    · exact rbound_no v L r w hI (Fx.boundOk_2 hr)
  · exact rbound_no v L r w hI (Fx.boundOk_1 (by simpa using hp))
end Go.Proofs.Ytgnjconhbloocaa
