/- ShapeCombineScales: the law returns true for every input, and each argument reads afterwards as it read before. Conditions: none. -/
import Derived.Test.YtgnjconhbloocaaRows
import Derived.Test.YtgnjconhbloocaaAwake10
import Derived.Test.YtgnjconhbloocaaTotal
import Derived.Test.YtgnjconhbloocaaOpen10
import Derived.Test.YtgnjconhbloocaaCombLaw
import Derived.ProofKit
import Derived.OpenShut
import Derived.ShutString
import Derived.ChangeOld
import Derived.Below
import Derived.Lib.SmallJoins
namespace Go.Proofs.Ytgnjconhbloocaa.shapeCombineScales
open Go.ChangeShapes Go.WideShapes Go.ChangeAt Go.RowKit
set_option linter.unusedVariables false

theorem own : ownKnob Try.prog.godebug = none := by kernel_rfl
theorem laidOut : laidOutB Try.prog = true := by kernel_rfl

theorem take_scaled (ws : List Int) (f : Int) (k : Nat) (hk : k < ws.length) : iCells ((ws.take (k + 1)).map (f * ·)) = iCells ((ws.take k).map (f * ·)) ++ [.int .i64 (f * ws.getD k 0)] := by
  rw [List.take_add_one, List.map_append, List.getD_eq_getElem?_getD, List.getElem?_eq_getElem hk]
  simp [iCells]
theorem take_scaled_len (ws : List Int) (f : Int) (k : Nat) (hk : k ≤ ws.length) : ((ws.take k).map (f * ·)).length = k := by simp; omega

set_option maxRecDepth 100000 in
set_option maxHeartbeats 2000000 in
theorem walk (v0 : Value) (xs0 : List Int) (v1 : Value) (xs1 : List Int) (n : Int) (w : World) (h0 : IntSl w v0 xs0) (h1 : IntSl w v1 xs1) (hn : (Lit.int .u8 n).wf = true) :
    Calls Try.prog 5 #[v0, v1, .int .u8 n] w fun e w' => e = .returned (.bool true) ∧ Below w.heap.size w w' := by
  have H0 := Lib.hid h0; have H1 := Lib.hid h1
  obtain ⟨a0, c0, rfl, hl0, _⟩ := h0
  obtain ⟨a1, c1, rfl, hl1, _⟩ := h1
  have hn0 : 0 ≤ n ∧ n ≤ 255 := by
    simp [Lit.wf] at hn
    have e0 : IntKind.u8.min = 0 := by kernel_rfl
    have e1 : IntKind.u8.max = 255 := by kernel_rfl
    omega
  clear hn
  obtain ⟨i0, hi, hz0, hz1, hz2⟩ := info_parts info_int64'
  go_enter Try.func5, Try.ntmps5
  go_wp2_with fail
  refine (points_any _ xs0 3000 _ H0.out (by omega) (by omega)).mono ?_
  rintro e w1 ⟨u, L, rfl, hL1, hL5, hM, hown, hb1⟩
  obtain ⟨g, cap, rfl⟩ := ownsRow_form' hown (by omega)
  go_wp2_with fail
  refine (weights_any L.length _ xs1 _ (H1.out.ext hb1) hL1 hL5).mono ?_
  rintro e w2 ⟨u2, ws, rfl, hwl, hwb, hwp, hown2, hb2⟩
  obtain ⟨g2, cap2, rfl⟩ := ownsRow_form' hown2 (by omega)
  have hB2 := ext_trans hb1 hb2
  have HX := Lib.hid ((VSl.of_owns hown (by omega)).ext hb2)
  have HWS := Lib.hid (IntSl.of_rows hown2 (by omega))
  have HSc := Lib.hid (fun f hf0 hf1 => scaled_sums (W := 3000) (f := f) hf0 hf1 (by omega) hL1 hL5 hM hwl hwb hwp)
  have HW := Lib.hid hwb; have HL := Lib.hid hwl
  have hw1 : 1 ≤ ws.length := by omega
  have hw5 : ws.length ≤ 5 := by omega
  have hg2 := hown2.lt g2 rfl
  clear hwb hwp hM hb1 hb2 hwl hown hown2
  go_wp2_with fail
  obtain ⟨f, hf⟩ : ∃ f : Int, f = n + 1 := ⟨_, rfl⟩
  have hf0 : 1 ≤ f := by omega
  have hf1 : f ≤ 256 := by omega
  rw [← hf]
  clear hf hn0
  go_loopw [10, 11] (fun ov jv wr => ∃ (k : Nat), k ≤ ws.length ∧ jv = .int .i64 k ∧ wr.ownsRow w2.heap.size 2 1 ov k (iCells ((ws.take k).map (f * ·))) ∧ Below w2.heap.size w2 wr) (fun _ jv _ => ws.length - (intOf jv).toNat)
  case atStart => exact ⟨0, by omega, by go_num, World.ownsRow_nil _ _ _ _, ext_refl _⟩
  case round =>
    obtain ⟨k, hk, rfl, hown, hb⟩ := hrel
    by_cases hlt : k < ws.length
    · have hWr := HWS.out.ext hb
      obtain ⟨a, c, hv, _, hc⟩ := hWr
      obtain ⟨b, o, hab, hI⟩ := hc (by omega)
      rw [hab] at hv
      injection hv with hv1 hv2 hv3
      injection hv1 with hv1
      injection hv1 with hv4 hv5
      subst hv4 hv5 hab
      have cw := hI.2 k hlt
      rw [Nat.zero_add] at cw
      have hx := HW.out k (by have := HL.out; omega)
      have HE := Lib.hid (take_scaled ws f k hlt)
      have hlen := take_scaled_len ws f k hk
      have hd : decide ((k : Int) < (ws.length : Int)) = true := by simp; omega
      have k0 : (0 : Int) ≤ (k : Int) := by omega
      have k1 : (k : Int) < (ws.length : Int) := by omega
      have hlw : (iCells ((ws.take k).map (f * ·))).length = k := by rw [iCells_len]; exact hlen
      have m1 := Int.mul_nonneg (show (0 : Int) ≤ f by omega) hx.1
      have m2 := Int.mul_le_mul_of_nonneg_left hx.2 (show (0 : Int) ≤ f by omega)
      clear hI hc hlen
      generalize ws.getD k 0 = x at *
      have hwz := hb.size
      have hw : IntKind.i64.wrap (f * x) = f * x := by rw [IntKind.wrap_i64]; omega
      go_wp2_with (at_builtin; refine wpList_append_lies _ rfl _ _ _ rfl w2.heap.size 2 i0 _ 1 8 Try.underlying23 hi hz0 hz1 hz2 rfl (by omega) _ k (iCells ((ws.take k).map (f * ·))) rfl (hown.alloc _) ⟨wr.heap.size, 0, none⟩ 1 1 [.int .i64 (f * x)] rfl rfl (World.news_of_block (cs := #[.int .i64 (f * x)]) (t := 2) (fr := (0, 0)) (heap_alloc_new wr _)) (by simp [Value.oneCell']) (by omega) (by unfold maxLen; omega) (by omega) (by simp; omega) (wr.heap.size + 1) (by simp) ?_; intro g' cap' w5 hown5 hgrow hat hlt5)
      have hb5 : Below w2.heap.size w2 w5 := (ext_alloc hb _).grown hgrow (by simp; omega) (fun k e => by have := (hown.lt k e).1; omega)
      have hnext : w5.ownsRow w2.heap.size 2 1 (.slice (some ⟨g', 0, none⟩) (k + 1) cap') (k + 1) (iCells ((ws.take (k + 1)).map (f * ·))) := by
        rw [HE.out]; exact hown5
      have HN := Lib.hid hnext
      clear hnext hown5 hgrow hat hlt5 hown
      go_wp2_with fail
      go_roundw
      case rel => exact ⟨k + 1, by omega, by go_num, (by have h := HN.out; rw [List.map_take] at h; exact h), hb5⟩
      case measure => simp [intOf]; omega
    · obtain rfl : k = ws.length := by omega
      have hd : decide ((ws.length : Int) < (ws.length : Int)) = false := by simp
      obtain ⟨x, y, t, e1, e2, ht, hwt, hxy⟩ := HSc.out f hf0 hf1
      obtain ⟨g3, cap3, rfl⟩ := ownsRow_form' hown (by omega)
      have hVs : IntSl wr (.slice (some ⟨g3, 0, none⟩) ws.length cap3) (ws.map (f * ·)) := by
        have h := hown
        rw [List.take_length] at h
        have h' := IntSl.of_rows (ws := ws.map (f * ·)) (by rw [List.length_map]; exact h) (by rw [List.length_map]; omega)
        exact h'
      have HV := Lib.hid hVs; have E1 := Lib.hid e1; have E2 := Lib.hid e2; have HT := Lib.hid hwt; have HXY := Lib.hid hxy
      have HX3 := Lib.hid (HX.out.ext hb); have HW3 := Lib.hid (HWS.out.ext hb)
      have hB3 := ext_trans hB2 hb
      clear hown hVs e1 e2 hwt hxy HSc HW hb HX HWS hB2
      go_wp2_with fail
      refine (combine_any _ _ L ws _ HX3.out HW3.out).mono ?_
      rintro e w4 ⟨rfl, hb4⟩
      rw [E1.out]
      unfold combYes
      have hB4 := ext_trans hB3 hb4
      have HX4 := Lib.hid (HX3.out.ext hb4); have HV4 := Lib.hid (HV.out.ext hb4)
      clear hb4 HX3 HW3 HV hB3 E1
      go_wp2_with fail
      have hA := Whole.new w4 34 x.arr
      have hB5 := ext_alloc hB4 (.cells x.arr 34)
      have HX5 := Lib.hid (HX4.out.ext (ext_alloc (ext_refl _) (.cells x.arr 34)))
      have HV5 := Lib.hid (HV4.out.ext (ext_alloc (ext_refl _) (.cells x.arr 34)))
      have hgw : w.heap.size ≤ w4.heap.size := hB4.size
      generalize w4.heap.size = ga at *
      refine (combine_any _ _ L (ws.map (f * ·)) _ HX5.out HV5.out).mono ?_
      rintro e w6 ⟨rfl, hb6⟩
      rw [E2.out]
      unfold combYes
      have HA6 := Lib.hid ((hA.ext hb6).alloc (.cells y.arr 34))
      have hB6 := ext_alloc (ext_trans hB5 hb6) (.cells y.arr 34)
      have hC6 := Whole.new w6 34 y.arr
      have HC6 := Lib.hid hC6
      clear hA hB5 HX5 HV5 HX4 HV4 hB4 hb6 E2 hC6
      go_wp2_with fail
      generalize w6.heap.size = gb at *
      have hft : IntKind.i64.wrap (f * t) = f * t := by
        have m1 := Int.mul_nonneg (show (0 : Int) ≤ f by omega) ht.1
        have m2 := Int.mul_le_mul_of_nonneg_left ht.2 (show (0 : Int) ≤ f by omega)
        rw [IntKind.wrap_i64]; omega
      obtain ⟨wo, hwo⟩ : ∃ wo : World, wo = wr := ⟨_, rfl⟩
      clear hwo
      go_loopw [18] (fun jv wr => ∃ (j : Nat), j ≤ 3 ∧ jv = .int .i64 j ∧ Whole wr ga 34 x.arr ∧ Whole wr gb 34 y.arr ∧ Below w.heap.size w wr) (fun jv _ => 3 - (intOf jv).toNat)
      case atStart => exact ⟨0, by omega, rfl, HA6.out, HC6.out, hB6⟩
      case round =>
        obtain ⟨j, hj, rfl, hA, hC, hb⟩ := hrel
        clear HA6 HC6 hB6
        by_cases hj3 : j < 3
        · obtain ⟨q1, q2⟩ := HXY.out j
          have b1 := Fx.within_lo HT.out j
          have b2 := Fx.within_hi HT.out j
          obtain ⟨p0, p1⟩ := arr_cell x j hj3
          obtain ⟨p2, p3⟩ := arr_cell y j hj3
          have t0 := (hA.cell (j * 2)).trans p0
          have t1 := (hA.cell (j * 2 + 1)).trans p1
          have t2 := (hC.cell (j * 2)).trans p2
          have t3 := (hC.cell (j * 2 + 1)).trans p3
          rw [q1] at t2
          rw [q2] at t3
          have HA := Lib.hid hA; have HC := Lib.hid hC
          clear p0 p1 p2 p3 hA hC q1 q2
          generalize x.lo j = x0 at *
          generalize x.hi j = x1 at *
          have n1 := Fx.mul_bd 87960930222080 f x0 256 (by omega) (by omega) (by omega) (by omega)
          have n2 := Fx.mul_bd 87960930222080 f x1 256 (by omega) (by omega) (by omega) (by omega)
          have e1 : IntKind.i64.wrap (f * x0) = f * x0 := by rw [IntKind.wrap_i64]; omega
          have e2 : IntKind.i64.wrap (f * x1) = f * x1 := by rw [IntKind.wrap_i64]; omega
          have k0 : (0 : Int) ≤ (j : Int) := by omega
          have k1 : (j : Int) < 3 := by omega
          go_wp2_with fail
          go_quiet (fail)
          clear e1 e2
          go_wp2_with fail
          go_roundw
          case rel => exact ⟨j + 1, by omega, by go_num, HA.out.drewN _, HC.out.drewN _, ext_drewN hb _⟩
          case measure => simp [intOf]; omega
        · obtain rfl : j = 3 := by omega
          clear hA hC
          go_wp2_with fail
          refine (awake_any _).mono ?_
          rintro e w7 ⟨rfl, hb7⟩
          have hB7 := ext_trans hb hb7
          clear hb hb7
          go_wp2_with fail
          go_ret
          exact ⟨rfl, hB7⟩

set_option maxRecDepth 100000 in
theorem lifted (os : Os) (started : os.Started) (H : Type) (enc : TypeId × Value → H) :
    ReturnsInHanded {} Try.checked os 5 .any (Rows.shapeCombineScalesSpec.pre6 enc Try.prog Try.f5 Rows.shapeCombineScalesRow.domain false) (Rows.shapeCombineScalesSpec.post enc Try.prog Try.f5 false true false false) := by
  refine returnsInHanded_of_change (C := Try.checked) own started (by kernel_rfl) Try.func5
    (ChangeSpec.witness6 (enc := enc) (C := Try.checked) false ⟨#[], #[.slice none 0 0, .slice none 0 0, .int .u8 0], []⟩ 8 (by kernel_rfl) (by kernel_rfl) (by kernel_rfl) (by kernel_rfl)) ?_
  intro W base args ds gs before hval0 hW hcnd _
  have hval : ∀ (j : Nat) t v, Try.f5.params[j]? = some t → args[j]? = some v → Value.okWide Try.prog W .any base t v := hval0
  have hW' := hW
  obtain ⟨p, q, hA0, hV, rfl, hfz, hnd⟩ := hW
  have hA : DataW.TrodAll enc Try.prog W 0 (fun _ => true) true Try.f5.params.toList args.toList ds p := hA0
  rw [Try.params5] at hA hval
  obtain ⟨v0, vs0, d0, ds0, p0, q0, hargs, rfl, rfl, h0, r0⟩ := trodAll_cons hA
  obtain ⟨v1, vs1, d1, ds1, p1, q1, rfl, rfl, rfl, h1, r1⟩ := trodAll_cons r0
  obtain ⟨v2, vs2, d2, ds2, p2, q2, rfl, rfl, rfl, h2, r2⟩ := trodAll_cons r1
  obtain ⟨rfl, rfl, rfl⟩ := trodAll_nil r2
  obtain rfl : args = #[v0, v1, v2] := by cases args; simp_all
  obtain ⟨rfl, rfl⟩ := trodVars_none hV
  have k0 := h0
  have lt0 : ∀ x ∈ p0, x.block < W.heap.size := by obtain ⟨m, hm⟩ := k0; exact DataW.trod_lt m _ _ _ hm
  have k1 := h1
  have lt1 : ∀ x ∈ p1, x.block < W.heap.size := by obtain ⟨m, hm⟩ := k1; exact DataW.trod_lt m _ _ _ hm
  have k2 := h2
  have lt2 : ∀ x ∈ p2, x.block < W.heap.size := by obtain ⟨m, hm⟩ := k2; exact DataW.trod_lt m _ _ _ hm
  obtain ⟨xs0, hs0, wf0⟩ := open_intsl (hval 0 24 v0 rfl rfl) h0
  obtain ⟨xs1, hs1, wf1⟩ := open_intsl (hval 1 24 v1 rfl rfl) h1
  obtain ⟨a2, rfl, rfl, rfl, w2⟩ := open_int Try.underlying5 (hval 2 5 v2 rfl rfl) h2
  clear hA0 hval0
  refine (walk v0 xs0 v1 xs1 a2 W hs0 hs1 w2).mono fun e W' ⟨he, bel⟩ => ?_
  subst he
  exact ⟨_, rfl, _, _, _, [], _, [], hW', trodAll_mk1 (shut_bool Try.underlying4 _), (trodAll_cons_mk (Below.trod laidOut (by kernel_rfl) (of_decide_eq_true (by kernel_rfl)) k0 bel lt0) (trodAll_cons_mk (Below.trod laidOut (by kernel_rfl) (of_decide_eq_true (by kernel_rfl)) k1 bel lt1) (trodAll_cons_mk (Below.trod laidOut (by kernel_rfl) (of_decide_eq_true (by kernel_rfl)) k2 bel lt2) trodAll_mk0))), rfl, bel.frame _, fun h => by cases h⟩

theorem over : Rows.shapeCombineScalesRow.holds Try.pinned (OpenSpec.ofChange Rows.shapeCombineScalesSpec) :=
  OpenClaim.holds_of_wide 5 Try.f5 rfl rfl rfl rfl rfl rfl rfl ⟨rfl, rfl, rfl, rfl, rfl⟩ rfl rfl rfl rfl rfl (by kernel_rfl) Try.func5 (by kernel_rfl)
    (of_decide_eq_true (by kernel_rfl)) (by unfold Func.isWrapper; first | (rw [if_pos (by decide +kernel)]; kernel_rfl) | (rw [if_neg (by decide +kernel)]; exact ⟨rfl, rfl⟩))
    (fun os started H enc _ => lifted os started H enc)

/-- The statement. -/
theorem proved : Rows.ShapeCombineScalesSaid := over
end Go.Proofs.Ytgnjconhbloocaa.shapeCombineScales
