/- ShapeCombineWithin: the law returns true for every input, and each argument reads afterwards as it read before. Conditions: none. -/
import Derived.Test.YtgnjconhbloocaaRows
import Derived.Test.YtgnjconhbloocaaAwake10
import Derived.Test.YtgnjconhbloocaaTotal
import Derived.Test.YtgnjconhbloocaaOpen10
import Derived.Test.YtgnjconhbloocaaChosen
import Derived.ProofKit
import Derived.OpenShut
import Derived.ShutString
import Derived.ChangeOld
import Derived.Below
import Derived.Lib.SmallJoins
namespace Go.Proofs.Ytgnjconhbloocaa.shapeCombineWithin
open Go.ChangeShapes Go.WideShapes Go.ChangeAt Go.RowKit
set_option linter.unusedVariables false

theorem own : ownKnob Try.prog.godebug = none := by kernel_rfl
theorem laidOut : laidOutB Try.prog = true := by kernel_rfl

set_option maxRecDepth 100000 in
set_option maxHeartbeats 2000000 in
theorem walk (v0 : Value) (xs0 : List Int) (v1 : Value) (xs1 : List Int) (v2 : Value) (xs2 : List Int) (w : World) (h0 : IntSl w v0 xs0) (h1 : IntSl w v1 xs1) (h2 : IntSl w v2 xs2) :
    Calls Try.prog 4 #[v0, v1, v2] w fun e w' => e = .returned (.bool true) ∧ Below w.heap.size w w' := by
  have H0 := Lib.hid h0; have H1 := Lib.hid h1; have H2 := Lib.hid h2
  obtain ⟨a0, c0, rfl, hl0, _⟩ := h0
  obtain ⟨a1, c1, rfl, hl1, _⟩ := h1
  obtain ⟨a2, c2, rfl, hl2, _⟩ := h2
  go_enter Try.func4, Try.ntmps4
  go_wp2_with fail
  refine (points_any _ xs0 3000 _ H0.out (by omega) (by omega)).mono ?_
  rintro e w1 ⟨u, L, rfl, hL1, hL5, hM, hown, hb1⟩
  obtain ⟨g, cap, rfl⟩ := ownsRow_form' hown (by omega)
  go_wp2_with fail
  refine (weights_any L.length _ xs1 _ (H1.out.ext hb1) hL1 hL5).mono ?_
  rintro e w2 ⟨u2, ws, rfl, hwl, hwb, hwp, hown2, hb2⟩
  obtain ⟨g2, cap2, rfl⟩ := ownsRow_form' hown2 (by omega)
  have hB2 := ext_trans hb1 hb2
  have HW := Lib.hid hwb; have HP := Lib.hid hwp; have HM := Lib.hid hM; have HL := Lib.hid hwl
  have HX := Lib.hid ((VSl.of_owns hown (by omega)).ext hb2)
  have HWS := Lib.hid (IntSl.of_rows hown2 (by omega))
  have HR := Lib.hid (Fx.placedB_all (placed_made hL1 hL5 hM (by omega)))
  have hw1 : 1 ≤ ws.length := by omega
  have hw5 : ws.length ≤ 5 := by omega
  clear hwb hwp hM hb1 hb2 hwl hown hown2
  go_wp2_with fail
  refine (chosen_any _ _ L xs2 _ HX.out (H2.out.ext hB2) hL5 HR.out).mono ?_
  rintro e w3 ⟨u3, M, rfl, hMl, hTk, hown3, hb3⟩
  obtain ⟨g3, cap3, rfl⟩ := ownsRow_form' hown3 (by omega)
  obtain ⟨x, y, e1, e2, hxy⟩ := chosen_sums (W := 3000) (by omega) hL1 hL5 HM.out hMl hTk HL.out HW.out HP.out
  have E1 := Lib.hid e1; have E2 := Lib.hid e2; have HXY := Lib.hid hxy
  have HMS := Lib.hid (VSl.of_owns hown3 (by omega))
  have hB3 := ext_trans hB2 hb3
  have HX3 := Lib.hid (HX.out.ext hb3); have HW3 := Lib.hid (HWS.out.ext hb3)
  have HWb := Lib.hid (show ∀ k : Nat, k < ws.length → 0 ≤ ws.getD k 0 ∧ ws.getD k 0 ≤ 65536 from fun k hk => by have := HW.out k (by have := HL.out; omega); omega)
  clear e1 e2 hxy hown3 hTk hb3 HX HWS HM HP HW HL HR hB2
  have hm5 : M.length ≤ 5 := by omega
  clear hMl
  go_wp2_with fail
  refine (combine_any _ _ M ws _ HMS.out HW3.out).mono ?_
  rintro e w4 ⟨rfl, hb4⟩
  rw [E1.out]
  unfold combYes
  generalize htt : Fx.tot ws ws.length = t at *
  have HT := Lib.hid htt
  clear htt
  have hB4 := ext_trans hB3 hb4
  have HX4 := Lib.hid (HX3.out.ext hb4); have HW4 := Lib.hid (HW3.out.ext hb4)
  clear hb4 HX3 HW3 hB3 HMS E1
  go_wp2_with fail
  have hA := Whole.new w4 34 x.arr
  have hB5 := ext_alloc hB4 (.cells x.arr 34)
  have HX5 := Lib.hid (HX4.out.ext (ext_alloc (ext_refl _) (.cells x.arr 34)))
  have HW5 := Lib.hid (HW4.out.ext (ext_alloc (ext_refl _) (.cells x.arr 34)))
  have hgw : w.heap.size ≤ w4.heap.size := hB4.size
  generalize w4.heap.size = ga at *
  refine (combine_any _ _ L ws _ HX5.out HW5.out).mono ?_
  rintro e w6 ⟨rfl, hb6⟩
  rw [E2.out]
  unfold combYes
  have HA6 := Lib.hid ((hA.ext hb6).alloc (.cells y.arr 34))
  have hB6 := ext_alloc (ext_trans hB5 hb6) (.cells y.arr 34)
  have HW6 := Lib.hid ((HW5.out.ext hb6).ext (ext_alloc (ext_refl _) (.cells y.arr 34)))
  have hC6 := Whole.new w6 34 y.arr
  have HC6 := Lib.hid hC6
  clear hA hB5 HX5 HW5 HX4 HW4 hB4 hb6 E2 hC6
  go_wp2_with fail
  generalize w6.heap.size = gb at *
  go_loopw [15] (fun jv wr => ∃ (j : Nat), j ≤ 3 ∧ jv = .int .i64 j ∧ Whole wr ga 34 x.arr ∧ Whole wr gb 34 y.arr ∧ IntSl wr (.slice (some ⟨g2, 0, none⟩) ws.length cap2) ws ∧ Below w.heap.size w wr) (fun jv _ => 3 - (intOf jv).toNat)
  case atStart => exact ⟨0, by omega, rfl, HA6.out, HC6.out, HW6.out, hB6⟩
  case round =>
    obtain ⟨j, hj, rfl, hA, hC, hWs, hb⟩ := hrel
    clear HA6 HC6 HW6 hB6
    have HWs := Lib.hid hWs
    clear hWs
    by_cases hj3 : j < 3
    · obtain ⟨q1, q2, q3⟩ := HXY.out j hj3
      obtain ⟨p0, p1⟩ := arr_cell x j hj3
      obtain ⟨p2, p3⟩ := arr_cell y j hj3
      have t0 := (hA.cell (j * 2)).trans p0
      have t1 := (hA.cell (j * 2 + 1)).trans p1
      have t2 := (hC.cell (j * 2)).trans p2
      have t3 := (hC.cell (j * 2 + 1)).trans p3
      rw [← q1] at t1 q3
      have HA := Lib.hid hA; have HC := Lib.hid hC
      clear p0 p1 p2 p3 hA hC q1
      generalize x.lo j = x0 at *
      generalize y.lo j = y0 at *
      generalize y.hi j = y1 at *
      have d1 : decide (x0 < y0) = false := by simp; omega
      have d2 : decide (y1 < x0) = false := by simp; omega
      have k0 : (0 : Int) ≤ (j : Int) := by omega
      have k1 : (j : Int) < 3 := by omega
      go_wp2_with fail
      go_quiet (fail)
      go_wp2_with fail
      go_roundw
      case rel => exact ⟨j + 1, by omega, by go_num, HA.out.drewN _, HC.out.drewN _, HWs.out.ext (ext_drewN (ext_refl _) _), ext_drewN hb _⟩
      case measure => simp [intOf]; omega
    · obtain rfl : j = 3 := by omega
      clear hA hC
      go_wp2_with fail
      refine (awake_any _).mono ?_
      rintro e w7 ⟨rfl, hb7⟩
      have hB7 := ext_trans hb hb7
      have HW7 := Lib.hid (HWs.out.ext hb7)
      clear hb hb7 HWs
      go_wp2_with fail
      refine (total_any _ ws _ HW7.out hw5 HWb.out).mono ?_
      rintro e w8 ⟨rfl, rfl⟩
      rw [HT.out]
      go_wp2_with fail
      go_ret
      exact ⟨rfl, hB7⟩

set_option maxRecDepth 100000 in
theorem lifted (os : Os) (started : os.Started) (H : Type) (enc : TypeId × Value → H) :
    ReturnsInHanded {} Try.checked os 4 .any (Rows.shapeCombineWithinSpec.pre6 enc Try.prog Try.f4 Rows.shapeCombineWithinRow.domain false) (Rows.shapeCombineWithinSpec.post enc Try.prog Try.f4 false true false false) := by
  refine returnsInHanded_of_change (C := Try.checked) own started (by kernel_rfl) Try.func4
    (ChangeSpec.witness6 (enc := enc) (C := Try.checked) false ⟨#[], #[.slice none 0 0, .slice none 0 0, .slice none 0 0], []⟩ 8 (by kernel_rfl) (by kernel_rfl) (by kernel_rfl) (by kernel_rfl)) ?_
  intro W base args ds gs before hval0 hW hcnd _
  have hval : ∀ (j : Nat) t v, Try.f4.params[j]? = some t → args[j]? = some v → Value.okWide Try.prog W .any base t v := hval0
  have hW' := hW
  obtain ⟨p, q, hA0, hV, rfl, hfz, hnd⟩ := hW
  have hA : DataW.TrodAll enc Try.prog W 0 (fun _ => true) true Try.f4.params.toList args.toList ds p := hA0
  rw [Try.params4] at hA hval
  obtain ⟨v0, vs0, d0, ds0, p0, q0, hargs, rfl, rfl, h0, r0⟩ := trodAll_cons hA
  obtain ⟨v1, vs1, d1, ds1, p1, q1, rfl, rfl, rfl, h1, r1⟩ := trodAll_cons r0
  obtain ⟨v2, vs2, d2, ds2, p2, q2, rfl, rfl, rfl, h2, r2⟩ := trodAll_cons r1
  obtain ⟨rfl, rfl, rfl⟩ := trodAll_nil r2
  obtain rfl : args = #[v0, v1, v2] := by cases args; simp_all
  obtain ⟨rfl, rfl⟩ := trodVars_none hV
  have k0 := h0
  have lt0 : ∀ x ∈ p0, x.block < W.heap.size := by obtain ⟨m, hm⟩ := k0; exact DataW.trod_lt m _ _ _ hm
  have k1 := h1
  have lt1 : ∀ x ∈ p1, x.block < W.heap.size := by obtain ⟨m, hm⟩ := k1; exact DataW.trod_lt m _ _ _ hm
  have k2 := h2
  have lt2 : ∀ x ∈ p2, x.block < W.heap.size := by obtain ⟨m, hm⟩ := k2; exact DataW.trod_lt m _ _ _ hm
  obtain ⟨xs0, hs0, wf0⟩ := open_intsl (hval 0 24 v0 rfl rfl) h0
  obtain ⟨xs1, hs1, wf1⟩ := open_intsl (hval 1 24 v1 rfl rfl) h1
  obtain ⟨xs2, hs2, wf2⟩ := open_intsl (hval 2 24 v2 rfl rfl) h2
  clear hA0 hval0
  refine (walk v0 xs0 v1 xs1 v2 xs2 W hs0 hs1 hs2).mono fun e W' ⟨he, bel⟩ => ?_
  subst he
  exact ⟨_, rfl, _, _, _, [], _, [], hW', trodAll_mk1 (shut_bool Try.underlying4 _), (trodAll_cons_mk (Below.trod laidOut (by kernel_rfl) (of_decide_eq_true (by kernel_rfl)) k0 bel lt0) (trodAll_cons_mk (Below.trod laidOut (by kernel_rfl) (of_decide_eq_true (by kernel_rfl)) k1 bel lt1) (trodAll_cons_mk (Below.trod laidOut (by kernel_rfl) (of_decide_eq_true (by kernel_rfl)) k2 bel lt2) trodAll_mk0))), rfl, bel.frame _, fun h => by cases h⟩

theorem over : Rows.shapeCombineWithinRow.holds Try.pinned (OpenSpec.ofChange Rows.shapeCombineWithinSpec) :=
  OpenClaim.holds_of_wide 4 Try.f4 rfl rfl rfl rfl rfl rfl rfl ⟨rfl, rfl, rfl, rfl, rfl⟩ rfl rfl rfl rfl rfl (by kernel_rfl) Try.func4 (by kernel_rfl)
    (of_decide_eq_true (by kernel_rfl)) (by unfold Func.isWrapper; first | (rw [if_pos (by decide +kernel)]; kernel_rfl) | (rw [if_neg (by decide +kernel)]; exact ⟨rfl, rfl⟩))
    (fun os started H enc _ => lifted os started H enc)

/-- The statement. -/
theorem proved : Rows.ShapeCombineWithinSaid := over
end Go.Proofs.Ytgnjconhbloocaa.shapeCombineWithin
