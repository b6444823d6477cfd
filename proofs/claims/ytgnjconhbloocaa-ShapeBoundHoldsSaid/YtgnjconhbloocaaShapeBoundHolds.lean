/- ShapeBoundHolds: the law returns true for every input, and each argument reads afterwards as it read before. Conditions: none. -/
import Derived.Test.YtgnjconhbloocaaRows
import Derived.Test.YtgnjconhbloocaaAwake10
import Derived.Test.YtgnjconhbloocaaOpen10
import Derived.Test.YtgnjconhbloocaaBound2
import Derived.ProofKit
import Derived.OpenShut
import Derived.ShutString
import Derived.ChangeOld
import Derived.Below
import Derived.Lib.SmallJoins
namespace Go.Proofs.Ytgnjconhbloocaa.shapeBoundHolds
open Go.ChangeShapes Go.WideShapes Go.ChangeAt Go.RowKit
set_option linter.unusedVariables false

theorem own : ownKnob Try.prog.godebug = none := by kernel_rfl
theorem laidOut : laidOutB Try.prog = true := by kernel_rfl

/-- What the two flags of the law say behind i points. -/
def Flags (L : List Fx.V3) (j : Nat) (mn mx : Int) (i : Nat) (lv hv : Value) : Prop :=
  ∃ bl bh : Bool, lv = .bool bl ∧ hv = .bool bh ∧ (∀ m : Nat, m < i → mn = (L.getD m Fx.V3.zero).lo j → bl = true) ∧ (∀ m : Nat, m < i → mx = (L.getD m Fx.V3.zero).hi j → bh = true)
theorem Flags.next {L : List Fx.V3} {j : Nat} {mn mx : Int} {i : Nat} {bl bh : Bool} (h : Flags L j mn mx i (.bool bl) (.bool bh)) (bl' bh' : Bool) (f1 : bl = true → bl' = true) (f2 : mn = (L.getD i Fx.V3.zero).lo j → bl' = true) (f3 : bh = true → bh' = true) (f4 : mx = (L.getD i Fx.V3.zero).hi j → bh' = true) : Flags L j mn mx (i + 1) (.bool bl') (.bool bh') := by
  obtain ⟨a, b, e1, e2, h1, h2⟩ := h
  injection e1 with e1; injection e2 with e2
  subst e1 e2
  refine ⟨bl', bh', rfl, rfl, fun m hm h => ?_, fun m hm h => ?_⟩
  · by_cases e : m = i
    · rw [e] at h; exact f2 h
    · exact f1 (h1 m (by omega) h)
  · by_cases e : m = i
    · rw [e] at h; exact f4 h
    · exact f3 (h2 m (by omega) h)
theorem sub_eq_dec (a b r : Int) (h : a = b) : (a - r == b - r) = true := by rw [h]; simp
theorem add_eq_dec (a b r : Int) (h : a = b) : (a + r == b + r) = true := by rw [h]; simp

set_option maxRecDepth 100000 in
set_option maxHeartbeats 4000000 in
theorem walk (v0 : Value) (xs0 : List Int) (m n : Int) (w : World) (h0 : IntSl w v0 xs0) (hm : (Lit.int .i64 m).wf = true) (hn : (Lit.int .i64 n).wf = true) :
    Calls Try.prog 6 #[v0, .int .i64 m, .int .i64 n] w fun e w' => e = .returned (.bool true) ∧ Below w.heap.size w w' := by
  have H0 := Lib.hid h0
  obtain ⟨a0, c0, rfl, hl0, _⟩ := h0
  clear hm hn
  go_enter Try.func6, Try.ntmps6
  go_wp2_with fail
  refine (round_any _ _ _ (by omega) (by omega)).mono ?_
  rintro e w' ⟨rfl, rfl⟩
  have m0 := Int.emod_nonneg m (show (5000 : Int) ≠ 0 by omega)
  have m1 := Int.emod_lt_of_pos m (show (0 : Int) < 5000 by omega)
  generalize m % 5000 = W at *
  go_wp2_with fail
  refine (points_any _ xs0 W _ H0.out (by omega) (by omega)).mono ?_
  rintro e w1 ⟨u, L, rfl, hL1, hL5, hM, hown, hb1⟩
  obtain ⟨g, cap, rfl⟩ := ownsRow_form' hown (by omega)
  have hP := placed_made hL1 hL5 hM (by omega)
  have HV := Lib.hid (VSl.of_owns hown (by omega))
  have HP := Lib.hid hP
  clear hM hown hP
  go_wp2_with fail
  refine (round_any _ _ _ (by omega) (by omega)).mono ?_
  rintro e w' ⟨rfl, rfl⟩
  have r0 := Int.emod_nonneg n (show (1048576 : Int) ≠ 0 by omega)
  have r1 := Int.emod_lt_of_pos n (show (0 : Int) < 1048576 by omega)
  generalize n % 1048576 = r at *
  go_wp2_with fail
  refine (bound_any _ L r _ HV.out).mono ?_
  rintro e w2 ⟨rfl, hb2⟩
  have HV2 := Lib.hid (HV.out.ext hb2)
  have hB2 := ext_trans hb1 hb2
  have HBv := Lib.hid (Fx.boundV_yes (Fx.boundOk_yes HP.out (show 0 ≤ r ∧ r ≤ 1048576 by omega)))
  have HRr := Lib.hid (fun i hi => Fx.allR_at (Fx.placedB_all HP.out) i hi)
  clear hb1 hb2 HV HP
  generalize hbv : Fx.boundV L r = bv at *
  clear hbv
  have hA2 := Whole.new w2 34 bv.arr
  have HA2 := Lib.hid hA2
  have HV3 := Lib.hid (HV2.out.ext (ext_alloc (ext_refl _) (.cells bv.arr 34)))
  have HB3 := Lib.hid (ext_alloc hB2 (.cells bv.arr 34))
  clear hA2 HV2 hB2
  unfold Fx.V3.arr
  go_wp2_with fail
  generalize w2.heap.size = gb at *
  go_loopw [10] (fun jv wr => ∃ (j : Nat), j ≤ 3 ∧ jv = .int .i64 j ∧ Whole wr gb 34 bv.arr ∧ VSl wr (.slice (some ⟨g, 0, none⟩) L.length cap) L ∧ Below w.heap.size w wr) (fun jv _ => 3 - (intOf jv).toNat)
  case atStart => exact ⟨0, by omega, rfl, HA2.out, HV3.out, HB3.out⟩
  case round =>
    obtain ⟨j, hj, rfl, hA, hV, hb⟩ := hrel
    clear HA2 HV3 HB3
    by_cases hj3 : j < 3
    · have hbd := Fx.mnL_bd L j hj3 (L.length - 1) (fun i hi => HRr.out i (by omega))
      have HLe := Lib.hid (fun i hi => Fx.mnL_le L j (L.length - 1) i hi)
      have HAt := Lib.hid (Fx.mnL_at L j (L.length - 1))
      have ebl : bv.lo j = Fx.mnL L j (L.length - 1) - r ∧ bv.hi j = Fx.mxL L j (L.length - 1) + r := by
        rw [HBv.out]; exact Fx.ofEnds_lo _ _ j hj3
      generalize hmn : Fx.mnL L j (L.length - 1) = mn at *
      generalize hmx : Fx.mxL L j (L.length - 1) = mx at *
      have HE := Lib.hid ebl
      clear hmn hmx ebl
      have HV := Lib.hid hV; have HA := Lib.hid hA
      clear hV hA
      have k0 : (0 : Int) ≤ (j : Int) := by omega
      have k1 : (j : Int) < 3 := by omega
      go_wp2_with fail
      obtain ⟨wo, hwo⟩ : ∃ wo : World, wo = wr := ⟨_, rfl⟩
      subst hwo
      go_loopw [11, 12, 13] (fun lv hv iv wr => ∃ (i : Nat), i ≤ L.length ∧ iv = .int .i64 i ∧ Flags L j mn mx i lv hv ∧ Whole wr gb 34 bv.arr ∧ VSl wr (.slice (some ⟨g, 0, none⟩) L.length cap) L ∧ Below w.heap.size w wr) (fun _ _ iv _ => L.length - (intOf iv).toNat)
      case atStart => exact ⟨0, by omega, rfl, ⟨false, false, rfl, rfl, fun m hm => absurd hm (by omega), fun m hm => absurd hm (by omega)⟩, HA.out, HV.out, hb⟩
      case round =>
        obtain ⟨i, hi, rfl, hF, hA, hV, hbi⟩ := hrel
        obtain ⟨bl, bh, rfl, rfl, hQl, hQh⟩ := id hF
        clear HV HA hb
        by_cases hlt : i < L.length
        · obtain ⟨a, c, hva, _, hJ⟩ := id hV
          obtain ⟨b, o, hab, hJ⟩ := hJ (by omega)
          rw [hab] at hva
          injection hva with q1 q2 q3
          injection q1 with q1
          injection q1 with q4 q5
          subst q4 q5
          obtain ⟨cl, ch⟩ := hJ.part i hlt j hj3
          rw [Nat.zero_add] at cl ch
          have ta := (hA.cell (j * 2)).trans (arr_cell bv j hj3).1
          have tb := (hA.cell (j * 2 + 1)).trans (arr_cell bv j hj3).2
          rw [HE.out.1] at ta
          rw [HE.out.2] at tb
          have hle := HLe.out i (by omega)
          have hrx := Fx.near_true.1 (Fx.reachB_at (HRr.out i hlt) j hj3)
          have HF := Lib.hid hF.next
          clear hF hQl hQh
          have HV := Lib.hid hV; have HA := Lib.hid hA
          clear hV hA hab q2 q3 hJ
          generalize (L.getD i Fx.V3.zero).lo j = xl at *
          generalize (L.getD i Fx.V3.zero).hi j = xh at *
          have hd : decide ((i : Int) < (L.length : Int)) = true := by simp; omega
          have k2 : (0 : Int) ≤ (i : Int) := by omega
          have k3 : (i : Int) < (L.length : Int) := by omega
          have e1 : IntKind.i64.wrap (xl - r) = xl - r := by rw [IntKind.wrap_i64]; omega
          have e2 : IntKind.i64.wrap (xh + r) = xh + r := by rw [IntKind.wrap_i64]; omega
          have d1 : decide (xl - r < mn - r) = false := by simp; omega
          have d2 : decide (mx + r < xh + r) = false := by simp; omega
          go_wp2_with fail
          go_quiet (fail)
          go_wp2_with fail
          have ta5 : (wr.drewN nq).cell? ⟨gb, j * 2, none⟩ = _ := ta
          have tb5 : (wr.drewN nq).cell? ⟨gb, j * 2 + 1, none⟩ = _ := tb
          have cl5 : (wr.drewN nq).cell? ⟨g, i * 6 + j * 2, none⟩ = _ := cl
          have ch5 : (wr.drewN nq).cell? ⟨g, i * 6 + j * 2 + 1, none⟩ = _ := ch
          have HA5 := Lib.hid (HA.out.drewN nq)
          have HV5 := Lib.hid (HV.out.ext (ext_drewN (ext_refl _) nq))
          have hb5 := ext_drewN hbi nq
          clear ta tb cl ch HA HV hbi d1 d2
          generalize wr.drewN nq = w5 at *
          rcases Bool.eq_false_or_eq_true bl with rfl | rfl
          all_goals rcases Bool.eq_false_or_eq_true bh with rfl | rfl
          · have HFn := Lib.hid (HF.out true true (fun _ => rfl) (fun _ => rfl) (fun _ => rfl) (fun _ => rfl))
            clear HF
            go_quiet (fail)
            go_wp2_with fail
            go_roundw
            case rel => exact ⟨i + 1, by omega, by go_num, HFn.out, HA5.out.drewN _, HV5.out.ext (ext_drewN (ext_refl _) _), ext_drewN hb5 _⟩
            case measure => simp [intOf]; omega
          · have HFn := Lib.hid (HF.out true (mx + r == xh + r) (fun _ => rfl) (fun _ => rfl) (fun h => by cases h) (fun h => add_eq_dec _ _ _ h))
            clear HF
            go_quiet (fail)
            go_wp2_with fail
            go_roundw
            case rel => exact ⟨i + 1, by omega, by go_num, HFn.out, HA5.out.drewN _, HV5.out.ext (ext_drewN (ext_refl _) _), ext_drewN hb5 _⟩
            case measure => simp [intOf]; omega
          · have HFn := Lib.hid (HF.out (mn - r == xl - r) true (fun h => by cases h) (fun h => sub_eq_dec _ _ _ h) (fun _ => rfl) (fun _ => rfl))
            clear HF
            go_quiet (fail)
            go_wp2_with fail
            go_roundw
            case rel => exact ⟨i + 1, by omega, by go_num, HFn.out, HA5.out.drewN _, HV5.out.ext (ext_drewN (ext_refl _) _), ext_drewN hb5 _⟩
            case measure => simp [intOf]; omega
          · have HFn := Lib.hid (HF.out (mn - r == xl - r) (mx + r == xh + r) (fun h => by cases h) (fun h => sub_eq_dec _ _ _ h) (fun h => by cases h) (fun h => add_eq_dec _ _ _ h))
            clear HF
            go_quiet (fail)
            go_wp2_with fail
            go_roundw
            case rel => exact ⟨i + 1, by omega, by go_num, HFn.out, HA5.out.drewN _, HV5.out.ext (ext_drewN (ext_refl _) _), ext_drewN hb5 _⟩
            case measure => simp [intOf]; omega
        · obtain rfl : i = L.length := by omega
          obtain ⟨⟨p, hp, ep⟩, ⟨q, hq, eq⟩⟩ := HAt.out
          obtain rfl : bl = true := hQl p (by omega) ep
          obtain rfl : bh = true := hQh q (by omega) eq
          have hd : decide ((L.length : Int) < (L.length : Int)) = false := by simp
          have HV := Lib.hid hV; have HA := Lib.hid hA
          clear hV hA ep eq hQl hQh hF
          go_wp2_with fail
          go_roundw
          case rel => exact ⟨j + 1, by omega, by go_num, HA.out, HV.out, hbi⟩
          case measure => simp [intOf]; omega
    · obtain rfl : j = 3 := by omega
      clear hA hV
      go_wp2_with fail
      refine (awake_any _).mono ?_
      rintro e w7 ⟨rfl, hb7⟩
      have hB7 := ext_trans hb hb7
      clear hb hb7
      go_wp2_with fail
      go_ret
      exact ⟨rfl, hB7⟩

set_option maxRecDepth 100000 in
theorem lifted (os : Os) (started : os.Started) (H : Type) (enc : TypeId × Value → H) :
    ReturnsInHanded {} Try.checked os 6 .any (Rows.shapeBoundHoldsSpec.pre6 enc Try.prog Try.f6 Rows.shapeBoundHoldsRow.domain false) (Rows.shapeBoundHoldsSpec.post enc Try.prog Try.f6 false true false false) := by
  refine returnsInHanded_of_change (C := Try.checked) own started (by kernel_rfl) Try.func6
    (ChangeSpec.witness6 (enc := enc) (C := Try.checked) false ⟨#[], #[.slice none 0 0, .int .i64 0, .int .i64 0], []⟩ 8 (by kernel_rfl) (by kernel_rfl) (by kernel_rfl) (by kernel_rfl)) ?_
  intro W base args ds gs before hval0 hW hcnd _
  have hval : ∀ (j : Nat) t v, Try.f6.params[j]? = some t → args[j]? = some v → Value.okWide Try.prog W .any base t v := hval0
  have hW' := hW
  obtain ⟨p, q, hA0, hV, rfl, hfz, hnd⟩ := hW
  have hA : DataW.TrodAll enc Try.prog W 0 (fun _ => true) true Try.f6.params.toList args.toList ds p := hA0
  rw [Try.params6] at hA hval
  obtain ⟨v0, vs0, d0, ds0, p0, q0, hargs, rfl, rfl, h0, r0⟩ := trodAll_cons hA
  obtain ⟨v1, vs1, d1, ds1, p1, q1, rfl, rfl, rfl, h1, r1⟩ := trodAll_cons r0
  obtain ⟨v2, vs2, d2, ds2, p2, q2, rfl, rfl, rfl, h2, r2⟩ := trodAll_cons r1
  obtain ⟨rfl, rfl, rfl⟩ := trodAll_nil r2
  obtain rfl : args = #[v0, v1, v2] := by cases args; simp_all
  obtain ⟨rfl, rfl⟩ := trodVars_none hV
  have k0 := h0
  have lt0 : ∀ x ∈ p0, x.block < W.heap.size := by obtain ⟨m, hm⟩ := k0; exact DataW.trod_lt m _ _ _ hm
  have k1 := h1
  have lt1 : ∀ x ∈ p1, x.block < W.heap.size := by obtain ⟨m, hm⟩ := k1; exact DataW.trod_lt m _ _ _ hm
  have k2 := h2
  have lt2 : ∀ x ∈ p2, x.block < W.heap.size := by obtain ⟨m, hm⟩ := k2; exact DataW.trod_lt m _ _ _ hm
  obtain ⟨xs0, hs0, wf0⟩ := open_intsl (hval 0 24 v0 rfl rfl) h0
  obtain ⟨a1, rfl, rfl, rfl, w1⟩ := open_int Try.underlying3 (hval 1 3 v1 rfl rfl) h1
  obtain ⟨a2, rfl, rfl, rfl, w2⟩ := open_int Try.underlying3 (hval 2 3 v2 rfl rfl) h2
  clear hA0 hval0
  refine (walk v0 xs0 a1 a2 W hs0 w1 w2).mono fun e W' ⟨he, bel⟩ => ?_
  subst he
  exact ⟨_, rfl, _, _, _, [], _, [], hW', trodAll_mk1 (shut_bool Try.underlying4 _), (trodAll_cons_mk (Below.trod laidOut (by kernel_rfl) (of_decide_eq_true (by kernel_rfl)) k0 bel lt0) (trodAll_cons_mk (Below.trod laidOut (by kernel_rfl) (of_decide_eq_true (by kernel_rfl)) k1 bel lt1) (trodAll_cons_mk (Below.trod laidOut (by kernel_rfl) (of_decide_eq_true (by kernel_rfl)) k2 bel lt2) trodAll_mk0))), rfl, bel.frame _, fun h => by cases h⟩

theorem over : Rows.shapeBoundHoldsRow.holds Try.pinned (OpenSpec.ofChange Rows.shapeBoundHoldsSpec) :=
  OpenClaim.holds_of_wide 6 Try.f6 rfl rfl rfl rfl rfl rfl rfl ⟨rfl, rfl, rfl, rfl, rfl⟩ rfl rfl rfl rfl rfl (by kernel_rfl) Try.func6 (by kernel_rfl)
    (of_decide_eq_true (by kernel_rfl)) (by unfold Func.isWrapper; first | (rw [if_pos (by decide +kernel)]; kernel_rfl) | (rw [if_neg (by decide +kernel)]; exact ⟨rfl, rfl⟩))
    (fun os started H enc _ => lifted os started H enc)

/-- The statement. -/
theorem proved : Rows.ShapeBoundHoldsSaid := over
end Go.Proofs.Ytgnjconhbloocaa.shapeBoundHolds
