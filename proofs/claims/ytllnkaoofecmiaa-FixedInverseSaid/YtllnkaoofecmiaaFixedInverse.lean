/- FixedInverse: the law returns true for every input, and each argument reads afterwards as it read before. Conditions: none. -/
import Derived.Test.YtllnkaoofecmiaaRows
import Derived.Test.YtllnkaoofecmiaaAwake1
import Derived.ProofKit
import Derived.OpenShut
import Derived.ShutString
import Derived.ChangeOld
import Derived.Below
import Derived.Lib.SmallJoins
namespace Go.Proofs.Ytllnkaoofecmiaa.fixedInverse
open Go.ChangeShapes Go.WideShapes Go.ChangeAt Go.RowKit
set_option linter.unusedVariables false

theorem own : ownKnob Try.prog.godebug = none := by kernel_rfl
theorem laidOut : laidOutB Try.prog = true := by kernel_rfl

theorem walk (a b s : Int) (wa : (Lit.int .i64 a).wf = true) (wb : (Lit.int .i64 b).wf = true) (ws : (Lit.int .u8 s).wf = true) (w : World) :
    Calls Try.prog 5 #[.int .i64 a, .int .i64 b, .int .u8 s] w fun e w' => e = .returned (.bool true) ∧ Below w.heap.size w w' := by
  have ha := i64_bd wa
  have hb := i64_bd wb
  have hs := u8_bd ws
  have hx := Fx.shr_bd a (s % 64).toNat ha.1 ha.2
  have hy := Fx.shr_bd b (s / 4 % 64).toNat hb.1 hb.2
  clear wa wb ws
  have cx := Fx.clamp_bd (a / 2 ^ (s % 64).toNat)
  have cy := Fx.clamp_bd (b / 2 ^ (s / 4 % 64).toNat)
  have hxx := Lib.hid (Fx.clamp_clamp (a / 2 ^ (s % 64).toNat))
  have hyy := Lib.hid (Fx.clamp_clamp (b / 2 ^ (s / 4 % 64).toNat))
  go_enter Try.func5, Try.ntmps5
  go_wp2_with fail
  refine (rclamp_any _ _).mono ?_
  rintro e w' ⟨rfl, rfl⟩
  go_wp2_with fail
  refine (rclamp_any _ _).mono ?_
  rintro e w' ⟨rfl, rfl⟩
  generalize Fx.clamp (a / 2 ^ (s % 64).toNat) = x at *
  generalize Fx.clamp (b / 2 ^ (s / 4 % 64).toNat) = y at *
  go_wp2_with fail
  by_cases c0 : y = 0
  · refine (divDown_no _ _ _ (by rw [hyy.out]; exact c0)).mono ?_
    rintro e w' ⟨rfl, rfl⟩
    subst c0
    go_wp2_with (first | (go_at_call 14; refine (awake_any _).mono ?_; rintro e w' ⟨rfl, k, rfl⟩))
    go_ret
    exact ⟨rfl, below_drewN' _ _⟩
  · refine (divDown_yes _ _ _ (by rw [hyy.out]; exact c0)).mono ?_
    rintro e w' ⟨rfl, rfl⟩
    by_cases c1 : y < 1
    · go_wp2_with (first | (go_at_call 14; refine (awake_any _).mono ?_; rintro e w' ⟨rfl, k, rfl⟩))
      go_ret
      exact ⟨rfl, below_drewN' _ _⟩
    · by_cases c2 : Fx.divDown x y < -2147483648
      · go_wp2_with (first | (go_at_call 14; refine (awake_any _).mono ?_; rintro e w' ⟨rfl, k, rfl⟩))
        go_ret
        exact ⟨rfl, below_drewN' _ _⟩
      · by_cases c3 : 2147483648 < Fx.divDown x y
        · go_wp2_with (first | (go_at_call 14; refine (awake_any _).mono ?_; rintro e w' ⟨rfl, k, rfl⟩))
          go_ret
          exact ⟨rfl, below_drewN' _ _⟩
        · have hi := Fx.inverse x y hxx.out hyy.out (by omega) (Fx.clamp_id _ (by omega) (by omega))
          have hb1 := Fx.mulDown_bd (Fx.divDown x y) y
          obtain ⟨i1, i2⟩ := hi
          go_wp2_with (first | (go_at_call 14; refine (awake_any _).mono ?_; rintro e w' ⟨rfl, k, rfl⟩) | (go_at_call 21; refine (mulDown_any _ _ _).mono ?_; rintro e w' ⟨rfl, rfl⟩))
          go_ret
          exact ⟨rfl, below_drewN' _ _⟩

set_option maxRecDepth 100000 in
theorem lifted (os : Os) (started : os.Started) (H : Type) (enc : TypeId × Value → H) :
    ReturnsInHanded {} Try.checked os 5 .any (Rows.fixedInverseSpec.pre6 enc Try.prog Try.f5 Rows.fixedInverseRow.domain false) (Rows.fixedInverseSpec.post enc Try.prog Try.f5 false true false false) := by
  refine returnsInHanded_of_change (C := Try.checked) own started (by kernel_rfl) Try.func5
    (ChangeSpec.witness6 (enc := enc) (C := Try.checked) false ⟨#[], #[.int .i64 0, .int .i64 0, .int .u8 0], []⟩ 8 (by kernel_rfl) (by kernel_rfl) (by kernel_rfl) (by kernel_rfl)) ?_
  intro W base args ds gs before hval0 hW hcnd _
  have hval : ∀ (j : Nat) t v, Try.f5.params[j]? = some t → args[j]? = some v → Value.okWide Try.prog W .any base t v := hval0
  have hW' := hW
  obtain ⟨p, q, hA0, hV, rfl, hfz, hnd⟩ := hW
  have hA : DataW.TrodAll enc Try.prog W 0 (fun _ => true) true Try.f5.params.toList args.toList ds p := hA0
  rw [Try.params5] at hA hval
  obtain ⟨v0, vs0, d0, ds0, p0, q0, hargs, rfl, rfl, h0, r0⟩ := trodAll_cons hA
  obtain ⟨v1, vs1, d1, ds1, p1, q1, rfl, rfl, rfl, h1, r1⟩ := trodAll_cons r0
  obtain ⟨v2, vs2, d2, ds2, p2, q2, rfl, rfl, rfl, h2, r2⟩ := trodAll_cons r1
  obtain ⟨rfl, rfl, rfl⟩ := trodAll_nil r2
  obtain rfl : args = #[v0, v1, v2] := by cases args; simp_all
  obtain ⟨rfl, rfl⟩ := trodVars_none hV
  have k0 := h0
  have lt0 : ∀ x ∈ p0, x.block < W.heap.size := by obtain ⟨m, hm⟩ := k0; exact DataW.trod_lt m _ _ _ hm
  have k1 := h1
  have lt1 : ∀ x ∈ p1, x.block < W.heap.size := by obtain ⟨m, hm⟩ := k1; exact DataW.trod_lt m _ _ _ hm
  have k2 := h2
  have lt2 : ∀ x ∈ p2, x.block < W.heap.size := by obtain ⟨m, hm⟩ := k2; exact DataW.trod_lt m _ _ _ hm
  obtain ⟨a0, rfl, rfl, rfl, w0⟩ := open_int Try.underlying2 (hval 0 2 v0 rfl rfl) h0
  obtain ⟨a1, rfl, rfl, rfl, w1⟩ := open_int Try.underlying2 (hval 1 2 v1 rfl rfl) h1
  obtain ⟨a2, rfl, rfl, rfl, w2⟩ := open_int Try.underlying5 (hval 2 5 v2 rfl rfl) h2
  clear hA0 hval0
  refine (walk a0 a1 a2 w0 w1 w2 W).mono fun e W' ⟨he, bel⟩ => ?_
  subst he
  exact ⟨_, rfl, _, _, _, [], _, [], hW', trodAll_mk1 (shut_bool Try.underlying4 _), (trodAll_cons_mk (Below.trod laidOut (by kernel_rfl) (of_decide_eq_true (by kernel_rfl)) k0 bel lt0) (trodAll_cons_mk (Below.trod laidOut (by kernel_rfl) (of_decide_eq_true (by kernel_rfl)) k1 bel lt1) (trodAll_cons_mk (Below.trod laidOut (by kernel_rfl) (of_decide_eq_true (by kernel_rfl)) k2 bel lt2) trodAll_mk0))), rfl, bel.frame _, fun h => by cases h⟩

theorem over : Rows.fixedInverseRow.holds Try.pinned (OpenSpec.ofChange Rows.fixedInverseSpec) :=
  OpenClaim.holds_of_wide 5 Try.f5 rfl rfl rfl rfl rfl rfl rfl ⟨rfl, rfl, rfl, rfl, rfl⟩ rfl rfl rfl rfl rfl (by kernel_rfl) Try.func5 (by kernel_rfl)
    (of_decide_eq_true (by kernel_rfl)) (by unfold Func.isWrapper; first | (rw [if_pos (by decide +kernel)]; kernel_rfl) | (rw [if_neg (by decide +kernel)]; exact ⟨rfl, rfl⟩))
    (fun os started H enc _ => lifted os started H enc)

/-- The statement. -/
theorem proved : Rows.FixedInverseSaid := over
end Go.Proofs.Ytllnkaoofecmiaa.fixedInverse
