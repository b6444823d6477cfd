/- FixedSquares: the law returns true for every input, and each argument reads afterwards as it read before. Conditions: none. -/
import Derived.Test.YtllnkaoofecmiaaRows
import Derived.Test.YtllnkaoofecmiaaAwake1
import Derived.ProofKit
import Derived.OpenShut
import Derived.ShutString
import Derived.ChangeOld
import Derived.Below
import Derived.Lib.SmallJoins
namespace Go.Proofs.Ytllnkaoofecmiaa.fixedSquares
open Go.ChangeShapes Go.WideShapes Go.ChangeAt Go.RowKit
set_option linter.unusedVariables false

theorem own : ownKnob Try.prog.godebug = none := by kernel_rfl
theorem laidOut : laidOutB Try.prog = true := by kernel_rfl

theorem walk (a b : Int) (wa : (Lit.int .i64 a).wf = true) (wb : (Lit.int .u8 b).wf = true) (w : World) :
    Calls Try.prog 3 #[.int .i64 a, .int .u8 b] w fun e w' => e = .returned (.bool true) ∧ Below w.heap.size w w' := by
  have ha := i64_bd wa
  have hb := u8_bd wb
  have hn := Fx.shr_bd a (b % 64).toNat ha.1 ha.2
  clear wa wb
  go_enter Try.func3, Try.ntmps3
  go_wp2_with fail
  refine (root_any _ _ (by omega)).mono ?_
  rintro e w' ⟨rfl, k1, rfl⟩
  go_wp2_with fail
  refine (rootUp_any _ _ (by omega)).mono ?_
  rintro e w' ⟨rfl, k2, rfl⟩
  generalize a / 2 ^ (b % 64).toNat = n at *
  by_cases c : n < 1
  · have r0 : (Fx.root n == 0) = true := by rw [Fx.root_neg n (by omega)]; rfl
    have u0 : (Fx.rootUp n == 0) = true := by rw [Fx.rootUp_neg n (by omega)]; rfl
    go_wp2_with fail
    refine (awake_any _).mono ?_
    rintro e w' ⟨rfl, k3, rfl⟩
    go_wp2_with fail
    go_ret
    exact ⟨rfl, below_drewN' _ _⟩
  · have hr := Fx.root_bd n (by omega)
    obtain ⟨s0, s1, s2⟩ := Fx.root_spec n (by omega)
    have r1 : 1 ≤ Fx.root n := by
      by_cases z : Fx.root n = 0
      · rw [z] at s2; omega
      · omega
    have g1 : Fx.root n ≤ n / Fx.root n := (Int.le_ediv_iff_mul_le (by omega)).2 s1
    have g2 : n / (Fx.root n + 1) < Fx.root n + 1 := (Int.ediv_lt_iff_lt_mul (by omega)).2 s2
    have hs := Fx.root_sq_bd n (by omega)
    by_cases c2 : Fx.root n * Fx.root n = n
    · have e1 : (Fx.root n * Fx.root n == n) = true := by simpa using c2
      have e2 : (Fx.rootUp n == Fx.root n) = true := by unfold Fx.rootUp; rw [if_neg (by omega)]; simp
      clear c2 s2
      go_wp2_with fail
      refine (awake_any _).mono ?_
      rintro e w' ⟨rfl, k3, rfl⟩
      go_wp2_with fail
      go_ret
      exact ⟨rfl, below_drewN' _ _⟩
    · have e1 : (Fx.root n * Fx.root n == n) = false := by simpa using c2
      have e2 : (Fx.rootUp n == Fx.root n + 1) = true := by unfold Fx.rootUp; rw [if_pos (by omega)]; simp
      clear c2 s2
      go_wp2_with fail
      refine (awake_any _).mono ?_
      rintro e w' ⟨rfl, k3, rfl⟩
      go_wp2_with fail
      go_ret
      exact ⟨rfl, below_drewN' _ _⟩

set_option maxRecDepth 100000 in
theorem lifted (os : Os) (started : os.Started) (H : Type) (enc : TypeId × Value → H) :
    ReturnsInHanded {} Try.checked os 3 .any (Rows.fixedSquaresSpec.pre6 enc Try.prog Try.f3 Rows.fixedSquaresRow.domain false) (Rows.fixedSquaresSpec.post enc Try.prog Try.f3 false true false false) := by
  refine returnsInHanded_of_change (C := Try.checked) own started (by kernel_rfl) Try.func3
    (ChangeSpec.witness6 (enc := enc) (C := Try.checked) false ⟨#[], #[.int .i64 0, .int .u8 0], []⟩ 8 (by kernel_rfl) (by kernel_rfl) (by kernel_rfl) (by kernel_rfl)) ?_
  intro W base args ds gs before hval0 hW hcnd _
  have hval : ∀ (j : Nat) t v, Try.f3.params[j]? = some t → args[j]? = some v → Value.okWide Try.prog W .any base t v := hval0
  have hW' := hW
  obtain ⟨p, q, hA0, hV, rfl, hfz, hnd⟩ := hW
  have hA : DataW.TrodAll enc Try.prog W 0 (fun _ => true) true Try.f3.params.toList args.toList ds p := hA0
  rw [Try.params3] at hA hval
  obtain ⟨v0, vs0, d0, ds0, p0, q0, hargs, rfl, rfl, h0, r0⟩ := trodAll_cons hA
  obtain ⟨v1, vs1, d1, ds1, p1, q1, rfl, rfl, rfl, h1, r1⟩ := trodAll_cons r0
  obtain ⟨rfl, rfl, rfl⟩ := trodAll_nil r1
  obtain rfl : args = #[v0, v1] := by cases args; simp_all
  obtain ⟨rfl, rfl⟩ := trodVars_none hV
  have k0 := h0
  have lt0 : ∀ x ∈ p0, x.block < W.heap.size := by obtain ⟨m, hm⟩ := k0; exact DataW.trod_lt m _ _ _ hm
  have k1 := h1
  have lt1 : ∀ x ∈ p1, x.block < W.heap.size := by obtain ⟨m, hm⟩ := k1; exact DataW.trod_lt m _ _ _ hm
  obtain ⟨a0, rfl, rfl, rfl, w0⟩ := open_int Try.underlying2 (hval 0 2 v0 rfl rfl) h0
  obtain ⟨a1, rfl, rfl, rfl, w1⟩ := open_int Try.underlying5 (hval 1 5 v1 rfl rfl) h1
  clear hA0 hval0
  refine (walk a0 a1 w0 w1 W).mono fun e W' ⟨he, bel⟩ => ?_
  subst he
  exact ⟨_, rfl, _, _, _, [], _, [], hW', trodAll_mk1 (shut_bool Try.underlying4 _), (trodAll_cons_mk (Below.trod laidOut (by kernel_rfl) (of_decide_eq_true (by kernel_rfl)) k0 bel lt0) (trodAll_cons_mk (Below.trod laidOut (by kernel_rfl) (of_decide_eq_true (by kernel_rfl)) k1 bel lt1) trodAll_mk0)), rfl, bel.frame _, fun h => by cases h⟩

theorem over : Rows.fixedSquaresRow.holds Try.pinned (OpenSpec.ofChange Rows.fixedSquaresSpec) :=
  OpenClaim.holds_of_wide 3 Try.f3 rfl rfl rfl rfl rfl rfl rfl ⟨rfl, rfl, rfl, rfl, rfl⟩ rfl rfl rfl rfl rfl (by kernel_rfl) Try.func3 (by kernel_rfl)
    (of_decide_eq_true (by kernel_rfl)) (by unfold Func.isWrapper; first | (rw [if_pos (by decide +kernel)]; kernel_rfl) | (rw [if_neg (by decide +kernel)]; exact ⟨rfl, rfl⟩))
    (fun os started H enc _ => lifted os started H enc)

/-- The statement. -/
theorem proved : Rows.FixedSquaresSaid := over
end Go.Proofs.Ytllnkaoofecmiaa.fixedSquares
