/- IntervalRootSquares: the law returns true for every input, and each argument reads afterwards as it read before. Conditions: none. -/
import Derived.Test.YtpembaahjokmjaaRows
import Derived.Test.YtpembaahjokmjaaLaw2
import Derived.Test.YtpembaahjokmjaaIvLaws
import Derived.ProofKit
import Derived.OpenShut
import Derived.ShutString
import Derived.ChangeOld
import Derived.Below
import Derived.Lib.SmallJoins
namespace Go.Proofs.Ytpembaahjokmjaa.intervalRootSquares
open Go.ChangeShapes Go.WideShapes Go.ChangeAt Go.RowKit
set_option linter.unusedVariables false

theorem own : ownKnob Try.prog.godebug = none := by kernel_rfl
theorem laidOut : laidOutB Try.prog = true := by kernel_rfl

set_option maxHeartbeats 4000000 in
theorem walk (k l : Int) (_wk : (Lit.int .i64 k).wf = true) (_wl : (Lit.int .i64 l).wf = true) (w : World) :
    Calls Try.prog 8 #[.int .i64 k, .int .i64 l] w fun e w' => e = .returned (.bool true) ∧ Below w.heap.size w w' := by
  go_enter Try.func8, Try.ntmps8
  have hB0 := Below.refl w.heap.size w
  go_wp2_with fail
  refine (interval_any _ _ _).mono ?_
  rintro e w1 ⟨l1, h1, hv1, rfl, hb⟩
  have hB1 := below_step hB0 hb
  clear hb hB0
  obtain ⟨u0, u1, u2⟩ := Fx.vb_true.1 hv1
  clear hv1
  by_cases c : l1 < 0
  · have hv : Fx.vb 0 (max 0 h1) = true := by rw [Fx.vb_true]; omega
    have a1 := Fx.root_squares hv (by omega)
    clear hv
    go_wp2_with fail
    have hB2 := below_alloc hB1 (.cells #[.int .i64 0, .int .i64 (max 0 h1)] 23)
    have t1_2 : Holds (w1.alloc (.cells #[.int .i64 0, .int .i64 (max 0 h1)] 23)) w1.heap.size 0 (max 0 h1) := Holds.new _ _ _ _
    clear hB1
    generalize (w1.alloc (.cells #[.int .i64 0, .int .i64 (max 0 h1)] 23)) = w2 at *
    obtain ⟨p1, q1, _⟩ := id t1_2
    have hK := Keep1.of t1_2 hB2
    clear t1_2 hB2
    go_region_held3 (fun w' => w'.cell? ⟨w1.heap.size, 0, none⟩ = some (.int .i64 0) ∧ w'.cell? ⟨w1.heap.size, 1, none⟩ = some (.int .i64 (max 0 h1)) ∧ w1.heap.size < w'.heap.size ∧ Below w.heap.size w w') (first | exact Keep1.step (by assumption) (by assumption) | exact Keep1.drew (by assumption) | exact Keep1.drewN (by assumption) _ | assumption) (first | (go_at_call 12; refine (awake_any _).mono ?_; rintro e w' ⟨rfl, hb⟩) | (go_at_call 33; refine (sqrt_any _ _ _).mono ?_; rintro e w' ⟨rfl, hb⟩) | (go_at_call 29; refine (square_any _ _ _).mono ?_; rintro e w' ⟨rfl, hb⟩) | (go_at_call 20; refine (within_any _ _ _ _ _).mono ?_; rintro e w' ⟨rfl, hb⟩))
    go_wp2_with fail
    go_ret
    rename_i hH
    exact ⟨rfl, hH.2.2.2⟩
  · have hv : Fx.vb l1 h1 = true := by rw [Fx.vb_true]; omega
    have a1 := Fx.root_squares hv (by omega)
    clear hv
    go_wp2_with fail
    have hB2 := below_alloc hB1 (.cells #[.int .i64 l1, .int .i64 h1] 23)
    have t1_2 : Holds (w1.alloc (.cells #[.int .i64 l1, .int .i64 h1] 23)) w1.heap.size l1 h1 := Holds.new _ _ _ _
    clear hB1
    generalize (w1.alloc (.cells #[.int .i64 l1, .int .i64 h1] 23)) = w2 at *
    obtain ⟨p1, q1, _⟩ := id t1_2
    have hK := Keep1.of t1_2 hB2
    clear t1_2 hB2
    go_region_held3 (fun w' => w'.cell? ⟨w1.heap.size, 0, none⟩ = some (.int .i64 l1) ∧ w'.cell? ⟨w1.heap.size, 1, none⟩ = some (.int .i64 h1) ∧ w1.heap.size < w'.heap.size ∧ Below w.heap.size w w') (first | exact Keep1.step (by assumption) (by assumption) | exact Keep1.drew (by assumption) | exact Keep1.drewN (by assumption) _ | assumption) (first | (go_at_call 12; refine (awake_any _).mono ?_; rintro e w' ⟨rfl, hb⟩) | (go_at_call 33; refine (sqrt_any _ _ _).mono ?_; rintro e w' ⟨rfl, hb⟩) | (go_at_call 29; refine (square_any _ _ _).mono ?_; rintro e w' ⟨rfl, hb⟩) | (go_at_call 20; refine (within_any _ _ _ _ _).mono ?_; rintro e w' ⟨rfl, hb⟩))
    go_wp2_with fail
    go_ret
    rename_i hH
    exact ⟨rfl, hH.2.2.2⟩

set_option maxRecDepth 100000 in
theorem lifted (os : Os) (started : os.Started) (H : Type) (enc : TypeId × Value → H) :
    ReturnsInHanded {} Try.checked os 8 .any (Rows.intervalRootSquaresSpec.pre6 enc Try.prog Try.f8 Rows.intervalRootSquaresRow.domain false) (Rows.intervalRootSquaresSpec.post enc Try.prog Try.f8 false true false false) := by
  refine returnsInHanded_of_change (C := Try.checked) own started (by kernel_rfl) Try.func8
    (ChangeSpec.witness6 (enc := enc) (C := Try.checked) false ⟨#[], #[.int .i64 0, .int .i64 0], []⟩ 8 (by kernel_rfl) (by kernel_rfl) (by kernel_rfl) (by kernel_rfl)) ?_
  intro W base args ds gs before hval0 hW hcnd _
  have hval : ∀ (j : Nat) t v, Try.f8.params[j]? = some t → args[j]? = some v → Value.okWide Try.prog W .any base t v := hval0
  have hW' := hW
  obtain ⟨p, q, hA0, hV, rfl, hfz, hnd⟩ := hW
  have hA : DataW.TrodAll enc Try.prog W 0 (fun _ => true) true Try.f8.params.toList args.toList ds p := hA0
  rw [Try.params8] at hA hval
  obtain ⟨v0, vs0, d0, ds0, p0, q0, hargs, rfl, rfl, h0, r0⟩ := trodAll_cons hA
  obtain ⟨v1, vs1, d1, ds1, p1, q1, rfl, rfl, rfl, h1, r1⟩ := trodAll_cons r0
  obtain ⟨rfl, rfl, rfl⟩ := trodAll_nil r1
  obtain rfl : args = #[v0, v1] := by cases args; simp_all
  obtain ⟨rfl, rfl⟩ := trodVars_none hV
  have k0 := h0
  have lt0 : ∀ x ∈ p0, x.block < W.heap.size := by obtain ⟨m, hm⟩ := k0; exact DataW.trod_lt m _ _ _ hm
  have k1 := h1
  have lt1 : ∀ x ∈ p1, x.block < W.heap.size := by obtain ⟨m, hm⟩ := k1; exact DataW.trod_lt m _ _ _ hm
  obtain ⟨a0, rfl, rfl, rfl, w0⟩ := open_int Try.underlying3 (hval 0 3 v0 rfl rfl) h0
  obtain ⟨a1, rfl, rfl, rfl, w1⟩ := open_int Try.underlying3 (hval 1 3 v1 rfl rfl) h1
  clear hA0 hval0
  refine (walk a0 a1 w0 w1 W).mono fun e W' ⟨he, bel⟩ => ?_
  subst he
  exact ⟨_, rfl, _, _, _, [], _, [], hW', trodAll_mk1 (shut_bool Try.underlying4 _), (trodAll_cons_mk (Below.trod laidOut (by kernel_rfl) (of_decide_eq_true (by kernel_rfl)) k0 bel lt0) (trodAll_cons_mk (Below.trod laidOut (by kernel_rfl) (of_decide_eq_true (by kernel_rfl)) k1 bel lt1) trodAll_mk0)), rfl, bel.frame _, fun h => by cases h⟩

theorem over : Rows.intervalRootSquaresRow.holds Try.pinned (OpenSpec.ofChange Rows.intervalRootSquaresSpec) :=
  OpenClaim.holds_of_wide 8 Try.f8 rfl rfl rfl rfl rfl rfl rfl ⟨rfl, rfl, rfl, rfl, rfl⟩ rfl rfl rfl rfl rfl (by kernel_rfl) Try.func8 (by kernel_rfl)
    (of_decide_eq_true (by kernel_rfl)) (by unfold Func.isWrapper; first | (rw [if_pos (by decide +kernel)]; kernel_rfl) | (rw [if_neg (by decide +kernel)]; exact ⟨rfl, rfl⟩))
    (fun os started H enc _ => lifted os started H enc)

/-- The statement. -/
theorem proved : Rows.IntervalRootSquaresSaid := over
end Go.Proofs.Ytpembaahjokmjaa.intervalRootSquares
