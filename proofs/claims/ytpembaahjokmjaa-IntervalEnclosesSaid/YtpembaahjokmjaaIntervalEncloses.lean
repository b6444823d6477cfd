/- IntervalEncloses: the law returns true for every input, and each argument reads afterwards as it read before. Conditions: none. -/
import Derived.Test.YtpembaahjokmjaaRows
import Derived.Test.YtpembaahjokmjaaLaw2
import Derived.Test.YtpembaahjokmjaaIvLaws
import Derived.ProofKit
import Derived.OpenShut
import Derived.ShutString
import Derived.ChangeOld
import Derived.Below
import Derived.Lib.SmallJoins
namespace Go.Proofs.Ytpembaahjokmjaa.intervalEncloses
open Go.ChangeShapes Go.WideShapes Go.ChangeAt Go.RowKit
set_option linter.unusedVariables false

theorem own : ownKnob Try.prog.godebug = none := by kernel_rfl
theorem laidOut : laidOutB Try.prog = true := by kernel_rfl

set_option maxHeartbeats 4000000 in
theorem walk (k l m n i j : Int) (_wk : (Lit.int .i64 k).wf = true) (_wl : (Lit.int .i64 l).wf = true) (_wm : (Lit.int .i64 m).wf = true) (_wn : (Lit.int .i64 n).wf = true) (_wi : (Lit.int .i64 i).wf = true) (_wj : (Lit.int .i64 j).wf = true) (w : World) :
    Calls Try.prog 5 #[.int .i64 k, .int .i64 l, .int .i64 m, .int .i64 n, .int .i64 i, .int .i64 j] w fun e w' => e = .returned (.bool true) ∧ Below w.heap.size w w' := by
  go_enter Try.func5, Try.ntmps5
  have hB0 := Below.refl w.heap.size w
  go_wp2_with fail
  refine (interval_any _ _ _).mono ?_
  rintro e w1 ⟨l1, h1, hv1, rfl, hb⟩
  have hB1 := below_step hB0 hb
  clear hb hB0
  have Hv1 := Lib.hid hv1; clear hv1
  go_wp2_with fail
  refine (interval_any _ _ _).mono ?_
  rintro e w2 ⟨l2, h2, hv2, rfl, hb⟩
  have hB2 := below_step hB1 hb
  clear hb hB1
  have Hv2 := Lib.hid hv2; clear hv2
  go_wp2_with fail
  have hB3 := below_alloc (below_alloc hB2 (.cells #[.int .i64 l1, .int .i64 h1] 23)) (.cells #[.int .i64 l2, .int .i64 h2] 23)
  have t1_3 : Holds ((w2.alloc (.cells #[.int .i64 l1, .int .i64 h1] 23)).alloc (.cells #[.int .i64 l2, .int .i64 h2] 23)) w2.heap.size l1 h1 := (Holds.new _ _ _ _).alloc _
  have t2_3 : Holds ((w2.alloc (.cells #[.int .i64 l1, .int .i64 h1] 23)).alloc (.cells #[.int .i64 l2, .int .i64 h2] 23)) (w2.heap.size + 1) l2 h2 := Holds.new' _ _ _ _ _
  clear hB2
  generalize ((w2.alloc (.cells #[.int .i64 l1, .int .i64 h1] 23)).alloc (.cells #[.int .i64 l2, .int .i64 h2] 23)) = w3 at *
  obtain ⟨p1, q1, _⟩ := id t1_3
  obtain ⟨p2, q2, _⟩ := id t2_3
  obtain ⟨u0, u1, u2⟩ := Fx.vb_true.1 Hv1.out
  obtain ⟨v0, v1, v2⟩ := Fx.vb_true.1 Hv2.out
  have tok1 : True := trivial
  have tok2 : True := trivial
  have hK := Keep2.of t1_3 t2_3 hB3
  clear t1_3 t2_3 hB3
  go_region_held3 (fun w' => w'.cell? ⟨w2.heap.size, 0, none⟩ = some (.int .i64 l1) ∧ w'.cell? ⟨w2.heap.size, 1, none⟩ = some (.int .i64 h1) ∧ w'.cell? ⟨w2.heap.size + 1, 0, none⟩ = some (.int .i64 l2) ∧ w'.cell? ⟨w2.heap.size + 1, 1, none⟩ = some (.int .i64 h2) ∧ w2.heap.size < w'.heap.size ∧ w2.heap.size + 1 < w'.heap.size ∧ Below w.heap.size w w') (first | exact Keep2.step (by assumption) (by assumption) | exact Keep2.drew (by assumption) | exact Keep2.drewN (by assumption) _ | assumption) (first | (go_at_call 22; have _t := tok1; refine (part_any l1 h1 _ _ _ Hv1.out).mono ?_; rintro e w' ⟨x1, z1, lx1, xz1, zx1, rfl, hb⟩; clear _t; clear tok1) | (go_at_call 22; have _t := tok2; refine (part_any l2 h2 _ _ _ Hv2.out).mono ?_; rintro e w' ⟨x2, z2, lx2, xz2, zx2, rfl, hb⟩; clear _t; clear tok2))
  rename_i hH
  obtain ⟨p1, q1, p2, q2, s1, s2, hB4⟩ := id hH
  have t1_4 : Holds _ _ _ _ := ⟨p1, q1, s1⟩
  have t2_4 : Holds _ _ _ _ := ⟨p2, q2, s2⟩
  clear hH s1 s2 hK
  have f1 := Lib.hid (Fx.holds_add (x := x1) (y := x2) Hv1.out Hv2.out (by omega) (by omega) (by omega) (by omega))
  have f2 := Lib.hid (Fx.holds_sub (x := x1) (y := x2) Hv1.out Hv2.out (by omega) (by omega) (by omega) (by omega))
  have f3 := Lib.hid (Fx.holds_mulDown (x := x1) (y := x2) Hv1.out Hv2.out (by omega) (by omega) (by omega) (by omega))
  have f4 := Lib.hid (Fx.holds_mulUp (x := x1) (y := x2) Hv1.out Hv2.out (by omega) (by omega) (by omega) (by omega))
  have f5 := Lib.hid (Fx.holds_square (x := x1) Hv1.out (by omega) (by omega))
  have f6 := Lib.hid (Fx.holds_neg (x := x1) Hv1.out (by omega) (by omega))
  go_wp2_with fail
  refine (awake_any _).mono ?_
  rintro e w5 ⟨rfl, hb⟩
  have hB5 := below_step hB4 hb
  have t1_5 := t1_4.step hb
  have t2_5 := t2_4.step hb
  clear hb hB4 t1_4 t2_4 p1 q1 p2 q2
  obtain ⟨p1, q1, _⟩ := id t1_5
  obtain ⟨p2, q2, _⟩ := id t2_5
  go_wp2_with fail
  refine (add_any _ _ _ _ _).mono ?_
  rintro e w6 ⟨rfl, hb⟩
  have hB6 := below_step hB5 hb
  have t1_6 := t1_5.step hb
  have t2_6 := t2_5.step hb
  clear hb hB5 t1_5 t2_5 p1 q1 p2 q2
  obtain ⟨p1, q1, _⟩ := id t1_6
  obtain ⟨p2, q2, _⟩ := id t2_6
  go_wp2_with fail
  refine (holds_any _ _ _ _ f1.out).mono ?_
  rintro e w7 ⟨rfl, hb⟩
  have hB7 := below_step hB6 hb
  have t1_7 := t1_6.step hb
  have t2_7 := t2_6.step hb
  clear hb hB6 t1_6 t2_6 p1 q1 p2 q2
  obtain ⟨p1, q1, _⟩ := id t1_7
  obtain ⟨p2, q2, _⟩ := id t2_7
  go_wp2_with fail
  refine (sub_any _ _ _ _ _).mono ?_
  rintro e w8 ⟨rfl, hb⟩
  have hB8 := below_step hB7 hb
  have t1_8 := t1_7.step hb
  have t2_8 := t2_7.step hb
  clear hb hB7 t1_7 t2_7 p1 q1 p2 q2
  obtain ⟨p1, q1, _⟩ := id t1_8
  obtain ⟨p2, q2, _⟩ := id t2_8
  go_wp2_with fail
  refine (holds_any _ _ _ _ f2.out).mono ?_
  rintro e w9 ⟨rfl, hb⟩
  have hB9 := below_step hB8 hb
  have t1_9 := t1_8.step hb
  have t2_9 := t2_8.step hb
  clear hb hB8 t1_8 t2_8 p1 q1 p2 q2
  obtain ⟨p1, q1, _⟩ := id t1_9
  obtain ⟨p2, q2, _⟩ := id t2_9
  go_wp2_with fail
  refine (mul_any _ _ _ _ _).mono ?_
  rintro e w10 ⟨rfl, hb⟩
  have hB10 := below_step hB9 hb
  have t1_10 := t1_9.step hb
  have t2_10 := t2_9.step hb
  clear hb hB9 t1_9 t2_9 p1 q1 p2 q2
  obtain ⟨p1, q1, _⟩ := id t1_10
  obtain ⟨p2, q2, _⟩ := id t2_10
  go_wp2_with fail
  refine (rmulDown_any _ _ _).mono ?_
  rintro e w' ⟨rfl, rfl⟩
  go_wp2_with fail
  refine (holds_any _ _ _ _ f3.out).mono ?_
  rintro e w11 ⟨rfl, hb⟩
  have hB11 := below_step hB10 hb
  have t1_11 := t1_10.step hb
  have t2_11 := t2_10.step hb
  clear hb hB10 t1_10 t2_10 p1 q1 p2 q2
  obtain ⟨p1, q1, _⟩ := id t1_11
  obtain ⟨p2, q2, _⟩ := id t2_11
  go_wp2_with fail
  refine (mul_any _ _ _ _ _).mono ?_
  rintro e w12 ⟨rfl, hb⟩
  have hB12 := below_step hB11 hb
  have t1_12 := t1_11.step hb
  have t2_12 := t2_11.step hb
  clear hb hB11 t1_11 t2_11 p1 q1 p2 q2
  obtain ⟨p1, q1, _⟩ := id t1_12
  obtain ⟨p2, q2, _⟩ := id t2_12
  go_wp2_with fail
  refine (rmulUp_any _ _ _).mono ?_
  rintro e w' ⟨rfl, rfl⟩
  go_wp2_with fail
  refine (holds_any _ _ _ _ f4.out).mono ?_
  rintro e w13 ⟨rfl, hb⟩
  have hB13 := below_step hB12 hb
  have t1_13 := t1_12.step hb
  have t2_13 := t2_12.step hb
  clear hb hB12 t1_12 t2_12 p1 q1 p2 q2
  obtain ⟨p1, q1, _⟩ := id t1_13
  obtain ⟨p2, q2, _⟩ := id t2_13
  go_wp2_with fail
  refine (square_any _ _ _).mono ?_
  rintro e w14 ⟨rfl, hb⟩
  have hB14 := below_step hB13 hb
  have t1_14 := t1_13.step hb
  have t2_14 := t2_13.step hb
  clear hb hB13 t1_13 t2_13 p1 q1 p2 q2
  obtain ⟨p1, q1, _⟩ := id t1_14
  obtain ⟨p2, q2, _⟩ := id t2_14
  go_wp2_with fail
  refine (rmulDown_any _ _ _).mono ?_
  rintro e w' ⟨rfl, rfl⟩
  go_wp2_with fail
  refine (holds_any _ _ _ _ f5.out).mono ?_
  rintro e w15 ⟨rfl, hb⟩
  have hB15 := below_step hB14 hb
  have t1_15 := t1_14.step hb
  have t2_15 := t2_14.step hb
  clear hb hB14 t1_14 t2_14 p1 q1 p2 q2
  obtain ⟨p1, q1, _⟩ := id t1_15
  obtain ⟨p2, q2, _⟩ := id t2_15
  go_wp2_with fail
  refine (neg_any _ _ _).mono ?_
  rintro e w16 ⟨rfl, hb⟩
  have hB16 := below_step hB15 hb
  have t1_16 := t1_15.step hb
  have t2_16 := t2_15.step hb
  clear hb hB15 t1_15 t2_15 p1 q1 p2 q2
  obtain ⟨p1, q1, _⟩ := id t1_16
  obtain ⟨p2, q2, _⟩ := id t2_16
  go_wp2_with fail
  refine (holds_any _ _ _ _ f6.out).mono ?_
  rintro e w17 ⟨rfl, hb⟩
  have hB17 := below_step hB16 hb
  have t1_17 := t1_16.step hb
  have t2_17 := t2_16.step hb
  clear hb hB16 t1_16 t2_16 p1 q1 p2 q2
  obtain ⟨p1, q1, _⟩ := id t1_17
  obtain ⟨p2, q2, _⟩ := id t2_17
  go_wp2_with fail
  go_ret
  exact ⟨rfl, hB17⟩

set_option maxRecDepth 100000 in
theorem lifted (os : Os) (started : os.Started) (H : Type) (enc : TypeId × Value → H) :
    ReturnsInHanded {} Try.checked os 5 .any (Rows.intervalEnclosesSpec.pre6 enc Try.prog Try.f5 Rows.intervalEnclosesRow.domain false) (Rows.intervalEnclosesSpec.post enc Try.prog Try.f5 false true false false) := by
  refine returnsInHanded_of_change (C := Try.checked) own started (by kernel_rfl) Try.func5
    (ChangeSpec.witness6 (enc := enc) (C := Try.checked) false ⟨#[], #[.int .i64 0, .int .i64 0, .int .i64 0, .int .i64 0, .int .i64 0, .int .i64 0], []⟩ 8 (by kernel_rfl) (by kernel_rfl) (by kernel_rfl) (by kernel_rfl)) ?_
  intro W base args ds gs before hval0 hW hcnd _
  have hval : ∀ (j : Nat) t v, Try.f5.params[j]? = some t → args[j]? = some v → Value.okWide Try.prog W .any base t v := hval0
  have hW' := hW
  obtain ⟨p, q, hA0, hV, rfl, hfz, hnd⟩ := hW
  have hA : DataW.TrodAll enc Try.prog W 0 (fun _ => true) true Try.f5.params.toList args.toList ds p := hA0
  rw [Try.params5] at hA hval
  obtain ⟨v0, vs0, d0, ds0, p0, q0, hargs, rfl, rfl, h0, r0⟩ := trodAll_cons hA
  obtain ⟨v1, vs1, d1, ds1, p1, q1, rfl, rfl, rfl, h1, r1⟩ := trodAll_cons r0
  obtain ⟨v2, vs2, d2, ds2, p2, q2, rfl, rfl, rfl, h2, r2⟩ := trodAll_cons r1
  obtain ⟨v3, vs3, d3, ds3, p3, q3, rfl, rfl, rfl, h3, r3⟩ := trodAll_cons r2
  obtain ⟨v4, vs4, d4, ds4, p4, q4, rfl, rfl, rfl, h4, r4⟩ := trodAll_cons r3
  obtain ⟨v5, vs5, d5, ds5, p5, q5, rfl, rfl, rfl, h5, r5⟩ := trodAll_cons r4
  obtain ⟨rfl, rfl, rfl⟩ := trodAll_nil r5
  obtain rfl : args = #[v0, v1, v2, v3, v4, v5] := by cases args; simp_all
  obtain ⟨rfl, rfl⟩ := trodVars_none hV
  have k0 := h0
  have lt0 : ∀ x ∈ p0, x.block < W.heap.size := by obtain ⟨m, hm⟩ := k0; exact DataW.trod_lt m _ _ _ hm
  have k1 := h1
  have lt1 : ∀ x ∈ p1, x.block < W.heap.size := by obtain ⟨m, hm⟩ := k1; exact DataW.trod_lt m _ _ _ hm
  have k2 := h2
  have lt2 : ∀ x ∈ p2, x.block < W.heap.size := by obtain ⟨m, hm⟩ := k2; exact DataW.trod_lt m _ _ _ hm
  have k3 := h3
  have lt3 : ∀ x ∈ p3, x.block < W.heap.size := by obtain ⟨m, hm⟩ := k3; exact DataW.trod_lt m _ _ _ hm
  have k4 := h4
  have lt4 : ∀ x ∈ p4, x.block < W.heap.size := by obtain ⟨m, hm⟩ := k4; exact DataW.trod_lt m _ _ _ hm
  have k5 := h5
  have lt5 : ∀ x ∈ p5, x.block < W.heap.size := by obtain ⟨m, hm⟩ := k5; exact DataW.trod_lt m _ _ _ hm
  obtain ⟨a0, rfl, rfl, rfl, w0⟩ := open_int Try.underlying3 (hval 0 3 v0 rfl rfl) h0
  obtain ⟨a1, rfl, rfl, rfl, w1⟩ := open_int Try.underlying3 (hval 1 3 v1 rfl rfl) h1
  obtain ⟨a2, rfl, rfl, rfl, w2⟩ := open_int Try.underlying3 (hval 2 3 v2 rfl rfl) h2
  obtain ⟨a3, rfl, rfl, rfl, w3⟩ := open_int Try.underlying3 (hval 3 3 v3 rfl rfl) h3
  obtain ⟨a4, rfl, rfl, rfl, w4⟩ := open_int Try.underlying3 (hval 4 3 v4 rfl rfl) h4
  obtain ⟨a5, rfl, rfl, rfl, w5⟩ := open_int Try.underlying3 (hval 5 3 v5 rfl rfl) h5
  clear hA0 hval0
  refine (walk a0 a1 a2 a3 a4 a5 w0 w1 w2 w3 w4 w5 W).mono fun e W' ⟨he, bel⟩ => ?_
  subst he
  exact ⟨_, rfl, _, _, _, [], _, [], hW', trodAll_mk1 (shut_bool Try.underlying4 _), (trodAll_cons_mk (Below.trod laidOut (by kernel_rfl) (of_decide_eq_true (by kernel_rfl)) k0 bel lt0) (trodAll_cons_mk (Below.trod laidOut (by kernel_rfl) (of_decide_eq_true (by kernel_rfl)) k1 bel lt1) (trodAll_cons_mk (Below.trod laidOut (by kernel_rfl) (of_decide_eq_true (by kernel_rfl)) k2 bel lt2) (trodAll_cons_mk (Below.trod laidOut (by kernel_rfl) (of_decide_eq_true (by kernel_rfl)) k3 bel lt3) (trodAll_cons_mk (Below.trod laidOut (by kernel_rfl) (of_decide_eq_true (by kernel_rfl)) k4 bel lt4) (trodAll_cons_mk (Below.trod laidOut (by kernel_rfl) (of_decide_eq_true (by kernel_rfl)) k5 bel lt5) trodAll_mk0)))))), rfl, bel.frame _, fun h => by cases h⟩

theorem over : Rows.intervalEnclosesRow.holds Try.pinned (OpenSpec.ofChange Rows.intervalEnclosesSpec) :=
  OpenClaim.holds_of_wide 5 Try.f5 rfl rfl rfl rfl rfl rfl rfl ⟨rfl, rfl, rfl, rfl, rfl⟩ rfl rfl rfl rfl rfl (by kernel_rfl) Try.func5 (by kernel_rfl)
    (of_decide_eq_true (by kernel_rfl)) (by unfold Func.isWrapper; first | (rw [if_pos (by decide +kernel)]; kernel_rfl) | (rw [if_neg (by decide +kernel)]; exact ⟨rfl, rfl⟩))
    (fun os started H enc _ => lifted os started H enc)

/-- The statement. -/
theorem proved : Rows.IntervalEnclosesSaid := over
end Go.Proofs.Ytpembaahjokmjaa.intervalEncloses
