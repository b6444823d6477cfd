/- IntervalMonotone: the law returns true for every input, and each argument reads afterwards as it read before. Conditions: none. -/
import Derived.Test.YtpembaahjokmjaaRows
import Derived.Test.YtpembaahjokmjaaLaw2
import Derived.Test.YtpembaahjokmjaaIvLaws
import Derived.ProofKit
import Derived.OpenShut
import Derived.ShutString
import Derived.ChangeOld
import Derived.Below
import Derived.Lib.SmallJoins
namespace Go.Proofs.Ytpembaahjokmjaa.intervalMonotone
open Go.ChangeShapes Go.WideShapes Go.ChangeAt Go.RowKit
set_option linter.unusedVariables false

theorem own : ownKnob Try.prog.godebug = none := by kernel_rfl
theorem laidOut : laidOutB Try.prog = true := by kernel_rfl

/-- What the two parts leave: two new boxes, each a part of its interval, beside the two old ones. -/
def MonoCut (w : World) (b : Nat) (l1 h1 l2 h2 : Int) (s17 s18 : Value) (wx : World) : Prop :=
  ∃ (b3 b4 : Nat) (x1 z1 x2 z2 : Int), s17 = .pointer (some ⟨b3, 0, none⟩) ∧ s18 = .pointer (some ⟨b4, 0, none⟩) ∧ l1 ≤ x1 ∧ x1 ≤ z1 ∧ z1 ≤ h1 ∧ l2 ≤ x2 ∧ x2 ≤ z2 ∧ z2 ≤ h2 ∧ Keep4 w b l1 h1 (b + 1) l2 h2 b3 x1 z1 b4 x2 z2 wx

set_option maxRecDepth 100000 in
set_option maxHeartbeats 4000000 in
theorem walk (k l m n i j x : Int) (_wk : (Lit.int .i64 k).wf = true) (_wl : (Lit.int .i64 l).wf = true) (_wm : (Lit.int .i64 m).wf = true) (_wn : (Lit.int .i64 n).wf = true) (_wi : (Lit.int .i64 i).wf = true) (_wj : (Lit.int .i64 j).wf = true) (_wx : (Lit.int .i64 x).wf = true) (w : World) :
    Calls Try.prog 10 #[.int .i64 k, .int .i64 l, .int .i64 m, .int .i64 n, .int .i64 i, .int .i64 j, .int .i64 x] w fun e w' => e = .returned (.bool true) ∧ Below w.heap.size w w' := by
  go_enter Try.func10, Try.ntmps10
  have hB0 := Below.refl w.heap.size w
  go_wp2_with fail
  refine (interval_any _ _ _).mono ?_
  rintro e w1 ⟨l1, h1, hv1, rfl, hb⟩
  have hB1 := below_step hB0 hb
  clear hb hB0
  have Hv1 := Lib.hid hv1; clear hv1
  go_wp2_with fail
  refine (interval_any _ _ _).mono ?_
  rintro e w2 ⟨l2, h2, hv2, rfl, hb⟩
  have hB2 := below_step hB1 hb
  clear hb hB1
  have Hv2 := Lib.hid hv2; clear hv2
  go_wp2_with fail
  have hB3 := below_alloc (below_alloc hB2 (.cells #[.int .i64 l1, .int .i64 h1] 23)) (.cells #[.int .i64 l2, .int .i64 h2] 23)
  have t1_3 : Holds ((w2.alloc (.cells #[.int .i64 l1, .int .i64 h1] 23)).alloc (.cells #[.int .i64 l2, .int .i64 h2] 23)) w2.heap.size l1 h1 := (Holds.new _ _ _ _).alloc _
  have t2_3 : Holds ((w2.alloc (.cells #[.int .i64 l1, .int .i64 h1] 23)).alloc (.cells #[.int .i64 l2, .int .i64 h2] 23)) (w2.heap.size + 1) l2 h2 := Holds.new' _ _ _ _ _
  clear hB2
  generalize ((w2.alloc (.cells #[.int .i64 l1, .int .i64 h1] 23)).alloc (.cells #[.int .i64 l2, .int .i64 h2] 23)) = w3 at *
  obtain ⟨p1, q1, _⟩ := id t1_3
  obtain ⟨p2, q2, _⟩ := id t2_3
  obtain ⟨u0, u1, u2⟩ := Fx.vb_true.1 Hv1.out
  obtain ⟨v0, v1, v2⟩ := Fx.vb_true.1 Hv2.out
  have tok1 : True := trivial
  have tok2 : True := trivial
  have s13 : w2.heap.size < w3.heap.size := t1_3.2.2
  have s23 : w2.heap.size + 1 < w3.heap.size := t2_3.2.2
  have sB3 : w.heap.size ≤ w3.heap.size := hB3.size
  go_upto_region 2 with fail
  go_cut [17, 18] (fun s17 s18 wx => MonoCut w w2.heap.size l1 h1 l2 h2 s17 s18 wx)
  case first =>
    have hK := Keep2.of t1_3 t2_3 hB3
    clear t1_3 t2_3 hB3
    go_region_held3 (fun w' => w'.cell? ⟨w2.heap.size, 0, none⟩ = some (.int .i64 l1) ∧ w'.cell? ⟨w2.heap.size, 1, none⟩ = some (.int .i64 h1) ∧ w'.cell? ⟨w2.heap.size + 1, 0, none⟩ = some (.int .i64 l2) ∧ w'.cell? ⟨w2.heap.size + 1, 1, none⟩ = some (.int .i64 h2) ∧ w2.heap.size < w'.heap.size ∧ w2.heap.size + 1 < w'.heap.size ∧ Below w.heap.size w w') ((show Keep2 w w2.heap.size l1 h1 (w2.heap.size + 1) l2 h2 _; repeat (first | with_reducible exact hP2 | with_reducible exact hP1 | with_reducible exact hK | with_reducible refine Keep2.alloc ?_ _ | with_reducible refine Keep2.drew ?_ | with_reducible refine Keep2.drewN ?_ _ | ((with_reducible refine Keep2.setCell ?_ _ _ ?_ ?_ ?_); rotate_left; (simp; omega); (simp; omega); (simp; omega))))) (first | (go_at_call 22; have _t := tok1; refine (part_any l1 h1 _ _ _ Hv1.out).mono ?_; rintro e wp1 ⟨x1, z1, lx1, xz1, zx1, rfl, hb1⟩; have hP1 : Keep2 w (w2.heap.size) l1 h1 (w2.heap.size + 1) l2 h2 wp1 := Keep2.step (by (show Keep2 w w2.heap.size l1 h1 (w2.heap.size + 1) l2 h2 _; repeat (first | with_reducible exact hP2 | with_reducible exact hP1 | with_reducible exact hK | with_reducible refine Keep2.alloc ?_ _ | with_reducible refine Keep2.drew ?_ | with_reducible refine Keep2.drewN ?_ _ | ((with_reducible refine Keep2.setCell ?_ _ _ ?_ ?_ ?_); rotate_left; (simp; omega); (simp; omega); (simp; omega))))) hb1; obtain ⟨hc1, hf1⟩ := bcell hb1; have hl1 := blt hb1; have hm1 := ble hb1; have hs1 := hb1.size; (try simp at hs1); clear _t; clear tok1) | (go_at_call 22; have _t := tok2; refine (part_any l2 h2 _ _ _ Hv2.out).mono ?_; rintro e wp2 ⟨x2, z2, lx2, xz2, zx2, rfl, hb2⟩; have hP2 : Keep2 w (w2.heap.size) l1 h1 (w2.heap.size + 1) l2 h2 wp2 := Keep2.step (by (show Keep2 w w2.heap.size l1 h1 (w2.heap.size + 1) l2 h2 _; repeat (first | with_reducible exact hP2 | with_reducible exact hP1 | with_reducible exact hK | with_reducible refine Keep2.alloc ?_ _ | with_reducible refine Keep2.drew ?_ | with_reducible refine Keep2.drewN ?_ _ | ((with_reducible refine Keep2.setCell ?_ _ _ ?_ ?_ ?_); rotate_left; (simp; omega); (simp; omega); (simp; omega))))) hb2; obtain ⟨hc2, hf2⟩ := bcell hb2; have hl2 := blt hb2; have hm2 := ble hb2; have hs2 := hb2.size; (try simp at hs2); have hbb := below_step (by first | exact hb1 | exact below_alloc hb1 _ | exact below_alloc (below_alloc hb1 _) _) hb2; obtain ⟨hc3, hf3⟩ := bcell hbb; have hl3 := blt hbb; have hm3 := ble hbb; have hs3 := hbb.size; (try simp at hs3); clear _t; clear tok2))
    all_goals go_wp2_with fail
    all_goals go_meet
    all_goals rename_i hH
    all_goals obtain ⟨k1, k2, k3, k4, k5, k6, k7⟩ := hH
    all_goals refine ⟨_, _, x1, z1, x2, z2, rfl, rfl, lx1, xz1, zx1, lx2, xz2, zx2, k1, k2, k3, k4, ?_, ?_, ?_, ?_, k5, k6, ?_, ?_, k7⟩
    all_goals first | (simp; done) | (simp; omega) | (go_simp; done) | (go_simp; refine World.cell?_setCell_same' _ _ _ ?_; go_simp)
  case rest =>
    obtain ⟨b3, b4, x1, z1, x2, z2, rfl, rfl, lx1, xz1, zx1, lx2, xz2, zx2, hK⟩ := hcut
    have g1 : Fx.vb x1 z1 = true := by rw [Fx.vb_true]; omega
    have g2 : Fx.vb x2 z2 = true := by rw [Fx.vb_true]; omega
    have f1 := Fx.add_within g1 g2 Hv1.out Hv2.out lx1 zx1 lx2 zx2
    have f2 := Fx.sub_within g1 g2 Hv1.out Hv2.out lx1 zx1 lx2 zx2
    have f3 := Fx.mul_within g1 g2 Hv1.out Hv2.out lx1 zx1 lx2 zx2
    have f4 := Fx.hull_within g1 g2 Hv1.out Hv2.out lx1 zx1 lx2 zx2
    have f5 := Fx.neg_within g1 Hv1.out lx1 zx1
    have f6 := Fx.square_within g1 Hv1.out lx1 zx1
    have f7 := Fx.sqrt_within g1 Hv1.out lx1 zx1
    have f8 := Fx.scale_within (k := x) g1 Hv1.out lx1 zx1
    clear g1 g2
    go_wp2_with fail
    go_region_held3 (fun w' => w'.cell? ⟨w2.heap.size, 0, none⟩ = some (.int .i64 l1) ∧ w'.cell? ⟨w2.heap.size, 1, none⟩ = some (.int .i64 h1) ∧ w'.cell? ⟨w2.heap.size + 1, 0, none⟩ = some (.int .i64 l2) ∧ w'.cell? ⟨w2.heap.size + 1, 1, none⟩ = some (.int .i64 h2) ∧ w'.cell? ⟨b3, 0, none⟩ = some (.int .i64 x1) ∧ w'.cell? ⟨b3, 1, none⟩ = some (.int .i64 z1) ∧ w'.cell? ⟨b4, 0, none⟩ = some (.int .i64 x2) ∧ w'.cell? ⟨b4, 1, none⟩ = some (.int .i64 z2) ∧ w2.heap.size < w'.heap.size ∧ w2.heap.size + 1 < w'.heap.size ∧ b3 < w'.heap.size ∧ b4 < w'.heap.size ∧ Below w.heap.size w w') (first | exact Keep4.step (by assumption) (by assumption) | exact Keep4.drew (by assumption) | exact Keep4.drewN (by assumption) _ | assumption) (first | (go_at_call 24; refine (add_any _ _ _ _ _).mono ?_; rintro e w' ⟨rfl, hb⟩) | (go_at_call 25; refine (sub_any _ _ _ _ _).mono ?_; rintro e w' ⟨rfl, hb⟩) | (go_at_call 26; refine (mul_any _ _ _ _ _).mono ?_; rintro e w' ⟨rfl, hb⟩) | (go_at_call 21; refine (hull_any _ _ _ _ _).mono ?_; rintro e w' ⟨rfl, hb⟩) | (go_at_call 20; refine (within_any _ _ _ _ _).mono ?_; rintro e w' ⟨rfl, hb⟩))
    rename_i hH
    have hK2 : Keep4 w w2.heap.size l1 h1 (w2.heap.size + 1) l2 h2 b3 x1 z1 b4 x2 z2 _ := hH
    clear hH hK
    go_wp2_with fail
    go_region_held3 (fun w' => w'.cell? ⟨w2.heap.size, 0, none⟩ = some (.int .i64 l1) ∧ w'.cell? ⟨w2.heap.size, 1, none⟩ = some (.int .i64 h1) ∧ w'.cell? ⟨w2.heap.size + 1, 0, none⟩ = some (.int .i64 l2) ∧ w'.cell? ⟨w2.heap.size + 1, 1, none⟩ = some (.int .i64 h2) ∧ w'.cell? ⟨b3, 0, none⟩ = some (.int .i64 x1) ∧ w'.cell? ⟨b3, 1, none⟩ = some (.int .i64 z1) ∧ w'.cell? ⟨b4, 0, none⟩ = some (.int .i64 x2) ∧ w'.cell? ⟨b4, 1, none⟩ = some (.int .i64 z2) ∧ w2.heap.size < w'.heap.size ∧ w2.heap.size + 1 < w'.heap.size ∧ b3 < w'.heap.size ∧ b4 < w'.heap.size ∧ Below w.heap.size w w') (first | exact Keep4.step (by assumption) (by assumption) | exact Keep4.drew (by assumption) | exact Keep4.drewN (by assumption) _ | assumption) (first | (go_at_call 12; refine (awake_any _).mono ?_; rintro e w' ⟨rfl, hb⟩) | (go_at_call 30; refine (neg_any _ _ _).mono ?_; rintro e w' ⟨rfl, hb⟩) | (go_at_call 29; refine (square_any _ _ _).mono ?_; rintro e w' ⟨rfl, hb⟩) | (go_at_call 33; refine (sqrt_any _ _ _).mono ?_; rintro e w' ⟨rfl, hb⟩) | (go_at_call 32; refine (scale_any _ _ _ _).mono ?_; rintro e w' ⟨rfl, hb⟩) | (go_at_call 20; refine (within_any _ _ _ _ _).mono ?_; rintro e w' ⟨rfl, hb⟩))
    go_wp2_with fail
    go_ret
    rename_i hH
    exact ⟨rfl, hH.2.2.2.2.2.2.2.2.2.2.2.2⟩

set_option maxRecDepth 100000 in
theorem lifted (os : Os) (started : os.Started) (H : Type) (enc : TypeId × Value → H) :
    ReturnsInHanded {} Try.checked os 10 .any (Rows.intervalMonotoneSpec.pre6 enc Try.prog Try.f10 Rows.intervalMonotoneRow.domain false) (Rows.intervalMonotoneSpec.post enc Try.prog Try.f10 false true false false) := by
  refine returnsInHanded_of_change (C := Try.checked) own started (by kernel_rfl) Try.func10
    (ChangeSpec.witness6 (enc := enc) (C := Try.checked) false ⟨#[], #[.int .i64 0, .int .i64 0, .int .i64 0, .int .i64 0, .int .i64 0, .int .i64 0, .int .i64 0], []⟩ 8 (by kernel_rfl) (by kernel_rfl) (by kernel_rfl) (by kernel_rfl)) ?_
  intro W base args ds gs before hval0 hW hcnd _
  have hval : ∀ (j : Nat) t v, Try.f10.params[j]? = some t → args[j]? = some v → Value.okWide Try.prog W .any base t v := hval0
  have hW' := hW
  obtain ⟨p, q, hA0, hV, rfl, hfz, hnd⟩ := hW
  have hA : DataW.TrodAll enc Try.prog W 0 (fun _ => true) true Try.f10.params.toList args.toList ds p := hA0
  rw [Try.params10] at hA hval
  obtain ⟨v0, vs0, d0, ds0, p0, q0, hargs, rfl, rfl, h0, r0⟩ := trodAll_cons hA
  obtain ⟨v1, vs1, d1, ds1, p1, q1, rfl, rfl, rfl, h1, r1⟩ := trodAll_cons r0
  obtain ⟨v2, vs2, d2, ds2, p2, q2, rfl, rfl, rfl, h2, r2⟩ := trodAll_cons r1
  obtain ⟨v3, vs3, d3, ds3, p3, q3, rfl, rfl, rfl, h3, r3⟩ := trodAll_cons r2
  obtain ⟨v4, vs4, d4, ds4, p4, q4, rfl, rfl, rfl, h4, r4⟩ := trodAll_cons r3
  obtain ⟨v5, vs5, d5, ds5, p5, q5, rfl, rfl, rfl, h5, r5⟩ := trodAll_cons r4
  obtain ⟨v6, vs6, d6, ds6, p6, q6, rfl, rfl, rfl, h6, r6⟩ := trodAll_cons r5
  obtain ⟨rfl, rfl, rfl⟩ := trodAll_nil r6
  obtain rfl : args = #[v0, v1, v2, v3, v4, v5, v6] := by cases args; simp_all
  obtain ⟨rfl, rfl⟩ := trodVars_none hV
  have k0 := h0
  have lt0 : ∀ x ∈ p0, x.block < W.heap.size := by obtain ⟨m, hm⟩ := k0; exact DataW.trod_lt m _ _ _ hm
  have k1 := h1
  have lt1 : ∀ x ∈ p1, x.block < W.heap.size := by obtain ⟨m, hm⟩ := k1; exact DataW.trod_lt m _ _ _ hm
  have k2 := h2
  have lt2 : ∀ x ∈ p2, x.block < W.heap.size := by obtain ⟨m, hm⟩ := k2; exact DataW.trod_lt m _ _ _ hm
  have k3 := h3
  have lt3 : ∀ x ∈ p3, x.block < W.heap.size := by obtain ⟨m, hm⟩ := k3; exact DataW.trod_lt m _ _ _ hm
  have k4 := h4
  have lt4 : ∀ x ∈ p4, x.block < W.heap.size := by obtain ⟨m, hm⟩ := k4; exact DataW.trod_lt m _ _ _ hm
  have k5 := h5
  have lt5 : ∀ x ∈ p5, x.block < W.heap.size := by obtain ⟨m, hm⟩ := k5; exact DataW.trod_lt m _ _ _ hm
  have k6 := h6
  have lt6 : ∀ x ∈ p6, x.block < W.heap.size := by obtain ⟨m, hm⟩ := k6; exact DataW.trod_lt m _ _ _ hm
  obtain ⟨a0, rfl, rfl, rfl, w0⟩ := open_int Try.underlying3 (hval 0 3 v0 rfl rfl) h0
  obtain ⟨a1, rfl, rfl, rfl, w1⟩ := open_int Try.underlying3 (hval 1 3 v1 rfl rfl) h1
  obtain ⟨a2, rfl, rfl, rfl, w2⟩ := open_int Try.underlying3 (hval 2 3 v2 rfl rfl) h2
  obtain ⟨a3, rfl, rfl, rfl, w3⟩ := open_int Try.underlying3 (hval 3 3 v3 rfl rfl) h3
  obtain ⟨a4, rfl, rfl, rfl, w4⟩ := open_int Try.underlying3 (hval 4 3 v4 rfl rfl) h4
  obtain ⟨a5, rfl, rfl, rfl, w5⟩ := open_int Try.underlying3 (hval 5 3 v5 rfl rfl) h5
  obtain ⟨a6, rfl, rfl, rfl, w6⟩ := open_int Try.underlying3 (hval 6 3 v6 rfl rfl) h6
  clear hA0 hval0
  refine (walk a0 a1 a2 a3 a4 a5 a6 w0 w1 w2 w3 w4 w5 w6 W).mono fun e W' ⟨he, bel⟩ => ?_
  subst he
  exact ⟨_, rfl, _, _, _, [], _, [], hW', trodAll_mk1 (shut_bool Try.underlying4 _), (trodAll_cons_mk (Below.trod laidOut (by kernel_rfl) (of_decide_eq_true (by kernel_rfl)) k0 bel lt0) (trodAll_cons_mk (Below.trod laidOut (by kernel_rfl) (of_decide_eq_true (by kernel_rfl)) k1 bel lt1) (trodAll_cons_mk (Below.trod laidOut (by kernel_rfl) (of_decide_eq_true (by kernel_rfl)) k2 bel lt2) (trodAll_cons_mk (Below.trod laidOut (by kernel_rfl) (of_decide_eq_true (by kernel_rfl)) k3 bel lt3) (trodAll_cons_mk (Below.trod laidOut (by kernel_rfl) (of_decide_eq_true (by kernel_rfl)) k4 bel lt4) (trodAll_cons_mk (Below.trod laidOut (by kernel_rfl) (of_decide_eq_true (by kernel_rfl)) k5 bel lt5) (trodAll_cons_mk (Below.trod laidOut (by kernel_rfl) (of_decide_eq_true (by kernel_rfl)) k6 bel lt6) trodAll_mk0))))))), rfl, bel.frame _, fun h => by cases h⟩

theorem over : Rows.intervalMonotoneRow.holds Try.pinned (OpenSpec.ofChange Rows.intervalMonotoneSpec) :=
  OpenClaim.holds_of_wide 10 Try.f10 rfl rfl rfl rfl rfl rfl rfl ⟨rfl, rfl, rfl, rfl, rfl⟩ rfl rfl rfl rfl rfl (by kernel_rfl) Try.func10 (by kernel_rfl)
    (of_decide_eq_true (by kernel_rfl)) (by unfold Func.isWrapper; first | (rw [if_pos (by decide +kernel)]; kernel_rfl) | (rw [if_neg (by decide +kernel)]; exact ⟨rfl, rfl⟩))
    (fun os started H enc _ => lifted os started H enc)

/-- The statement. -/
theorem proved : Rows.IntervalMonotoneSaid := over
end Go.Proofs.Ytpembaahjokmjaa.intervalMonotone
