/- IntervalProducts: the law returns true for every input, and each argument reads afterwards as it read before. Conditions: none. -/
import Derived.Test.YtpembaahjokmjaaRows
import Derived.Test.YtpembaahjokmjaaLaw2
import Derived.Test.YtpembaahjokmjaaIvLaws
import Derived.ProofKit
import Derived.OpenShut
import Derived.ShutString
import Derived.ChangeOld
import Derived.Below
import Derived.Lib.SmallJoins
namespace Go.Proofs.Ytpembaahjokmjaa.intervalProducts
open Go.ChangeShapes Go.WideShapes Go.ChangeAt Go.RowKit
set_option linter.unusedVariables false

theorem own : ownKnob Try.prog.godebug = none := by kernel_rfl
theorem laidOut : laidOutB Try.prog = true := by kernel_rfl

set_option maxHeartbeats 4000000 in
theorem walk (a b c d x k l m n : Int) (_wa : (Lit.int .i64 a).wf = true) (_wb : (Lit.int .i64 b).wf = true) (_wc : (Lit.int .i64 c).wf = true) (_wd : (Lit.int .i64 d).wf = true) (_wx : (Lit.int .i64 x).wf = true) (_wk : (Lit.int .i64 k).wf = true) (_wl : (Lit.int .i64 l).wf = true) (_wm : (Lit.int .i64 m).wf = true) (_wn : (Lit.int .i64 n).wf = true) (w : World) :
    Calls Try.prog 9 #[.agg #[.int .i64 a, .int .i64 b], .agg #[.int .i64 c, .int .i64 d], .int .i64 x, .int .i64 k, .int .i64 l, .int .i64 m, .int .i64 n] w fun e w' => e = .returned (.bool true) ∧ Below w.heap.size w w' := by
  go_enter Try.func9, Try.ntmps9
  have hB0 : Below w.heap.size w ((w.alloc (.cells #[.int .i64 a, .int .i64 b] 23)).alloc (.cells #[.int .i64 c, .int .i64 d] 23)) := (below_alloc (below_alloc (Below.refl _ _) _) _)
  have t1_0 : Holds ((w.alloc (.cells #[.int .i64 a, .int .i64 b] 23)).alloc (.cells #[.int .i64 c, .int .i64 d] 23)) (w.heap.size) a b := (Holds.new _ _ _ _).alloc _
  have t2_0 : Holds ((w.alloc (.cells #[.int .i64 a, .int .i64 b] 23)).alloc (.cells #[.int .i64 c, .int .i64 d] 23)) (w.heap.size + 1) c d := Holds.new' _ _ _ _ _
  obtain ⟨p1, q1, _⟩ := id t1_0
  obtain ⟨p2, q2, _⟩ := id t2_0
  go_wp2_with fail
  refine (awake_any _).mono ?_
  rintro e w1 ⟨rfl, hb⟩
  have hB1 := below_step hB0 hb
  have t1_1 := t1_0.step hb
  have t2_1 := t2_0.step hb
  clear hb hB0 t1_0 t2_0 p1 q1 p2 q2
  obtain ⟨p1, q1, _⟩ := id t1_1
  obtain ⟨p2, q2, _⟩ := id t2_1
  go_wp2_with fail
  refine (products_any _ _ _ _ _ _).mono ?_
  rintro e w2 ⟨rfl, hb⟩
  have hB2 := below_step hB1 hb
  have t1_2 := t1_1.step hb
  have t2_2 := t2_1.step hb
  clear hb hB1 t1_1 t2_1 p1 q1 p2 q2
  obtain ⟨p1, q1, _⟩ := id t1_2
  obtain ⟨p2, q2, _⟩ := id t2_2
  go_wp2_with fail
  refine (interval_any _ _ _).mono ?_
  rintro e w3 ⟨l1, h1, hv1, rfl, hb⟩
  have hB3 := below_step hB2 hb
  have t1_3 := t1_2.step hb
  have t2_3 := t2_2.step hb
  clear hb hB2 t1_2 t2_2 p1 q1 p2 q2
  obtain ⟨p1, q1, _⟩ := id t1_3
  obtain ⟨p2, q2, _⟩ := id t2_3
  clear hv1
  go_wp2_with fail
  refine (interval_any _ _ _).mono ?_
  rintro e w4 ⟨l2, h2, hv2, rfl, hb⟩
  have hB4 := below_step hB3 hb
  have t1_4 := t1_3.step hb
  have t2_4 := t2_3.step hb
  clear hb hB3 t1_3 t2_3 p1 q1 p2 q2
  obtain ⟨p1, q1, _⟩ := id t1_4
  obtain ⟨p2, q2, _⟩ := id t2_4
  clear hv2
  have r0 := Int.emod_nonneg k (show (60 : Int) ≠ 0 by omega)
  have r1 := Int.emod_lt_of_pos k (show (0 : Int) < 60 by omega)
  go_wp2_with fail
  refine (round_any _ _ _ (by omega) (by omega)).mono ?_
  rintro e w' ⟨rfl, rfl⟩
  go_wp2_with fail
  refine (products_any _ _ _ _ _ _).mono ?_
  rintro e w5 ⟨rfl, hb⟩
  have hB5 := below_step hB4 hb
  have t1_5 := t1_4.step hb
  have t2_5 := t2_4.step hb
  clear hb hB4 t1_4 t2_4 p1 q1 p2 q2
  obtain ⟨p1, q1, _⟩ := id t1_5
  obtain ⟨p2, q2, _⟩ := id t2_5
  go_wp2_with fail
  go_ret
  exact ⟨rfl, hB5⟩

set_option maxRecDepth 100000 in
theorem lifted (os : Os) (started : os.Started) (H : Type) (enc : TypeId × Value → H) :
    ReturnsInHanded {} Try.checked os 9 .any (Rows.intervalProductsSpec.pre6 enc Try.prog Try.f9 Rows.intervalProductsRow.domain false) (Rows.intervalProductsSpec.post enc Try.prog Try.f9 false true false false) := by
  refine returnsInHanded_of_change (C := Try.checked) own started (by kernel_rfl) Try.func9
    (ChangeSpec.witness6 (enc := enc) (C := Try.checked) false ⟨#[], #[.agg #[.int .i64 0, .int .i64 0], .agg #[.int .i64 0, .int .i64 0], .int .i64 0, .int .i64 0, .int .i64 0, .int .i64 0, .int .i64 0], []⟩ 8 (by kernel_rfl) (by kernel_rfl) (by kernel_rfl) (by kernel_rfl)) ?_
  intro W base args ds gs before hval0 hW hcnd _
  have hval : ∀ (j : Nat) t v, Try.f9.params[j]? = some t → args[j]? = some v → Value.okWide Try.prog W .any base t v := hval0
  have hW' := hW
  obtain ⟨p, q, hA0, hV, rfl, hfz, hnd⟩ := hW
  have hA : DataW.TrodAll enc Try.prog W 0 (fun _ => true) true Try.f9.params.toList args.toList ds p := hA0
  rw [Try.params9] at hA hval
  obtain ⟨v0, vs0, d0, ds0, p0, q0, hargs, rfl, rfl, h0, r0⟩ := trodAll_cons hA
  obtain ⟨v1, vs1, d1, ds1, p1, q1, rfl, rfl, rfl, h1, r1⟩ := trodAll_cons r0
  obtain ⟨v2, vs2, d2, ds2, p2, q2, rfl, rfl, rfl, h2, r2⟩ := trodAll_cons r1
  obtain ⟨v3, vs3, d3, ds3, p3, q3, rfl, rfl, rfl, h3, r3⟩ := trodAll_cons r2
  obtain ⟨v4, vs4, d4, ds4, p4, q4, rfl, rfl, rfl, h4, r4⟩ := trodAll_cons r3
  obtain ⟨v5, vs5, d5, ds5, p5, q5, rfl, rfl, rfl, h5, r5⟩ := trodAll_cons r4
  obtain ⟨v6, vs6, d6, ds6, p6, q6, rfl, rfl, rfl, h6, r6⟩ := trodAll_cons r5
  obtain ⟨rfl, rfl, rfl⟩ := trodAll_nil r6
  obtain rfl : args = #[v0, v1, v2, v3, v4, v5, v6] := by cases args; simp_all
  obtain ⟨rfl, rfl⟩ := trodVars_none hV
  have k0 := h0
  have lt0 : ∀ x ∈ p0, x.block < W.heap.size := by obtain ⟨m, hm⟩ := k0; exact DataW.trod_lt m _ _ _ hm
  have k1 := h1
  have lt1 : ∀ x ∈ p1, x.block < W.heap.size := by obtain ⟨m, hm⟩ := k1; exact DataW.trod_lt m _ _ _ hm
  have k2 := h2
  have lt2 : ∀ x ∈ p2, x.block < W.heap.size := by obtain ⟨m, hm⟩ := k2; exact DataW.trod_lt m _ _ _ hm
  have k3 := h3
  have lt3 : ∀ x ∈ p3, x.block < W.heap.size := by obtain ⟨m, hm⟩ := k3; exact DataW.trod_lt m _ _ _ hm
  have k4 := h4
  have lt4 : ∀ x ∈ p4, x.block < W.heap.size := by obtain ⟨m, hm⟩ := k4; exact DataW.trod_lt m _ _ _ hm
  have k5 := h5
  have lt5 : ∀ x ∈ p5, x.block < W.heap.size := by obtain ⟨m, hm⟩ := k5; exact DataW.trod_lt m _ _ _ hm
  have k6 := h6
  have lt6 : ∀ x ∈ p6, x.block < W.heap.size := by obtain ⟨m, hm⟩ := k6; exact DataW.trod_lt m _ _ _ hm
  obtain ⟨c00, c01, y00, y01, m0, rfl, hd0, hp0, hy00, hy01⟩ := Joins.open_agg2 Try.underlying23 (by kernel_rfl) (show Try.prog.cellsOf 23 = 2 by kernel_rfl) (hval 0 23 v0 rfl rfl) h0
  obtain ⟨l0, el0, _, wl0⟩ := DataW.trod_int Try.underlying2 hy00
  obtain ⟨u0, eu0, _, wu0⟩ := DataW.trod_int Try.underlying2 hy01
  simp at el0 eu0
  subst el0 eu0
  obtain ⟨c10, c11, y10, y11, m1, rfl, hd1, hp1, hy10, hy11⟩ := Joins.open_agg2 Try.underlying23 (by kernel_rfl) (show Try.prog.cellsOf 23 = 2 by kernel_rfl) (hval 1 23 v1 rfl rfl) h1
  obtain ⟨l1, el1, _, wl1⟩ := DataW.trod_int Try.underlying2 hy10
  obtain ⟨u1, eu1, _, wu1⟩ := DataW.trod_int Try.underlying2 hy11
  simp at el1 eu1
  subst el1 eu1
  obtain ⟨a2, rfl, rfl, rfl, w2⟩ := open_int Try.underlying2 (hval 2 2 v2 rfl rfl) h2
  obtain ⟨a3, rfl, rfl, rfl, w3⟩ := open_int Try.underlying3 (hval 3 3 v3 rfl rfl) h3
  obtain ⟨a4, rfl, rfl, rfl, w4⟩ := open_int Try.underlying3 (hval 4 3 v4 rfl rfl) h4
  obtain ⟨a5, rfl, rfl, rfl, w5⟩ := open_int Try.underlying3 (hval 5 3 v5 rfl rfl) h5
  obtain ⟨a6, rfl, rfl, rfl, w6⟩ := open_int Try.underlying3 (hval 6 3 v6 rfl rfl) h6
  clear hA0 hval0
  refine (walk l0 u0 l1 u1 a2 a3 a4 a5 a6 wl0 wu0 wl1 wu1 w2 w3 w4 w5 w6 W).mono fun e W' ⟨he, bel⟩ => ?_
  subst he
  exact ⟨_, rfl, _, _, _, [], _, [], hW', trodAll_mk1 (shut_bool Try.underlying4 _), (trodAll_cons_mk (Below.trod laidOut (by kernel_rfl) (of_decide_eq_true (by kernel_rfl)) k0 bel lt0) (trodAll_cons_mk (Below.trod laidOut (by kernel_rfl) (of_decide_eq_true (by kernel_rfl)) k1 bel lt1) (trodAll_cons_mk (Below.trod laidOut (by kernel_rfl) (of_decide_eq_true (by kernel_rfl)) k2 bel lt2) (trodAll_cons_mk (Below.trod laidOut (by kernel_rfl) (of_decide_eq_true (by kernel_rfl)) k3 bel lt3) (trodAll_cons_mk (Below.trod laidOut (by kernel_rfl) (of_decide_eq_true (by kernel_rfl)) k4 bel lt4) (trodAll_cons_mk (Below.trod laidOut (by kernel_rfl) (of_decide_eq_true (by kernel_rfl)) k5 bel lt5) (trodAll_cons_mk (Below.trod laidOut (by kernel_rfl) (of_decide_eq_true (by kernel_rfl)) k6 bel lt6) trodAll_mk0))))))), rfl, bel.frame _, fun h => by cases h⟩

theorem over : Rows.intervalProductsRow.holds Try.pinned (OpenSpec.ofChange Rows.intervalProductsSpec) :=
  OpenClaim.holds_of_wide 9 Try.f9 rfl rfl rfl rfl rfl rfl rfl ⟨rfl, rfl, rfl, rfl, rfl⟩ rfl rfl rfl rfl rfl (by kernel_rfl) Try.func9 (by kernel_rfl)
    (of_decide_eq_true (by kernel_rfl)) (by unfold Func.isWrapper; first | (rw [if_pos (by decide +kernel)]; kernel_rfl) | (rw [if_neg (by decide +kernel)]; exact ⟨rfl, rfl⟩))
    (fun os started H enc _ => lifted os started H enc)

/-- The statement. -/
theorem proved : Rows.IntervalProductsSaid := over
end Go.Proofs.Ytpembaahjokmjaa.intervalProducts
