/- ShapePlaces: the law returns true for every input, and each argument reads afterwards as it read before. Conditions: none. -/
import Derived.Test.YtgnjconhbloocaaRows
import Derived.Test.YtgnjconhbloocaaBunP8
import Derived.Test.YtgnjconhbloocaaBunP7
import Derived.Test.YtgnjconhbloocaaBunP5
import Derived.Test.YtgnjconhbloocaaBunP9
import Derived.Test.YtgnjconhbloocaaBunP6
import Derived.ProofKit
import Derived.OpenShut
import Derived.ShutString
import Derived.ChangeOld
import Derived.Below
import Derived.Lib.SmallJoins
namespace Go.Proofs.Ytgnjconhbloocaa.shapePlaces
open Go.ChangeShapes Go.WideShapes Go.ChangeAt Go.RowKit
set_option linter.unusedVariables false

theorem own : ownKnob Try.prog.godebug = none := by kernel_rfl
theorem laidOut : laidOutB Try.prog = true := by kernel_rfl

/-- What the law's last region reads. -/
structure Four (w : World) (b g : Nat) (lk rd r : Int) (u v : Value) (P Q : List (Int × Int × Int)) (p q : Fx.Ps) (w' : World) : Prop where
  a : Whole w' b 48 #[.int .i64 lk, .int .i64 rd, u]
  b : Whole w' (b + 1) 52 p.arr
  c : Whole w' g 48 #[.int .i64 (-1), .int .i64 r, v]
  d : Whole w' (g + 1) 52 q.arr
  e : PSl w' u P
  f : PSl w' v Q
  below : Below w.heap.size w w'
theorem Four.ext {w : World} {b g : Nat} {lk rd r : Int} {u v : Value} {P Q : List (Int × Int × Int)} {p q : Fx.Ps} {w1 w2 : World} (h : Four w b g lk rd r u v P Q p q w1) (hb : Below w1.heap.size w1 w2) : Four w b g lk rd r u v P Q p q w2 :=
  ⟨h.a.ext hb, h.b.ext hb, h.c.ext hb, h.d.ext hb, h.e.ext hb, h.f.ext hb, ext_trans h.below hb⟩

set_option maxRecDepth 100000 in
set_option maxHeartbeats 600000 in
theorem walk (lk rd : Int) (u : Value) (P : List (Int × Int × Int)) (p : Fx.Ps) (v2 : Value) (xs2 : List Int) (v3 : Value) (xs3 : List Int) (w : World) (hP : PSl w u P) (h2 : IntSl w v2 xs2) (h3 : IntSl w v3 xs3) :
    Calls Try.prog 8 #[.agg #[.int .i64 lk, .int .i64 rd, u], .agg p.arr, v2, v3] w fun e w' => e = .returned (.bool true) ∧ Below w.heap.size w w' := by
  have o0 := hP.oneC
  have H2 := Lib.hid h2; have H3 := Lib.hid h3; have HP := Lib.hid hP
  obtain ⟨a2, c2, rfl, _, _⟩ := h2
  obtain ⟨a3, c3, rfl, _, _⟩ := h3
  clear hP
  go_enter Try.func8, Try.ntmps8
  go_wp2_with fail
  have hb2 := blocks2 w 48 52 #[.int .i64 lk, .int .i64 rd, u] p.arr
  generalize (w.alloc (.cells #[.int .i64 lk, .int .i64 rd, u] 48)).alloc (.cells p.arr 52) = w0 at *
  obtain ⟨hA, hB, hb⟩ := hb2
  have HA := Lib.hid hA; have HB := Lib.hid hB
  clear hA hB
  refine (some_any _ xs2 _ (H2.out.ext hb)).mono ?_
  rintro e w1 ⟨r, v, Q, rfl, hok, hQ, hb1⟩
  have hB1 := ext_trans hb hb1
  have HA1 := Lib.hid (HA.out.ext hb1); have HB1 := Lib.hid (HB.out.ext hb1)
  have HQ1 := Lib.hid hQ; have HP1 := Lib.hid (HP.out.ext hB1); have H31 := Lib.hid (H3.out.ext hB1)
  have hl := hB1.size
  clear HA HB hQ HP H3 H2 hb hb1
  go_wp2_with fail
  obtain ⟨g, hg1⟩ : ∃ g, g = w1.heap.size := ⟨_, rfl⟩
  refine (from_at _ xs3 _ g H31.out hg1.symm).mono ?_
  rintro e w2 ⟨rfl, hs2, hb2⟩
  have hgl : w1.heap.size ≤ g := by omega
  clear H31 hg1
  go_wp2_with fail
  refine (pose_any g g w2 hs2).mono ?_
  rintro e w3 ⟨q, hq, rfl, hk⟩
  have hb3 : Below w1.heap.size w1 w3 := below_grown hb2 (Nat.le_refl _) (by omega) hk.2.2
  have HA3 := Lib.hid (HA1.out.ext hb3); have HB3 := Lib.hid (HB1.out.ext hb3)
  have HQ3 := Lib.hid (HQ1.out.ext hb3); have HP3 := Lib.hid (HP1.out.ext hb3)
  have hB3 := ext_trans hB1 hb3
  clear HA1 HB1 HQ1 HP1 hb3 hb2 hs2 hk hB1 hq
  have o1 := HQ3.out.oneC
  obtain ⟨hN1, hN2, hN3⟩ := blocks2 w3 48 52 #[.int .i64 0, .int .i64 0, .slice none 0 0] zero24
  have HN1 := Lib.hid hN1; have HN2 := Lib.hid (Whole.farN (g' := w3.heap.size) [.int .i64 (-1), .int .i64 r, v] hN2 (by omega) 0)
  have HN4 := Lib.hid (Whole.farN (g' := w3.heap.size + 1) q.arr.toList (hN1.full #[.int .i64 (-1), .int .i64 r, v] rfl) (by omega) 0)
  have HN5 := Lib.hid (HN2.out.full q.arr q.size)
  have HN6 := Lib.hid (ext_setN (g' := w3.heap.size + 1) q.arr.toList (ext_setN (g' := w3.heap.size) [.int .i64 (-1), .int .i64 r, v] hN3 (by omega) 0) (by omega) 0)
  have hq1 := pose_one q
  have HT := Lib.hid (there_all HN2.out q.arr.size (by rw [q.size]; exact Nat.le_refl _))
  have HI : Hid ((Try.prog.info? 52).map (·.size) = some q.arr.size) := Lib.hid (by rw [q.size]; kernel_rfl)
  clear hN1 hN2 hN3
  go_wp2_with (refine wpList_store_mid rfl 48 _ _ rfl w3.heap.size 0 #[.int .i64 (-1), .int .i64 r, v] rfl rfl (there_all HN1.out 3 (Nat.le_refl _)) (by kernel_rfl) (by simp [Value.oneCell'] <;> exact o1) (wpList_store_mid rfl 52 _ _ rfl (w3.heap.size + 1) 0 q.arr rfl rfl HT.out HI.out hq1 ?_); (have HF : Hid (Four w w.heap.size w3.heap.size lk rd r u v P Q p q _) := Lib.hid ⟨HA3.out.ext HN6.out, HB3.out.ext HN6.out, HN4.out, HN5.out, HP3.out.ext HN6.out, HQ3.out.ext HN6.out, ext_trans hB3 HN6.out⟩); clear HN1 HN2 HN4 HN5 HN6 HT HI hq1 HA3 HB3 HQ3 HP3 hB3; generalize (((w3.alloc (.cells #[.int .i64 0, .int .i64 0, .slice none 0 0] 48)).alloc (.cells zero24 52)).setCells w3.heap.size 0 _).setCells (w3.heap.size + 1) 0 _ = w4 at *)
  refine (awake_any _).mono ?_
  rintro e w5 ⟨rfl, hb5⟩
  have HF5 := Lib.hid (HF.out.ext hb5)
  clear HF hb5
  have HI : Hid ((Try.prog.info? 52).map (·.size) = some p.arr.toList.length) := Lib.hid (by rw [Array.length_toList, p.size]; kernel_rfl)
  have HJ : Hid ((Try.prog.info? 52).map (·.size) = some q.arr.toList.length) := Lib.hid (by rw [Array.length_toList, q.size]; kernel_rfl)
  go_wp2_with (refine wpList_load2 (by rfl) 48 _ rfl w.heap.size 0 rfl [.int .i64 lk, .int .i64 rd, u] _ HF5.out.a.all Try.underlying48 rfl (by kernel_rfl) (by rfl) 52 _ rfl (w.heap.size + 1) 0 (by rfl) p.arr.toList _ HF5.out.b.all Try.underlying52 rfl HI.out ?_)
  refine (places_any lk rd u P p _ HF5.out.e).mono ?_
  rintro e w6 ⟨rfl, hb6⟩
  have HF6 := Lib.hid (HF5.out.ext hb6)
  clear HF5 hb6
  go_wp2_with (refine wpList_load2 (by rfl) 48 _ rfl w3.heap.size 0 rfl [.int .i64 (-1), .int .i64 r, v] _ HF6.out.c.all Try.underlying48 rfl (by kernel_rfl) (by rfl) 52 _ rfl (w3.heap.size + 1) 0 (by rfl) q.arr.toList _ HF6.out.d.all Try.underlying52 rfl HJ.out ?_)
  refine (places_any (-1) r v Q q _ HF6.out.f).mono ?_
  rintro e w7 ⟨rfl, hb7⟩
  have HF7 := Lib.hid (HF6.out.ext hb7)
  clear HF6 hb7
  go_wp2_with (refine wpList_load2 (by rfl) 48 _ rfl w3.heap.size 0 rfl [.int .i64 (-1), .int .i64 r, v] _ HF7.out.c.all Try.underlying48 rfl (by kernel_rfl) (by rfl) 52 _ rfl (w.heap.size + 1) 0 (by rfl) p.arr.toList _ HF7.out.b.all Try.underlying52 rfl HI.out ?_)
  refine (places_any (-1) r v Q p _ HF7.out.f).mono ?_
  rintro e w8 ⟨rfl, hb8⟩
  have HF8 := Lib.hid (HF7.out.ext hb8)
  clear HF7 hb8
  go_wp2_with (refine wpList_load_want (by rfl) 48 _ rfl w3.heap.size 0 rfl [.int .i64 (-1), .int .i64 r, v] _ HF8.out.c.all Try.underlying48 rfl (by kernel_rfl) ?_)
  refine (check_any (-1) r v Q _ HF8.out.f).mono ?_
  rintro e w9 ⟨rfl, hb9⟩
  have HF9 := Lib.hid (HF8.out.ext hb9)
  clear HF8 hb9
  rw [hok]
  go_wp2_with fail
  go_ret
  exact ⟨rfl, HF9.out.below⟩

set_option maxRecDepth 100000 in
theorem lifted (os : Os) (started : os.Started) (H : Type) (enc : TypeId × Value → H) :
    ReturnsInHanded {} Try.checked os 8 .any (Rows.shapePlacesSpec.pre6 enc Try.prog Try.f8 Rows.shapePlacesRow.domain false) (Rows.shapePlacesSpec.post enc Try.prog Try.f8 false true false false) := by
  refine returnsInHanded_of_change (C := Try.checked) own started (by kernel_rfl) Try.func8
    (ChangeSpec.witness6 (enc := enc) (C := Try.checked) false ⟨#[], #[.agg #[.int .i64 0, .int .i64 0, .slice none 0 0], .agg #[.int .i64 0, .int .i64 0, .int .i64 0, .int .i64 0, .int .i64 0, .int .i64 0, .int .i64 0, .int .i64 0, .int .i64 0, .int .i64 0, .int .i64 0, .int .i64 0, .int .i64 0, .int .i64 0, .int .i64 0, .int .i64 0, .int .i64 0, .int .i64 0, .int .i64 0, .int .i64 0, .int .i64 0, .int .i64 0, .int .i64 0, .int .i64 0], .slice none 0 0, .slice none 0 0], []⟩ 8 (by kernel_rfl) (by kernel_rfl) (by kernel_rfl) (by kernel_rfl)) ?_
  intro W base args ds gs before hval0 hW hcnd _
  have hval : ∀ (j : Nat) t v, Try.f8.params[j]? = some t → args[j]? = some v → Value.okWide Try.prog W .any base t v := hval0
  have hW' := hW
  obtain ⟨p, q, hA0, hV, rfl, hfz, hnd⟩ := hW
  have hA : DataW.TrodAll enc Try.prog W 0 (fun _ => true) true Try.f8.params.toList args.toList ds p := hA0
  rw [Try.params8] at hA hval
  obtain ⟨v0, vs0, d0, ds0, p0, q0, hargs, rfl, rfl, h0, r0⟩ := trodAll_cons hA
  obtain ⟨v1, vs1, d1, ds1, p1, q1, rfl, rfl, rfl, h1, r1⟩ := trodAll_cons r0
  obtain ⟨v2, vs2, d2, ds2, p2, q2, rfl, rfl, rfl, h2, r2⟩ := trodAll_cons r1
  obtain ⟨v3, vs3, d3, ds3, p3, q3, rfl, rfl, rfl, h3, r3⟩ := trodAll_cons r2
  obtain ⟨rfl, rfl, rfl⟩ := trodAll_nil r3
  obtain rfl : args = #[v0, v1, v2, v3] := by cases args; simp_all
  obtain ⟨rfl, rfl⟩ := trodVars_none hV
  have k0 := h0
  have lt0 : ∀ x ∈ p0, x.block < W.heap.size := by obtain ⟨m, hm⟩ := k0; exact DataW.trod_lt m _ _ _ hm
  have k1 := h1
  have lt1 : ∀ x ∈ p1, x.block < W.heap.size := by obtain ⟨m, hm⟩ := k1; exact DataW.trod_lt m _ _ _ hm
  have k2 := h2
  have lt2 : ∀ x ∈ p2, x.block < W.heap.size := by obtain ⟨m, hm⟩ := k2; exact DataW.trod_lt m _ _ _ hm
  have k3 := h3
  have lt3 : ∀ x ∈ p3, x.block < W.heap.size := by obtain ⟨m, hm⟩ := k3; exact DataW.trod_lt m _ _ _ hm
  obtain ⟨lk0, rd0, u0, P0, rfl, hP0⟩ := open_shape (hval 0 48 v0 rfl rfl) h0
  obtain ⟨q1, rfl⟩ := open_pose (hval 1 52 v1 rfl rfl) h1
  obtain ⟨xs2, hs2, wf2⟩ := open_intsl (hval 2 24 v2 rfl rfl) h2
  obtain ⟨xs3, hs3, wf3⟩ := open_intsl (hval 3 24 v3 rfl rfl) h3
  clear hA0 hval0
  refine (walk lk0 rd0 u0 P0 q1 v2 xs2 v3 xs3 W hP0 hs2 hs3).mono fun e W' ⟨he, bel⟩ => ?_
  subst he
  exact ⟨_, rfl, _, _, _, [], _, [], hW', trodAll_mk1 (shut_bool Try.underlying4 _), (trodAll_cons_mk (Below.trod laidOut (by kernel_rfl) (of_decide_eq_true (by kernel_rfl)) k0 bel lt0) (trodAll_cons_mk (Below.trod laidOut (by kernel_rfl) (of_decide_eq_true (by kernel_rfl)) k1 bel lt1) (trodAll_cons_mk (Below.trod laidOut (by kernel_rfl) (of_decide_eq_true (by kernel_rfl)) k2 bel lt2) (trodAll_cons_mk (Below.trod laidOut (by kernel_rfl) (of_decide_eq_true (by kernel_rfl)) k3 bel lt3) trodAll_mk0)))), rfl, bel.frame _, fun h => by cases h⟩

theorem over : Rows.shapePlacesRow.holds Try.pinned (OpenSpec.ofChange Rows.shapePlacesSpec) :=
  OpenClaim.holds_of_wide 8 Try.f8 rfl rfl rfl rfl rfl rfl rfl ⟨rfl, rfl, rfl, rfl, rfl⟩ rfl rfl rfl rfl rfl (by kernel_rfl) Try.func8 (by kernel_rfl)
    (of_decide_eq_true (by kernel_rfl)) (by unfold Func.isWrapper; first | (rw [if_pos (by decide +kernel)]; kernel_rfl) | (rw [if_neg (by decide +kernel)]; exact ⟨rfl, rfl⟩))
    (fun os started H enc _ => lifted os started H enc)

/-- The statement. -/
theorem proved : Rows.ShapePlacesSaid := over
end Go.Proofs.Ytgnjconhbloocaa.shapePlaces
