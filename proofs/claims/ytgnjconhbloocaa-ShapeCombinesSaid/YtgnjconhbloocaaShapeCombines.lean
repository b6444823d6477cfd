/- ShapeCombines: the law returns true for every input, and each argument reads afterwards as it read before. Conditions: none. -/
import Derived.Test.YtgnjconhbloocaaRows
import Derived.Test.YtgnjconhbloocaaAwake10
import Derived.Test.YtgnjconhbloocaaTotal
import Derived.Test.YtgnjconhbloocaaOpen10
import Derived.ProofKit
import Derived.OpenShut
import Derived.ShutString
import Derived.ChangeOld
import Derived.Below
import Derived.Lib.SmallJoins
namespace Go.Proofs.Ytgnjconhbloocaa.shapeCombines
open Go.ChangeShapes Go.WideShapes Go.ChangeAt Go.RowKit
set_option linter.unusedVariables false

theorem own : ownKnob Try.prog.godebug = none := by kernel_rfl
theorem laidOut : laidOutB Try.prog = true := by kernel_rfl

theorem made_ints (n : Nat) : (madeCells (Value.int .i64 0).cells (n * 1)).toList = iCells (List.replicate n 0) := by
  simp [madeCells, Value.cells, iCells, List.ext_getElem_iff, Nat.mod_one]

set_option maxRecDepth 100000 in
set_option maxHeartbeats 2000000 in
theorem walk (v0 : Value) (L0 : List Fx.V3) (v1 : Value) (ws1 : List Int) (v2 : Value) (xs2 : List Int) (v3 : Value) (xs3 : List Int) (n : Int) (w : World) (h0 : VSl w v0 L0) (h1 : IntSl w v1 ws1) (h2 : IntSl w v2 xs2) (h3 : IntSl w v3 xs3) (hn : (Lit.int .i64 n).wf = true) :
    Calls Try.prog 3 #[v0, v1, v2, v3, .int .i64 n] w fun e w' => e = .returned (.bool true) ∧ Below w.heap.size w w' := by
  have H0 := Lib.hid h0; have H1 := Lib.hid h1; have H2 := Lib.hid h2; have H3 := Lib.hid h3
  obtain ⟨a0, c0, rfl, hl0, _⟩ := h0
  obtain ⟨a1, c1, rfl, hl1, _⟩ := h1
  obtain ⟨a2, c2, rfl, hl2, _⟩ := h2
  obtain ⟨a3, c3, rfl, hl3, _⟩ := h3
  obtain ⟨i0, hi, hz0, hz1, hz2⟩ := info_parts info_int64'
  go_enter Try.func3, Try.ntmps3
  go_wp2_with fail
  refine (points_any _ xs2 900 _ H2.out (by omega) (by omega)).mono ?_
  rintro e w1 ⟨u, L, rfl, hL1, hL5, hM, hown, hb1⟩
  obtain ⟨g, cap, rfl⟩ := ownsRow_form' hown (by omega)
  go_wp2_with fail
  refine (weights_any L.length _ xs3 _ (H3.out.ext hb1) hL1 hL5).mono ?_
  rintro e w2 ⟨u2, ws, rfl, hwl, hwb, hwp, hown2, hb2⟩
  obtain ⟨g2, cap2, rfl⟩ := ownsRow_form' hown2 (by omega)
  have hB2 := ext_trans hb1 hb2
  have hzw := hB2.size
  have HW := Lib.hid hwb; have HP := Lib.hid hwp; have HM := Lib.hid hM
  have HX := Lib.hid ((VSl.of_owns hown (by omega)).ext hb2)
  have HWS := Lib.hid (IntSl.of_rows hown2 (by omega))
  clear hwb hwp hM hb1 hb2
  have hlw : (iCells ws).length = ws.length * 1 := by rw [iCells_len]; omega
  have HL := Lib.hid hwl
  have hw1 : 1 ≤ ws.length := by omega
  have hw5 : ws.length ≤ 5 := by omega
  clear hwl
  go_wp2_with (at_builtin; refine wpList_append_lies _ rfl _ _ _ rfl w2.heap.size 2 i0 _ 1 8 Try.underlying23 hi hz0 hz1 hz2 rfl (by omega) (.slice none 0 0) 0 [] rfl (World.ownsRow_nil _ _ _ _) ⟨g2, 0, none⟩ ws.length cap2 (iCells ws) rfl hlw (hown2.cells rfl) (by unfold iCells; simp [Value.oneCell']) (by omega) (by unfold maxLen; omega) (by omega) (by omega) w2.heap.size rfl ?_; intro g3 cap3 w3 hown3 hgrow hat hlt3; have hown4 : w3.ownsRow w2.heap.size 2 1 (.slice (some ⟨g3, 0, none⟩) ws.length cap3) ws.length (iCells ws) := (by have h := hown3; rw [Nat.zero_add, List.nil_append] at h; exact h); have hB3 : Below w.heap.size w w3 := hB2.grown hgrow (by omega) (fun k e => by cases e); have ck := (hown4.cellAt (ws.length - 1) (by omega)).trans (iCells_get ws (ws.length - 1) (by omega)); have fk := hown4.frozenAt (ws.length - 1); have HO4 := Lib.hid hown4; have HG := Lib.hid hgrow; clear hown3 hown4 hat hgrow)
  generalize hX : Value.int IntKind.i64 (wrap64 (ws[ws.length - 1]?.getD 0 + n / 1099511627776)) = X at *
  obtain ⟨xv, rfl⟩ : ∃ xv : Int, X = .int .i64 xv := ⟨_, hX.symm⟩
  clear hX
  have hst := (HO4.out.stored (ws.length - 1) (.int .i64 xv)).1
  rw [iCells_set] at hst
  have hst' : (w3.setCell ⟨g3, ws.length - 1, none⟩ (.int .i64 xv)).ownsRow w2.heap.size 2 1 (.slice (some ⟨g3, 0, none⟩) ws.length cap3) (ws.set (ws.length - 1) xv).length (iCells (ws.set (ws.length - 1) xv)) := by rw [List.length_set]; exact hst
  have HV := Lib.hid (IntSl.of_rows hst' (by rw [List.length_set]; omega))
  have hg3 := (HO4.out.lt g3 rfl).1
  have B4 := ext_set ((ext_refl w2).grown HG.out (Nat.le_refl _) (fun k e => by cases e)) (p := ⟨g3, ws.length - 1, none⟩) hg3 (.int .i64 xv)
  clear hst hst' hg3 HG HO4 ck fk hB3
  generalize w3.setCell ⟨g3, ws.length - 1, none⟩ (.int .i64 xv) = w4 at *
  have B04 := ext_trans hB2 B4
  refine (awake_any _).mono ?_
  rintro e w5 ⟨rfl, b5⟩
  go_wp2_with fail
  have B5 := ext_trans B4 b5
  have B05 := ext_trans B04 b5
  have HV5 := Lib.hid (HV.out.ext b5)
  refine (combines_any _ _ L0 ws1 _ (H0.out.ext B05) (H1.out.ext B05)).mono ?_
  rintro e w6 ⟨rfl, b6⟩
  have B6 := ext_trans B5 b6
  have B06 := ext_trans B05 b6
  have HV6 := Lib.hid (HV5.out.ext b6)
  go_wp2_with fail
  refine (combines_any _ _ L ws1 _ (HX.out.ext B6) (H1.out.ext B06)).mono ?_
  rintro e w7 ⟨rfl, b7⟩
  have B7 := ext_trans B6 b7
  have B07 := ext_trans B06 b7
  have HV7 := Lib.hid (HV6.out.ext b7)
  go_wp2_with fail
  refine (combines_any _ _ L ws _ (HX.out.ext B7) (HWS.out.ext B7)).mono ?_
  rintro e w8 ⟨rfl, b8⟩
  have B8 := ext_trans B7 b8
  have B08 := ext_trans B07 b8
  have HV8 := Lib.hid (HV7.out.ext b8)
  go_wp2_with fail
  refine (combines_any _ _ L _ _ (HX.out.ext B8) HV8.out).mono ?_
  rintro e w9 ⟨rfl, b9⟩
  have B9 := ext_trans B8 b9
  have B09 := ext_trans B08 b9
  clear B4 B04 b5 B5 B05 b6 B6 B06 b7 B7 B07 b8 B8 B08 b9 HV HV5 HV6 HV7 HV8 hown hown2
  obtain ⟨wm, hmk, hownm, hgm⟩ := run_makeSlice_full w9 w9.heap.size 23 2 i0 (.int .i64 0) 1 Try.underlying23 hi hz0 hz1 .i64 .i64 L.length (by omega) (by rw [hz2]; omega) (by unfold maxLen; omega) (Nat.le_refl _)
  have hZ : (madeCells (Value.int .i64 0).cells (L.length * 1)).toList = iCells (List.replicate L.length 0) := made_ints _
  rw [hZ] at hownm
  have HZ := Lib.hid (IntSl.of_rows (ws := List.replicate L.length 0) (by rw [List.length_replicate]; exact hownm) (by rw [List.length_replicate]; omega))
  have Bm : Below w9.heap.size w9 wm := (ext_refl w9).grown hgm (Nat.le_refl _) (fun k e => by cases e)
  have B10 := ext_trans B9 Bm
  have B010 := ext_trans B09 Bm
  clear hownm hgm hZ
  go_wp2_with fail
  refine (combines_any _ _ L _ _ (HX.out.ext B10) HZ.out).mono ?_
  rintro e w11 ⟨rfl, b11⟩
  have B011 := ext_trans B010 b11
  go_wp2_with fail
  go_ret
  exact ⟨rfl, B011⟩

set_option maxRecDepth 100000 in
theorem lifted (os : Os) (started : os.Started) (H : Type) (enc : TypeId × Value → H) :
    ReturnsInHanded {} Try.checked os 3 .any (Rows.shapeCombinesSpec.pre6 enc Try.prog Try.f3 Rows.shapeCombinesRow.domain false) (Rows.shapeCombinesSpec.post enc Try.prog Try.f3 false true false false) := by
  refine returnsInHanded_of_change (C := Try.checked) own started (by kernel_rfl) Try.func3
    (ChangeSpec.witness6 (enc := enc) (C := Try.checked) false ⟨#[], #[.slice none 0 0, .slice none 0 0, .slice none 0 0, .slice none 0 0, .int .i64 0], []⟩ 8 (by kernel_rfl) (by kernel_rfl) (by kernel_rfl) (by kernel_rfl)) ?_
  intro W base args ds gs before hval0 hW hcnd _
  have hval : ∀ (j : Nat) t v, Try.f3.params[j]? = some t → args[j]? = some v → Value.okWide Try.prog W .any base t v := hval0
  have hW' := hW
  obtain ⟨p, q, hA0, hV, rfl, hfz, hnd⟩ := hW
  have hA : DataW.TrodAll enc Try.prog W 0 (fun _ => true) true Try.f3.params.toList args.toList ds p := hA0
  rw [Try.params3] at hA hval
  obtain ⟨v0, vs0, d0, ds0, p0, q0, hargs, rfl, rfl, h0, r0⟩ := trodAll_cons hA
  obtain ⟨v1, vs1, d1, ds1, p1, q1, rfl, rfl, rfl, h1, r1⟩ := trodAll_cons r0
  obtain ⟨v2, vs2, d2, ds2, p2, q2, rfl, rfl, rfl, h2, r2⟩ := trodAll_cons r1
  obtain ⟨v3, vs3, d3, ds3, p3, q3, rfl, rfl, rfl, h3, r3⟩ := trodAll_cons r2
  obtain ⟨v4, vs4, d4, ds4, p4, q4, rfl, rfl, rfl, h4, r4⟩ := trodAll_cons r3
  obtain ⟨rfl, rfl, rfl⟩ := trodAll_nil r4
  obtain rfl : args = #[v0, v1, v2, v3, v4] := by cases args; simp_all
  obtain ⟨rfl, rfl⟩ := trodVars_none hV
  have k0 := h0
  have lt0 : ∀ x ∈ p0, x.block < W.heap.size := by obtain ⟨m, hm⟩ := k0; exact DataW.trod_lt m _ _ _ hm
  have k1 := h1
  have lt1 : ∀ x ∈ p1, x.block < W.heap.size := by obtain ⟨m, hm⟩ := k1; exact DataW.trod_lt m _ _ _ hm
  have k2 := h2
  have lt2 : ∀ x ∈ p2, x.block < W.heap.size := by obtain ⟨m, hm⟩ := k2; exact DataW.trod_lt m _ _ _ hm
  have k3 := h3
  have lt3 : ∀ x ∈ p3, x.block < W.heap.size := by obtain ⟨m, hm⟩ := k3; exact DataW.trod_lt m _ _ _ hm
  have k4 := h4
  have lt4 : ∀ x ∈ p4, x.block < W.heap.size := by obtain ⟨m, hm⟩ := k4; exact DataW.trod_lt m _ _ _ hm
  obtain ⟨L0, hL0⟩ := open_vsl (hval 0 22 v0 rfl rfl) h0
  obtain ⟨xs1, hs1, wf1⟩ := open_i64sl (hval 1 23 v1 rfl rfl) h1
  obtain ⟨xs2, hs2, wf2⟩ := open_intsl (hval 2 24 v2 rfl rfl) h2
  obtain ⟨xs3, hs3, wf3⟩ := open_intsl (hval 3 24 v3 rfl rfl) h3
  obtain ⟨a4, rfl, rfl, rfl, w4⟩ := open_int Try.underlying2 (hval 4 2 v4 rfl rfl) h4
  clear hA0 hval0
  refine (walk v0 L0 v1 xs1 v2 xs2 v3 xs3 a4 W hL0 hs1 hs2 hs3 w4).mono fun e W' ⟨he, bel⟩ => ?_
  subst he
  exact ⟨_, rfl, _, _, _, [], _, [], hW', trodAll_mk1 (shut_bool Try.underlying4 _), (trodAll_cons_mk (Below.trod laidOut (by kernel_rfl) (of_decide_eq_true (by kernel_rfl)) k0 bel lt0) (trodAll_cons_mk (Below.trod laidOut (by kernel_rfl) (of_decide_eq_true (by kernel_rfl)) k1 bel lt1) (trodAll_cons_mk (Below.trod laidOut (by kernel_rfl) (of_decide_eq_true (by kernel_rfl)) k2 bel lt2) (trodAll_cons_mk (Below.trod laidOut (by kernel_rfl) (of_decide_eq_true (by kernel_rfl)) k3 bel lt3) (trodAll_cons_mk (Below.trod laidOut (by kernel_rfl) (of_decide_eq_true (by kernel_rfl)) k4 bel lt4) trodAll_mk0))))), rfl, bel.frame _, fun h => by cases h⟩

theorem over : Rows.shapeCombinesRow.holds Try.pinned (OpenSpec.ofChange Rows.shapeCombinesSpec) :=
  OpenClaim.holds_of_wide 3 Try.f3 rfl rfl rfl rfl rfl rfl rfl ⟨rfl, rfl, rfl, rfl, rfl⟩ rfl rfl rfl rfl rfl (by kernel_rfl) Try.func3 (by kernel_rfl)
    (of_decide_eq_true (by kernel_rfl)) (by unfold Func.isWrapper; first | (rw [if_pos (by decide +kernel)]; kernel_rfl) | (rw [if_neg (by decide +kernel)]; exact ⟨rfl, rfl⟩))
    (fun os started H enc _ => lifted os started H enc)

/-- The statement. -/
theorem proved : Rows.ShapeCombinesSaid := over
end Go.Proofs.Ytgnjconhbloocaa.shapeCombines
