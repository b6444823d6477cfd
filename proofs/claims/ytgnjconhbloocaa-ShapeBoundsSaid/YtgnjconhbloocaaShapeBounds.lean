/- ShapeBounds: the law returns true for every input, and each argument reads afterwards as it read before. Conditions: none. -/
import Derived.Test.YtgnjconhbloocaaRows
import Derived.Test.YtgnjconhbloocaaAwake10
import Derived.Test.YtgnjconhbloocaaOpen10z
import Derived.Test.YtgnjconhbloocaaLaw10b
import Derived.ProofKit
import Derived.OpenShut
import Derived.ShutString
import Derived.ChangeOld
import Derived.Below
import Derived.Lib.SmallJoins
namespace Go.Proofs.Ytgnjconhbloocaa.shapeBounds
open Go.ChangeShapes Go.WideShapes Go.ChangeAt Go.RowKit
set_option linter.unusedVariables false

theorem own : ownKnob Try.prog.godebug = none := by kernel_rfl
theorem laidOut : laidOutB Try.prog = true := by kernel_rfl

theorem vCells_append (L M : List Fx.V3) : vCells (L ++ M) = vCells L ++ vCells M := by simp [vCells]
theorem vCells_one (L : List Fx.V3) : ∀ u ∈ vCells L, u.oneCell' = true := by
  intro u hu
  unfold vCells at hu
  obtain ⟨x, _, hx⟩ := List.mem_flatMap.1 hu
  simp [Fx.V3.cells] at hx
  rcases hx with rfl | rfl | rfl | rfl | rfl | rfl <;> rfl
theorem vat_news {w : World} {b o : Nat} {L : List Fx.V3} (h : VAt w b o L) : ∀ (j : Nat) (u : Value), (vCells L)[j]? = some u → w.cell? ((⟨b, o, none⟩ : Addr).add j) = some u := by
  intro j u hu
  have hj : j < L.length * 6 := by
    rw [← vCells_len]
    by_cases c : j < (vCells L).length
    · exact c
    · rw [List.getElem?_eq_none (by omega)] at hu; cases hu
  have e := vCells_get L (j / 6) (by omega) (j % 6) (by omega)
  rw [show j / 6 * 6 + j % 6 = j by omega] at e
  have c := h.2 (j / 6) (by omega) (j % 6) (by omega)
  rw [show o + j / 6 * 6 + j % 6 = o + j by omega] at c
  rw [add_none, c, ← e, hu]
theorem owns_cap {w : World} {base size n m cap : Nat} {e : TypeId} {a : Option Addr} {xs : List Value} (h : w.ownsRow base e size (.slice a m cap) n xs) : m ≤ cap := by
  rcases h.2 with ⟨h1, h2⟩ | ⟨g, cap', cur, h1, _, _, h3, _⟩
  · simp only [Value.slice.injEq] at h1; omega
  · simp only [Value.slice.injEq] at h1; omega
section
variable {P : Program} {ops : Array Oper} {Q : Exit → Act → World → Prop} {rest : List Oper}
theorem wpList_of_append {o : Oper} {a : Act} {w w' : World} {v u r : Value} (hw : Region.wanted o (yielded ops a.tmps) = true) (s x : Operand) (t : TypeId)
    (ho : o.op = .call { callee := .builtin .append, args := #[s, x], argTypes := #[t, t] }) (hs : a.eval s = v) (hx : a.eval x = u)
    (hr : (Builtin.append_ #[t, t] o.type #[v, u]).run P w = .ok r w') (h : wpList P ops Q rest (a.put o.dst r) w') : wpList P ops Q (o :: rest) a w := by
  unfold wpList
  rw [if_pos hw]
  left
  unfold Oper.wp execOp
  simp only [ho, resolve, invoke, builtin, Sem.run_bind, Sem.run_pure, Result.andThen_ok, List.map_toArray, List.map_cons, List.map_nil, hs, hx, hr]
  exact h
end
theorem append_empty (w : World) (t : TypeId) {e : TypeId} {i : TypeInfo} (ht : Try.prog.underlying t = some (.slice e)) (hi : Try.prog.info? e = some i) (a : Option Addr) (n cap : Nat) (hc : n ≤ cap) (a0 : Option Addr) (c0 : Nat) :
    (Builtin.append_ #[t, t] t #[.slice a n cap, .slice a0 0 c0]).run Try.prog w = .ok (.slice a n cap) w := by
  cases a <;> cases a0 <;> simp [Builtin.append_, run_underlying ht, sizeOf, typeInfo, hi, Builtin.lenOf, Builtin.firstCells, hc, storeCells, loadCells, loadCellsFrom]

set_option maxRecDepth 100000 in
set_option maxHeartbeats 4000000 in
theorem walk (v0 : Value) (L0 : List Fx.V3) (r : Int) (v2 : Value) (xs2 : List Int) (m : Int) (w : World) (h0 : VSl w v0 L0) (hz : L0.length * 48 ≤ 140737488351232) (hr : (Lit.int .i64 r).wf = true) (h2 : IntSl w v2 xs2) (hm : (Lit.int .i64 m).wf = true) :
    Calls Try.prog 7 #[v0, .int .i64 r, v2, .int .i64 m] w fun e w' => e = .returned (.bool true) ∧ Below w.heap.size w w' := by
  have H0 := Lib.hid h0; have H2 := Lib.hid h2
  obtain ⟨a0, c0, rfl, hl0, h0'⟩ := h0
  have HJ := Lib.hid h0'
  clear h0'
  obtain ⟨a2, c2, rfl, hl2, _⟩ := h2
  clear hm hr
  obtain ⟨i0, hi, hz0, hz1, hz2⟩ := info_parts info_ivec
  go_enter Try.func7, Try.ntmps7
  go_wp2_with fail
  refine (round_any _ _ _ (by omega) (by omega)).mono ?_
  rintro e w' ⟨rfl, rfl⟩
  have m0 := Int.emod_nonneg m (show (5000 : Int) ≠ 0 by omega)
  have m1 := Int.emod_lt_of_pos m (show (0 : Int) < 5000 by omega)
  generalize m % 5000 = W at *
  go_wp2_with fail
  refine (points_any _ xs2 W _ H2.out (by omega) (by omega)).mono ?_
  rintro e w1 ⟨u, L, rfl, hL1, hL5, hM, hown, hb1⟩
  obtain ⟨g, cap, rfl⟩ := ownsRow_form' hown (by omega)
  have HO := Lib.hid hown
  have HX := Lib.hid (VSl.of_owns hown (by omega))
  clear hM hown H2
  go_wp2_with fail
  refine (round_any _ _ _ (by omega) (by omega)).mono ?_
  rintro e w' ⟨rfl, rfl⟩
  have m2 := Int.emod_nonneg (bits BinOp.and IntKind.i64 r 16777215) (show (2097152 : Int) ≠ 0 by omega)
  have m3 := Int.emod_lt_of_pos (bits BinOp.and IntKind.i64 r 16777215) (show (0 : Int) < 2097152 by omega)
  generalize bits BinOp.and IntKind.i64 r 16777215 % 2097152 = q at *
  go_wp2_with fail
  refine (awake_any _).mono ?_
  rintro e w2 ⟨rfl, hb2⟩
  have hB2 := ext_trans hb1 hb2
  have HO2 := Lib.hid (owns_ext HO.out hb2)
  clear HO HX hb1 hb2
  go_wp2_with fail
  refine (bounds_any _ L0 r _ (H0.out.ext hB2)).mono ?_
  rintro e w3 ⟨rfl, hb3⟩
  have hB3 := ext_trans hB2 hb3
  have HO3 := Lib.hid (owns_ext HO2.out hb3)
  clear HO2 hB2 hb3
  go_wp2_with fail
  refine (bounds_any _ L (q - 5) _ (VSl.of_owns HO3.out (by omega))).mono ?_
  rintro e w4 ⟨rfl, hb4⟩
  have hB4 := ext_trans hB3 hb4
  have hO4 := owns_ext HO3.out hb4
  have HO4 := Lib.hid hO4
  clear HO3 hB3 hb4
  have hw4 := hB4.size
  by_cases hL0 : 0 < L0.length
  · obtain ⟨b, o, rfl, hJ⟩ := HJ.out hL0
    have hJ4 := hJ.ext hB4
    obtain ⟨g', cap', w5, hrun, hown5, hgrow, _, hlt5⟩ := run_append_lies (P := Try.prog) w4 22 22 w.heap.size 34 i0 _ 6 48 Try.underlying22 hi hz0 hz1 hz2 rfl (by omega) _ L.length (vCells L) hO4 ⟨b, o, none⟩ L0.length c0 (vCells L0) (vCells_len L0) (vat_news hJ4) (vCells_one L0) hL0 (by unfold maxLen; omega) (by omega) hw4 w4.heap.size rfl
    have hb5 : Below w.heap.size w w5 := hB4.grown hgrow hw4 (fun k e => by have := (hO4.lt k e).1; omega)
    have hV5 : VSl w5 (.slice (some ⟨g', 0, none⟩) (L.length + L0.length) cap') (L ++ L0) := by
      have h := VSl.of_owns (L := L ++ L0) (by rw [List.length_append, vCells_append]; exact hown5) (by rw [List.length_append]; omega)
      exact h
    have HV5 := Lib.hid hV5
    have HRun := Lib.hid hrun
    clear hown5 hgrow hlt5 hV5 hJ hJ4 hO4 hrun
    go_wp2_with (at_builtin; refine wpList_of_append (by rfl) _ _ _ rfl rfl rfl HRun.out ?_)
    refine (bounds_any _ (L ++ L0) (q - 5) _ HV5.out).mono ?_
    rintro e w6 ⟨rfl, hb6⟩
    have hB6 := ext_trans hb5 hb6
    clear hb5 hb6
    go_wp2_with fail
    go_ret
    exact ⟨rfl, hB6⟩
  · have hrun := append_empty w4 22 Try.underlying22 hi (some ⟨g, 0, none⟩) L.length cap (owns_cap hO4) a0 c0
    obtain rfl : L0 = [] := by
      cases L0 with
      | nil => rfl
      | cons a l => simp at hL0
    have HRun := Lib.hid hrun
    clear hO4 hrun
    go_wp2_with (at_builtin; refine wpList_of_append (by rfl) _ _ _ rfl rfl rfl HRun.out ?_)
    refine (bounds_any _ L (q - 5) _ (VSl.of_owns HO4.out (by omega))).mono ?_
    rintro e w6 ⟨rfl, hb6⟩
    have hB6 := ext_trans hB4 hb6
    clear hb6
    go_wp2_with fail
    go_ret
    exact ⟨rfl, hB6⟩

set_option maxRecDepth 100000 in
theorem lifted (os : Os) (started : os.Started) (H : Type) (enc : TypeId × Value → H) :
    ReturnsInHanded {} Try.checked os 7 .any (Rows.shapeBoundsSpec.pre6 enc Try.prog Try.f7 Rows.shapeBoundsRow.domain false) (Rows.shapeBoundsSpec.post enc Try.prog Try.f7 false true false false) := by
  refine returnsInHanded_of_change_sized (C := Try.checked) own started (by kernel_rfl) Try.func7
    (ChangeSpec.witness6 (enc := enc) (C := Try.checked) false ⟨#[], #[.slice none 0 0, .int .i64 0, .slice none 0 0, .int .i64 0], []⟩ 8 (by kernel_rfl) (by kernel_rfl) (by kernel_rfl) (by kernel_rfl)) ?_
  intro W base args ds gs before hval0 hW hcnd hsz _
  have hval : ∀ (j : Nat) t v, Try.f7.params[j]? = some t → args[j]? = some v → Value.okWide Try.prog W .any base t v := hval0
  have hW' := hW
  obtain ⟨p, q, hA0, hV, rfl, hfz, hnd⟩ := hW
  have hA : DataW.TrodAll enc Try.prog W 0 (fun _ => true) true Try.f7.params.toList args.toList ds p := hA0
  rw [Try.params7] at hA hval hsz
  obtain ⟨v0, vs0, d0, ds0, p0, q0, hargs, rfl, rfl, h0, r0⟩ := trodAll_cons hA
  obtain ⟨v1, vs1, d1, ds1, p1, q1, rfl, rfl, rfl, h1, r1⟩ := trodAll_cons r0
  obtain ⟨v2, vs2, d2, ds2, p2, q2, rfl, rfl, rfl, h2, r2⟩ := trodAll_cons r1
  obtain ⟨v3, vs3, d3, ds3, p3, q3, rfl, rfl, rfl, h3, r3⟩ := trodAll_cons r2
  obtain ⟨rfl, rfl, rfl⟩ := trodAll_nil r3
  obtain rfl : args = #[v0, v1, v2, v3] := by cases args; simp_all
  obtain ⟨rfl, rfl⟩ := trodVars_none hV
  have k0 := h0
  have lt0 : ∀ x ∈ p0, x.block < W.heap.size := by obtain ⟨m, hm⟩ := k0; exact DataW.trod_lt m _ _ _ hm
  have k1 := h1
  have lt1 : ∀ x ∈ p1, x.block < W.heap.size := by obtain ⟨m, hm⟩ := k1; exact DataW.trod_lt m _ _ _ hm
  have k2 := h2
  have lt2 : ∀ x ∈ p2, x.block < W.heap.size := by obtain ⟨m, hm⟩ := k2; exact DataW.trod_lt m _ _ _ hm
  have k3 := h3
  have lt3 : ∀ x ∈ p3, x.block < W.heap.size := by obtain ⟨m, hm⟩ := k3; exact DataW.trod_lt m _ _ _ hm
  obtain ⟨L0, hL0, hD0⟩ := open_vslz (hval 0 22 v0 rfl rfl) h0
  have hZ0 : L0.length * 48 ≤ 140737488351232 := by
    rcases hD0 with rfl | ⟨el, sp, rfl, he⟩
    · simp
    · have hq : (el.length + sp.length) * Try.prog.bytesOf 34 ≤ reachBytes := sized_slice hsz (j := 0) rfl rfl Try.underlying22
      rw [bytes_ivec, reach_num, he] at hq
      omega
  obtain ⟨a1, rfl, rfl, rfl, w1⟩ := open_int Try.underlying2 (hval 1 2 v1 rfl rfl) h1
  obtain ⟨xs2, hs2, wf2⟩ := open_intsl (hval 2 24 v2 rfl rfl) h2
  obtain ⟨a3, rfl, rfl, rfl, w3⟩ := open_int Try.underlying3 (hval 3 3 v3 rfl rfl) h3
  clear hA0 hval0
  refine (walk v0 L0 a1 v2 xs2 a3 W hL0 hZ0 w1 hs2 w3).mono fun e W' ⟨he, bel⟩ => ?_
  subst he
  exact ⟨_, rfl, _, _, _, [], _, [], hW', trodAll_mk1 (shut_bool Try.underlying4 _), (trodAll_cons_mk (Below.trod laidOut (by kernel_rfl) (of_decide_eq_true (by kernel_rfl)) k0 bel lt0) (trodAll_cons_mk (Below.trod laidOut (by kernel_rfl) (of_decide_eq_true (by kernel_rfl)) k1 bel lt1) (trodAll_cons_mk (Below.trod laidOut (by kernel_rfl) (of_decide_eq_true (by kernel_rfl)) k2 bel lt2) (trodAll_cons_mk (Below.trod laidOut (by kernel_rfl) (of_decide_eq_true (by kernel_rfl)) k3 bel lt3) trodAll_mk0)))), rfl, bel.frame _, fun h => by cases h⟩

theorem over : Rows.shapeBoundsRow.holds Try.pinned (OpenSpec.ofChange Rows.shapeBoundsSpec) :=
  OpenClaim.holds_of_wide 7 Try.f7 rfl rfl rfl rfl rfl rfl rfl ⟨rfl, rfl, rfl, rfl, rfl⟩ rfl rfl rfl rfl rfl (by kernel_rfl) Try.func7 (by kernel_rfl)
    (of_decide_eq_true (by kernel_rfl)) (by unfold Func.isWrapper; first | (rw [if_pos (by decide +kernel)]; kernel_rfl) | (rw [if_neg (by decide +kernel)]; exact ⟨rfl, rfl⟩))
    (fun os started H enc _ => lifted os started H enc)

/-- The statement. -/
theorem proved : Rows.ShapeBoundsSaid := over
end Go.Proofs.Ytgnjconhbloocaa.shapeBounds
