/- SamplerWithin: the law returns true for every input, and each argument reads afterwards as it read before. Conditions: none. -/
import Derived.Test.YtlpkjafhpbiffaaDoorRows
import Derived.Test.YtlpkjafhpbiffaaDoorAwake23
import Derived.Test.YtlpkjafhpbiffaaDoorSampMath2
import Derived.Test.YtlpkjafhpbiffaaDoorBox
import Derived.Test.YtlpkjafhpbiffaaDoorSame
import Derived.Test.YtlpkjafhpbiffaaDoorOpen23
import Derived.Test.YtlpkjafhpbiffaaDoorCards
import Derived.Test.YtlpkjafhpbiffaaDoorTie
import Derived.ProofKit
import Derived.OpenShut
import Derived.ShutString
import Derived.ChangeOld
import Derived.Below
import Derived.Lib.SmallJoins
namespace Go.Proofs.YtlpkjafhpbiffaaDoor.samplerWithin
open Go.ChangeShapes Go.WideShapes Go.ChangeAt Go.RowKit
set_option linter.unusedVariables false

theorem spread_in (x lo hi : Int) (hv : Fx.vb lo hi = true) (h0 : 0 ≤ x) (h1 : x < 18446744073709551616) : Fx.hasB lo hi (Fx.spread x lo hi) = true := by
  have hb := Fx.vb_true.1 hv
  have := Fx.frac_bd x (hi - lo + 1) 18446744073709551616 h0 h1 (by omega)
  unfold Fx.hasB Fx.spread
  rw [hv, if_pos rfl]
  simp
  omega

theorem place_in (n d lo hi : Int) (hv : Fx.vb lo hi = true) (h0 : 0 ≤ n) : Fx.hasB lo hi (Fx.place n d lo hi) = true := by
  have hb := Fx.vb_true.1 hv
  unfold Fx.hasB
  rw [hv]
  by_cases h : n < d
  · have := Fx.frac_bd n (hi - lo + 1) d h0 h (by omega)
    rw [Fx.place_yes hv h]
    simp
    omega
  · rw [Fx.place_not h]
    simp
    omega

theorem box_at {L : List (Int × Int)} (h : Fx.boxB L = true) (i : Nat) (hi : i < L.length) : Fx.vb (L.getD i (0, 0)).1 (L.getD i (0, 0)).2 = true := by
  have := Fx.boxB_all h
  unfold Fx.allB at this
  rw [List.all_eq_true] at this
  have := this L[i] (List.getElem_mem hi)
  rw [List.getD_eq_getElem?_getD, List.getElem?_eq_getElem hi]
  exact this

theorem uniform_in {L : List (Int × Int)} (s i : Int) (h : Fx.boxB L = true) : (Fx.uniform L s i).length = L.length ∧ ∀ j : Nat, j < L.length → Fx.hasB (L.getD j (0, 0)).1 (L.getD j (0, 0)).2 ((Fx.uniform L s i).getD j 0) = true := by
  unfold Fx.uniform
  rw [if_pos h]
  refine ⟨by simp, fun j hj => ?_⟩
  have e : ((List.range L.length).map (Fx.uniformAt L s i)).getD j 0 = Fx.uniformAt L s i j := by simp [List.getD_eq_getElem?_getD, hj]
  rw [e]
  have wb := Fx.word_bd s (IntKind.u64.wrap (IntKind.u64.wrap (i * L.length) + j))
  exact spread_in _ _ _ (box_at h j hj) wb.1 wb.2

theorem halton_in {L : List (Int × Int)} (i : Int) (h0 : 0 ≤ i) (h : Fx.boxB L = true) : (Fx.halton L i).length = L.length ∧ ∀ j : Nat, j < L.length → Fx.hasB (L.getD j (0, 0)).1 (L.getD j (0, 0)).2 ((Fx.halton L i).getD j 0) = true := by
  unfold Fx.halton
  rw [if_pos h]
  refine ⟨by simp, fun j hj => ?_⟩
  have e : ((List.range L.length).map (Fx.haltonAt L i)).getD j 0 = Fx.haltonAt L i j := by simp [List.getD_eq_getElem?_getD, hj]
  rw [e]
  have pb := Fx.prime_bd j
  exact place_in _ _ _ _ (box_at h j hj) (Fx.rad_bd (Fx.prime j) i (by omega) h0).1

set_option maxHeartbeats 1000000 in
theorem walk (u : Value) (xs : List Int) (s i : Int) (w : World) (hx : IntSl w u xs) (_hw : ∀ x ∈ xs, (Lit.int .i64 x).wf = true) (ws : (Lit.int .u64 s).wf = true) (wi : (Lit.int .u64 i).wf = true) (hT : PTab w) (hz : 0 < w.heap.size) :
    Calls Tryd.prog 12 #[u, .int .u64 s, .int .u64 i] w fun e w' => e = .returned (.bool true) ∧ Below w.heap.size w w' := by
  have HT := Lib.hid hT; clear hT
  have HX := Lib.hid hx
  obtain ⟨s0, s1⟩ := Fx.wf_u64 ws
  obtain ⟨i0, i1⟩ := Fx.wf_u64 wi
  clear ws wi _hw
  obtain ⟨a', c', rfl, _, _⟩ := hx
  go_enter Tryd.func12, Tryd.ntmps12
  go_wp2_with fail
  refine (Root_any _ xs _ HX.out).mono ?_
  rintro e w1 ⟨v1, M, rfl, hM, hown, hb1⟩
  have hIM := Lib.hid (IvSl.of_owns hown (by have := Fx.boxB_len hM; omega))
  have HA := Lib.hid (Fx.boxB_all hM)
  have HU := Lib.hid (uniform_in s i hM)
  have HH := Lib.hid (halton_in i i0 hM)
  obtain ⟨g, cap, rfl, _, _⟩ := hown.form (by have := Fx.boxB_len hM; omega)
  clear hM hown
  go_wp2_with fail
  refine (awake_any _ (HT.out.ext hb1 hz) (Nat.lt_of_lt_of_le hz hb1.size)).mono ?_
  rintro e w2 ⟨rfl, hb2⟩
  have hB2 := ext_trans hb1 hb2
  have hIM2 := Lib.hid (hIM.out.ext hb2)
  clear hIM hb1 hb2
  go_wp2_with fail
  refine (uniform_any _ M _ _ _ hIM2.out i0 i1).mono ?_
  rintro e w3 ⟨v3, rfl, h3, hb3⟩
  have H3 := Lib.hid h3
  obtain ⟨a3, c3, rfl, _, _⟩ := h3
  have hB3 := ext_trans hB2 hb3
  have hIM3 := Lib.hid (hIM2.out.ext hb3)
  clear hIM2 hb3 hB2
  go_wp2_with fail
  refine (has_yes _ _ M _ _ hIM3.out H3.out HA.out HU.out.1 HU.out.2).mono ?_
  rintro e w4 ⟨rfl, hb4⟩
  have hB4 := ext_trans hB3 hb4
  have hIM4 := Lib.hid (hIM3.out.ext hb4)
  clear hIM3 hb4 hB3 H3 HU
  go_wp2_with fail
  refine (halton_any _ M _ _ (HT.out.ext hB4 hz) (Nat.lt_of_lt_of_le hz hB4.size) hIM4.out i0 i1).mono ?_
  rintro e w5 ⟨v5, rfl, h5, hb5⟩
  have H5 := Lib.hid h5
  obtain ⟨a5, c5, rfl, _, _⟩ := h5
  have hB5 := ext_trans hB4 hb5
  have hIM5 := Lib.hid (hIM4.out.ext hb5)
  clear hIM4 hb5 hB4
  go_wp2_with fail
  refine (has_yes _ _ M _ _ hIM5.out H5.out HA.out HH.out.1 HH.out.2).mono ?_
  rintro e w6 ⟨rfl, hb6⟩
  go_wp2_with fail
  go_ret
  exact ⟨rfl, ext_trans hB5 hb6⟩

set_option maxRecDepth 100000 in
theorem lifted (os : Os) (started : os.Started) (H : Type) (enc : TypeId × Value → H) :
    ReturnsInHanded {} Tryd.checked os 12 .any (fun w args => (Rows.samplerWithinSpec.pre enc Tryd.prog Tryd.f12 [] false w args ∧ laidMetH Tryd.prog laid1 w) ∧ sizedMet enc Tryd.prog Tryd.f12 (OpenSpec.ofChange Rows.samplerWithinSpec) false w args) (Rows.samplerWithinSpec.post enc Tryd.prog Tryd.f12 false true false false) := by
  refine returnsInHanded_of_change_and (C := Tryd.checked) (X := fun w _ => laidMetH Tryd.prog laid1 w) (fun _ _ _ hh h => h.of_heap hh) own started (by kernel_rfl) Tryd.func12
    (ChangeSpec.witness_shaped (enc := enc) (C := Tryd.checked) (os := os) (X := fun w _ => laidMetH Tryd.prog laid1 w) false (World.doorLaid Tryd.prog 400 os) #[.slice none 0 0, .int .u64 0, .int .u64 0] 8 rfl (World.shaped_of_RefB (by kernel_rfl) (by kernel_rfl)) (by kernel_rfl) (by kernel_rfl) (by kernel_rfl) (door_met os _)) ?_
  intro W base args ds gs before hval0 hW _ _ hLaid _
  have hval : ∀ (j : Nat) t v, Tryd.f12.params[j]? = some t → args[j]? = some v → Value.okWide Tryd.prog W .any base t v := hval0
  have hW' := hW
  obtain ⟨p, q, hA0, hV, rfl, hfz, hnd⟩ := hW
  have hA : DataW.TrodAll enc Tryd.prog W 0 (fun _ => true) true Tryd.f12.params.toList args.toList ds p := hA0
  rw [Tryd.params12] at hA hval
  obtain ⟨v0, vs0, d0, ds0, p0, q0, hargs, rfl, rfl, h0, r0⟩ := trodAll_cons hA
  obtain ⟨v1, vs1, d1, ds1, p1, q1, rfl, rfl, rfl, h1, r1⟩ := trodAll_cons r0
  obtain ⟨v2, vs2, d2, ds2, p2, q2, rfl, rfl, rfl, h2, r2⟩ := trodAll_cons r1
  obtain ⟨rfl, rfl, rfl⟩ := trodAll_nil r2
  obtain rfl : args = #[v0, v1, v2] := by cases args; simp_all
  obtain ⟨rfl, rfl⟩ := trodVars_none hV
  have k0 := h0
  have lt0 : ∀ x ∈ p0, x.block < W.heap.size := by obtain ⟨m, hm⟩ := k0; exact DataW.trod_lt m _ _ _ hm
  have k1 := h1
  have lt1 : ∀ x ∈ p1, x.block < W.heap.size := by obtain ⟨m, hm⟩ := k1; exact DataW.trod_lt m _ _ _ hm
  have k2 := h2
  have lt2 : ∀ x ∈ p2, x.block < W.heap.size := by obtain ⟨m, hm⟩ := k2; exact DataW.trod_lt m _ _ _ hm
  obtain ⟨xs0, hs0, wf0⟩ := open_intsl (hval 0 34 v0 rfl rfl) h0
  obtain ⟨a1, rfl, rfl, rfl, w1⟩ := open_int Tryd.underlying22 (hval 1 22 v1 rfl rfl) h1
  obtain ⟨a2, rfl, rfl, rfl, w2⟩ := open_int Tryd.underlying22 (hval 2 22 v2 rfl rfl) h2
  clear hA0 hval0
  obtain ⟨hPT, hPz⟩ := of_laid hLaid
  refine (walk v0 xs0 a1 a2 W hs0 wf0 w1 w2 hPT hPz).mono fun e W' ⟨he, bel⟩ => ?_
  subst he
  exact ⟨_, rfl, _, _, _, [], _, [], hW', trodAll_mk1 (shut_bool Tryd.underlying4 _), (trodAll_cons_mk (Below.trod laidOut (by kernel_rfl) (of_decide_eq_true (by kernel_rfl)) k0 bel lt0) (trodAll_cons_mk (Below.trod laidOut (by kernel_rfl) (of_decide_eq_true (by kernel_rfl)) k1 bel lt1) (trodAll_cons_mk (Below.trod laidOut (by kernel_rfl) (of_decide_eq_true (by kernel_rfl)) k2 bel lt2) trodAll_mk0))), rfl, bel.frame _, fun h => by cases h⟩

theorem over : Rows.samplerWithinRow.holds Tryd.pinned (OpenSpec.ofChange Rows.samplerWithinSpec) :=
  OpenClaim.holds_of_wide 12 Tryd.f12 rfl rfl rfl rfl rfl rfl rfl ⟨rfl, rfl, rfl, rfl, rfl⟩ rfl rfl rfl rfl rfl (by kernel_rfl) Tryd.func12 (by kernel_rfl)
    (of_decide_eq_true (by kernel_rfl)) (by unfold Func.isWrapper; first | (rw [if_pos (by decide +kernel)]; kernel_rfl) | (rw [if_neg (by decide +kernel)]; exact ⟨rfl, rfl⟩))
    (fun os started H enc _ => lifted os started H enc)

theorem tieK : Rows.samplerWithinRow.laidByTextAt .later Tryd.pinned [.data] true := samplerWithin_row_tie

/-- The statement. -/
theorem proved : Rows.SamplerWithinCardSaid :=
  Claim7.holds_tied_plain_at .later [] [.data] true (true, "dafc2aeea59d94dd6dafe070eaf5c5e18f1af2737ccda70bd1867ac8f32746f1") false
    over (fun _ h => by cases h) (by kernel_rfl) (fun _ h => by cases h) tieK rfl ⟨rfl, rfl⟩ (by kernel_rfl) rfl
    (fun f fn hf hfn => by
      obtain rfl : f = 12 := Option.some.inj ((show Tryd.prog.funcNamed "armplan/armplanlaw23.SamplerWithin" = some 12 by kernel_rfl).symm.trans hf) |>.symm
      obtain rfl : fn = Tryd.f12 := (Option.some.inj (Tryd.func12.symm.trans hfn)).symm
      exact ⟨by kernel_rfl, fun j t ht => by
        rw [Tryd.params12] at ht
        have hm : t ∈ [34, 22] := by have := Array.mem_of_getElem? ht; simp at this; simp; omega
        have hall : ([34, 22].all fun u => !Tryd.prog.wantsStandIn u) = true := by kernel_rfl
        exact (show Tryd.prog.wantsStandIn t = false by simpa using List.all_eq_true.1 hall t hm)⟩)
    (by kernel_rfl)
end Go.Proofs.YtlpkjafhpbiffaaDoor.samplerWithin
