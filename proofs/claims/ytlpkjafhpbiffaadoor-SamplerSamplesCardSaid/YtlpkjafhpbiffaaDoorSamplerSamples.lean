/- SamplerSamples: the law returns true for every input, and each argument reads afterwards as it read before. Conditions: none. -/
import Derived.Test.YtlpkjafhpbiffaaDoorRows
import Derived.Test.YtlpkjafhpbiffaaDoorAwake23
import Derived.Test.YtlpkjafhpbiffaaDoorSampMath2
import Derived.Test.YtlpkjafhpbiffaaDoorBox
import Derived.Test.YtlpkjafhpbiffaaDoorSame
import Derived.Test.YtlpkjafhpbiffaaDoorOpen23
import Derived.Test.YtlpkjafhpbiffaaDoorCards
import Derived.Test.YtlpkjafhpbiffaaDoorTie
import Derived.ProofKit
import Derived.OpenShut
import Derived.ShutString
import Derived.ChangeOld
import Derived.Below
import Derived.Lib.SmallJoins
namespace Go.Proofs.YtlpkjafhpbiffaaDoor.samplerSamples
open Go.ChangeShapes Go.WideShapes Go.ChangeAt Go.RowKit
set_option linter.unusedVariables false

theorem and63_bd (i : Int) (h0 : 0 ≤ i) (h1 : i < 18446744073709551616) : 0 ≤ bits .and .u64 i 63 ∧ bits .and .u64 i 63 < 18446744073709551616 := by
  rw [u64_and i 63 h0 h1 (by omega) (by omega)]
  have : i.toNat &&& (63 : Int).toNat ≤ (63 : Int).toNat := Nat.and_le_right
  have h3 : (63 : Int).toNat = 63 := rfl
  omega

set_option maxHeartbeats 1000000 in
theorem samples_any (v : Value) (L : List (Int × Int)) (s i : Int) (w : World) (hT : PTab w) (hz : 0 < w.heap.size) (hI : IvSl w v L) (hi0 : 0 ≤ i) (hi1 : i < 18446744073709551616) :
    Calls Tryd.prog 29 #[v, .int .u64 s, .int .u64 i] w fun e w' => e = .returned (.bool true) ∧ Below w.heap.size w w' := by
  have HT := Lib.hid hT; clear hT
  have HI := Lib.hid hI
  obtain ⟨a, c, rfl, _, _⟩ := hI
  go_enter Tryd.func29, Tryd.ntmps29
  go_wp2_with fail
  refine (uniform_any _ L s i _ HI.out hi0 hi1).mono ?_
  rintro e w1 ⟨u1, rfl, hu1, hb1⟩
  have HU1 := Lib.hid hu1
  obtain ⟨a1, c1, rfl, _, _⟩ := hu1
  go_wp2_with fail
  refine (runiform_any _ L s i _ (HI.out.ext hb1) hi0 hi1).mono ?_
  rintro e w2 ⟨u2, rfl, hu2, hb2⟩
  have HU2 := Lib.hid hu2
  obtain ⟨a2, c2, rfl, _, _⟩ := hu2
  go_wp2_with fail
  refine (same_any _ _ _ _ (HU1.out.ext hb2) HU2.out).mono ?_
  rintro e w3 ⟨rfl, hb3⟩
  have hB3 := ext_trans (ext_trans hb1 hb2) hb3
  clear hb1 hb2 hb3 HU1 HU2
  go_wp2_with fail
  refine (halton_any _ L i _ (HT.out.ext hB3 hz) (Nat.lt_of_lt_of_le hz hB3.size) (HI.out.ext hB3) hi0 hi1).mono ?_
  rintro e w4 ⟨u4, rfl, hu4, hb4⟩
  have HU4 := Lib.hid hu4
  obtain ⟨a4, c4, rfl, _, _⟩ := hu4
  go_wp2_with fail
  refine (rhalton_any _ L i _ ((HI.out.ext hB3).ext hb4) hi0 hi1).mono ?_
  rintro e w5 ⟨u5, rfl, hu5, hb5⟩
  have HU5 := Lib.hid hu5
  obtain ⟨a5, c5, rfl, _, _⟩ := hu5
  go_wp2_with fail
  refine (same_any _ _ _ _ (HU4.out.ext hb5) HU5.out).mono ?_
  rintro e w6 ⟨rfl, hb6⟩
  go_wp2_with fail
  go_ret
  exact ⟨rfl, ext_trans (ext_trans (ext_trans hB3 hb4) hb5) hb6⟩

set_option maxHeartbeats 1000000 in
theorem walk (v : Value) (L : List (Int × Int)) (u : Value) (xs : List Int) (s i : Int) (w : World) (hI : IvSl w v L) (hx : IntSl w u xs) (_hw : ∀ x ∈ xs, (Lit.int .i64 x).wf = true) (ws : (Lit.int .u64 s).wf = true) (wi : (Lit.int .u64 i).wf = true) (hT : PTab w) (hz : 0 < w.heap.size) :
    Calls Tryd.prog 11 #[v, u, .int .u64 s, .int .u64 i] w fun e w' => e = .returned (.bool true) ∧ Below w.heap.size w w' := by
  have HT := Lib.hid hT; clear hT
  have HI := Lib.hid hI
  have HX := Lib.hid hx
  obtain ⟨s0, s1⟩ := Fx.wf_u64 ws
  obtain ⟨i0, i1⟩ := Fx.wf_u64 wi
  have i2 := and63_bd i i0 i1
  clear ws wi _hw
  obtain ⟨a, c, rfl, _, _⟩ := hI
  obtain ⟨a', c', rfl, _, _⟩ := hx
  go_enter Tryd.func11, Tryd.ntmps11
  go_wp2_with fail
  refine (Root_any _ xs _ HX.out).mono ?_
  rintro e w1 ⟨v1, M, rfl, hM, hown, hb1⟩
  have hIM := Lib.hid (IvSl.of_owns hown (by have := Fx.boxB_len hM; omega))
  obtain ⟨g, cap, rfl, _, _⟩ := hown.form (by have := Fx.boxB_len hM; omega)
  clear hM hown
  go_wp2_with fail
  refine (awake_any _ (HT.out.ext hb1 hz) (Nat.lt_of_lt_of_le hz hb1.size)).mono ?_
  rintro e w2 ⟨rfl, hb2⟩
  have hB2 := ext_trans hb1 hb2
  have hIM2 := Lib.hid (hIM.out.ext hb2)
  clear hIM hb1 hb2
  go_wp2_with fail
  refine (samples_any _ L _ _ _ (HT.out.ext hB2 hz) (Nat.lt_of_lt_of_le hz hB2.size) (HI.out.ext hB2) i0 i1).mono ?_
  rintro e w3 ⟨rfl, hb3⟩
  have hB3 := ext_trans hB2 hb3
  have hIM3 := Lib.hid (hIM2.out.ext hb3)
  clear hIM2 hb3 hB2
  go_wp2_with fail
  refine (samples_any _ M _ _ _ (HT.out.ext hB3 hz) (Nat.lt_of_lt_of_le hz hB3.size) hIM3.out i0 i1).mono ?_
  rintro e w4 ⟨rfl, hb4⟩
  have hB4 := ext_trans hB3 hb4
  have hIM4 := Lib.hid (hIM3.out.ext hb4)
  clear hIM3 hb4 hB3
  go_wp2_with fail
  refine (samples_any _ M _ _ _ (HT.out.ext hB4 hz) (Nat.lt_of_lt_of_le hz hB4.size) hIM4.out i2.1 i2.2).mono ?_
  rintro e w5 ⟨rfl, hb5⟩
  go_wp2_with fail
  go_ret
  exact ⟨rfl, ext_trans hB4 hb5⟩

set_option maxRecDepth 100000 in
theorem lifted (os : Os) (started : os.Started) (H : Type) (enc : TypeId × Value → H) :
    ReturnsInHanded {} Tryd.checked os 11 .any (fun w args => (Rows.samplerSamplesSpec.pre enc Tryd.prog Tryd.f11 [] false w args ∧ laidMetH Tryd.prog laid1 w) ∧ sizedMet enc Tryd.prog Tryd.f11 (OpenSpec.ofChange Rows.samplerSamplesSpec) false w args) (Rows.samplerSamplesSpec.post enc Tryd.prog Tryd.f11 false true false false) := by
  refine returnsInHanded_of_change_and (C := Tryd.checked) (X := fun w _ => laidMetH Tryd.prog laid1 w) (fun _ _ _ hh h => h.of_heap hh) own started (by kernel_rfl) Tryd.func11
    (ChangeSpec.witness_shaped (enc := enc) (C := Tryd.checked) (os := os) (X := fun w _ => laidMetH Tryd.prog laid1 w) false (World.doorLaid Tryd.prog 400 os) #[.slice none 0 0, .slice none 0 0, .int .u64 0, .int .u64 0] 8 rfl (World.shaped_of_RefB (by kernel_rfl) (by kernel_rfl)) (by kernel_rfl) (by kernel_rfl) (by kernel_rfl) (door_met os _)) ?_
  intro W base args ds gs before hval0 hW _ _ hLaid _
  have hval : ∀ (j : Nat) t v, Tryd.f11.params[j]? = some t → args[j]? = some v → Value.okWide Tryd.prog W .any base t v := hval0
  have hW' := hW
  obtain ⟨p, q, hA0, hV, rfl, hfz, hnd⟩ := hW
  have hA : DataW.TrodAll enc Tryd.prog W 0 (fun _ => true) true Tryd.f11.params.toList args.toList ds p := hA0
  rw [Tryd.params11] at hA hval
  obtain ⟨v0, vs0, d0, ds0, p0, q0, hargs, rfl, rfl, h0, r0⟩ := trodAll_cons hA
  obtain ⟨v1, vs1, d1, ds1, p1, q1, rfl, rfl, rfl, h1, r1⟩ := trodAll_cons r0
  obtain ⟨v2, vs2, d2, ds2, p2, q2, rfl, rfl, rfl, h2, r2⟩ := trodAll_cons r1
  obtain ⟨v3, vs3, d3, ds3, p3, q3, rfl, rfl, rfl, h3, r3⟩ := trodAll_cons r2
  obtain ⟨rfl, rfl, rfl⟩ := trodAll_nil r3
  obtain rfl : args = #[v0, v1, v2, v3] := by cases args; simp_all
  obtain ⟨rfl, rfl⟩ := trodVars_none hV
  have k0 := h0
  have lt0 : ∀ x ∈ p0, x.block < W.heap.size := by obtain ⟨m, hm⟩ := k0; exact DataW.trod_lt m _ _ _ hm
  have k1 := h1
  have lt1 : ∀ x ∈ p1, x.block < W.heap.size := by obtain ⟨m, hm⟩ := k1; exact DataW.trod_lt m _ _ _ hm
  have k2 := h2
  have lt2 : ∀ x ∈ p2, x.block < W.heap.size := by obtain ⟨m, hm⟩ := k2; exact DataW.trod_lt m _ _ _ hm
  have k3 := h3
  have lt3 : ∀ x ∈ p3, x.block < W.heap.size := by obtain ⟨m, hm⟩ := k3; exact DataW.trod_lt m _ _ _ hm
  obtain ⟨L0, hL0⟩ := open_ivsl (hval 0 36 v0 rfl rfl) h0
  obtain ⟨xs1, hs1, wf1⟩ := open_intsl (hval 1 34 v1 rfl rfl) h1
  obtain ⟨a2, rfl, rfl, rfl, w2⟩ := open_int Tryd.underlying22 (hval 2 22 v2 rfl rfl) h2
  obtain ⟨a3, rfl, rfl, rfl, w3⟩ := open_int Tryd.underlying22 (hval 3 22 v3 rfl rfl) h3
  clear hA0 hval0
  obtain ⟨hPT, hPz⟩ := of_laid hLaid
  refine (walk v0 L0 v1 xs1 a2 a3 W hL0 hs1 wf1 w2 w3 hPT hPz).mono fun e W' ⟨he, bel⟩ => ?_
  subst he
  exact ⟨_, rfl, _, _, _, [], _, [], hW', trodAll_mk1 (shut_bool Tryd.underlying4 _), (trodAll_cons_mk (Below.trod laidOut (by kernel_rfl) (of_decide_eq_true (by kernel_rfl)) k0 bel lt0) (trodAll_cons_mk (Below.trod laidOut (by kernel_rfl) (of_decide_eq_true (by kernel_rfl)) k1 bel lt1) (trodAll_cons_mk (Below.trod laidOut (by kernel_rfl) (of_decide_eq_true (by kernel_rfl)) k2 bel lt2) (trodAll_cons_mk (Below.trod laidOut (by kernel_rfl) (of_decide_eq_true (by kernel_rfl)) k3 bel lt3) trodAll_mk0)))), rfl, bel.frame _, fun h => by cases h⟩

theorem over : Rows.samplerSamplesRow.holds Tryd.pinned (OpenSpec.ofChange Rows.samplerSamplesSpec) :=
  OpenClaim.holds_of_wide 11 Tryd.f11 rfl rfl rfl rfl rfl rfl rfl ⟨rfl, rfl, rfl, rfl, rfl⟩ rfl rfl rfl rfl rfl (by kernel_rfl) Tryd.func11 (by kernel_rfl)
    (of_decide_eq_true (by kernel_rfl)) (by unfold Func.isWrapper; first | (rw [if_pos (by decide +kernel)]; kernel_rfl) | (rw [if_neg (by decide +kernel)]; exact ⟨rfl, rfl⟩))
    (fun os started H enc _ => lifted os started H enc)

theorem tieK : Rows.samplerSamplesRow.laidByTextAt .later Tryd.pinned [.data] true := samplerSamples_row_tie

/-- The statement. -/
theorem proved : Rows.SamplerSamplesCardSaid :=
  Claim7.holds_tied_plain_at .later [] [.data] true (true, "dafc2aeea59d94dd6dafe070eaf5c5e18f1af2737ccda70bd1867ac8f32746f1") false
    over (fun _ h => by cases h) (by kernel_rfl) (fun _ h => by cases h) tieK rfl ⟨rfl, rfl⟩ (by kernel_rfl) rfl
    (fun f fn hf hfn => by
      obtain rfl : f = 11 := Option.some.inj ((show Tryd.prog.funcNamed "armplan/armplanlaw23.SamplerSamples" = some 11 by kernel_rfl).symm.trans hf) |>.symm
      obtain rfl : fn = Tryd.f11 := (Option.some.inj (Tryd.func11.symm.trans hfn)).symm
      exact ⟨by kernel_rfl, fun j t ht => by
        rw [Tryd.params11] at ht
        have hm : t ∈ [36, 34, 22] := by have := Array.mem_of_getElem? ht; simp at this; simp; omega
        have hall : ([36, 34, 22].all fun u => !Tryd.prog.wantsStandIn u) = true := by kernel_rfl
        exact (show Tryd.prog.wantsStandIn t = false by simpa using List.all_eq_true.1 hall t hm)⟩)
    (by kernel_rfl)
end Go.Proofs.YtlpkjafhpbiffaaDoor.samplerSamples
