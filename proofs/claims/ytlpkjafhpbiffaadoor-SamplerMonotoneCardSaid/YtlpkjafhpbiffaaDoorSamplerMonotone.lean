/- SamplerMonotone: the law returns true for every input, and each argument reads afterwards as it read before. Conditions: none. -/
import Derived.Test.YtlpkjafhpbiffaaDoorRows
import Derived.Test.YtlpkjafhpbiffaaDoorAwake23
import Derived.Test.YtlpkjafhpbiffaaDoorSampMath2
import Derived.Test.YtlpkjafhpbiffaaDoorMk
import Derived.Test.YtlpkjafhpbiffaaDoorCards
import Derived.Test.YtlpkjafhpbiffaaDoorTie
import Derived.ProofKit
import Derived.OpenShut
import Derived.ShutString
import Derived.ChangeOld
import Derived.Below
import Derived.Lib.SmallJoins
namespace Go.Proofs.YtlpkjafhpbiffaaDoor.samplerMonotone
open Go.ChangeShapes Go.WideShapes Go.ChangeAt Go.RowKit
set_option linter.unusedVariables false

theorem emod_le {a b : Int} (ha : 0 ≤ a) (hb : 0 < b) : a % b ≤ a := by
  by_cases h : a < b
  · rw [Int.emod_eq_of_lt ha h]; omega
  · have := Int.emod_lt_of_pos a hb
    omega

theorem spread_zero (l h : Int) (w : World) :
    Calls Tryd.prog 25 #[.int .u64 0, .int .i64 l, .int .i64 h] w fun e w' => e = .returned (.int .i64 l) ∧ Below w.heap.size w w' := by
  have := spread_any 0 l h w (by omega) (by omega)
  rwa [Fx.spread_least] at this

theorem spread_full (l h : Int) (w : World) (hv : Fx.vb l h = true) :
    Calls Tryd.prog 25 #[.int .u64 18446744073709551615, .int .i64 l, .int .i64 h] w fun e w' => e = .returned (.int .i64 h) ∧ Below w.heap.size w w' := by
  have := spread_any 18446744073709551615 l h w (by omega) (by omega)
  rwa [Fx.spread_most l h hv] at this

theorem spread_least_any (t l h : Int) (w : World) (hv : Fx.vb l h = true) (ht0 : 0 ≤ t) (ht1 : t < h - l + 1) (ht2 : t < 1048576) :
    Calls Tryd.prog 25 #[.int .u64 (Fx.least t (h - l + 1)), .int .i64 l, .int .i64 h] w fun e w' => e = .returned (.int .i64 (l + t)) ∧ Below w.heap.size w w' := by
  have hb := Fx.vb_true.1 hv
  have hl := Fx.least_bd t (h - l + 1) (by omega) (by omega) ht0 ht1 ht2
  have := spread_any (Fx.least t (h - l + 1)) l h w hl.2.2.1 hl.2.2.2
  rwa [Fx.spread_at t l h hv ht0 ht1 ht2] at this

set_option maxRecDepth 100000 in
set_option maxHeartbeats 6000000 in
theorem walk (x y a b k : Int) (wx : (Lit.int .u64 x).wf = true) (wy : (Lit.int .u64 y).wf = true) (_wa : (Lit.int .i64 a).wf = true) (_wb : (Lit.int .i64 b).wf = true) (_wk : (Lit.int .i64 k).wf = true) (w : World) (hT : PTab w) (hz : 0 < w.heap.size) :
    Calls Tryd.prog 10 #[.int .u64 x, .int .u64 y, .int .i64 a, .int .i64 b, .int .i64 k] w fun e w' => e = .returned (.bool true) ∧ Below w.heap.size w w' := by
  have HT := Lib.hid hT; clear hT
  obtain ⟨x0, x1⟩ := Fx.wf_u64 wx
  obtain ⟨y0, y1⟩ := Fx.wf_u64 wy
  clear wx wy _wa _wb _wk
  go_enter Tryd.func10, Tryd.ntmps10
  go_wp2_with fail
  refine (interval_any _ _ _).mono ?_
  rintro e w1 ⟨l, h, hv, rfl, hb⟩
  have hv' := Fx.vb_true.1 hv
  have HV := Lib.hid hv; clear hv
  have hB : Below w.heap.size w (w1.alloc (.cells #[.int .i64 l, .int .i64 h] 39)) := ext_alloc hb _
  have hW := Whole.new w1 39 #[.int .i64 l, .int .i64 h]
  clear hb
  go_upto_if 21 with fail
  have hS : (w1.alloc (.cells #[.int .i64 l, .int .i64 h] 39)).cell? ⟨w1.heap.size, 0, none⟩ = some (.int .i64 l) ∧ (w1.alloc (.cells #[.int .i64 l, .int .i64 h] 39)).cell? ⟨w1.heap.size, 1, none⟩ = some (.int .i64 h) ∧ w1.heap.size < (w1.alloc (.cells #[.int .i64 l, .int .i64 h] 39)).heap.size ∧ Below w.heap.size w (w1.alloc (.cells #[.int .i64 l, .int .i64 h] 39)) := ⟨hW.cell 0, hW.cell 1, hW.lt, hB⟩
  clear hW hB
  generalize w1.alloc (.cells #[.int .i64 l, .int .i64 h] 39) = w2 at *
  generalize w1.heap.size = g at *
  go_cut [0, 1] (fun v0 v1 wx => ∃ p q : Int, v0 = .int .u64 p ∧ v1 = .int .u64 q ∧ 0 ≤ p ∧ p ≤ q ∧ q < 18446744073709551616 ∧ wx = w2)
  case first =>
    by_cases c : y < x
    · go_wp2_with fail
      go_meet
      exact ⟨y, x, rfl, rfl, by omega, by omega, by omega, rfl⟩
    · go_wp2_with fail
      go_meet
      exact ⟨x, y, rfl, rfl, by omega, by omega, by omega, rfl⟩
  case rest =>
    obtain ⟨p, q, rfl, rfl, p0, pq, q1, rfl⟩ := hcut
    clear x0 x1 y0 y1
    obtain ⟨c0, c1, cz, cB⟩ := id hS
    have r0 := Int.emod_nonneg k (show (1048576 : Int) ≠ 0 by omega)
    have r1 := Int.emod_lt_of_pos k (show (0 : Int) < 1048576 by omega)
    have s0 := Int.emod_nonneg (k % 1048576) (show (h - l + 1 : Int) ≠ 0 by omega)
    have s1 := Int.emod_lt_of_pos (k % 1048576) (show (0 : Int) < h - l + 1 by omega)
    have s2 : k % 1048576 % (h - l + 1) ≤ k % 1048576 := emod_le r0 (by omega)
    go_upto_if 37 with (go_at_call 18; refine (round_any _ _ _ (by omega) (by omega)).mono ?_; rintro e w3 ⟨rfl, rfl⟩)
    generalize k % 1048576 % (h - l + 1) = t at *
    have t2 : t < 1048576 := by omega
    have HL := Lib.hid (Fx.least_bd t (h - l + 1) (by omega) (by omega) s0 s1 (by omega))
    go_cut [14] (fun lv wx => lv = .int .u64 (Fx.least t (h - l + 1)) ∧ wx = wc)
    case first =>
      by_cases c : 0 < t
      · obtain ⟨p1, p2, p3, p4, p5, p6, p7⟩ := Fx.least_parts t (h - l + 1) (by omega) (by omega) c s1 (by omega)
        have hd := Int.ediv_nonneg (show 0 ≤ t * (18446744073709551615 % (h - l + 1) + 1) + (h - l + 1) - 1 by omega) (show 0 ≤ h - l + 1 by omega)
        have hl2 := HL.out.2.2.2
        have HE : Hid (Fx.least t (h - l + 1) = 18446744073709551615 / (h - l + 1) * t + (t * (18446744073709551615 % (h - l + 1) + 1) + (h - l + 1) - 1) / (h - l + 1)) := Lib.hid (by unfold Fx.least; rw [if_pos c])
        rw [HE.out] at hl2
        go_wp2_with fail
        go_meet
        exact ⟨by rw [HE.out], rfl⟩
      · have HE : Hid (Fx.least t (h - l + 1) = 0) := Lib.hid (by unfold Fx.least; rw [if_neg c])
        go_wp2_with fail
        go_meet
        exact ⟨by rw [HE.out], rfl⟩
    case rest =>
      obtain ⟨rfl, rfl⟩ := hcut
      clear HL c0 c1 cz cB r0 r1 s2
      go_wp2_with fail
      have hm := Fx.spread_mono p q l h pq
      have hmd : decide (Fx.spread p l h ≤ Fx.spread q l h) = true := by simpa using hm
      have e1 : IntKind.i64.wrap t = t := by rw [IntKind.wrap_i64]; omega
      have e2 : IntKind.i64.wrap (l + t) = l + t := by rw [IntKind.wrap_i64]; omega
      go_region_held3 (fun w' => w'.cell? ⟨g, 0, none⟩ = some (.int .i64 l) ∧ w'.cell? ⟨g, 1, none⟩ = some (.int .i64 h) ∧ g < w'.heap.size ∧ Below w.heap.size w w')
        (first | exact two_drew hS | exact two_ext (by assumption) (by assumption) | assumption)
        (first
        | (go_at_call 15; refine (awake_two HT.out hz (by assumption)).mono ?_; rintro e w3 ⟨rfl, hb1⟩)
        | (go_at_call_of 25 (Value.int IntKind.u64 0); refine (spread_zero _ _ _).mono ?_; rintro e w3 ⟨rfl, hb1⟩)
        | (go_at_call_of 25 (Value.int IntKind.u64 18446744073709551615); refine (spread_full _ _ _ HV.out).mono ?_; rintro e w3 ⟨rfl, hb1⟩)
        | (go_at_call_of 25 (Value.int IntKind.u64 p); refine (spread_any p _ _ _ p0 (by omega)).mono ?_; rintro e w3 ⟨rfl, hb1⟩)
        | (go_at_call_of 25 (Value.int IntKind.u64 q); refine (spread_any q _ _ _ (by omega) q1).mono ?_; rintro e w3 ⟨rfl, hb1⟩)
        | (go_at_call 25; refine (spread_least_any t l h _ HV.out s0 s1 t2).mono ?_; rintro e w3 ⟨rfl, hb1⟩))
      all_goals clear e1 e2
      all_goals go_wp2_with fail
      all_goals go_ret
      all_goals rename_i hH
      all_goals exact ⟨rfl, hH.2.2.2⟩

set_option maxRecDepth 100000 in
theorem lifted (os : Os) (started : os.Started) (H : Type) (enc : TypeId × Value → H) :
    ReturnsInHanded {} Tryd.checked os 10 .any (fun w args => (Rows.samplerMonotoneSpec.pre enc Tryd.prog Tryd.f10 [] false w args ∧ laidMetH Tryd.prog laid1 w) ∧ sizedMet enc Tryd.prog Tryd.f10 (OpenSpec.ofChange Rows.samplerMonotoneSpec) false w args) (Rows.samplerMonotoneSpec.post enc Tryd.prog Tryd.f10 false true false false) := by
  refine returnsInHanded_of_change_and (C := Tryd.checked) (X := fun w _ => laidMetH Tryd.prog laid1 w) (fun _ _ _ hh h => h.of_heap hh) own started (by kernel_rfl) Tryd.func10
    (ChangeSpec.witness_shaped (enc := enc) (C := Tryd.checked) (os := os) (X := fun w _ => laidMetH Tryd.prog laid1 w) false (World.doorLaid Tryd.prog 400 os) #[.int .u64 0, .int .u64 0, .int .i64 0, .int .i64 0, .int .i64 0] 8 rfl (World.shaped_of_RefB (by kernel_rfl) (by kernel_rfl)) (by kernel_rfl) (by kernel_rfl) (by kernel_rfl) (door_met os _)) ?_
  intro W base args ds gs before hval0 hW _ _ hLaid _
  have hval : ∀ (j : Nat) t v, Tryd.f10.params[j]? = some t → args[j]? = some v → Value.okWide Tryd.prog W .any base t v := hval0
  have hW' := hW
  obtain ⟨p, q, hA0, hV, rfl, hfz, hnd⟩ := hW
  have hA : DataW.TrodAll enc Tryd.prog W 0 (fun _ => true) true Tryd.f10.params.toList args.toList ds p := hA0
  rw [Tryd.params10] at hA hval
  obtain ⟨v0, vs0, d0, ds0, p0, q0, hargs, rfl, rfl, h0, r0⟩ := trodAll_cons hA
  obtain ⟨v1, vs1, d1, ds1, p1, q1, rfl, rfl, rfl, h1, r1⟩ := trodAll_cons r0
  obtain ⟨v2, vs2, d2, ds2, p2, q2, rfl, rfl, rfl, h2, r2⟩ := trodAll_cons r1
  obtain ⟨v3, vs3, d3, ds3, p3, q3, rfl, rfl, rfl, h3, r3⟩ := trodAll_cons r2
  obtain ⟨v4, vs4, d4, ds4, p4, q4, rfl, rfl, rfl, h4, r4⟩ := trodAll_cons r3
  obtain ⟨rfl, rfl, rfl⟩ := trodAll_nil r4
  obtain rfl : args = #[v0, v1, v2, v3, v4] := by cases args; simp_all
  obtain ⟨rfl, rfl⟩ := trodVars_none hV
  have k0 := h0
  have lt0 : ∀ x ∈ p0, x.block < W.heap.size := by obtain ⟨m, hm⟩ := k0; exact DataW.trod_lt m _ _ _ hm
  have k1 := h1
  have lt1 : ∀ x ∈ p1, x.block < W.heap.size := by obtain ⟨m, hm⟩ := k1; exact DataW.trod_lt m _ _ _ hm
  have k2 := h2
  have lt2 : ∀ x ∈ p2, x.block < W.heap.size := by obtain ⟨m, hm⟩ := k2; exact DataW.trod_lt m _ _ _ hm
  have k3 := h3
  have lt3 : ∀ x ∈ p3, x.block < W.heap.size := by obtain ⟨m, hm⟩ := k3; exact DataW.trod_lt m _ _ _ hm
  have k4 := h4
  have lt4 : ∀ x ∈ p4, x.block < W.heap.size := by obtain ⟨m, hm⟩ := k4; exact DataW.trod_lt m _ _ _ hm
  obtain ⟨a0, rfl, rfl, rfl, w0⟩ := open_int Tryd.underlying22 (hval 0 22 v0 rfl rfl) h0
  obtain ⟨a1, rfl, rfl, rfl, w1⟩ := open_int Tryd.underlying22 (hval 1 22 v1 rfl rfl) h1
  obtain ⟨a2, rfl, rfl, rfl, w2⟩ := open_int Tryd.underlying3 (hval 2 3 v2 rfl rfl) h2
  obtain ⟨a3, rfl, rfl, rfl, w3⟩ := open_int Tryd.underlying3 (hval 3 3 v3 rfl rfl) h3
  obtain ⟨a4, rfl, rfl, rfl, w4⟩ := open_int Tryd.underlying3 (hval 4 3 v4 rfl rfl) h4
  clear hA0 hval0
  obtain ⟨hPT, hPz⟩ := of_laid hLaid
  refine (walk a0 a1 a2 a3 a4 w0 w1 w2 w3 w4 W hPT hPz).mono fun e W' ⟨he, bel⟩ => ?_
  subst he
  exact ⟨_, rfl, _, _, _, [], _, [], hW', trodAll_mk1 (shut_bool Tryd.underlying4 _), (trodAll_cons_mk (Below.trod laidOut (by kernel_rfl) (of_decide_eq_true (by kernel_rfl)) k0 bel lt0) (trodAll_cons_mk (Below.trod laidOut (by kernel_rfl) (of_decide_eq_true (by kernel_rfl)) k1 bel lt1) (trodAll_cons_mk (Below.trod laidOut (by kernel_rfl) (of_decide_eq_true (by kernel_rfl)) k2 bel lt2) (trodAll_cons_mk (Below.trod laidOut (by kernel_rfl) (of_decide_eq_true (by kernel_rfl)) k3 bel lt3) (trodAll_cons_mk (Below.trod laidOut (by kernel_rfl) (of_decide_eq_true (by kernel_rfl)) k4 bel lt4) trodAll_mk0))))), rfl, bel.frame _, fun h => by cases h⟩

theorem over : Rows.samplerMonotoneRow.holds Tryd.pinned (OpenSpec.ofChange Rows.samplerMonotoneSpec) :=
  OpenClaim.holds_of_wide 10 Tryd.f10 rfl rfl rfl rfl rfl rfl rfl ⟨rfl, rfl, rfl, rfl, rfl⟩ rfl rfl rfl rfl rfl (by kernel_rfl) Tryd.func10 (by kernel_rfl)
    (of_decide_eq_true (by kernel_rfl)) (by unfold Func.isWrapper; first | (rw [if_pos (by decide +kernel)]; kernel_rfl) | (rw [if_neg (by decide +kernel)]; exact ⟨rfl, rfl⟩))
    (fun os started H enc _ => lifted os started H enc)

theorem tieK : Rows.samplerMonotoneRow.laidByTextAt .later Tryd.pinned [.data] true := samplerMonotone_row_tie

/-- The statement. -/
theorem proved : Rows.SamplerMonotoneCardSaid :=
  Claim7.holds_tied_plain_at .later [] [.data] true (true, "dafc2aeea59d94dd6dafe070eaf5c5e18f1af2737ccda70bd1867ac8f32746f1") false
    over (fun _ h => by cases h) (by kernel_rfl) (fun _ h => by cases h) tieK rfl ⟨rfl, rfl⟩ (by kernel_rfl) rfl
    (fun f fn hf hfn => by
      obtain rfl : f = 10 := Option.some.inj ((show Tryd.prog.funcNamed "armplan/armplanlaw23.SamplerMonotone" = some 10 by kernel_rfl).symm.trans hf) |>.symm
      obtain rfl : fn = Tryd.f10 := (Option.some.inj (Tryd.func10.symm.trans hfn)).symm
      exact ⟨by kernel_rfl, fun j t ht => by
        rw [Tryd.params10] at ht
        have hm : t ∈ [22, 3] := by have := Array.mem_of_getElem? ht; simp at this; simp; omega
        have hall : ([22, 3].all fun u => !Tryd.prog.wantsStandIn u) = true := by kernel_rfl
        exact (show Tryd.prog.wantsStandIn t = false by simpa using List.all_eq_true.1 hall t hm)⟩)
    (by kernel_rfl)
end Go.Proofs.YtlpkjafhpbiffaaDoor.samplerMonotone
