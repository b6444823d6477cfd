/- SamplerCovers: the law returns true for every input, and each argument reads afterwards as it read before. Conditions: none. -/
import Derived.Test.YtlpkjafhpbiffaaDoorRows
import Derived.Test.YtlpkjafhpbiffaaDoorLaw23
import Derived.Test.YtlpkjafhpbiffaaDoorBox
import Derived.Test.YtlpkjafhpbiffaaDoorSame
import Derived.Test.YtlpkjafhpbiffaaDoorOpen23
import Derived.Test.YtlpkjafhpbiffaaDoorCards
import Derived.Test.YtlpkjafhpbiffaaDoorTie
import Derived.ProofKit
import Derived.OpenShut
import Derived.ShutString
import Derived.ChangeOld
import Derived.Below
import Derived.Lib.SmallJoins
namespace Go.Proofs.YtlpkjafhpbiffaaDoor.samplerCovers
open Go.ChangeShapes Go.WideShapes Go.ChangeAt Go.RowKit
set_option linter.unusedVariables false

theorem two_pow_le (a : Nat) (ha : a ≤ 7) : 1 ≤ (2 : Int) ^ a ∧ (2 : Int) ^ a ≤ 128 := by
  match a, ha with
  | 0, _ => decide
  | 1, _ => decide
  | 2, _ => decide
  | 3, _ => decide
  | 4, _ => decide
  | 5, _ => decide
  | 6, _ => decide
  | 7, _ => decide

/-- The first number of a sample, for a first interval of N = 2^a numbers from l on. -/
theorem first_num (l h : Int) (T : List (Int × Int)) (a N t : Nat) (ha : a ≤ 7) (hN : (N : Int) = 2 ^ a) (ht : t < N) (hB : Fx.boxB ((l, l + N - 1) :: T) = true) :
    (Fx.halton ((l, l + N - 1) :: T) t).length = ((l, l + N - 1) :: T).length ∧ (Fx.halton ((l, l + N - 1) :: T) t).getD 0 0 = l + ((Fx.dig 2 a t).toNat : Int) ∧ (Fx.dig 2 a t).toNat < N ∧
      ∀ u : Nat, u < t → (Fx.dig 2 a u).toNat ≠ (Fx.dig 2 a t).toNat := by
  have hp := two_pow_le a ha
  have hb2 : (2 : Int) ≤ 2 := by omega
  have hd := Fx.dig_bd hb2 a t (by omega)
  obtain ⟨h1, h2, h3, h4⟩ := Fx.r_bd hb2 t t (by omega) (by omega)
  have hv : Fx.vb l (l + N - 1) = true := by
    have := Fx.boxB_all hB
    unfold Fx.allB at this
    simp at this
    exact this.1
  refine ⟨by unfold Fx.halton; rw [if_pos hB]; simp, ?_, by omega, fun u hu e => ?_⟩
  · unfold Fx.halton
    rw [if_pos hB]
    have e0 : ((List.range ((l, l + (N : Int) - 1) :: T).length).map (Fx.haltonAt ((l, l + N - 1) :: T) t)).getD 0 0 = Fx.haltonAt ((l, l + N - 1) :: T) t 0 := by simp [List.getD_eq_getElem?_getD]
    rw [e0]
    have e1 : Fx.haltonAt ((l, l + (N : Int) - 1) :: T) t 0 = Fx.place (Fx.rad 2 t).1 (Fx.rad 2 t).2 l (l + N - 1) := rfl
    rw [e1, Fx.rad_eq 2 t (by omega) (by omega), Fx.place_yes hv h2]
    have e2 : l + (N : Int) - 1 - l + 1 = N := by omega
    have e3 : Fx.rN 2 t * N / Fx.rD 2 t = Fx.dig 2 a t := by unfold Fx.dig; rw [hN]
    rw [e2, e3]
    omega
  · have hdu := Fx.dig_bd hb2 a u (by omega)
    have := Fx.dig_inj hb2 a u t (by omega) (by omega) (by omega)
    rw [← hN, Int.emod_eq_of_lt (by omega) (by omega), Int.emod_eq_of_lt (by omega) (by omega)] at this
    omega

set_option maxRecDepth 100000 in
set_option maxHeartbeats 2000000 in
theorem walk (u : Value) (xs : List Int) (m lo : Int) (w : World) (hx : IntSl w u xs) (_hw : ∀ x ∈ xs, (Lit.int .i64 x).wf = true) (_wm : (Lit.int .i64 m).wf = true) (_wl : (Lit.int .i64 lo).wf = true) (hT : PTab w) (hz : 0 < w.heap.size) :
    Calls Tryd.prog 6 #[u, .int .i64 m, .int .i64 lo] w fun e w' => e = .returned (.bool true) ∧ Below w.heap.size w w' := by
  have HT := Lib.hid hT; clear hT
  have HX := Lib.hid hx
  have r0 := Int.emod_nonneg m (show (8 : Int) ≠ 0 by omega)
  have r1 := Int.emod_lt_of_pos m (show (0 : Int) < 8 by omega)
  have l0 := Fx.tmod_bd lo 1000 (by omega)
  clear _hw _wm _wl
  obtain ⟨a', c', rfl, _, _⟩ := hx
  go_enter Tryd.func6, Tryd.ntmps6
  go_wp2_with fail
  refine (round_any _ _ _ (by omega) (by omega)).mono ?_
  rintro e w1 ⟨rfl, rfl⟩
  obtain ⟨a, ha⟩ := Int.eq_ofNat_of_zero_le r0
  have ha7 : a ≤ 7 := by omega
  have hp := two_pow_le a ha7
  go_wp2_with fail
  refine (Root_any _ xs _ HX.out).mono ?_
  rintro e w1 ⟨v1, M, rfl, hM, hown, hb1⟩
  obtain ⟨g, cap, rfl, hgB, hgw⟩ := hown.form (by have := Fx.boxB_len hM; omega)
  match M, hM, hown with
  | (p, q) :: T, hM, hown =>
  have hlen := Fx.boxB_len hM
  have c0 : _ = some (Value.int .i64 p) := hown.cellAt 0 (by omega)
  have c1 : _ = some (Value.int .i64 q) := hown.cellAt 1 (by omega)
  have f0 := hown.frozenAt 0
  have f1 := hown.frozenAt 1
  have HM := Lib.hid hM
  have HO := Lib.hid hown
  clear hM hown
  go_upto_region 5 with fail
  obtain ⟨N, hN⟩ := Int.eq_ofNat_of_zero_le (show 0 ≤ (2 : Int) ^ a by omega)
  rw [hN] at hp ⊢
  have HN := Lib.hid hN.symm
  clear hN c0 c1 f0 f1 ha
  generalize lo.tmod 1000 = l at *
  have ho1 := (HO.out.stored 0 (.int .i64 l)).1.stored 1 (.int .i64 (l + N - 1))
  have hO2 : ((w1.setCell ⟨g, 0, none⟩ (.int .i64 l)).setCell ⟨g, 1, none⟩ (.int .i64 (l + N - 1))).ownsRow w.heap.size 39 2 (.slice (some ⟨g, 0, none⟩) (T.length + 1) cap) ((l, l + (N : Int) - 1) :: T).length (ivCells ((l, l + (N : Int) - 1) :: T)) := ho1.1
  have hI2 := IvSl.of_owns hO2 (by simp at hlen ⊢; omega)
  have hB2 : Below w.heap.size w ((w1.setCell ⟨g, 0, none⟩ (.int .i64 l)).setCell ⟨g, 1, none⟩ (.int .i64 (l + N - 1))) := ext_set (ext_set hb1 hgB _) hgB _
  have hgw2 : g < ((w1.setCell ⟨g, 0, none⟩ (.int .i64 l)).setCell ⟨g, 1, none⟩ (.int .i64 (l + N - 1))).heap.size := (hO2.lt g rfl).2
  have hbox : Fx.boxB ((l, l + (N : Int) - 1) :: T) = true := by
    have h1 := Fx.boxB_all HM.out
    rw [Fx.boxB_eq _ (by simp) (by simp at hlen ⊢; omega)]
    unfold Fx.allB at h1 ⊢
    simp only [List.all_cons, Bool.and_eq_true] at h1 ⊢
    exact ⟨Fx.vb_true.2 (show -2147483648 ≤ l ∧ l ≤ l + (N : Int) - 1 ∧ l + (N : Int) - 1 ≤ 2147483648 by omega), h1.2⟩
  have HBox := Lib.hid hbox
  generalize (w1.setCell ⟨g, 0, none⟩ (.int .i64 l)).setCell ⟨g, 1, none⟩ (.int .i64 (l + N - 1)) = w2 at *
  have HI2 := Lib.hid hI2
  clear ho1 hO2 hI2 hbox HO HM hb1
  have hmk := fun W => make_bools .i64 N (by omega) W
  go_wp2_with fail
  clear hmk
  have hW0 := Whole.new w2 4 (Array.replicate N (.bool false))
  rw [← Fx.seen_zero (fun t => (Fx.dig 2 a t).toNat) N] at hW0 ⊢
  have hB3 : Below w2.heap.size w2 (w2.alloc (.cells (Fx.seen (fun t => (Fx.dig 2 a t).toNat) N 0) 4)) := ext_alloc (ext_refl _) _
  go_loopw [10] (fun iv wr => ∃ t : Nat, t ≤ N ∧ iv = .int .i64 t ∧ Whole wr w2.heap.size 4 (Fx.seen (fun t => (Fx.dig 2 a t).toNat) N t) ∧ Below w2.heap.size w2 wr) (fun iv _ => N - (intOf iv).toNat)
  case atStart => exact ⟨0, Nat.zero_le _, rfl, hW0, hB3⟩
  case round =>
    obtain ⟨t, htN, rfl, hW, hB⟩ := hrel
    clear hW0 hB3
    have hBw := ext_trans hB2 hB
    by_cases ht : t < N
    · obtain ⟨q0, q1, d1, hne⟩ := first_num l 0 T a N t ha7 HN.out ht HBox.out
      have HG := Lib.hid (Fx.seen_get (fun t => (Fx.dig 2 a t).toNat) N t d1 hne)
      have HNx := Lib.hid (Fx.seen_next (fun t => (Fx.dig 2 a t).toNat) N t)
      have HQ0 := Lib.hid q0
      have HQ1 := Lib.hid q1
      have HW := Lib.hid hW
      clear hW hne q0 q1
      generalize hD : (Fx.dig 2 a t).toNat = D at *
      clear hD
      go_wp2_with fail
      refine (halton_any _ ((l, l + (N : Int) - 1) :: T) t _ (HT.out.ext hBw hz) (Nat.lt_of_lt_of_le hz hBw.size) (HI2.out.ext hB) (by omega) (by omega)).mono ?_
      rintro e w3 ⟨qv, rfl, hq, hb3⟩
      obtain ⟨qa, qc, rfl, _, hq'⟩ := hq
      obtain ⟨qb, qo, rfl, hqb, hq2⟩ := hq' (by have := HQ0.out; simp at this ⊢; omega)
      have hq0 := hq2 0 (by have := HQ0.out; simp at this ⊢; omega)
      rw [HQ1.out] at hq0
      rw [HQ0.out]
      have hc01 : w3.cell? ⟨g, 0, none⟩ = some (.int .i64 l) ∧ w3.cell? ⟨g, 1, none⟩ = some (.int .i64 (l + N - 1)) := by
        obtain ⟨ia, ic, ie, _, hI3⟩ := (HI2.out.ext hB).ext hb3
        obtain ⟨ib, io, hab, hI3⟩ := hI3 (by simp)
        injection ie with ie
        rw [hab] at ie
        injection ie with ie
        injection ie with ie1 ie2
        subst ie1 ie2
        have := hI3.2 0 (by simp)
        simpa using this
      obtain ⟨c0, c1⟩ := hc01
      have hW3 := HW.out.ext hb3
      have hB3 := ext_trans hB hb3
      have hcell := (hW3.cell D).trans HG.out
      have hfr := hW3.frozen D
      have hst := hW3.store D (.bool true)
      rw [HNx.out] at hst
      have HS := Lib.hid hst
      simp at hq0
      clear hst hW3 hb3 hB HW HG HNx hq' hq2 hBw
      go_wp2_with fail
      have t1 : decide (l + (D : Int) < l) = false := by simp; omega
      have t2 : decide (l + (N : Int) - 1 < l + (D : Int)) = false := by simp; omega
      have t3 : IntKind.i64.wrap (l + (D : Int) - l) = D := by rw [IntKind.wrap_i64]; omega
      have t4 : (0 : Int) ≤ (D : Int) := by omega
      have t5 : (D : Int) < (N : Int) := by omega
      have t7 : IntKind.i64.wrap (D : Int) = D := by rw [IntKind.wrap_i64]; omega
      clear hlen l0
      go_quiet (fail)
      go_wp2_with fail
      go_region
      all_goals go_wp2_with fail
      all_goals go_roundw
      case rel => exact ⟨t + 1, by omega, by go_num, HS.out.drewN _, (by repeat (first | assumption | exact ext_refl _ | refine ext_alloc ?_ _ | refine ext_drewN ?_ _ | refine ext_drew ?_ | refine ext_set ?_ (by first | (simp; done) | (simp; omega) | omega) _ | refine ext_trans ?_ ‹Below _ _ _›))⟩
      case measure => simp [intOf]; omega
    · clear hW
      go_wp2_with fail
      refine (awake_any _ (HT.out.ext hBw hz) (Nat.lt_of_lt_of_le hz hBw.size)).mono ?_
      rintro e w3 ⟨rfl, hb3⟩
      go_wp2_with fail
      go_ret
      exact ⟨rfl, ext_trans hBw hb3⟩

set_option maxRecDepth 100000 in
theorem lifted (os : Os) (started : os.Started) (H : Type) (enc : TypeId × Value → H) :
    ReturnsInHanded {} Tryd.checked os 6 .any (fun w args => (Rows.samplerCoversSpec.pre enc Tryd.prog Tryd.f6 [] false w args ∧ laidMetH Tryd.prog laid1 w) ∧ sizedMet enc Tryd.prog Tryd.f6 (OpenSpec.ofChange Rows.samplerCoversSpec) false w args) (Rows.samplerCoversSpec.post enc Tryd.prog Tryd.f6 false true false false) := by
  refine returnsInHanded_of_change_and (C := Tryd.checked) (X := fun w _ => laidMetH Tryd.prog laid1 w) (fun _ _ _ hh h => h.of_heap hh) own started (by kernel_rfl) Tryd.func6
    (ChangeSpec.witness_shaped (enc := enc) (C := Tryd.checked) (os := os) (X := fun w _ => laidMetH Tryd.prog laid1 w) false (World.doorLaid Tryd.prog 400 os) #[.slice none 0 0, .int .i64 0, .int .i64 0] 8 rfl (World.shaped_of_RefB (by kernel_rfl) (by kernel_rfl)) (by kernel_rfl) (by kernel_rfl) (by kernel_rfl) (door_met os _)) ?_
  intro W base args ds gs before hval0 hW _ _ hLaid _
  have hval : ∀ (j : Nat) t v, Tryd.f6.params[j]? = some t → args[j]? = some v → Value.okWide Tryd.prog W .any base t v := hval0
  have hW' := hW
  obtain ⟨p, q, hA0, hV, rfl, hfz, hnd⟩ := hW
  have hA : DataW.TrodAll enc Tryd.prog W 0 (fun _ => true) true Tryd.f6.params.toList args.toList ds p := hA0
  rw [Tryd.params6] at hA hval
  obtain ⟨v0, vs0, d0, ds0, p0, q0, hargs, rfl, rfl, h0, r0⟩ := trodAll_cons hA
  obtain ⟨v1, vs1, d1, ds1, p1, q1, rfl, rfl, rfl, h1, r1⟩ := trodAll_cons r0
  obtain ⟨v2, vs2, d2, ds2, p2, q2, rfl, rfl, rfl, h2, r2⟩ := trodAll_cons r1
  obtain ⟨rfl, rfl, rfl⟩ := trodAll_nil r2
  obtain rfl : args = #[v0, v1, v2] := by cases args; simp_all
  obtain ⟨rfl, rfl⟩ := trodVars_none hV
  have k0 := h0
  have lt0 : ∀ x ∈ p0, x.block < W.heap.size := by obtain ⟨m, hm⟩ := k0; exact DataW.trod_lt m _ _ _ hm
  have k1 := h1
  have lt1 : ∀ x ∈ p1, x.block < W.heap.size := by obtain ⟨m, hm⟩ := k1; exact DataW.trod_lt m _ _ _ hm
  have k2 := h2
  have lt2 : ∀ x ∈ p2, x.block < W.heap.size := by obtain ⟨m, hm⟩ := k2; exact DataW.trod_lt m _ _ _ hm
  obtain ⟨xs0, hs0, wf0⟩ := open_intsl (hval 0 34 v0 rfl rfl) h0
  obtain ⟨a1, rfl, rfl, rfl, w1⟩ := open_int Tryd.underlying3 (hval 1 3 v1 rfl rfl) h1
  obtain ⟨a2, rfl, rfl, rfl, w2⟩ := open_int Tryd.underlying2 (hval 2 2 v2 rfl rfl) h2
  clear hA0 hval0
  obtain ⟨hPT, hPz⟩ := of_laid hLaid
  refine (walk v0 xs0 a1 a2 W hs0 wf0 w1 w2 hPT hPz).mono fun e W' ⟨he, bel⟩ => ?_
  subst he
  exact ⟨_, rfl, _, _, _, [], _, [], hW', trodAll_mk1 (shut_bool Tryd.underlying4 _), (trodAll_cons_mk (Below.trod laidOut (by kernel_rfl) (of_decide_eq_true (by kernel_rfl)) k0 bel lt0) (trodAll_cons_mk (Below.trod laidOut (by kernel_rfl) (of_decide_eq_true (by kernel_rfl)) k1 bel lt1) (trodAll_cons_mk (Below.trod laidOut (by kernel_rfl) (of_decide_eq_true (by kernel_rfl)) k2 bel lt2) trodAll_mk0))), rfl, bel.frame _, fun h => by cases h⟩

theorem over : Rows.samplerCoversRow.holds Tryd.pinned (OpenSpec.ofChange Rows.samplerCoversSpec) :=
  OpenClaim.holds_of_wide 6 Tryd.f6 rfl rfl rfl rfl rfl rfl rfl ⟨rfl, rfl, rfl, rfl, rfl⟩ rfl rfl rfl rfl rfl (by kernel_rfl) Tryd.func6 (by kernel_rfl)
    (of_decide_eq_true (by kernel_rfl)) (by unfold Func.isWrapper; first | (rw [if_pos (by decide +kernel)]; kernel_rfl) | (rw [if_neg (by decide +kernel)]; exact ⟨rfl, rfl⟩))
    (fun os started H enc _ => lifted os started H enc)

theorem tieK : Rows.samplerCoversRow.laidByTextAt .later Tryd.pinned [.data] true := samplerCovers_row_tie

/-- The statement. -/
theorem proved : Rows.SamplerCoversCardSaid :=
  Claim7.holds_tied_plain_at .later [] [.data] true (true, "dafc2aeea59d94dd6dafe070eaf5c5e18f1af2737ccda70bd1867ac8f32746f1") false
    over (fun _ h => by cases h) (by kernel_rfl) (fun _ h => by cases h) tieK rfl ⟨rfl, rfl⟩ (by kernel_rfl) rfl
    (fun f fn hf hfn => by
      obtain rfl : f = 6 := Option.some.inj ((show Tryd.prog.funcNamed "armplan/armplanlaw23.SamplerCovers" = some 6 by kernel_rfl).symm.trans hf) |>.symm
      obtain rfl : fn = Tryd.f6 := (Option.some.inj (Tryd.func6.symm.trans hfn)).symm
      exact ⟨by kernel_rfl, fun j t ht => by
        rw [Tryd.params6] at ht
        have hm : t ∈ [34, 3, 2] := by have := Array.mem_of_getElem? ht; simp at this; simp; omega
        have hall : ([34, 3, 2].all fun u => !Tryd.prog.wantsStandIn u) = true := by kernel_rfl
        exact (show Tryd.prog.wantsStandIn t = false by simpa using List.all_eq_true.1 hall t hm)⟩)
    (by kernel_rfl)
end Go.Proofs.YtlpkjafhpbiffaaDoor.samplerCovers
