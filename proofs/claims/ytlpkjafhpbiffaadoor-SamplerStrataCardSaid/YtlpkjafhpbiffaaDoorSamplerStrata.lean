/- SamplerStrata: the law returns true for every input, and each argument reads afterwards as it read before. Conditions: none. -/
import Derived.Test.YtlpkjafhpbiffaaDoorRows
import Derived.Test.YtlpkjafhpbiffaaDoorLaw23
import Derived.Test.YtlpkjafhpbiffaaDoorCards
import Derived.Test.YtlpkjafhpbiffaaDoorTie
import Derived.ProofKit
import Derived.OpenShut
import Derived.ShutString
import Derived.ChangeOld
import Derived.Below
import Derived.Lib.SmallJoins
namespace Go.Proofs.YtlpkjafhpbiffaaDoor.samplerStrata
open Go.ChangeShapes Go.WideShapes Go.ChangeAt Go.RowKit
set_option linter.unusedVariables false

/-- One round of the law's loop, in numbers. -/
theorem round_num (b : Int) (a N t : Nat) (hb : 2 ≤ b) (hb1 : b ≤ 12) (ha : a ≤ 2) (hN : (N : Int) = b ^ a) (ht : t < N) :
    Fx.rad b t = (Fx.rN b t, Fx.rD b t) ∧ 0 ≤ Fx.rN b t ∧ Fx.rN b t < Fx.rD b t ∧ Fx.rD b t ≤ 1728 ∧ 0 ≤ Fx.rN b t * N ∧ Fx.rN b t * N ≤ 248832 ∧
      Fx.rN b t * N / Fx.rD b t = ((Fx.dig b a t).toNat : Int) ∧ (Fx.dig b a t).toNat < N ∧ ∀ u : Nat, u < t → (Fx.dig b a u).toNat ≠ (Fx.dig b a t).toNat := by
  have hp := pow_le b a hb hb1 ha
  obtain ⟨h1, h2, h3, h4⟩ := Fx.r_bd hb t t (by omega) (by omega)
  have hd := Fx.dig_bd hb a t (by omega)
  have hv : Fx.rD b t ≤ 1728 := by
    by_cases h : (0 : Int) < t
    · have := h4 h
      have := Int.mul_le_mul hb1 (show (t : Int) ≤ 144 by omega) (by omega) (by omega)
      omega
    · obtain rfl : t = 0 := by omega
      rw [Int.natCast_zero, (Fx.r_zero b).2]; omega
  have hm := Int.mul_le_mul (show Fx.rN b t ≤ 1728 by omega) (show (N : Int) ≤ 144 by omega) (by omega) (by omega)
  have he : Fx.rN b t * N / Fx.rD b t = Fx.dig b a t := by unfold Fx.dig; rw [hN]
  refine ⟨Fx.rad_eq b t (by omega) (by omega), h1, h2, hv, Int.mul_nonneg h1 (by omega), by omega, by rw [he]; omega, by omega, fun u hu e => ?_⟩
  have hdu := Fx.dig_bd hb a u (by omega)
  have := Fx.dig_inj hb a u t (by omega) (by omega) (by omega)
  rw [← hN, Int.emod_eq_of_lt (by omega) (by omega), Int.emod_eq_of_lt (by omega) (by omega)] at this
  omega

set_option maxHeartbeats 2000000 in
theorem walk (bs m : Int) (_wb : (Lit.int .i64 bs).wf = true) (_wm : (Lit.int .i64 m).wf = true) (w : World) (hT : PTab w) (hz : 0 < w.heap.size) :
    Calls Tryd.prog 4 #[.int .i64 bs, .int .i64 m] w fun e w' => e = .returned (.bool true) ∧ Below w.heap.size w w' := by
  have HT := Lib.hid hT; clear hT
  have r0 := Int.emod_nonneg bs (show (11 : Int) ≠ 0 by omega)
  have r1 := Int.emod_lt_of_pos bs (show (0 : Int) < 11 by omega)
  have s0 := Int.emod_nonneg m (show (3 : Int) ≠ 0 by omega)
  have s1 := Int.emod_lt_of_pos m (show (0 : Int) < 3 by omega)
  clear _wb _wm
  go_enter Tryd.func4, Tryd.ntmps4
  go_wp2_with fail
  refine (round_any _ _ _ (by omega) (by omega)).mono ?_
  rintro e w1 ⟨rfl, rfl⟩
  go_wp2_with fail
  refine (round_any _ _ _ (by omega) (by omega)).mono ?_
  rintro e w1 ⟨rfl, rfl⟩
  go_wp2_with fail
  obtain ⟨a, ha⟩ := Int.eq_ofNat_of_zero_le s0
  rw [ha]
  have ha2 : a ≤ 2 := by omega
  clear ha s0 s1
  have b0 : 2 ≤ 2 + bs % 11 := by omega
  have b1 : 2 + bs % 11 ≤ 12 := by omega
  clear r0 r1
  generalize 2 + bs % 11 = b at *
  refine (power_any b a _ b0 b1 ha2).mono ?_
  rintro e w1 ⟨rfl, rfl⟩
  have hp := pow_le b a b0 b1 ha2
  obtain ⟨N, hN⟩ := Int.eq_ofNat_of_zero_le (show 0 ≤ b ^ a by omega)
  rw [hN] at hp ⊢
  have HN := Lib.hid hN.symm
  clear hN
  have hmk := fun W => make_bools .u64 N (by omega) W
  go_wp2_with fail
  clear hmk
  have hW0 := Whole.new w1 4 (Array.replicate N (.bool false))
  rw [← Fx.seen_zero (fun t => (Fx.dig b a t).toNat) N] at hW0 ⊢
  have hB0 : Below w1.heap.size w1 (w1.alloc (.cells (Fx.seen (fun t => (Fx.dig b a t).toNat) N 0) 4)) := ext_alloc (ext_refl _) _
  go_loopw [8] (fun iv wr => ∃ t : Nat, t ≤ N ∧ iv = .int .u64 t ∧ Whole wr w1.heap.size 4 (Fx.seen (fun t => (Fx.dig b a t).toNat) N t) ∧ Below w1.heap.size w1 wr) (fun iv _ => N - (intOf iv).toNat)
  case atStart => exact ⟨0, Nat.zero_le _, rfl, hW0, hB0⟩
  case round =>
    obtain ⟨t, htN, rfl, hW, hB⟩ := hrel
    clear hW0 hB0
    by_cases ht : t < N
    · obtain ⟨e0, u0, u1, v1, p0, p1, e1, d1, hne⟩ := round_num b a N t b0 b1 ha2 HN.out ht
      have HG := Lib.hid (Fx.seen_get (fun t => (Fx.dig b a t).toNat) N t d1 hne)
      have HNx := Lib.hid (Fx.seen_next (fun t => (Fx.dig b a t).toNat) N t)
      have HE := Lib.hid e0
      have HE1 := Lib.hid e1
      have HW := Lib.hid hW
      clear hW hne e0 e1
      generalize hD : (Fx.dig b a t).toNat = D at *
      clear hD
      go_wp2_with fail
      refine (radical_any b t _ (by omega) (by omega) (by omega) (by omega)).mono ?_
      rw [HE.out]
      rintro e w2 ⟨rfl, hb2⟩
      have hW2 := HW.out.ext hb2
      have hB2 := ext_trans hB hb2
      have hcell := (hW2.cell D).trans HG.out
      have hfr := hW2.frozen D
      have hst := hW2.store D (.bool true)
      rw [HNx.out] at hst
      have HS := Lib.hid hst
      have hE1 := HE1.out
      have b2 : decide (Fx.rD b t ≤ Fx.rN b t) = false := by simp; omega
      have b3 : (Fx.rD b t == 0) = false := by simp; omega
      clear hst hW2 hb2 hB HW HG HNx HE
      generalize Fx.rN b t = u at *
      generalize Fx.rD b t = v at *
      go_wp2_with fail
      go_roundw
      case rel => exact ⟨t + 1, by omega, by go_num, HS.out, (by repeat (first | assumption | exact ext_refl _ | refine ext_alloc ?_ _ | refine ext_drewN ?_ _ | refine ext_drew ?_ | refine ext_set ?_ (by first | (simp; done) | (simp; omega) | omega) _ | refine ext_trans ?_ ‹Below _ _ _›))⟩
      case measure => simp [intOf]; omega
    · clear hW
      go_wp2_with fail
      refine (awake_any _ (HT.out.ext hB hz) (Nat.lt_of_lt_of_le hz hB.size)).mono ?_
      rintro e w2 ⟨rfl, hb2⟩
      go_wp2_with fail
      go_ret
      exact ⟨rfl, ext_trans hB hb2⟩

set_option maxRecDepth 100000 in
theorem lifted (os : Os) (started : os.Started) (H : Type) (enc : TypeId × Value → H) :
    ReturnsInHanded {} Tryd.checked os 4 .any (fun w args => (Rows.samplerStrataSpec.pre enc Tryd.prog Tryd.f4 [] false w args ∧ laidMetH Tryd.prog laid1 w) ∧ sizedMet enc Tryd.prog Tryd.f4 (OpenSpec.ofChange Rows.samplerStrataSpec) false w args) (Rows.samplerStrataSpec.post enc Tryd.prog Tryd.f4 false true false false) := by
  refine returnsInHanded_of_change_and (C := Tryd.checked) (X := fun w _ => laidMetH Tryd.prog laid1 w) (fun _ _ _ hh h => h.of_heap hh) own started (by kernel_rfl) Tryd.func4
    (ChangeSpec.witness_shaped (enc := enc) (C := Tryd.checked) (os := os) (X := fun w _ => laidMetH Tryd.prog laid1 w) false (World.doorLaid Tryd.prog 400 os) #[.int .i64 0, .int .i64 0] 8 rfl (World.shaped_of_RefB (by kernel_rfl) (by kernel_rfl)) (by kernel_rfl) (by kernel_rfl) (by kernel_rfl) (door_met os _)) ?_
  intro W base args ds gs before hval0 hW _ _ hLaid _
  have hval : ∀ (j : Nat) t v, Tryd.f4.params[j]? = some t → args[j]? = some v → Value.okWide Tryd.prog W .any base t v := hval0
  have hW' := hW
  obtain ⟨p, q, hA0, hV, rfl, hfz, hnd⟩ := hW
  have hA : DataW.TrodAll enc Tryd.prog W 0 (fun _ => true) true Tryd.f4.params.toList args.toList ds p := hA0
  rw [Tryd.params4] at hA hval
  obtain ⟨v0, vs0, d0, ds0, p0, q0, hargs, rfl, rfl, h0, r0⟩ := trodAll_cons hA
  obtain ⟨v1, vs1, d1, ds1, p1, q1, rfl, rfl, rfl, h1, r1⟩ := trodAll_cons r0
  obtain ⟨rfl, rfl, rfl⟩ := trodAll_nil r1
  obtain rfl : args = #[v0, v1] := by cases args; simp_all
  obtain ⟨rfl, rfl⟩ := trodVars_none hV
  have k0 := h0
  have lt0 : ∀ x ∈ p0, x.block < W.heap.size := by obtain ⟨m, hm⟩ := k0; exact DataW.trod_lt m _ _ _ hm
  have k1 := h1
  have lt1 : ∀ x ∈ p1, x.block < W.heap.size := by obtain ⟨m, hm⟩ := k1; exact DataW.trod_lt m _ _ _ hm
  obtain ⟨a0, rfl, rfl, rfl, w0⟩ := open_int Tryd.underlying3 (hval 0 3 v0 rfl rfl) h0
  obtain ⟨a1, rfl, rfl, rfl, w1⟩ := open_int Tryd.underlying3 (hval 1 3 v1 rfl rfl) h1
  clear hA0 hval0
  obtain ⟨hPT, hPz⟩ := of_laid hLaid
  refine (walk a0 a1 w0 w1 W hPT hPz).mono fun e W' ⟨he, bel⟩ => ?_
  subst he
  exact ⟨_, rfl, _, _, _, [], _, [], hW', trodAll_mk1 (shut_bool Tryd.underlying4 _), (trodAll_cons_mk (Below.trod laidOut (by kernel_rfl) (of_decide_eq_true (by kernel_rfl)) k0 bel lt0) (trodAll_cons_mk (Below.trod laidOut (by kernel_rfl) (of_decide_eq_true (by kernel_rfl)) k1 bel lt1) trodAll_mk0)), rfl, bel.frame _, fun h => by cases h⟩

theorem over : Rows.samplerStrataRow.holds Tryd.pinned (OpenSpec.ofChange Rows.samplerStrataSpec) :=
  OpenClaim.holds_of_wide 4 Tryd.f4 rfl rfl rfl rfl rfl rfl rfl ⟨rfl, rfl, rfl, rfl, rfl⟩ rfl rfl rfl rfl rfl (by kernel_rfl) Tryd.func4 (by kernel_rfl)
    (of_decide_eq_true (by kernel_rfl)) (by unfold Func.isWrapper; first | (rw [if_pos (by decide +kernel)]; kernel_rfl) | (rw [if_neg (by decide +kernel)]; exact ⟨rfl, rfl⟩))
    (fun os started H enc _ => lifted os started H enc)

theorem tieK : Rows.samplerStrataRow.laidByTextAt .later Tryd.pinned [.data] true := samplerStrata_row_tie

/-- The statement. -/
theorem proved : Rows.SamplerStrataCardSaid :=
  Claim7.holds_tied_plain_at .later [] [.data] true (true, "dafc2aeea59d94dd6dafe070eaf5c5e18f1af2737ccda70bd1867ac8f32746f1") false
    over (fun _ h => by cases h) (by kernel_rfl) (fun _ h => by cases h) tieK rfl ⟨rfl, rfl⟩ (by kernel_rfl) rfl
    (fun f fn hf hfn => by
      obtain rfl : f = 4 := Option.some.inj ((show Tryd.prog.funcNamed "armplan/armplanlaw23.SamplerStrata" = some 4 by kernel_rfl).symm.trans hf) |>.symm
      obtain rfl : fn = Tryd.f4 := (Option.some.inj (Tryd.func4.symm.trans hfn)).symm
      exact ⟨by kernel_rfl, fun j t ht => by
        rw [Tryd.params4] at ht
        have hm : t ∈ [3] := by have := Array.mem_of_getElem? ht; simp at this; simp; omega
        have hall : ([3].all fun u => !Tryd.prog.wantsStandIn u) = true := by kernel_rfl
        exact (show Tryd.prog.wantsStandIn t = false by simpa using List.all_eq_true.1 hall t hm)⟩)
    (by kernel_rfl)
end Go.Proofs.YtlpkjafhpbiffaaDoor.samplerStrata
