/- SamplerNet: the law returns true for every input, and each argument reads afterwards as it read before. Conditions: none. -/
import Derived.Test.YtlpkjafhpbiffaaDoorRows
import Derived.Test.YtlpkjafhpbiffaaDoorLaw23
import Derived.Test.YtlpkjafhpbiffaaDoorCards
import Derived.Test.YtlpkjafhpbiffaaDoorTie
import Derived.ProofKit
import Derived.OpenShut
import Derived.ShutString
import Derived.ChangeOld
import Derived.Below
import Derived.Lib.SmallJoins
namespace Go.Proofs.YtlpkjafhpbiffaaDoor.samplerNet
open Go.ChangeShapes Go.WideShapes Go.ChangeAt Go.RowKit
set_option linter.unusedVariables false

/-- The first four primes. -/
def pN (x : Nat) : Nat := [2, 3, 5, 7].getD x 2
theorem prime_pN : ∀ x : Nat, x < 4 → Fx.prime x = (pN x : Int)
  | 0, _ => by decide
  | 1, _ => by decide
  | 2, _ => by decide
  | 3, _ => by decide
theorem pN_bd : ∀ x : Nat, x < 4 → 2 ≤ pN x ∧ pN x ≤ 7
  | 0, _ => by decide
  | 1, _ => by decide
  | 2, _ => by decide
  | 3, _ => by decide
theorem pN_coprime : ∀ x : Nat, x < 4 → ∀ y : Nat, y < 4 → x ≠ y → Nat.Coprime (pN x) (pN y) := by decide

theorem dvd_of_mods (s t u N : Nat) (hu : u < t) (h : ((s : Int) + u) % N = ((s : Int) + t) % N) : N ∣ t - u := by
  have h1 := Int.emod_eq_emod_iff_emod_sub_eq_zero.1 h.symm
  have h2 := Int.dvd_of_emod_eq_zero h1
  have e : (s : Int) + t - (s + u) = ((t - u : Nat) : Int) := by omega
  rw [e] at h2
  exact Int.ofNat_dvd.1 h2

/-- One round of the law's loop, in numbers. -/
theorem net_num (p q a b N M s t : Nat) (hp : 2 ≤ p) (hp1 : p ≤ 7) (hq : 2 ≤ q) (hq1 : q ≤ 7) (ha : a ≤ 2) (hb : b ≤ 2) (hN : (N : Int) = (p : Int) ^ a) (hM : (M : Int) = (q : Int) ^ b) (hc : Nat.Coprime p q) (hs : s < 2147483648) (ht : t < N * M) :
    ∃ (u v x y : Int) (A C : Nat), Fx.rad p ((s : Int) + t) = (u, v) ∧ Fx.rad q ((s : Int) + t) = (x, y) ∧ 0 ≤ u ∧ u < v ∧ v ≤ 100000000000 ∧ 0 ≤ x ∧ x < y ∧ y ≤ 100000000000 ∧
      0 ≤ u * N ∧ u * N ≤ 14400000000000 ∧ 0 ≤ x * M ∧ x * M ≤ 14400000000000 ∧ u * N / v = A ∧ x * M / y = C ∧ A < N ∧ C < M ∧ N ≤ 144 ∧ M ≤ 144 ∧
      A * M + C < N * M ∧ (Fx.dig p a ((s : Int) + t) * M + Fx.dig q b ((s : Int) + t)).toNat = A * M + C ∧ (∀ r : Nat, r < t → (Fx.dig p a ((s : Int) + r) * M + Fx.dig q b ((s : Int) + r)).toNat ≠ (Fx.dig p a ((s : Int) + t) * M + Fx.dig q b ((s : Int) + t)).toNat) := by
  have p2 : (2 : Int) ≤ p := by omega
  have q2 : (2 : Int) ≤ q := by omega
  have P := pow_le p a p2 (by omega) ha
  have Q := pow_le q b q2 (by omega) hb
  rw [← hN] at P
  rw [← hM] at Q
  have hNM : N * M ≤ 20736 := by have := Nat.mul_le_mul (show N ≤ 144 by omega) (show M ≤ 144 by omega); omega
  have dg : ∀ r : Nat, r < N * M → 0 ≤ Fx.dig p a ((s : Int) + r) ∧ Fx.dig p a ((s : Int) + r) < N ∧ 0 ≤ Fx.dig q b ((s : Int) + r) ∧ Fx.dig q b ((s : Int) + r) < M := fun r _ => by
    have d1 := Fx.dig_bd p2 a ((s : Int) + r) (by omega)
    have d2 := Fx.dig_bd q2 b ((s : Int) + r) (by omega)
    rw [← hN] at d1
    rw [← hM] at d2
    exact ⟨d1.1, d1.2, d2.1, d2.2⟩
  have bd : ∀ z : Nat, (2 : Int) ≤ z → z ≤ 7 → 0 ≤ Fx.rN z ((s : Int) + t) ∧ Fx.rN z ((s : Int) + t) < Fx.rD z ((s : Int) + t) ∧ Fx.rD z ((s : Int) + t) ≤ 100000000000 := fun z z2 z7 => by
    obtain ⟨h1, h2, h3, h4⟩ := Fx.r_bd z2 (s + t) ((s : Int) + t) (by omega) (by omega)
    refine ⟨h1, h2, ?_⟩
    by_cases h0 : (0 : Int) < (s : Int) + t
    · have := h4 h0
      have := Int.mul_le_mul (show (z : Int) ≤ 7 by omega) (show (s : Int) + t ≤ 4294967296 by omega) (by omega) (by omega)
      omega
    · have e : (s : Int) + t = 0 := by omega
      rw [e, (Fx.r_zero z).2]; omega
  obtain ⟨u0, u1, v1⟩ := bd p p2 hp1
  obtain ⟨x0, x1, y1⟩ := bd q q2 hq1
  obtain ⟨g0, g1, g2, g3⟩ := dg t ht
  have m1 := Int.mul_le_mul (show Fx.rN p ((s : Int) + t) ≤ 100000000000 by omega) (show (N : Int) ≤ 144 by omega) (by omega) (by omega)
  have m2 := Int.mul_le_mul (show Fx.rN q ((s : Int) + t) ≤ 100000000000 by omega) (show (M : Int) ≤ 144 by omega) (by omega) (by omega)
  have tn : ∀ r : Nat, r < N * M → ((Fx.dig p a ((s : Int) + r) * M + Fx.dig q b ((s : Int) + r)).toNat : Int) = Fx.dig p a ((s : Int) + r) * M + Fx.dig q b ((s : Int) + r) := fun r hr => by
    obtain ⟨h1, h2, h3, h4⟩ := dg r hr
    have := Int.mul_nonneg h1 (show (0 : Int) ≤ M by omega)
    omega
  obtain ⟨A, hA⟩ := Int.eq_ofNat_of_zero_le g0
  obtain ⟨C, hC⟩ := Int.eq_ofNat_of_zero_le g2
  have hAC : A * M + C < N * M := by
    have := Nat.mul_le_mul_right M (show A + 1 ≤ N by omega)
    rw [Nat.add_mul] at this
    omega
  refine ⟨_, _, _, _, A, C, Fx.rad_eq p _ (by omega) (by omega), Fx.rad_eq q _ (by omega) (by omega), u0, u1, v1, x0, x1, y1, Int.mul_nonneg u0 (by omega), by omega, Int.mul_nonneg x0 (by omega), by omega, ?_, ?_, by omega, by omega, by omega, by omega, hAC, ?_, ?_⟩
  · rw [← hA]; unfold Fx.dig; rw [hN]
  · rw [← hC]; unfold Fx.dig; rw [hM]
  · have := tn t ht
    rw [hA, hC] at this ⊢
    have e : (A : Int) * M + C = ((A * M + C : Nat) : Int) := by rw [Int.natCast_add, Int.natCast_mul]
    rw [e]; rfl
  · intro r hr e
    obtain ⟨k0, k1, k2, k3⟩ := dg r (by omega)
    have e1 := congrArg (fun n : Nat => (n : Int)) e
    simp only [tn r (by omega), tn t ht] at e1
    have x : ∀ c d : Int, 0 ≤ d → d < M → (c * M + d) / M = c := fun c d h0 h1 => by
      rw [Int.mul_comm, Int.mul_add_ediv_left _ _ (by omega), Int.ediv_eq_zero_of_lt h0 h1]; omega
    have e2 := congrArg (· / (M : Int)) e1
    simp only [x _ _ k2 k3, x _ _ g2 g3] at e2
    rw [e2] at e1
    have e3 : Fx.dig q b ((s : Int) + r) = Fx.dig q b ((s : Int) + t) := by omega
    have f1 := Fx.dig_inj p2 a _ _ (by omega) (by omega) e2
    have f2 := Fx.dig_inj q2 b _ _ (by omega) (by omega) e3
    rw [← hN] at f1
    rw [← hM] at f2
    have h1 := dvd_of_mods s t r N hr f1
    have h2 := dvd_of_mods s t r M hr f2
    have cop : Nat.Coprime N M := by
      have a1 : N = p ^ a := by have : ((p ^ a : Nat) : Int) = (p : Int) ^ a := by simp
                                omega
      have a2 : M = q ^ b := by have : ((q ^ b : Nat) : Int) = (q : Int) ^ b := by simp
                                omega
      rw [a1, a2]
      exact Nat.Coprime.pow a b hc
    have h3 := Nat.Coprime.mul_dvd_of_dvd_of_dvd cop h1 h2
    have := Nat.le_of_dvd (by omega) h3
    omega

/-- Which of the four primes the law takes second. -/
def second (x y : Int) : Int := if x ≤ y then y + 1 else y

set_option maxRecDepth 100000 in
set_option maxHeartbeats 2000000 in
theorem walk (j k a b st : Int) (_wj : (Lit.int .i64 j).wf = true) (_wk : (Lit.int .i64 k).wf = true) (_wa : (Lit.int .i64 a).wf = true) (_wb : (Lit.int .i64 b).wf = true) (ws : (Lit.int .u32 st).wf = true) (w : World) (hT : PTab w) (hz : 0 < w.heap.size) :
    Calls Tryd.prog 5 #[.int .i64 j, .int .i64 k, .int .i64 a, .int .i64 b, .int .u32 st] w fun e w' => e = .returned (.bool true) ∧ Below w.heap.size w w' := by
  have HT := Lib.hid hT; clear hT
  obtain ⟨st0, st1⟩ := Fx.wf_u32 ws
  clear _wj _wk _wa _wb ws
  have j0 := Int.emod_nonneg j (show (4 : Int) ≠ 0 by omega)
  have j1 := Int.emod_lt_of_pos j (show (0 : Int) < 4 by omega)
  have k0 := Int.emod_nonneg k (show (3 : Int) ≠ 0 by omega)
  have k1 := Int.emod_lt_of_pos k (show (0 : Int) < 3 by omega)
  have a0 := Int.emod_nonneg a (show (3 : Int) ≠ 0 by omega)
  have a1 := Int.emod_lt_of_pos a (show (0 : Int) < 3 by omega)
  have b0 := Int.emod_nonneg b (show (3 : Int) ≠ 0 by omega)
  have b1 := Int.emod_lt_of_pos b (show (0 : Int) < 3 by omega)
  go_enter Tryd.func5, Tryd.ntmps5
  go_upto_if 31 with (go_at_call 18; refine (round_any _ _ _ (by omega) (by omega)).mono ?_; rintro e w1 ⟨rfl, rfl⟩)
  obtain ⟨x, hx⟩ := Int.eq_ofNat_of_zero_le j0
  rw [hx] at j0 j1 ⊢
  have Hx := Lib.hid hx; clear hx
  generalize k % 3 = y at *
  go_cut [12] (fun yv wx => ∃ y' : Nat, y' < 4 ∧ x ≠ y' ∧ yv = .int .i64 y' ∧ wx = w)
  case first =>
    by_cases c : (x : Int) ≤ y
    · go_wp2_with fail
      go_meet
      exact ⟨(y + 1).toNat, by omega, by omega, by go_num, rfl⟩
    · go_wp2_with fail
      go_meet
      exact ⟨y.toNat, by omega, by omega, by go_num, rfl⟩
  case rest =>
    obtain ⟨y', y4, xy, rfl, rfl⟩ := hcut
    clear k0 k1
    have x4 : x < 4 := by omega
    have HC := Lib.hid (pN_coprime x x4 y' y4 xy)
    have px := pN_bd x x4
    have py := pN_bd y' y4
    have HP := Lib.hid (prime_pN x x4)
    have HQ := Lib.hid (prime_pN y' y4)
    clear xy
    go_wp2_with fail
    refine (rprime_any _ _).mono ?_
    rw [HP.out]
    rintro e w2 ⟨rfl, hb2⟩
    go_wp2_with fail
    refine (rprime_any _ _).mono ?_
    rw [HQ.out]
    rintro e w3 ⟨rfl, hb3⟩
    have hB3 := ext_trans hb2 hb3
    clear hb2 hb3 HP HQ
    generalize pN x = p at *
    generalize pN y' = q at *
    go_wp2_with fail
    refine (round_any _ _ _ (by omega) (by omega)).mono ?_
    rintro e w4 ⟨rfl, rfl⟩
    obtain ⟨a', ha'⟩ := Int.eq_ofNat_of_zero_le a0
    rw [ha'] at a0 a1 ⊢
    clear ha'
    go_wp2_with fail
    refine (power_any _ a' _ (by omega) (by omega) (by omega)).mono ?_
    rintro e w4 ⟨rfl, rfl⟩
    have hP := pow_le p a' (by omega) (by omega) (by omega)
    obtain ⟨N, hN⟩ := Int.eq_ofNat_of_zero_le (show 0 ≤ (p : Int) ^ a' by omega)
    rw [hN] at hP ⊢
    have HN := Lib.hid hN.symm; clear hN
    go_wp2_with fail
    refine (round_any _ _ _ (by omega) (by omega)).mono ?_
    rintro e w5 ⟨rfl, rfl⟩
    obtain ⟨b', hb'⟩ := Int.eq_ofNat_of_zero_le b0
    rw [hb'] at b0 b1 ⊢
    clear hb'
    go_wp2_with fail
    refine (power_any _ b' _ (by omega) (by omega) (by omega)).mono ?_
    rintro e w5 ⟨rfl, rfl⟩
    have hQ := pow_le q b' (by omega) (by omega) (by omega)
    obtain ⟨M, hM⟩ := Int.eq_ofNat_of_zero_le (show 0 ≤ (q : Int) ^ b' by omega)
    rw [hM] at hQ ⊢
    have HM := Lib.hid hM.symm; clear hM
    have hNM : N * M ≤ 20736 := by have := Nat.mul_le_mul (show N ≤ 144 by omega) (show M ≤ 144 by omega); omega
    have hNMi : (N : Int) * (M : Int) = ((N * M : Nat) : Int) := (Int.natCast_mul N M).symm
    have hm0 : 0 ≤ (N : Int) * (M : Int) := by rw [hNMi]; omega
    have hm1 : (N : Int) * (M : Int) ≤ 20736 := by rw [hNMi]; omega
    have hmk : ∀ W : World, (Instr.makeSlice 30 (.int .u64 ((N : Int) * (M : Int))) (.int .u64 ((N : Int) * (M : Int)))).run Tryd.prog W = .ok (.slice (some ⟨W.heap.size, 0, none⟩) (N * M) (N * M)) (W.alloc (.cells (Array.replicate (N * M) (.bool false)) 4)) := fun W => by
      rw [hNMi]; exact make_bools .u64 (N * M) (by omega) W
    have HNM := Lib.hid hNMi
    clear hNMi
    obtain ⟨s, hs⟩ := Int.eq_ofNat_of_zero_le (show 0 ≤ st % 2147483648 by omega)
    have hs1 : s < 2147483648 := by omega
    go_upto_region 7 with fail
    clear hmk
    have hW0 := Whole.new w5 4 (Array.replicate (N * M) (.bool false))
    have hB4 : Below wc.heap.size wc (w5.alloc (.cells (Array.replicate (N * M) (.bool false)) 4)) := ext_alloc hB3 _
    rw [← Fx.seen_zero (fun t => (Fx.dig p a' ((s : Int) + t) * M + Fx.dig q b' ((s : Int) + t)).toNat) (N * M)] at hW0 hB4 ⊢
    have hzS := hB3.size
    go_wp2_with fail
    rw [hs]
    clear hs st0 st1
    go_loopw [19] (fun iv wr => ∃ t : Nat, t ≤ N * M ∧ iv = .int .u64 ((s : Int) + t) ∧ Whole wr w5.heap.size 4 (Fx.seen (fun t => (Fx.dig p a' ((s : Int) + t) * M + Fx.dig q b' ((s : Int) + t)).toNat) (N * M) t) ∧ Below wc.heap.size wc wr) (fun iv _ => (s + N * M) - (intOf iv).toNat)
    case atStart => exact ⟨0, Nat.zero_le _, by simp, hW0, hB4⟩
    case round =>
      obtain ⟨t, htN, rfl, hW, hB⟩ := hrel
      clear hW0 hB4
      have HNMi := HNM.out
      by_cases ht : t < N * M
      · obtain ⟨u, v, x', y2, A, C, e1, e2, u0, u1, v1, x0, x1, y1, n0, n1, m0, m1, e3, e4, hAN, hCM, hN1, hM1, hAC, e5, hne⟩ := net_num p q a' b' N M s t px.1 px.2 py.1 py.2 (by omega) (by omega) HN.out HM.out HC.out hs1 ht
        have HG := Lib.hid (Fx.seen_get (fun t => (Fx.dig p a' ((s : Int) + t) * M + Fx.dig q b' ((s : Int) + t)).toNat) (N * M) t (by show (Fx.dig p a' ((s : Int) + t) * M + Fx.dig q b' ((s : Int) + t)).toNat < N * M; rw [e5]; exact hAC) hne)
        have HNx := Lib.hid (Fx.seen_next (fun t => (Fx.dig p a' ((s : Int) + t) * M + Fx.dig q b' ((s : Int) + t)).toNat) (N * M) t)
        simp only [e5] at HG HNx
        have HE1 := Lib.hid e1
        have HE2 := Lib.hid e2
        have HE3 := Lib.hid e3
        have HE4 := Lib.hid e4
        have HW := Lib.hid hW
        have ht2 : (t : Int) < (N : Int) * (M : Int) := by omega
        have ht3 : (t : Int) < 20736 := by omega
        have hAC2 : (A : Int) * (M : Int) + C < (N : Int) * (M : Int) := by rw [HNMi]; have e : (A : Int) * M + C = ((A * M + C : Nat) : Int) := (by rw [Int.natCast_add, Int.natCast_mul]); rw [e]; omega
        have hA0 : 0 ≤ (A : Int) * (M : Int) := Int.mul_nonneg (by omega) (by omega)
        clear hW hne e1 e2 e3 e4 e5 HNMi HC HN HM
        go_wp2_with fail
        refine (radical_any _ _ _ (by omega) (by omega) (by omega) (by omega)).mono ?_
        rw [HE1.out]
        rintro e w6 ⟨rfl, hb6⟩
        go_wp2_with fail
        refine (radical_any _ _ _ (by omega) (by omega) (by omega) (by omega)).mono ?_
        rw [HE2.out]
        rintro e w7 ⟨rfl, hb7⟩
        have hW7 := (HW.out.ext hb6).ext hb7
        have hB7 := ext_trans (ext_trans hB hb6) hb7
        have hcell := (hW7.cell (A * M + C)).trans HG.out
        have hfr := hW7.frozen (A * M + C)
        have hst := hW7.store (A * M + C) (.bool true)
        rw [HNx.out] at hst
        have HS := Lib.hid hst
        clear hst hW7 hb6 hb7 hB HW HG HNx HE1 HE2
        have c1 : (v == 0) = false := by simp; omega
        have c2 : decide (v ≤ u) = false := by simp; omega
        have c3 : (y2 == 0) = false := by simp; omega
        have c4 : decide (y2 ≤ x') = false := by simp; omega
        have c5 : decide (1099511627776 < v) = false := by simp; omega
        have c6 : decide (1099511627776 < y2) = false := by simp; omega
        go_wp2_with fail
        have q1' : IntKind.u64.wrap (u * (N : Int)) = u * N := by rw [IntKind.wrap_u64]; omega
        have q2' : IntKind.u64.wrap (x' * (M : Int)) = x' * M := by rw [IntKind.wrap_u64]; omega
        have q3 : (u * (N : Int)).tdiv v = A := by rw [Int.tdiv_eq_ediv_of_nonneg n0]; exact HE3.out
        have q4 : (x' * (M : Int)).tdiv y2 = C := by rw [Int.tdiv_eq_ediv_of_nonneg m0]; exact HE4.out
        have q5 : IntKind.u64.wrap ((A : Int) * (M : Int)) = A * M := by rw [IntKind.wrap_u64]; omega
        have q6 : IntKind.u64.wrap ((A : Int) * (M : Int) + C) = A * M + C := by rw [IntKind.wrap_u64]; omega
        have q7 : IntKind.u64.wrap (A : Int) = A := by rw [IntKind.wrap_u64]; omega
        have q8 : IntKind.u64.wrap (C : Int) = C := by rw [IntKind.wrap_u64]; omega
        have q9 : ¬ v = 0 := by omega
        have q10 : ¬ y2 = 0 := by omega
        go_quiet (fail)
        clear q1' q2' q3 q4 q5 q6 q7 q8
        have hAC3 : (A : Int) * (M : Int) + C < ((N * M : Nat) : Int) := by have := HNM.out; omega
        have hAC4 : ((A : Int) * (M : Int) + C).toNat = A * M + C := by
          have e : (A : Int) * M + C = ((A * M + C : Nat) : Int) := (by rw [Int.natCast_add, Int.natCast_mul])
          rw [e]; rfl
        go_wp2_with fail
        go_roundw
        case rel => exact ⟨t + 1, by omega, by go_num, HS.out.drewN _, (by repeat (first | assumption | exact ext_refl _ | refine ext_alloc ?_ _ | refine ext_drewN ?_ _ | refine ext_drew ?_ | refine ext_set ?_ (by first | (simp; done) | (simp; omega) | omega) _ | refine ext_trans ?_ ‹Below _ _ _›))⟩
        case measure => simp [intOf]; omega
      · clear hW HNMi
        have ht2 : (N : Int) * (M : Int) ≤ t := by have := HNM.out; omega
        go_wp2_with fail
        refine (awake_any _ (HT.out.ext hB hz) (Nat.lt_of_lt_of_le hz hB.size)).mono ?_
        rintro e w6 ⟨rfl, hb6⟩
        go_wp2_with fail
        go_ret
        exact ⟨rfl, ext_trans hB hb6⟩

set_option maxRecDepth 100000 in
theorem lifted (os : Os) (started : os.Started) (H : Type) (enc : TypeId × Value → H) :
    ReturnsInHanded {} Tryd.checked os 5 .any (fun w args => (Rows.samplerNetSpec.pre enc Tryd.prog Tryd.f5 [] false w args ∧ laidMetH Tryd.prog laid1 w) ∧ sizedMet enc Tryd.prog Tryd.f5 (OpenSpec.ofChange Rows.samplerNetSpec) false w args) (Rows.samplerNetSpec.post enc Tryd.prog Tryd.f5 false true false false) := by
  refine returnsInHanded_of_change_and (C := Tryd.checked) (X := fun w _ => laidMetH Tryd.prog laid1 w) (fun _ _ _ hh h => h.of_heap hh) own started (by kernel_rfl) Tryd.func5
    (ChangeSpec.witness_shaped (enc := enc) (C := Tryd.checked) (os := os) (X := fun w _ => laidMetH Tryd.prog laid1 w) false (World.doorLaid Tryd.prog 400 os) #[.int .i64 0, .int .i64 0, .int .i64 0, .int .i64 0, .int .u32 0] 8 rfl (World.shaped_of_RefB (by kernel_rfl) (by kernel_rfl)) (by kernel_rfl) (by kernel_rfl) (by kernel_rfl) (door_met os _)) ?_
  intro W base args ds gs before hval0 hW _ _ hLaid _
  have hval : ∀ (j : Nat) t v, Tryd.f5.params[j]? = some t → args[j]? = some v → Value.okWide Tryd.prog W .any base t v := hval0
  have hW' := hW
  obtain ⟨p, q, hA0, hV, rfl, hfz, hnd⟩ := hW
  have hA : DataW.TrodAll enc Tryd.prog W 0 (fun _ => true) true Tryd.f5.params.toList args.toList ds p := hA0
  rw [Tryd.params5] at hA hval
  obtain ⟨v0, vs0, d0, ds0, p0, q0, hargs, rfl, rfl, h0, r0⟩ := trodAll_cons hA
  obtain ⟨v1, vs1, d1, ds1, p1, q1, rfl, rfl, rfl, h1, r1⟩ := trodAll_cons r0
  obtain ⟨v2, vs2, d2, ds2, p2, q2, rfl, rfl, rfl, h2, r2⟩ := trodAll_cons r1
  obtain ⟨v3, vs3, d3, ds3, p3, q3, rfl, rfl, rfl, h3, r3⟩ := trodAll_cons r2
  obtain ⟨v4, vs4, d4, ds4, p4, q4, rfl, rfl, rfl, h4, r4⟩ := trodAll_cons r3
  obtain ⟨rfl, rfl, rfl⟩ := trodAll_nil r4
  obtain rfl : args = #[v0, v1, v2, v3, v4] := by cases args; simp_all
  obtain ⟨rfl, rfl⟩ := trodVars_none hV
  have k0 := h0
  have lt0 : ∀ x ∈ p0, x.block < W.heap.size := by obtain ⟨m, hm⟩ := k0; exact DataW.trod_lt m _ _ _ hm
  have k1 := h1
  have lt1 : ∀ x ∈ p1, x.block < W.heap.size := by obtain ⟨m, hm⟩ := k1; exact DataW.trod_lt m _ _ _ hm
  have k2 := h2
  have lt2 : ∀ x ∈ p2, x.block < W.heap.size := by obtain ⟨m, hm⟩ := k2; exact DataW.trod_lt m _ _ _ hm
  have k3 := h3
  have lt3 : ∀ x ∈ p3, x.block < W.heap.size := by obtain ⟨m, hm⟩ := k3; exact DataW.trod_lt m _ _ _ hm
  have k4 := h4
  have lt4 : ∀ x ∈ p4, x.block < W.heap.size := by obtain ⟨m, hm⟩ := k4; exact DataW.trod_lt m _ _ _ hm
  obtain ⟨a0, rfl, rfl, rfl, w0⟩ := open_int Tryd.underlying3 (hval 0 3 v0 rfl rfl) h0
  obtain ⟨a1, rfl, rfl, rfl, w1⟩ := open_int Tryd.underlying3 (hval 1 3 v1 rfl rfl) h1
  obtain ⟨a2, rfl, rfl, rfl, w2⟩ := open_int Tryd.underlying3 (hval 2 3 v2 rfl rfl) h2
  obtain ⟨a3, rfl, rfl, rfl, w3⟩ := open_int Tryd.underlying3 (hval 3 3 v3 rfl rfl) h3
  obtain ⟨a4, rfl, rfl, rfl, w4⟩ := open_int Tryd.underlying32 (hval 4 32 v4 rfl rfl) h4
  clear hA0 hval0
  obtain ⟨hPT, hPz⟩ := of_laid hLaid
  refine (walk a0 a1 a2 a3 a4 w0 w1 w2 w3 w4 W hPT hPz).mono fun e W' ⟨he, bel⟩ => ?_
  subst he
  exact ⟨_, rfl, _, _, _, [], _, [], hW', trodAll_mk1 (shut_bool Tryd.underlying4 _), (trodAll_cons_mk (Below.trod laidOut (by kernel_rfl) (of_decide_eq_true (by kernel_rfl)) k0 bel lt0) (trodAll_cons_mk (Below.trod laidOut (by kernel_rfl) (of_decide_eq_true (by kernel_rfl)) k1 bel lt1) (trodAll_cons_mk (Below.trod laidOut (by kernel_rfl) (of_decide_eq_true (by kernel_rfl)) k2 bel lt2) (trodAll_cons_mk (Below.trod laidOut (by kernel_rfl) (of_decide_eq_true (by kernel_rfl)) k3 bel lt3) (trodAll_cons_mk (Below.trod laidOut (by kernel_rfl) (of_decide_eq_true (by kernel_rfl)) k4 bel lt4) trodAll_mk0))))), rfl, bel.frame _, fun h => by cases h⟩

theorem over : Rows.samplerNetRow.holds Tryd.pinned (OpenSpec.ofChange Rows.samplerNetSpec) :=
  OpenClaim.holds_of_wide 5 Tryd.f5 rfl rfl rfl rfl rfl rfl rfl ⟨rfl, rfl, rfl, rfl, rfl⟩ rfl rfl rfl rfl rfl (by kernel_rfl) Tryd.func5 (by kernel_rfl)
    (of_decide_eq_true (by kernel_rfl)) (by unfold Func.isWrapper; first | (rw [if_pos (by decide +kernel)]; kernel_rfl) | (rw [if_neg (by decide +kernel)]; exact ⟨rfl, rfl⟩))
    (fun os started H enc _ => lifted os started H enc)

theorem tieK : Rows.samplerNetRow.laidByTextAt .later Tryd.pinned [.data] true := samplerNet_row_tie

/-- The statement. -/
theorem proved : Rows.SamplerNetCardSaid :=
  Claim7.holds_tied_plain_at .later [] [.data] true (true, "dafc2aeea59d94dd6dafe070eaf5c5e18f1af2737ccda70bd1867ac8f32746f1") false
    over (fun _ h => by cases h) (by kernel_rfl) (fun _ h => by cases h) tieK rfl ⟨rfl, rfl⟩ (by kernel_rfl) rfl
    (fun f fn hf hfn => by
      obtain rfl : f = 5 := Option.some.inj ((show Tryd.prog.funcNamed "armplan/armplanlaw23.SamplerNet" = some 5 by kernel_rfl).symm.trans hf) |>.symm
      obtain rfl : fn = Tryd.f5 := (Option.some.inj (Tryd.func5.symm.trans hfn)).symm
      exact ⟨by kernel_rfl, fun j t ht => by
        rw [Tryd.params5] at ht
        have hm : t ∈ [3, 32] := by have := Array.mem_of_getElem? ht; simp at this; simp; omega
        have hall : ([3, 32].all fun u => !Tryd.prog.wantsStandIn u) = true := by kernel_rfl
        exact (show Tryd.prog.wantsStandIn t = false by simpa using List.all_eq_true.1 hall t hm)⟩)
    (by kernel_rfl)
end Go.Proofs.YtlpkjafhpbiffaaDoor.samplerNet
