/- Plain mathematics of the laws on words and numbers of the sampler. No program in sight. -/
import Derived.Test.YtlpkjafhpbiffaaDoorSampMath
import Derived.Test.YtlpkjafhpbiffaaDoorDiv64Math
namespace Go.Proofs.YtlpkjafhpbiffaaDoor.Fx
open Go.RowKit

theorem wf_u64 {n : Int} (h : (Lit.int .u64 n).wf = true) : 0 ≤ n ∧ n < 18446744073709551616 := by
  have h1 : IntKind.u64.min = 0 := rfl
  have h2 : IntKind.u64.max = 18446744073709551615 := rfl
  simp only [Lit.wf, Bool.and_eq_true, decide_eq_true_eq] at h
  omega

theorem wf_i64 {n : Int} (h : (Lit.int .i64 n).wf = true) : -9223372036854775808 ≤ n ∧ n < 9223372036854775808 := by
  have h1 : IntKind.i64.min = -9223372036854775808 := rfl
  have h2 : IntKind.i64.max = 9223372036854775807 := rfl
  simp only [Lit.wf, Bool.and_eq_true, decide_eq_true_eq] at h
  omega

theorem wf_u32 {n : Int} (h : (Lit.int .u32 n).wf = true) : 0 ≤ n ∧ n < 4294967296 := by
  have h1 : IntKind.u32.min = 0 := rfl
  have h2 : IntKind.u32.max = 4294967295 := rfl
  simp only [Lit.wf, Bool.and_eq_true, decide_eq_true_eq] at h
  omega

theorem or1_bd (d : Int) (h0 : 0 ≤ d) (h1 : d < 18446744073709551616) : 1 ≤ bits .or .u64 d 1 ∧ bits .or .u64 d 1 < 18446744073709551616 := by
  rw [u64_or d 1 h0 h1 (by omega) (by omega)]
  have : d.toNat ||| (1 : Int).toNat < 2 ^ 64 := Nat.or_lt_two_pow (by omega) (by decide)
  have h2 : (1 : Int).toNat ≤ d.toNat ||| (1 : Int).toNat := Nat.right_le_or
  have h3 : (1 : Int).toNat = 1 := rfl
  omega

theorem xor_zero {x y : Nat} (h : x ^^^ y = 0) : x = y := by
  have := congrArg (· ^^^ y) h
  simpa [Nat.xor_assoc] using this

/-- A number is not changed by xor with itself, shifted down, unless another one is changed to the same. -/
theorem xorshift_inj (x y k : Nat) (hk : 1 ≤ k) (h : x ^^^ (x >>> k) = y ^^^ (y >>> k)) : x = y := by
  have h1 : (x ^^^ y) = (x ^^^ y) >>> k := by
    rw [Nat.shiftRight_xor_distrib]
    have : (x ^^^ (x >>> k)) ^^^ (y ^^^ (y >>> k)) = 0 := by rw [h, Nat.xor_self]
    have h2 : (x ^^^ y) ^^^ ((x >>> k) ^^^ (y >>> k)) = 0 := by rw [← this]; ac_rfl
    exact xor_zero h2
  have h2 : (x ^^^ y) >>> k ≤ (x ^^^ y) / 2 := by
    rw [Nat.shiftRight_eq_div_pow]
    have := Nat.pow_le_pow_right (show 0 < 2 by omega) hk
    exact Nat.div_le_div_left (by omega) (by omega)
  have h3 : x ^^^ y = 0 := by omega
  exact xor_zero h3

theorem xor_bd (z : Int) (k : Nat) (hz : 0 ≤ z ∧ z < 18446744073709551616) : 0 ≤ bits .xor .u64 z (z / 2 ^ k) ∧ bits .xor .u64 z (z / 2 ^ k) < 18446744073709551616 := by
  have hp : (0 : Int) < 2 ^ k := pow_pos k
  have a := Int.ediv_nonneg hz.1 (show (0 : Int) ≤ 2 ^ k by omega)
  have b := Int.ediv_le_self (2 ^ k) hz.1
  rw [u64_xor z _ hz.1 hz.2 a (by omega)]
  have : z.toNat ^^^ (z / 2 ^ k).toNat < 2 ^ 64 := Nat.xor_lt_two_pow (by omega) (by omega)
  omega

theorem xs_inj (x y : Int) (k : Nat) (hk : 1 ≤ k) (hx0 : 0 ≤ x) (hx1 : x < 18446744073709551616) (hy0 : 0 ≤ y) (hy1 : y < 18446744073709551616)
    (h : bits .xor .u64 x (x / 2 ^ k) = bits .xor .u64 y (y / 2 ^ k)) : x = y := by
  have hp : (1 : Int) ≤ 2 ^ k := pow_pos k
  have q : ∀ z : Int, 0 ≤ z → z < 18446744073709551616 → 0 ≤ z / 2 ^ k ∧ z / 2 ^ k < 18446744073709551616 := fun z h0 h1 => by
    have a := Int.ediv_nonneg h0 (show (0 : Int) ≤ 2 ^ k by omega)
    have b := Int.ediv_le_self (2 ^ k) h0
    omega
  rw [u64_xor x _ hx0 hx1 (q x hx0 hx1).1 (q x hx0 hx1).2, u64_xor y _ hy0 hy1 (q y hy0 hy1).1 (q y hy0 hy1).2] at h
  have e : ∀ z : Int, 0 ≤ z → (z / 2 ^ k).toNat = z.toNat >>> k := fun z h0 => by
    rw [Nat.shiftRight_eq_div_pow]
    obtain ⟨n, rfl⟩ := Int.eq_ofNat_of_zero_le h0
    have : ((n : Int) / 2 ^ k) = ((n / 2 ^ k : Nat) : Int) := by simp
    rw [this]; rfl
  rw [e x hx0, e y hy0] at h
  have := xorshift_inj x.toNat y.toNat k hk (by omega)
  omega

theorem mul_inj (c d x y : Int) (hcd : c * d % 18446744073709551616 = 1) (hx0 : 0 ≤ x) (hx1 : x < 18446744073709551616) (hy0 : 0 ≤ y) (hy1 : y < 18446744073709551616)
    (h : x * c % 18446744073709551616 = y * c % 18446744073709551616) : x = y := by
  have k : ∀ z : Int, z * c % 18446744073709551616 * d % 18446744073709551616 = z % 18446744073709551616 := fun z => by
    rw [Int.mul_emod (z * c % 18446744073709551616) d, Int.emod_emod, ← Int.mul_emod, Int.mul_assoc, Int.mul_emod z, hcd, Int.mul_one, Int.emod_emod]
  have := (k x).symm.trans ((congrArg (fun t => t * d % 18446744073709551616) h).trans (k y))
  omega

theorem add_inj (s A B : Int) (h1 : 0 ≤ A) (h2 : A < 18446744073709551616) (h3 : 0 ≤ B) (h4 : B < 18446744073709551616) (h5 : (s + A) % 18446744073709551616 = (s + B) % 18446744073709551616) : A = B := by omega

theorem mix0_inj (s i j : Int) (hi0 : 0 ≤ i) (hi1 : i < 18446744073709551616) (hj0 : 0 ≤ j) (hj1 : j < 18446744073709551616) (h : mix0 s i = mix0 s j) : i = j := by
  unfold mix0 at h
  simp only [IntKind.wrap_u64] at h
  have a := fun A B => add_inj s A B
  have p : (0 : Int) < 18446744073709551616 := by decide
  have q : (18446744073709551616 : Int) ≠ 0 := by decide
  have h1 : (i + 1) % 18446744073709551616 * 11400714819323198485 % 18446744073709551616 = (j + 1) % 18446744073709551616 * 11400714819323198485 % 18446744073709551616 :=
    a _ _ (Int.emod_nonneg _ q) (Int.emod_lt_of_pos _ p) (Int.emod_nonneg _ q) (Int.emod_lt_of_pos _ p) h
  have hc : (11400714819323198485 * 17428512612931826493 : Int) % 18446744073709551616 = 1 := by simp
  clear h a
  generalize (11400714819323198485 : Int) = c at *
  generalize (17428512612931826493 : Int) = d at *
  have e := mul_inj c d ((i + 1) % 18446744073709551616) ((j + 1) % 18446744073709551616) hc (Int.emod_nonneg _ q) (Int.emod_lt_of_pos _ p) (Int.emod_nonneg _ q) (Int.emod_lt_of_pos _ p) h1
  clear h1 hc
  omega

theorem mix1_inj (x y : Int) (hx : 0 ≤ x ∧ x < 18446744073709551616) (hy : 0 ≤ y ∧ y < 18446744073709551616) (h : mix1 x = mix1 y) : x = y := by
  unfold mix1 at h
  simp only [IntKind.wrap_u64] at h
  have e : (1073741824 : Int) = 2 ^ 30 := by simp
  rw [e] at h
  have b := fun z hz => xor_bd z 30 hz
  have hc : (13787848793156543929 * 10871156337175269513 : Int) % 18446744073709551616 = 1 := by simp
  generalize (13787848793156543929 : Int) = c at *
  generalize (10871156337175269513 : Int) = d at *
  exact xs_inj x y 30 (by omega) hx.1 hx.2 hy.1 hy.2 (mul_inj c d _ _ hc (b x hx).1 (b x hx).2 (b y hy).1 (b y hy).2 h)

theorem mix2_inj (x y : Int) (hx : 0 ≤ x ∧ x < 18446744073709551616) (hy : 0 ≤ y ∧ y < 18446744073709551616) (h : mix2 x = mix2 y) : x = y := by
  unfold mix2 at h
  simp only [IntKind.wrap_u64] at h
  have e : (134217728 : Int) = 2 ^ 27 := by simp
  rw [e] at h
  have b := fun z hz => xor_bd z 27 hz
  have hc : (10723151780598845931 * 3573116690164977347 : Int) % 18446744073709551616 = 1 := by simp
  generalize (10723151780598845931 : Int) = c at *
  generalize (3573116690164977347 : Int) = d at *
  exact xs_inj x y 27 (by omega) hx.1 hx.2 hy.1 hy.2 (mul_inj c d _ _ hc (b x hx).1 (b x hx).2 (b y hy).1 (b y hy).2 h)

theorem mix3_inj (x y : Int) (hx : 0 ≤ x ∧ x < 18446744073709551616) (hy : 0 ≤ y ∧ y < 18446744073709551616) (h : mix3 x = mix3 y) : x = y := by
  unfold mix3 at h
  have e : (2147483648 : Int) = 2 ^ 31 := by simp
  rw [e] at h
  exact xs_inj x y 31 (by omega) hx.1 hx.2 hy.1 hy.2 h

theorem word_inj (s i j : Int) (hi0 : 0 ≤ i) (hi1 : i < 18446744073709551616) (hj0 : 0 ≤ j) (hj1 : j < 18446744073709551616) (h : word s i = word s j) : i = j := by
  unfold word at h
  have b0 : ∀ k, 0 ≤ mix0 s k ∧ mix0 s k < 18446744073709551616 := fun k => u64_wrap_bd _
  have b1 : ∀ k, 0 ≤ mix1 k ∧ mix1 k < 18446744073709551616 := fun k => u64_wrap_bd _
  have b2 : ∀ k, 0 ≤ mix2 k ∧ mix2 k < 18446744073709551616 := fun k => u64_wrap_bd _
  exact mix0_inj s i j hi0 hi1 hj0 hj1 (mix1_inj _ _ (b0 _) (b0 _) (mix2_inj _ _ (b1 _) (b1 _) (mix3_inj _ _ (b2 _) (b2 _) h)))

theorem apart (s i j : Int) (hi0 : 0 ≤ i) (hi1 : i < 18446744073709551616) (hj0 : 0 ≤ j) (hj1 : j < 18446744073709551616) : (word s i == word s j) = (i == j) := by
  by_cases h : i = j
  · subst h; rw [beq_self_eq_true, beq_self_eq_true]
  · have h2 : word s i ≠ word s j := fun e => h (word_inj s i j hi0 hi1 hj0 hj1 e)
    rw [beq_eq_false_iff_ne.2 h2, beq_eq_false_iff_ne.2 h]

/-- The least word that reaches number t of n: t * 2^64 / n, rounded up, as the law makes it. -/
def least (t n : Int) : Int := if 0 < t then 18446744073709551615 / n * t + (t * (18446744073709551615 % n + 1) + n - 1) / n else 0

theorem spread_mono (v w lo hi : Int) (h : v ≤ w) : spread v lo hi ≤ spread w lo hi := by
  unfold spread
  split
  · rename_i hv
    have := vb_true.1 hv
    have := Int.mul_le_mul_of_nonneg_right h (show 0 ≤ hi - lo + 1 by omega)
    have := Int.ediv_le_ediv (c := 18446744073709551616) (by decide) this
    omega
  · omega

theorem spread_least (lo hi : Int) : spread 0 lo hi = lo := by unfold spread; split <;> simp

theorem spread_most (lo hi : Int) (hv : vb lo hi = true) : spread 18446744073709551615 lo hi = hi := by
  unfold spread
  rw [if_pos hv]
  have := vb_true.1 hv
  omega

theorem least_parts (t n : Int) (hn : 0 < n) (hn1 : n ≤ 4294967297) (ht0 : 0 < t) (ht1 : t < n) (ht2 : t < 1048576) :
    0 ≤ 18446744073709551615 / n ∧ 0 ≤ 18446744073709551615 / n * t ∧ 18446744073709551615 / n * t < 18446744073709551616 ∧ 0 ≤ 18446744073709551615 % n ∧ 18446744073709551615 % n < n ∧
    0 ≤ t * (18446744073709551615 % n + 1) ∧ t * (18446744073709551615 % n + 1) ≤ 4503599628419072 := by
  have a0 := Int.ediv_nonneg (show (0 : Int) ≤ 18446744073709551615 by decide) (show 0 ≤ n by omega)
  have a1 := Int.emod_nonneg 18446744073709551615 (show n ≠ 0 by omega)
  have a2 := Int.emod_lt_of_pos 18446744073709551615 hn
  have a3 := Int.mul_nonneg a0 (show 0 ≤ t by omega)
  have a4 := Int.mul_le_mul_of_nonneg_left (show t ≤ n by omega) a0
  have a5 := Int.mul_ediv_add_emod 18446744073709551615 n
  rw [Int.mul_comm] at a5
  have a6 := Int.mul_nonneg (show 0 ≤ t by omega) (show 0 ≤ 18446744073709551615 % n + 1 by omega)
  have a7 := Int.mul_le_mul (show t ≤ 1048576 by omega) (show 18446744073709551615 % n + 1 ≤ 4294967297 by omega) (by omega) (by omega)
  generalize 18446744073709551615 / n * t = X at *
  generalize 18446744073709551615 / n * n = Y at *
  generalize t * (18446744073709551615 % n + 1) = Z at *
  generalize 18446744073709551615 % n = R at *
  omega

theorem least_bd (t n : Int) (hn : 0 < n) (hn1 : n ≤ 4294967297) (ht0 : 0 ≤ t) (ht1 : t < n) (ht2 : t < 1048576) : t * 18446744073709551616 ≤ least t n * n ∧ least t n * n < t * 18446744073709551616 + n ∧ 0 ≤ least t n ∧ least t n < 18446744073709551616 := by
  unfold least
  split
  · rename_i hp
    obtain ⟨p1, p2, p3, p4, p5, p6, p7⟩ := least_parts t n hn hn1 hp ht1 ht2
    have a5 := Int.mul_ediv_add_emod 18446744073709551615 n
    rw [Int.mul_comm] at a5
    have e1 : 18446744073709551615 / n * t * n = 18446744073709551615 / n * n * t := by rw [Int.mul_assoc, Int.mul_comm t n, ← Int.mul_assoc]
    have e2 : t * 18446744073709551616 = 18446744073709551615 / n * n * t + t * (18446744073709551615 % n + 1) := by
      rw [Int.mul_comm _ t, ← Int.mul_add]; congr 1; omega
    have e3 := Int.mul_ediv_add_emod (t * (18446744073709551615 % n + 1) + n - 1) n
    rw [Int.mul_comm] at e3
    have e4 := Int.emod_nonneg (t * (18446744073709551615 % n + 1) + n - 1) (show n ≠ 0 by omega)
    have e5 := Int.emod_lt_of_pos (t * (18446744073709551615 % n + 1) + n - 1) hn
    have e6 := Int.ediv_nonneg (show 0 ≤ t * (18446744073709551615 % n + 1) + n - 1 by omega) (show 0 ≤ n by omega)
    rw [Int.add_mul, e1]
    have e7 : (18446744073709551615 / n * t + (t * (18446744073709551615 % n + 1) + n - 1) / n) * n < 18446744073709551616 * n := by
      rw [Int.add_mul, e1]
      have := Int.mul_le_mul_of_nonneg_right (show t + 1 ≤ n by omega) (show (0 : Int) ≤ 18446744073709551616 by decide)
      rw [Int.add_mul] at this
      have c := Int.mul_comm 18446744073709551616 n
      generalize 18446744073709551615 / n * n * t = X at *
      generalize t * (18446744073709551615 % n + 1) = Z at *
      generalize (Z + n - 1) / n * n = U at *
      generalize (Z + n - 1) % n = V at *
      omega
    have e8 := Int.lt_of_mul_lt_mul_right e7 (show 0 ≤ n by omega)
    refine ⟨?_, ?_, by omega, e8⟩
    · clear e7 e8
      generalize 18446744073709551615 / n * n * t = X at *
      generalize t * (18446744073709551615 % n + 1) = Z at *
      generalize (Z + n - 1) / n * n = U at *
      generalize (Z + n - 1) % n = V at *
      omega
    · clear e7 e8
      generalize 18446744073709551615 / n * n * t = X at *
      generalize t * (18446744073709551615 % n + 1) = Z at *
      generalize (Z + n - 1) / n * n = U at *
      generalize (Z + n - 1) % n = V at *
      omega
  · have : t = 0 := by omega
    subst this
    omega

theorem spread_at (t lo hi : Int) (hv : vb lo hi = true) (ht0 : 0 ≤ t) (ht1 : t < hi - lo + 1) (ht2 : t < 1048576) : spread (least t (hi - lo + 1)) lo hi = lo + t := by
  have hb := vb_true.1 hv
  obtain ⟨h1, h2, _, _⟩ := least_bd t (hi - lo + 1) (by omega) (by omega) ht0 ht1 ht2
  unfold spread
  rw [if_pos hv]
  generalize least t (hi - lo + 1) * (hi - lo + 1) = X at *
  omega

end Go.Proofs.YtlpkjafhpbiffaaDoor.Fx
