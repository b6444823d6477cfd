/- Plain laws of intervals: units, enclosure, monotony, roots and squares. No program in sight. -/
import Derived.Test.YtpembaahjokmjaaIvMath
namespace Go.Proofs.Ytpembaahjokmjaa.Fx

theorem vb_clamp (x : Int) : vb (clamp x) (clamp x) = true := by have := clamp_bd x; rw [vb_true]; omega
theorem v2_of {a b c d : Int} (h1 : vb a b = true) (h2 : vb c d = true) : v2 a b c d = true := v2_true.2 ⟨h1, h2⟩

/-! ### Results are valid -/
theorem add_vb {a b c d : Int} (h1 : vb a b = true) (h2 : vb c d = true) : vb (addLo a b c d) (addHi a b c d) = true := by
  unfold addLo addHi; rw [v2_of h1 h2]
  rw [vb_true] at *
  have := clamp_mono (a + c) (b + d) (by omega)
  have := clamp_bd (a + c); have := clamp_bd (b + d)
  simp only [if_true]; omega
theorem sub_vb {a b c d : Int} (h1 : vb a b = true) (h2 : vb c d = true) : vb (subLo a b c d) (subHi a b c d) = true := by
  unfold subLo subHi; rw [v2_of h1 h2]
  rw [vb_true] at *
  have := clamp_mono (a - d) (b - c) (by omega)
  have := clamp_bd (a - d); have := clamp_bd (b - c)
  simp only [if_true]; omega
theorem hull_vb {a b c d : Int} (h1 : vb a b = true) (h2 : vb c d = true) : vb (hullLo a b c d) (hullHi a b c d) = true := by
  unfold hullLo hullHi; rw [v2_of h1 h2]
  rw [vb_true] at *
  simp only [if_true]; omega
theorem neg_vb {a b : Int} (h1 : vb a b = true) : vb (negLo a b) (negHi a b) = true := by
  unfold negLo negHi; rw [h1]
  rw [vb_true] at *
  simp only [if_true]; omega
theorem ce_mono {a b : Int} (h : a ≤ b) : ce a 65536 ≤ ce b 65536 := by unfold ce; omega
theorem fl_ce {a b : Int} (h : a ≤ b) : a / 65536 ≤ ce b 65536 := by unfold ce; omega
theorem mul_vb {a b c d : Int} (h1 : vb a b = true) (h2 : vb c d = true) : vb (mulLo a b c d) (mulHi a b c d) = true := by
  unfold mulLo mulHi; rw [v2_of h1 h2]
  have hm : min4 (a * c) (a * d) (b * c) (b * d) ≤ max4 (a * c) (a * d) (b * c) (b * d) := by unfold min4 max4; omega
  have := clamp_mono _ _ (fl_ce hm)
  have := clamp_bd (min4 (a * c) (a * d) (b * c) (b * d) / 65536)
  have := clamp_bd (ce (max4 (a * c) (a * d) (b * c) (b * d)) 65536)
  rw [vb_true]
  simp only [if_true]; omega
theorem scale_vb {a b k : Int} (h1 : vb a b = true) : vb (scaleLo a b k) (scaleHi a b k) = true := by
  unfold scaleLo scaleHi; rw [h1]
  have := clamp_mono (min (a * clamp k) (b * clamp k)) (max (a * clamp k) (b * clamp k)) (by omega)
  have := clamp_bd (min (a * clamp k) (b * clamp k))
  have := clamp_bd (max (a * clamp k) (b * clamp k))
  rw [vb_true]
  simp only [if_true]; omega
theorem sq_nonneg (a : Int) : 0 ≤ a * a := by
  by_cases h : 0 ≤ a
  · exact Int.mul_nonneg h h
  · have := Int.mul_nonneg (show 0 ≤ -a by omega) (show 0 ≤ -a by omega)
    rwa [Int.neg_mul_neg] at this
theorem sqLeast_le (a b : Int) : sqLeast a b ≤ max (a * a) (b * b) := by
  have := sq_nonneg a
  have := sq_nonneg b
  unfold sqLeast; split <;> omega
theorem square_vb {a b : Int} (h1 : vb a b = true) : vb (squareLo a b) (squareHi a b) = true := by
  unfold squareLo squareHi; rw [h1]
  have := clamp_mono _ _ (fl_ce (sqLeast_le a b))
  have := clamp_bd (sqLeast a b / 65536)
  have := clamp_bd (ce (max (a * a) (b * b)) 65536)
  rw [vb_true]
  simp only [if_true]; omega
theorem sq_mono_arg {a b : Int} (h : a ≤ b) : sq a ≤ sq b := by have := clamp_mono a b h; unfold sq; omega
theorem root_mono {a b : Int} (h0 : 0 ≤ a) (h : a ≤ b) : root a ≤ root b := by
  obtain ⟨a0, a1, a2⟩ := root_spec a h0
  obtain ⟨b0, b1, b2⟩ := root_spec b (by omega)
  have := sq_lt a0 (show 0 ≤ root b + 1 by omega) (by omega)
  omega
theorem rootUp_spec {n : Int} (h : 0 ≤ n) : n ≤ rootUp n * rootUp n ∧ root n ≤ rootUp n ∧ rootUp n ≤ root n + 1 := by
  obtain ⟨a0, a1, a2⟩ := root_spec n h
  unfold rootUp
  split
  · exact ⟨by omega, by omega, by omega⟩
  · exact ⟨by omega, by omega, by omega⟩
theorem rootUp_least {n r : Int} (h : 0 ≤ n) (hr : 0 ≤ r) (hn : n ≤ r * r) : rootUp n ≤ r := by
  obtain ⟨a0, a1, a2⟩ := root_spec n h
  unfold rootUp
  split
  · have := sq_lt a0 hr (by omega); omega
  · rename_i hc
    by_cases c : root n ≤ r
    · exact c
    · have := sq_mono (r := r + 1) (s := root n) (by omega) (by omega)
      have e : (r + 1) * (r + 1) = r * r + 2 * r + 1 := by rw [Int.add_mul, Int.mul_add]; omega
      omega
theorem rootUp_mono {a b : Int} (h0 : 0 ≤ a) (h : a ≤ b) : rootUp a ≤ rootUp b := by
  have hb := rootUp_spec (n := b) (by omega)
  have := (root_spec b (by omega)).1
  exact rootUp_least h0 (by omega) (by omega)
theorem sqrt_bds (a : Int) : 0 ≤ sqrtDown a ∧ sqrtDown a ≤ sqrtUp a ∧ sqrtUp a ≤ 11863284 := by
  have hs := sq_bd a
  have h1 := (root_spec (sq a) hs.1).1
  have h2 := rootUp_spec hs.1
  unfold sqrtDown sqrtUp
  have h3 := rootUp_least (n := sq a) (r := 11863284) hs.1 (by omega) (by omega)
  omega
theorem sqrt_vb {a b : Int} (h1 : vb a b = true) : vb (sqrtLo a b) (sqrtHi a b) = true := by
  unfold sqrtLo sqrtHi; rw [h1]
  rw [vb_true] at *
  have ha := sqrt_bds a
  have hb := sqrt_bds b
  have hm : sqrtUp a ≤ sqrtUp b := rootUp_mono (sq_bd a).1 (sq_mono_arg h1.2.1)
  simp only [if_true]; omega

/-! ### Units -/
theorem one_right {l h : Int} (hv : vb l h = true) : mulLo l h (clamp 65536) (clamp 65536) = l ∧ mulHi l h (clamp 65536) (clamp 65536) = h := by
  have e : clamp 65536 = 65536 := by decide
  rw [e]
  have hv' := vb_true.1 hv
  have v : v2 l h 65536 65536 = true := v2_of hv (by decide)
  unfold mulLo mulHi
  rw [v]
  have e1 : min4 (l * 65536) (l * 65536) (h * 65536) (h * 65536) / 65536 = l := by unfold min4; omega
  have e2 : ce (max4 (l * 65536) (l * 65536) (h * 65536) (h * 65536)) 65536 = h := by unfold max4 ce; omega
  rw [e1, e2]
  exact ⟨clamp_id l (by omega) (by omega), clamp_id h (by omega) (by omega)⟩
theorem one_left {l h : Int} (hv : vb l h = true) : mulLo (clamp 65536) (clamp 65536) l h = l ∧ mulHi (clamp 65536) (clamp 65536) l h = h := by
  have e : clamp 65536 = 65536 := by decide
  rw [e]
  have hv' := vb_true.1 hv
  have v : v2 65536 65536 l h = true := v2_of (by decide) hv
  unfold mulLo mulHi
  rw [v]
  have e1 : min4 (65536 * l) (65536 * h) (65536 * l) (65536 * h) / 65536 = l := by unfold min4; omega
  have e2 : ce (max4 (65536 * l) (65536 * h) (65536 * l) (65536 * h)) 65536 = h := by unfold max4 ce; omega
  rw [e1, e2]
  exact ⟨clamp_id l (by omega) (by omega), clamp_id h (by omega) (by omega)⟩
theorem zero_right {l h : Int} (hv : vb l h = true) : addLo l h (clamp 0) (clamp 0) = l ∧ addHi l h (clamp 0) (clamp 0) = h := by
  have e : clamp 0 = 0 := by decide
  rw [e]
  have hv' := vb_true.1 hv
  have v : v2 l h 0 0 = true := v2_of hv (by decide)
  unfold addLo addHi
  rw [v, Int.add_zero, Int.add_zero]
  exact ⟨clamp_id l (by omega) (by omega), clamp_id h (by omega) (by omega)⟩
theorem sub_self_has {l h : Int} (hv : vb l h = true) : hasB (subLo l h l h) (subHi l h l h) 0 = true := by
  unfold hasB
  rw [sub_vb hv hv]
  unfold subLo subHi
  rw [v2_of hv hv]
  rw [vb_true] at hv
  have h1 := clamp_mono (l - h) 0 (by omega)
  have h2 := clamp_mono 0 (h - l) (by omega)
  rw [show clamp 0 = 0 from by decide] at h1 h2
  simp only [if_true, Bool.true_and, Bool.and_eq_true, decide_eq_true_eq]
  omega
theorem neg_neg_iv {l h : Int} (hv : vb l h = true) : negLo (negLo l h) (negHi l h) = l ∧ negHi (negLo l h) (negHi l h) = h := by
  have v := neg_vb hv
  have e1 : negLo l h = -h := by unfold negLo; rw [hv]; rfl
  have e2 : negHi l h = -l := by unfold negHi; rw [hv]; rfl
  rw [e1, e2] at v ⊢
  unfold negLo negHi
  rw [v]
  simp
theorem scale_one {l h : Int} (hv : vb l h = true) : scaleLo l h 1 = l ∧ scaleHi l h 1 = h := by
  have hv' := vb_true.1 hv
  unfold scaleLo scaleHi
  rw [hv, show clamp 1 = 1 from by decide, Int.mul_one, Int.mul_one, show min l h = l from by omega, show max l h = h from by omega]
  exact ⟨clamp_id l (by omega) (by omega), clamp_id h (by omega) (by omega)⟩

/-! ### Within -/
theorem within_of {a b c d : Int} (h1 : vb a b = true) (h2 : vb c d = true) (h3 : c ≤ a) (h4 : b ≤ d) : withinB a b c d = true := by
  unfold withinB; rw [v2_of h1 h2]; simp only [Bool.true_and, Bool.and_eq_true, decide_eq_true_eq]; exact ⟨h3, h4⟩

/-- A product of two numbers of two intervals lies between the least and the greatest product of the ends. -/
theorem between_ends (a b y x : Int) (h1 : a ≤ x) (h2 : x ≤ b) : min (a * y) (b * y) ≤ x * y ∧ x * y ≤ max (a * y) (b * y) := by
  by_cases hy : 0 ≤ y
  · have p := Int.mul_le_mul_of_nonneg_right h1 hy
    have q := Int.mul_le_mul_of_nonneg_right h2 hy
    omega
  · have p := Int.mul_le_mul_of_nonpos_right h1 (show y ≤ 0 by omega)
    have q := Int.mul_le_mul_of_nonpos_right h2 (show y ≤ 0 by omega)
    omega
theorem prod_between (a b c d x y : Int) (h1 : a ≤ x) (h2 : x ≤ b) (h3 : c ≤ y) (h4 : y ≤ d) : min4 (a * c) (a * d) (b * c) (b * d) ≤ x * y ∧ x * y ≤ max4 (a * c) (a * d) (b * c) (b * d) := by
  have p := between_ends a b y x h1 h2
  have q := between_ends c d a y h3 h4
  have r := between_ends c d b y h3 h4
  rw [Int.mul_comm c a, Int.mul_comm d a, Int.mul_comm y a] at q
  rw [Int.mul_comm c b, Int.mul_comm d b, Int.mul_comm y b] at r
  unfold min4 max4
  omega
theorem sq_between (l h x : Int) (h1 : l ≤ x) (h2 : x ≤ h) : sqLeast l h ≤ x * x ∧ x * x ≤ max (l * l) (h * h) := by
  have n := sq_nonneg x
  by_cases hx : 0 ≤ x
  · have q := Int.mul_le_mul h2 h2 hx (by omega : 0 ≤ h)
    refine ⟨?_, by omega⟩
    unfold sqLeast
    split
    · exact n
    · have := Int.mul_le_mul h1 h1 (by omega : 0 ≤ l) hx
      omega
  · have q := Int.mul_le_mul (show -x ≤ -l by omega) (show -x ≤ -l by omega) (by omega) (by omega)
    rw [Int.neg_mul_neg, Int.neg_mul_neg] at q
    refine ⟨?_, by omega⟩
    unfold sqLeast
    split
    · exact n
    · have := Int.mul_le_mul (show -h ≤ -x by omega) (show -h ≤ -x by omega) (by omega) (by omega)
      rw [Int.neg_mul_neg, Int.neg_mul_neg] at this
      omega
theorem square_in_product {l h : Int} (hv : vb l h = true) : withinB (squareLo l h) (squareHi l h) (mulLo l h l h) (mulHi l h l h) = true := by
  refine within_of (square_vb hv) (mul_vb hv hv) ?_ ?_
  · unfold mulLo squareLo; rw [v2_of hv hv, hv]
    simp only [if_true]
    apply clamp_mono
    have hm : min4 (l * l) (l * h) (h * l) (h * h) ≤ sqLeast l h := by
      rw [vb_true] at hv
      unfold sqLeast
      split
      · rename_i c
        have := Int.mul_nonneg (show 0 ≤ -l by omega) c.2
        rw [Int.neg_mul] at this
        unfold min4; omega
      · unfold min4; omega
    omega
  · unfold mulHi squareHi; rw [v2_of hv hv, hv]
    simp only [if_true]
    apply clamp_mono
    apply ce_mono
    unfold max4; omega

/-! ### Roots and squares -/
theorem root_squares {l h : Int} (hv : vb l h = true) (h0 : 0 ≤ l) : withinB l h (squareLo (sqrtLo l h) (sqrtHi l h)) (squareHi (sqrtLo l h) (sqrtHi l h)) = true := by
  have vs := sqrt_vb hv
  refine within_of hv (square_vb vs) ?_ ?_
  · have hv' := vb_true.1 hv
    have e : sqrtLo l h = sqrtDown l := by unfold sqrtLo; rw [hv]; rfl
    have hb := sqrt_bds l
    have hs := root_spec (sq l) (sq_bd l).1
    have e2 : sq l = l * 65536 := by unfold sq; rw [clamp_id l (by omega) (by omega)]; omega
    have hle := (sq_between (sqrtLo l h) (sqrtHi l h) (sqrtLo l h) (Int.le_refl _) (vb_true.1 vs).2.1).1
    unfold squareLo; rw [vs]; simp only [if_true]
    rw [e] at hle ⊢
    have : sqrtDown l * sqrtDown l ≤ l * 65536 := by unfold sqrtDown; rw [e2] at hs ⊢; exact hs.2.1
    have hc := clamp_mono (sqLeast (sqrtDown l) (sqrtHi l h) / 65536) l (by omega)
    rw [clamp_id l (by omega) (by omega)] at hc
    exact hc
  · have hv' := vb_true.1 hv
    have e : sqrtHi l h = sqrtUp h := by unfold sqrtHi; rw [hv]; rfl
    have hs := rootUp_spec (sq_bd h).1
    have e2 : sq h = h * 65536 := by unfold sq; rw [clamp_id h (by omega) (by omega)]; omega
    unfold squareHi; rw [vs]; simp only [if_true]
    rw [e]
    have h1 : h * 65536 ≤ sqrtUp h * sqrtUp h := by unfold sqrtUp; rw [e2] at hs ⊢; exact hs.1
    have h2 : h ≤ ce (max (sqrtLo l h * sqrtLo l h) (sqrtUp h * sqrtUp h)) 65536 := by unfold ce; omega
    have hc := clamp_mono h _ h2
    rw [clamp_id h (by omega) (by omega)] at hc
    exact hc

/-! ### Monotony -/
theorem add_within {a b c d p q r s : Int} (h1 : vb a b = true) (h2 : vb c d = true) (h3 : vb p q = true) (h4 : vb r s = true) (i1 : p ≤ a) (i2 : b ≤ q) (i3 : r ≤ c) (i4 : d ≤ s) : withinB (addLo a b c d) (addHi a b c d) (addLo p q r s) (addHi p q r s) = true := by
  refine within_of (add_vb h1 h2) (add_vb h3 h4) ?_ ?_
  · unfold addLo; rw [v2_of h1 h2, v2_of h3 h4]; exact clamp_mono _ _ (by omega)
  · unfold addHi; rw [v2_of h1 h2, v2_of h3 h4]; exact clamp_mono _ _ (by omega)
theorem sub_within {a b c d p q r s : Int} (h1 : vb a b = true) (h2 : vb c d = true) (h3 : vb p q = true) (h4 : vb r s = true) (i1 : p ≤ a) (i2 : b ≤ q) (i3 : r ≤ c) (i4 : d ≤ s) : withinB (subLo a b c d) (subHi a b c d) (subLo p q r s) (subHi p q r s) = true := by
  refine within_of (sub_vb h1 h2) (sub_vb h3 h4) ?_ ?_
  · unfold subLo; rw [v2_of h1 h2, v2_of h3 h4]; exact clamp_mono _ _ (by omega)
  · unfold subHi; rw [v2_of h1 h2, v2_of h3 h4]; exact clamp_mono _ _ (by omega)
theorem hull_within {a b c d p q r s : Int} (h1 : vb a b = true) (h2 : vb c d = true) (h3 : vb p q = true) (h4 : vb r s = true) (i1 : p ≤ a) (i2 : b ≤ q) (i3 : r ≤ c) (i4 : d ≤ s) : withinB (hullLo a b c d) (hullHi a b c d) (hullLo p q r s) (hullHi p q r s) = true := by
  refine within_of (hull_vb h1 h2) (hull_vb h3 h4) ?_ ?_
  · unfold hullLo; rw [v2_of h1 h2, v2_of h3 h4]; simp only [if_true]; omega
  · unfold hullHi; rw [v2_of h1 h2, v2_of h3 h4]; simp only [if_true]; omega
theorem mul_within {a b c d p q r s : Int} (h1 : vb a b = true) (h2 : vb c d = true) (h3 : vb p q = true) (h4 : vb r s = true) (i1 : p ≤ a) (i2 : b ≤ q) (i3 : r ≤ c) (i4 : d ≤ s) : withinB (mulLo a b c d) (mulHi a b c d) (mulLo p q r s) (mulHi p q r s) = true := by
  have u1 := vb_true.1 h1
  have u2 := vb_true.1 h2
  have p1 := prod_between p q r s a c (by omega) (by omega) (by omega) (by omega)
  have p2 := prod_between p q r s a d (by omega) (by omega) (by omega) (by omega)
  have p3 := prod_between p q r s b c (by omega) (by omega) (by omega) (by omega)
  have p4 := prod_between p q r s b d (by omega) (by omega) (by omega) (by omega)
  have hm : min4 (p * r) (p * s) (q * r) (q * s) ≤ min4 (a * c) (a * d) (b * c) (b * d) := by
    generalize min4 (p * r) (p * s) (q * r) (q * s) = m at *
    unfold min4; omega
  have hM : max4 (a * c) (a * d) (b * c) (b * d) ≤ max4 (p * r) (p * s) (q * r) (q * s) := by
    generalize max4 (p * r) (p * s) (q * r) (q * s) = m at *
    unfold max4; omega
  refine within_of (mul_vb h1 h2) (mul_vb h3 h4) ?_ ?_
  · unfold mulLo; rw [v2_of h1 h2, v2_of h3 h4]; exact clamp_mono _ _ (Int.ediv_le_ediv (by omega) hm)
  · unfold mulHi; rw [v2_of h1 h2, v2_of h3 h4]; exact clamp_mono _ _ (ce_mono hM)
theorem neg_within {a b p q : Int} (h1 : vb a b = true) (h3 : vb p q = true) (i1 : p ≤ a) (i2 : b ≤ q) : withinB (negLo a b) (negHi a b) (negLo p q) (negHi p q) = true := by
  refine within_of (neg_vb h1) (neg_vb h3) ?_ ?_
  · unfold negLo; rw [h1, h3]; simp only [if_true]; omega
  · unfold negHi; rw [h1, h3]; simp only [if_true]; omega
theorem square_within {a b p q : Int} (h1 : vb a b = true) (h3 : vb p q = true) (i1 : p ≤ a) (i2 : b ≤ q) : withinB (squareLo a b) (squareHi a b) (squareLo p q) (squareHi p q) = true := by
  have u1 := vb_true.1 h1
  have s1 := sq_between p q a (by omega) (by omega)
  have s2 := sq_between p q b (by omega) (by omega)
  refine within_of (square_vb h1) (square_vb h3) ?_ ?_
  · unfold squareLo; rw [h1, h3]; refine clamp_mono _ _ (Int.ediv_le_ediv (by omega) ?_)
    by_cases c : a ≤ 0 ∧ 0 ≤ b
    · have e1 : sqLeast a b = 0 := by unfold sqLeast; rw [if_pos c]
      have e2 : sqLeast p q = 0 := by unfold sqLeast; rw [if_pos (by omega)]
      omega
    · have e1 : sqLeast a b = min (a * a) (b * b) := by unfold sqLeast; rw [if_neg c]
      omega
  · unfold squareHi; rw [h1, h3]; exact clamp_mono _ _ (ce_mono (by omega))
theorem sqrt_within {a b p q : Int} (h1 : vb a b = true) (h3 : vb p q = true) (i1 : p ≤ a) (i2 : b ≤ q) : withinB (sqrtLo a b) (sqrtHi a b) (sqrtLo p q) (sqrtHi p q) = true := by
  refine within_of (sqrt_vb h1) (sqrt_vb h3) ?_ ?_
  · unfold sqrtLo; rw [h1, h3]; exact root_mono (sq_bd p).1 (sq_mono_arg i1)
  · unfold sqrtHi; rw [h1, h3]; exact rootUp_mono (sq_bd b).1 (sq_mono_arg i2)
theorem scale_within {a b p q k : Int} (h1 : vb a b = true) (h3 : vb p q = true) (i1 : p ≤ a) (i2 : b ≤ q) : withinB (scaleLo a b k) (scaleHi a b k) (scaleLo p q k) (scaleHi p q k) = true := by
  have u1 := vb_true.1 h1
  have s1 := between_ends p q (clamp k) a (by omega) (by omega)
  have s2 := between_ends p q (clamp k) b (by omega) (by omega)
  refine within_of (scale_vb h1) (scale_vb h3) ?_ ?_
  · unfold scaleLo; rw [h1, h3]; exact clamp_mono _ _ (by omega)
  · unfold scaleHi; rw [h1, h3]; exact clamp_mono _ _ (by omega)

/-! ### Enclosure -/
/-- Whether an interval contains a number, or the number is beyond Max. -/
def holdsB (l h x : Int) : Bool := decide (x < -2147483648) || decide (2147483648 < x) || (decide (l ≤ x) && decide (x ≤ h))
theorem holds_of {l h x : Int} (h1 : clamp x = x → l ≤ x ∧ x ≤ h) : holdsB l h x = true := by
  unfold holdsB
  simp only [Bool.or_eq_true, Bool.and_eq_true, decide_eq_true_eq]
  by_cases c0 : x < -2147483648
  · exact .inl (.inl c0)
  · by_cases c1 : 2147483648 < x
    · exact .inl (.inr c1)
    · exact .inr (h1 (clamp_id x (by omega) (by omega)))
theorem holds_add {a b c d x y : Int} (h1 : vb a b = true) (h2 : vb c d = true) (i1 : a ≤ x) (i2 : x ≤ b) (i3 : c ≤ y) (i4 : y ≤ d) : holdsB (addLo a b c d) (addHi a b c d) (x + y) = true := by
  refine holds_of fun e => ?_
  unfold addLo addHi; rw [v2_of h1 h2]; simp only [if_true]
  exact ⟨by have := clamp_mono (a + c) (x + y) (by omega); omega, by have := clamp_mono (x + y) (b + d) (by omega); omega⟩
theorem holds_sub {a b c d x y : Int} (h1 : vb a b = true) (h2 : vb c d = true) (i1 : a ≤ x) (i2 : x ≤ b) (i3 : c ≤ y) (i4 : y ≤ d) : holdsB (subLo a b c d) (subHi a b c d) (x - y) = true := by
  refine holds_of fun e => ?_
  unfold subLo subHi; rw [v2_of h1 h2]; simp only [if_true]
  exact ⟨by have := clamp_mono (a - d) (x - y) (by omega); omega, by have := clamp_mono (x - y) (b - c) (by omega); omega⟩
theorem holds_mulDown {a b c d x y : Int} (h1 : vb a b = true) (h2 : vb c d = true) (i1 : a ≤ x) (i2 : x ≤ b) (i3 : c ≤ y) (i4 : y ≤ d) : holdsB (mulLo a b c d) (mulHi a b c d) (mulDown x y) = true := by
  refine holds_of fun e => ?_
  have u1 := vb_true.1 h1
  have u2 := vb_true.1 h2
  have p := prod_between a b c d x y i1 i2 i3 i4
  have em : mulDown x y = x * y / 65536 := by unfold mulDown; rw [clamp_id x (by omega) (by omega), clamp_id y (by omega) (by omega)]
  unfold mulLo mulHi; rw [v2_of h1 h2]; simp only [if_true]
  rw [em] at e ⊢
  exact ⟨by have := clamp_mono _ _ (Int.ediv_le_ediv (show (0 : Int) < 65536 by omega) p.1); omega, by have := clamp_mono _ _ (fl_ce p.2); omega⟩
theorem holds_mulUp {a b c d x y : Int} (h1 : vb a b = true) (h2 : vb c d = true) (i1 : a ≤ x) (i2 : x ≤ b) (i3 : c ≤ y) (i4 : y ≤ d) : holdsB (mulLo a b c d) (mulHi a b c d) (mulUp x y) = true := by
  refine holds_of fun e => ?_
  have u1 := vb_true.1 h1
  have u2 := vb_true.1 h2
  have p := prod_between a b c d x y i1 i2 i3 i4
  have em : mulUp x y = ce (x * y) 65536 := by unfold mulUp; rw [clamp_id x (by omega) (by omega), clamp_id y (by omega) (by omega)]
  unfold mulLo mulHi; rw [v2_of h1 h2]; simp only [if_true]
  rw [em] at e ⊢
  exact ⟨by have := clamp_mono _ _ (fl_ce p.1); omega, by have := clamp_mono _ _ (ce_mono p.2); omega⟩
theorem holds_square {a b x : Int} (h1 : vb a b = true) (i1 : a ≤ x) (i2 : x ≤ b) : holdsB (squareLo a b) (squareHi a b) (mulDown x x) = true := by
  refine holds_of fun e => ?_
  have u1 := vb_true.1 h1
  have p := sq_between a b x i1 i2
  have em : mulDown x x = x * x / 65536 := by unfold mulDown; rw [clamp_id x (by omega) (by omega)]
  unfold squareLo squareHi; rw [h1]; simp only [if_true]
  rw [em] at e ⊢
  exact ⟨by have := clamp_mono _ _ (Int.ediv_le_ediv (show (0 : Int) < 65536 by omega) p.1); omega, by have := clamp_mono _ _ (fl_ce p.2); omega⟩
theorem holds_neg {a b x : Int} (h1 : vb a b = true) (i1 : a ≤ x) (i2 : x ≤ b) : holdsB (negLo a b) (negHi a b) (-x) = true := by
  refine holds_of fun e => ?_
  unfold negLo negHi; rw [h1]; simp only [if_true]; omega

/-! ### Intersections -/
theorem meet_has {a b c d : Int} (y : Int) (h : meetOk a b c d = true) : hasB (meetLo a b c d) (meetHi a b c d) y = (hasB a b y && hasB c d y) := by
  have e1 : meetLo a b c d = max a c := by unfold meetLo; rw [h]; rfl
  have e2 : meetHi a b c d = min b d := by unfold meetHi; rw [h]; rfl
  rw [e1, e2]
  unfold meetOk at h
  simp only [Bool.and_eq_true, decide_eq_true_eq] at h
  obtain ⟨hv, hm⟩ := h
  obtain ⟨h1, h2⟩ := v2_true.1 hv
  have u1 := vb_true.1 h1
  have u2 := vb_true.1 h2
  have h3 : vb (max a c) (min b d) = true := by rw [vb_true]; omega
  unfold hasB
  rw [h1, h2, h3, Bool.eq_iff_iff]
  simp only [Bool.true_and, Bool.and_eq_true, decide_eq_true_eq]
  omega
theorem meet_no {a b c d : Int} (y : Int) (h1 : vb a b = true) (h2 : vb c d = true) (h : meetOk a b c d = false) : (hasB a b y && hasB c d y) = false := by
  unfold meetOk at h
  rw [v2_of h1 h2] at h
  simp only [Bool.true_and, decide_eq_false_iff_not] at h
  unfold hasB
  rw [h1, h2, Bool.eq_false_iff]
  intro hh
  simp only [Bool.true_and, Bool.and_eq_true, decide_eq_true_eq] at hh
  omega
theorem hull_left {a b c d : Int} (h1 : vb a b = true) (h2 : vb c d = true) : withinB a b (hullLo a b c d) (hullHi a b c d) = true := by
  refine within_of h1 (hull_vb h1 h2) ?_ ?_
  · unfold hullLo; rw [v2_of h1 h2]; simp only [if_true]; omega
  · unfold hullHi; rw [v2_of h1 h2]; simp only [if_true]; omega
theorem meet_in {a b c d : Int} (h : meetOk a b c d = true) : withinB (meetLo a b c d) (meetHi a b c d) a b = true ∧ withinB (meetLo a b c d) (meetHi a b c d) c d = true := by
  have e1 : meetLo a b c d = max a c := by unfold meetLo; rw [h]; rfl
  have e2 : meetHi a b c d = min b d := by unfold meetHi; rw [h]; rfl
  rw [e1, e2]
  unfold meetOk at h
  simp only [Bool.and_eq_true, decide_eq_true_eq] at h
  obtain ⟨hv, hm⟩ := h
  obtain ⟨h1, h2⟩ := v2_true.1 hv
  have u1 := vb_true.1 h1
  have u2 := vb_true.1 h2
  have h3 : vb (max a c) (min b d) = true := by rw [vb_true]; omega
  exact ⟨within_of h3 h1 (by omega) (by omega), within_of h3 h2 (by omega) (by omega)⟩

end Go.Proofs.Ytpembaahjokmjaa.Fx
