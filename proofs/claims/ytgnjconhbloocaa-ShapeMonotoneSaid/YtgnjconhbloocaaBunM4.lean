/- Plain laws of intervals: units, enclosure, monotony, roots and squares. No program in sight. Contract of matrix.Apply: a matrix of intervals times a vector. Contracts of the reference's ApplyMat, and of Apply of the reference and of the program. Contract of pose.Apply. Points as boxes: Boxed. Contracts of Centers, of the program and of the reference. Contracts of shape.Check and of the reference's CheckShape and Near. Contracts of the reference's Near and CheckShape. -/
import Derived.Test.YtgnjconhbloocaaBunM1
import Derived.Test.YtgnjconhbloocaaBunM3
import Derived.Test.YtgnjconhbloocaaBunM2
namespace Go.Proofs.Ytgnjconhbloocaa.Fx

theorem vb_clamp (x : Int) : vb (clamp x) (clamp x) = true := by have := clamp_bd x; rw [vb_true]; omega
theorem v2_of {a b c d : Int} (h1 : vb a b = true) (h2 : vb c d = true) : v2 a b c d = true := v2_true.2 ⟨h1, h2⟩

/-! ### Results are valid -/
theorem add_vb {a b c d : Int} (h1 : vb a b = true) (h2 : vb c d = true) : vb (addLo a b c d) (addHi a b c d) = true := by
  unfold addLo addHi; rw [v2_of h1 h2]
  rw [vb_true] at *
  have := clamp_mono (a + c) (b + d) (by omega)
  have := clamp_bd (a + c); have := clamp_bd (b + d)
  simp only [if_true]; omega
theorem sub_vb {a b c d : Int} (h1 : vb a b = true) (h2 : vb c d = true) : vb (subLo a b c d) (subHi a b c d) = true := by
  unfold subLo subHi; rw [v2_of h1 h2]
  rw [vb_true] at *
  have := clamp_mono (a - d) (b - c) (by omega)
  have := clamp_bd (a - d); have := clamp_bd (b - c)
  simp only [if_true]; omega
theorem hull_vb {a b c d : Int} (h1 : vb a b = true) (h2 : vb c d = true) : vb (hullLo a b c d) (hullHi a b c d) = true := by
  unfold hullLo hullHi; rw [v2_of h1 h2]
  rw [vb_true] at *
  simp only [if_true]; omega
theorem neg_vb {a b : Int} (h1 : vb a b = true) : vb (negLo a b) (negHi a b) = true := by
  unfold negLo negHi; rw [h1]
  rw [vb_true] at *
  simp only [if_true]; omega
theorem ce_mono {a b : Int} (h : a ≤ b) : ce a 65536 ≤ ce b 65536 := by unfold ce; omega
theorem fl_ce {a b : Int} (h : a ≤ b) : a / 65536 ≤ ce b 65536 := by unfold ce; omega
theorem mul_vb {a b c d : Int} (h1 : vb a b = true) (h2 : vb c d = true) : vb (mulLo a b c d) (mulHi a b c d) = true := by
  unfold mulLo mulHi; rw [v2_of h1 h2]
  have hm : min4 (a * c) (a * d) (b * c) (b * d) ≤ max4 (a * c) (a * d) (b * c) (b * d) := by unfold min4 max4; omega
  have := clamp_mono _ _ (fl_ce hm)
  have := clamp_bd (min4 (a * c) (a * d) (b * c) (b * d) / 65536)
  have := clamp_bd (ce (max4 (a * c) (a * d) (b * c) (b * d)) 65536)
  rw [vb_true]
  simp only [if_true]; omega
theorem scale_vb {a b k : Int} (h1 : vb a b = true) : vb (scaleLo a b k) (scaleHi a b k) = true := by
  unfold scaleLo scaleHi; rw [h1]
  have := clamp_mono (min (a * clamp k) (b * clamp k)) (max (a * clamp k) (b * clamp k)) (by omega)
  have := clamp_bd (min (a * clamp k) (b * clamp k))
  have := clamp_bd (max (a * clamp k) (b * clamp k))
  rw [vb_true]
  simp only [if_true]; omega
theorem sq_nonneg (a : Int) : 0 ≤ a * a := by
  by_cases h : 0 ≤ a
  · exact Int.mul_nonneg h h
  · have := Int.mul_nonneg (show 0 ≤ -a by omega) (show 0 ≤ -a by omega)
    rwa [Int.neg_mul_neg] at this
theorem sqLeast_le (a b : Int) : sqLeast a b ≤ max (a * a) (b * b) := by
  have := sq_nonneg a
  have := sq_nonneg b
  unfold sqLeast; split <;> omega
theorem square_vb {a b : Int} (h1 : vb a b = true) : vb (squareLo a b) (squareHi a b) = true := by
  unfold squareLo squareHi; rw [h1]
  have := clamp_mono _ _ (fl_ce (sqLeast_le a b))
  have := clamp_bd (sqLeast a b / 65536)
  have := clamp_bd (ce (max (a * a) (b * b)) 65536)
  rw [vb_true]
  simp only [if_true]; omega
theorem sq_mono_arg {a b : Int} (h : a ≤ b) : sq a ≤ sq b := by have := clamp_mono a b h; unfold sq; omega
theorem root_mono {a b : Int} (h0 : 0 ≤ a) (h : a ≤ b) : root a ≤ root b := by
  obtain ⟨a0, a1, a2⟩ := root_spec a h0
  obtain ⟨b0, b1, b2⟩ := root_spec b (by omega)
  have := sq_lt a0 (show 0 ≤ root b + 1 by omega) (by omega)
  omega
theorem rootUp_spec {n : Int} (h : 0 ≤ n) : n ≤ rootUp n * rootUp n ∧ root n ≤ rootUp n ∧ rootUp n ≤ root n + 1 := by
  obtain ⟨a0, a1, a2⟩ := root_spec n h
  unfold rootUp
  split
  · exact ⟨by omega, by omega, by omega⟩
  · exact ⟨by omega, by omega, by omega⟩
theorem rootUp_least {n r : Int} (h : 0 ≤ n) (hr : 0 ≤ r) (hn : n ≤ r * r) : rootUp n ≤ r := by
  obtain ⟨a0, a1, a2⟩ := root_spec n h
  unfold rootUp
  split
  · have := sq_lt a0 hr (by omega); omega
  · rename_i hc
    by_cases c : root n ≤ r
    · exact c
    · have := sq_mono (r := r + 1) (s := root n) (by omega) (by omega)
      have e : (r + 1) * (r + 1) = r * r + 2 * r + 1 := by rw [Int.add_mul, Int.mul_add]; omega
      omega
theorem rootUp_mono {a b : Int} (h0 : 0 ≤ a) (h : a ≤ b) : rootUp a ≤ rootUp b := by
  have hb := rootUp_spec (n := b) (by omega)
  have := (root_spec b (by omega)).1
  exact rootUp_least h0 (by omega) (by omega)
theorem sqrt_bds (a : Int) : 0 ≤ sqrtDown a ∧ sqrtDown a ≤ sqrtUp a ∧ sqrtUp a ≤ 11863284 := by
  have hs := sq_bd a
  have h1 := (root_spec (sq a) hs.1).1
  have h2 := rootUp_spec hs.1
  unfold sqrtDown sqrtUp
  have h3 := rootUp_least (n := sq a) (r := 11863284) hs.1 (by omega) (by omega)
  omega
theorem sqrt_vb {a b : Int} (h1 : vb a b = true) : vb (sqrtLo a b) (sqrtHi a b) = true := by
  unfold sqrtLo sqrtHi; rw [h1]
  rw [vb_true] at *
  have ha := sqrt_bds a
  have hb := sqrt_bds b
  have hm : sqrtUp a ≤ sqrtUp b := rootUp_mono (sq_bd a).1 (sq_mono_arg h1.2.1)
  simp only [if_true]; omega

/-! ### Units -/
theorem one_right {l h : Int} (hv : vb l h = true) : mulLo l h (clamp 65536) (clamp 65536) = l ∧ mulHi l h (clamp 65536) (clamp 65536) = h := by
  have e : clamp 65536 = 65536 := by decide
  rw [e]
  have hv' := vb_true.1 hv
  have v : v2 l h 65536 65536 = true := v2_of hv (by decide)
  unfold mulLo mulHi
  rw [v]
  have e1 : min4 (l * 65536) (l * 65536) (h * 65536) (h * 65536) / 65536 = l := by unfold min4; omega
  have e2 : ce (max4 (l * 65536) (l * 65536) (h * 65536) (h * 65536)) 65536 = h := by unfold max4 ce; omega
  rw [e1, e2]
  exact ⟨clamp_id l (by omega) (by omega), clamp_id h (by omega) (by omega)⟩
theorem one_left {l h : Int} (hv : vb l h = true) : mulLo (clamp 65536) (clamp 65536) l h = l ∧ mulHi (clamp 65536) (clamp 65536) l h = h := by
  have e : clamp 65536 = 65536 := by decide
  rw [e]
  have hv' := vb_true.1 hv
  have v : v2 65536 65536 l h = true := v2_of (by decide) hv
  unfold mulLo mulHi
  rw [v]
  have e1 : min4 (65536 * l) (65536 * h) (65536 * l) (65536 * h) / 65536 = l := by unfold min4; omega
  have e2 : ce (max4 (65536 * l) (65536 * h) (65536 * l) (65536 * h)) 65536 = h := by unfold max4 ce; omega
  rw [e1, e2]
  exact ⟨clamp_id l (by omega) (by omega), clamp_id h (by omega) (by omega)⟩
theorem zero_right {l h : Int} (hv : vb l h = true) : addLo l h (clamp 0) (clamp 0) = l ∧ addHi l h (clamp 0) (clamp 0) = h := by
  have e : clamp 0 = 0 := by decide
  rw [e]
  have hv' := vb_true.1 hv
  have v : v2 l h 0 0 = true := v2_of hv (by decide)
  unfold addLo addHi
  rw [v, Int.add_zero, Int.add_zero]
  exact ⟨clamp_id l (by omega) (by omega), clamp_id h (by omega) (by omega)⟩
theorem sub_self_has {l h : Int} (hv : vb l h = true) : hasB (subLo l h l h) (subHi l h l h) 0 = true := by
  unfold hasB
  rw [sub_vb hv hv]
  unfold subLo subHi
  rw [v2_of hv hv]
  rw [vb_true] at hv
  have h1 := clamp_mono (l - h) 0 (by omega)
  have h2 := clamp_mono 0 (h - l) (by omega)
  rw [show clamp 0 = 0 from by decide] at h1 h2
  simp only [if_true, Bool.true_and, Bool.and_eq_true, decide_eq_true_eq]
  omega
theorem neg_neg_iv {l h : Int} (hv : vb l h = true) : negLo (negLo l h) (negHi l h) = l ∧ negHi (negLo l h) (negHi l h) = h := by
  have v := neg_vb hv
  have e1 : negLo l h = -h := by unfold negLo; rw [hv]; rfl
  have e2 : negHi l h = -l := by unfold negHi; rw [hv]; rfl
  rw [e1, e2] at v ⊢
  unfold negLo negHi
  rw [v]
  simp
theorem scale_one {l h : Int} (hv : vb l h = true) : scaleLo l h 1 = l ∧ scaleHi l h 1 = h := by
  have hv' := vb_true.1 hv
  unfold scaleLo scaleHi
  rw [hv, show clamp 1 = 1 from by decide, Int.mul_one, Int.mul_one, show min l h = l from by omega, show max l h = h from by omega]
  exact ⟨clamp_id l (by omega) (by omega), clamp_id h (by omega) (by omega)⟩

/-! ### Within -/
theorem within_of {a b c d : Int} (h1 : vb a b = true) (h2 : vb c d = true) (h3 : c ≤ a) (h4 : b ≤ d) : withinB a b c d = true := by
  unfold withinB; rw [v2_of h1 h2]; simp only [Bool.true_and, Bool.and_eq_true, decide_eq_true_eq]; exact ⟨h3, h4⟩

/-- A product of two numbers of two intervals lies between the least and the greatest product of the ends. -/
theorem between_ends (a b y x : Int) (h1 : a ≤ x) (h2 : x ≤ b) : min (a * y) (b * y) ≤ x * y ∧ x * y ≤ max (a * y) (b * y) := by
  by_cases hy : 0 ≤ y
  · have p := Int.mul_le_mul_of_nonneg_right h1 hy
    have q := Int.mul_le_mul_of_nonneg_right h2 hy
    omega
  · have p := Int.mul_le_mul_of_nonpos_right h1 (show y ≤ 0 by omega)
    have q := Int.mul_le_mul_of_nonpos_right h2 (show y ≤ 0 by omega)
    omega
theorem prod_between (a b c d x y : Int) (h1 : a ≤ x) (h2 : x ≤ b) (h3 : c ≤ y) (h4 : y ≤ d) : min4 (a * c) (a * d) (b * c) (b * d) ≤ x * y ∧ x * y ≤ max4 (a * c) (a * d) (b * c) (b * d) := by
  have p := between_ends a b y x h1 h2
  have q := between_ends c d a y h3 h4
  have r := between_ends c d b y h3 h4
  rw [Int.mul_comm c a, Int.mul_comm d a, Int.mul_comm y a] at q
  rw [Int.mul_comm c b, Int.mul_comm d b, Int.mul_comm y b] at r
  unfold min4 max4
  omega
theorem sq_between (l h x : Int) (h1 : l ≤ x) (h2 : x ≤ h) : sqLeast l h ≤ x * x ∧ x * x ≤ max (l * l) (h * h) := by
  have n := sq_nonneg x
  by_cases hx : 0 ≤ x
  · have q := Int.mul_le_mul h2 h2 hx (by omega : 0 ≤ h)
    refine ⟨?_, by omega⟩
    unfold sqLeast
    split
    · exact n
    · have := Int.mul_le_mul h1 h1 (by omega : 0 ≤ l) hx
      omega
  · have q := Int.mul_le_mul (show -x ≤ -l by omega) (show -x ≤ -l by omega) (by omega) (by omega)
    rw [Int.neg_mul_neg, Int.neg_mul_neg] at q
    refine ⟨?_, by omega⟩
    unfold sqLeast
    split
    · exact n
    · have := Int.mul_le_mul (show -h ≤ -x by omega) (show -h ≤ -x by omega) (by omega) (by omega)
      rw [Int.neg_mul_neg, Int.neg_mul_neg] at this
      omega
theorem square_in_product {l h : Int} (hv : vb l h = true) : withinB (squareLo l h) (squareHi l h) (mulLo l h l h) (mulHi l h l h) = true := by
  refine within_of (square_vb hv) (mul_vb hv hv) ?_ ?_
  · unfold mulLo squareLo; rw [v2_of hv hv, hv]
    simp only [if_true]
    apply clamp_mono
    have hm : min4 (l * l) (l * h) (h * l) (h * h) ≤ sqLeast l h := by
      rw [vb_true] at hv
      unfold sqLeast
      split
      · rename_i c
        have := Int.mul_nonneg (show 0 ≤ -l by omega) c.2
        rw [Int.neg_mul] at this
        unfold min4; omega
      · unfold min4; omega
    omega
  · unfold mulHi squareHi; rw [v2_of hv hv, hv]
    simp only [if_true]
    apply clamp_mono
    apply ce_mono
    unfold max4; omega

/-! ### Roots and squares -/
theorem root_squares {l h : Int} (hv : vb l h = true) (h0 : 0 ≤ l) : withinB l h (squareLo (sqrtLo l h) (sqrtHi l h)) (squareHi (sqrtLo l h) (sqrtHi l h)) = true := by
  have vs := sqrt_vb hv
  refine within_of hv (square_vb vs) ?_ ?_
  · have hv' := vb_true.1 hv
    have e : sqrtLo l h = sqrtDown l := by unfold sqrtLo; rw [hv]; rfl
    have hb := sqrt_bds l
    have hs := root_spec (sq l) (sq_bd l).1
    have e2 : sq l = l * 65536 := by unfold sq; rw [clamp_id l (by omega) (by omega)]; omega
    have hle := (sq_between (sqrtLo l h) (sqrtHi l h) (sqrtLo l h) (Int.le_refl _) (vb_true.1 vs).2.1).1
    unfold squareLo; rw [vs]; simp only [if_true]
    rw [e] at hle ⊢
    have : sqrtDown l * sqrtDown l ≤ l * 65536 := by unfold sqrtDown; rw [e2] at hs ⊢; exact hs.2.1
    have hc := clamp_mono (sqLeast (sqrtDown l) (sqrtHi l h) / 65536) l (by omega)
    rw [clamp_id l (by omega) (by omega)] at hc
    exact hc
  · have hv' := vb_true.1 hv
    have e : sqrtHi l h = sqrtUp h := by unfold sqrtHi; rw [hv]; rfl
    have hs := rootUp_spec (sq_bd h).1
    have e2 : sq h = h * 65536 := by unfold sq; rw [clamp_id h (by omega) (by omega)]; omega
    unfold squareHi; rw [vs]; simp only [if_true]
    rw [e]
    have h1 : h * 65536 ≤ sqrtUp h * sqrtUp h := by unfold sqrtUp; rw [e2] at hs ⊢; exact hs.1
    have h2 : h ≤ ce (max (sqrtLo l h * sqrtLo l h) (sqrtUp h * sqrtUp h)) 65536 := by unfold ce; omega
    have hc := clamp_mono h _ h2
    rw [clamp_id h (by omega) (by omega)] at hc
    exact hc

/-! ### Monotony -/
theorem add_within {a b c d p q r s : Int} (h1 : vb a b = true) (h2 : vb c d = true) (h3 : vb p q = true) (h4 : vb r s = true) (i1 : p ≤ a) (i2 : b ≤ q) (i3 : r ≤ c) (i4 : d ≤ s) : withinB (addLo a b c d) (addHi a b c d) (addLo p q r s) (addHi p q r s) = true := by
  refine within_of (add_vb h1 h2) (add_vb h3 h4) ?_ ?_
  · unfold addLo; rw [v2_of h1 h2, v2_of h3 h4]; exact clamp_mono _ _ (by omega)
  · unfold addHi; rw [v2_of h1 h2, v2_of h3 h4]; exact clamp_mono _ _ (by omega)
theorem sub_within {a b c d p q r s : Int} (h1 : vb a b = true) (h2 : vb c d = true) (h3 : vb p q = true) (h4 : vb r s = true) (i1 : p ≤ a) (i2 : b ≤ q) (i3 : r ≤ c) (i4 : d ≤ s) : withinB (subLo a b c d) (subHi a b c d) (subLo p q r s) (subHi p q r s) = true := by
  refine within_of (sub_vb h1 h2) (sub_vb h3 h4) ?_ ?_
  · unfold subLo; rw [v2_of h1 h2, v2_of h3 h4]; exact clamp_mono _ _ (by omega)
  · unfold subHi; rw [v2_of h1 h2, v2_of h3 h4]; exact clamp_mono _ _ (by omega)
theorem hull_within {a b c d p q r s : Int} (h1 : vb a b = true) (h2 : vb c d = true) (h3 : vb p q = true) (h4 : vb r s = true) (i1 : p ≤ a) (i2 : b ≤ q) (i3 : r ≤ c) (i4 : d ≤ s) : withinB (hullLo a b c d) (hullHi a b c d) (hullLo p q r s) (hullHi p q r s) = true := by
  refine within_of (hull_vb h1 h2) (hull_vb h3 h4) ?_ ?_
  · unfold hullLo; rw [v2_of h1 h2, v2_of h3 h4]; simp only [if_true]; omega
  · unfold hullHi; rw [v2_of h1 h2, v2_of h3 h4]; simp only [if_true]; omega
theorem mul_within {a b c d p q r s : Int} (h1 : vb a b = true) (h2 : vb c d = true) (h3 : vb p q = true) (h4 : vb r s = true) (i1 : p ≤ a) (i2 : b ≤ q) (i3 : r ≤ c) (i4 : d ≤ s) : withinB (mulLo a b c d) (mulHi a b c d) (mulLo p q r s) (mulHi p q r s) = true := by
  have u1 := vb_true.1 h1
  have u2 := vb_true.1 h2
  have p1 := prod_between p q r s a c (by omega) (by omega) (by omega) (by omega)
  have p2 := prod_between p q r s a d (by omega) (by omega) (by omega) (by omega)
  have p3 := prod_between p q r s b c (by omega) (by omega) (by omega) (by omega)
  have p4 := prod_between p q r s b d (by omega) (by omega) (by omega) (by omega)
  have hm : min4 (p * r) (p * s) (q * r) (q * s) ≤ min4 (a * c) (a * d) (b * c) (b * d) := by
    generalize min4 (p * r) (p * s) (q * r) (q * s) = m at *
    unfold min4; omega
  have hM : max4 (a * c) (a * d) (b * c) (b * d) ≤ max4 (p * r) (p * s) (q * r) (q * s) := by
    generalize max4 (p * r) (p * s) (q * r) (q * s) = m at *
    unfold max4; omega
  refine within_of (mul_vb h1 h2) (mul_vb h3 h4) ?_ ?_
  · unfold mulLo; rw [v2_of h1 h2, v2_of h3 h4]; exact clamp_mono _ _ (Int.ediv_le_ediv (by omega) hm)
  · unfold mulHi; rw [v2_of h1 h2, v2_of h3 h4]; exact clamp_mono _ _ (ce_mono hM)
theorem neg_within {a b p q : Int} (h1 : vb a b = true) (h3 : vb p q = true) (i1 : p ≤ a) (i2 : b ≤ q) : withinB (negLo a b) (negHi a b) (negLo p q) (negHi p q) = true := by
  refine within_of (neg_vb h1) (neg_vb h3) ?_ ?_
  · unfold negLo; rw [h1, h3]; simp only [if_true]; omega
  · unfold negHi; rw [h1, h3]; simp only [if_true]; omega
theorem square_within {a b p q : Int} (h1 : vb a b = true) (h3 : vb p q = true) (i1 : p ≤ a) (i2 : b ≤ q) : withinB (squareLo a b) (squareHi a b) (squareLo p q) (squareHi p q) = true := by
  have u1 := vb_true.1 h1
  have s1 := sq_between p q a (by omega) (by omega)
  have s2 := sq_between p q b (by omega) (by omega)
  refine within_of (square_vb h1) (square_vb h3) ?_ ?_
  · unfold squareLo; rw [h1, h3]; refine clamp_mono _ _ (Int.ediv_le_ediv (by omega) ?_)
    by_cases c : a ≤ 0 ∧ 0 ≤ b
    · have e1 : sqLeast a b = 0 := by unfold sqLeast; rw [if_pos c]
      have e2 : sqLeast p q = 0 := by unfold sqLeast; rw [if_pos (by omega)]
      omega
    · have e1 : sqLeast a b = min (a * a) (b * b) := by unfold sqLeast; rw [if_neg c]
      omega
  · unfold squareHi; rw [h1, h3]; exact clamp_mono _ _ (ce_mono (by omega))
theorem sqrt_within {a b p q : Int} (h1 : vb a b = true) (h3 : vb p q = true) (i1 : p ≤ a) (i2 : b ≤ q) : withinB (sqrtLo a b) (sqrtHi a b) (sqrtLo p q) (sqrtHi p q) = true := by
  refine within_of (sqrt_vb h1) (sqrt_vb h3) ?_ ?_
  · unfold sqrtLo; rw [h1, h3]; exact root_mono (sq_bd p).1 (sq_mono_arg i1)
  · unfold sqrtHi; rw [h1, h3]; exact rootUp_mono (sq_bd b).1 (sq_mono_arg i2)
theorem scale_within {a b p q k : Int} (h1 : vb a b = true) (h3 : vb p q = true) (i1 : p ≤ a) (i2 : b ≤ q) : withinB (scaleLo a b k) (scaleHi a b k) (scaleLo p q k) (scaleHi p q k) = true := by
  have u1 := vb_true.1 h1
  have s1 := between_ends p q (clamp k) a (by omega) (by omega)
  have s2 := between_ends p q (clamp k) b (by omega) (by omega)
  refine within_of (scale_vb h1) (scale_vb h3) ?_ ?_
  · unfold scaleLo; rw [h1, h3]; exact clamp_mono _ _ (by omega)
  · unfold scaleHi; rw [h1, h3]; exact clamp_mono _ _ (by omega)

/-! ### Enclosure -/
/-- Whether an interval contains a number, or the number is beyond Max. -/
def holdsB (l h x : Int) : Bool := decide (x < -2147483648) || decide (2147483648 < x) || (decide (l ≤ x) && decide (x ≤ h))
theorem holds_of {l h x : Int} (h1 : clamp x = x → l ≤ x ∧ x ≤ h) : holdsB l h x = true := by
  unfold holdsB
  simp only [Bool.or_eq_true, Bool.and_eq_true, decide_eq_true_eq]
  by_cases c0 : x < -2147483648
  · exact .inl (.inl c0)
  · by_cases c1 : 2147483648 < x
    · exact .inl (.inr c1)
    · exact .inr (h1 (clamp_id x (by omega) (by omega)))
theorem holds_add {a b c d x y : Int} (h1 : vb a b = true) (h2 : vb c d = true) (i1 : a ≤ x) (i2 : x ≤ b) (i3 : c ≤ y) (i4 : y ≤ d) : holdsB (addLo a b c d) (addHi a b c d) (x + y) = true := by
  refine holds_of fun e => ?_
  unfold addLo addHi; rw [v2_of h1 h2]; simp only [if_true]
  exact ⟨by have := clamp_mono (a + c) (x + y) (by omega); omega, by have := clamp_mono (x + y) (b + d) (by omega); omega⟩
theorem holds_sub {a b c d x y : Int} (h1 : vb a b = true) (h2 : vb c d = true) (i1 : a ≤ x) (i2 : x ≤ b) (i3 : c ≤ y) (i4 : y ≤ d) : holdsB (subLo a b c d) (subHi a b c d) (x - y) = true := by
  refine holds_of fun e => ?_
  unfold subLo subHi; rw [v2_of h1 h2]; simp only [if_true]
  exact ⟨by have := clamp_mono (a - d) (x - y) (by omega); omega, by have := clamp_mono (x - y) (b - c) (by omega); omega⟩
theorem holds_mulDown {a b c d x y : Int} (h1 : vb a b = true) (h2 : vb c d = true) (i1 : a ≤ x) (i2 : x ≤ b) (i3 : c ≤ y) (i4 : y ≤ d) : holdsB (mulLo a b c d) (mulHi a b c d) (mulDown x y) = true := by
  refine holds_of fun e => ?_
  have u1 := vb_true.1 h1
  have u2 := vb_true.1 h2
  have p := prod_between a b c d x y i1 i2 i3 i4
  have em : mulDown x y = x * y / 65536 := by unfold mulDown; rw [clamp_id x (by omega) (by omega), clamp_id y (by omega) (by omega)]
  unfold mulLo mulHi; rw [v2_of h1 h2]; simp only [if_true]
  rw [em] at e ⊢
  exact ⟨by have := clamp_mono _ _ (Int.ediv_le_ediv (show (0 : Int) < 65536 by omega) p.1); omega, by have := clamp_mono _ _ (fl_ce p.2); omega⟩
theorem holds_mulUp {a b c d x y : Int} (h1 : vb a b = true) (h2 : vb c d = true) (i1 : a ≤ x) (i2 : x ≤ b) (i3 : c ≤ y) (i4 : y ≤ d) : holdsB (mulLo a b c d) (mulHi a b c d) (mulUp x y) = true := by
  refine holds_of fun e => ?_
  have u1 := vb_true.1 h1
  have u2 := vb_true.1 h2
  have p := prod_between a b c d x y i1 i2 i3 i4
  have em : mulUp x y = ce (x * y) 65536 := by unfold mulUp; rw [clamp_id x (by omega) (by omega), clamp_id y (by omega) (by omega)]
  unfold mulLo mulHi; rw [v2_of h1 h2]; simp only [if_true]
  rw [em] at e ⊢
  exact ⟨by have := clamp_mono _ _ (fl_ce p.1); omega, by have := clamp_mono _ _ (ce_mono p.2); omega⟩
theorem holds_square {a b x : Int} (h1 : vb a b = true) (i1 : a ≤ x) (i2 : x ≤ b) : holdsB (squareLo a b) (squareHi a b) (mulDown x x) = true := by
  refine holds_of fun e => ?_
  have u1 := vb_true.1 h1
  have p := sq_between a b x i1 i2
  have em : mulDown x x = x * x / 65536 := by unfold mulDown; rw [clamp_id x (by omega) (by omega)]
  unfold squareLo squareHi; rw [h1]; simp only [if_true]
  rw [em] at e ⊢
  exact ⟨by have := clamp_mono _ _ (Int.ediv_le_ediv (show (0 : Int) < 65536 by omega) p.1); omega, by have := clamp_mono _ _ (fl_ce p.2); omega⟩
theorem holds_neg {a b x : Int} (h1 : vb a b = true) (i1 : a ≤ x) (i2 : x ≤ b) : holdsB (negLo a b) (negHi a b) (-x) = true := by
  refine holds_of fun e => ?_
  unfold negLo negHi; rw [h1]; simp only [if_true]; omega

/-! ### Intersections -/
theorem meet_has {a b c d : Int} (y : Int) (h : meetOk a b c d = true) : hasB (meetLo a b c d) (meetHi a b c d) y = (hasB a b y && hasB c d y) := by
  have e1 : meetLo a b c d = max a c := by unfold meetLo; rw [h]; rfl
  have e2 : meetHi a b c d = min b d := by unfold meetHi; rw [h]; rfl
  rw [e1, e2]
  unfold meetOk at h
  simp only [Bool.and_eq_true, decide_eq_true_eq] at h
  obtain ⟨hv, hm⟩ := h
  obtain ⟨h1, h2⟩ := v2_true.1 hv
  have u1 := vb_true.1 h1
  have u2 := vb_true.1 h2
  have h3 : vb (max a c) (min b d) = true := by rw [vb_true]; omega
  unfold hasB
  rw [h1, h2, h3, Bool.eq_iff_iff]
  simp only [Bool.true_and, Bool.and_eq_true, decide_eq_true_eq]
  omega
theorem meet_no {a b c d : Int} (y : Int) (h1 : vb a b = true) (h2 : vb c d = true) (h : meetOk a b c d = false) : (hasB a b y && hasB c d y) = false := by
  unfold meetOk at h
  rw [v2_of h1 h2] at h
  simp only [Bool.true_and, decide_eq_false_iff_not] at h
  unfold hasB
  rw [h1, h2, Bool.eq_false_iff]
  intro hh
  simp only [Bool.true_and, Bool.and_eq_true, decide_eq_true_eq] at hh
  omega
theorem hull_left {a b c d : Int} (h1 : vb a b = true) (h2 : vb c d = true) : withinB a b (hullLo a b c d) (hullHi a b c d) = true := by
  refine within_of h1 (hull_vb h1 h2) ?_ ?_
  · unfold hullLo; rw [v2_of h1 h2]; simp only [if_true]; omega
  · unfold hullHi; rw [v2_of h1 h2]; simp only [if_true]; omega
theorem meet_in {a b c d : Int} (h : meetOk a b c d = true) : withinB (meetLo a b c d) (meetHi a b c d) a b = true ∧ withinB (meetLo a b c d) (meetHi a b c d) c d = true := by
  have e1 : meetLo a b c d = max a c := by unfold meetLo; rw [h]; rfl
  have e2 : meetHi a b c d = min b d := by unfold meetHi; rw [h]; rfl
  rw [e1, e2]
  unfold meetOk at h
  simp only [Bool.and_eq_true, decide_eq_true_eq] at h
  obtain ⟨hv, hm⟩ := h
  obtain ⟨h1, h2⟩ := v2_true.1 hv
  have u1 := vb_true.1 h1
  have u2 := vb_true.1 h2
  have h3 : vb (max a c) (min b d) = true := by rw [vb_true]; omega
  exact ⟨within_of h3 h1 (by omega) (by omega), within_of h3 h2 (by omega) (by omega)⟩

end Go.Proofs.Ytgnjconhbloocaa.Fx

namespace Go.Proofs.Ytgnjconhbloocaa
open Go.RowKit
set_option linter.unusedVariables false

/-- A matrix of three rows of intervals. -/
structure Fx.M3 where
  (x y z : Fx.V3)
def Fx.M3.row (m : Fx.M3) : Nat → Fx.V3
  | 0 => m.x
  | 1 => m.y
  | _ => m.z
def Fx.M3.arr (m : Fx.M3) : Array Value := m.x.arr ++ m.y.arr ++ m.z.arr
theorem Fx.M3.size (m : Fx.M3) : m.arr.size = 18 := rfl
theorem Fx.M3.row_arr (m : Fx.M3) (i n : Nat) (hi : i < 3) (hn : n < 6) : m.arr[i * 6 + n]? = (m.row i).arr[n]? := by
  have h1 : m.x.arr.size = 6 := rfl
  have h2 : m.y.arr.size = 6 := rfl
  have h3 : (m.x.arr ++ m.y.arr).size = 12 := rfl
  unfold Fx.M3.arr
  match i, hi with
  | 0, _ => rw [Array.getElem?_append_left (by omega), Array.getElem?_append_left (by omega), Nat.zero_mul, Nat.zero_add]; rfl
  | 1, _ => rw [Array.getElem?_append_left (by omega), Array.getElem?_append_right (by omega), h1, show 1 * 6 + n - 6 = n by omega]; rfl
  | 2, _ => rw [Array.getElem?_append_right (by omega), h3, show 2 * 6 + n - 12 = n by omega]; rfl
theorem Whole.mat {w : World} {g : Nat} {t : TypeId} {m : Fx.M3} (h : Whole w g t m.arr) (i k : Nat) (hi : i < 3) (hk : k < 3) : w.rangeAt g (i * 6 + k * 2) [.int .i64 ((m.row i).lo k), .int .i64 ((m.row i).hi k)] :=
  h.range _ _ (fun j v hj => by
    have hj2 : j < 2 := by
      by_cases c : j < 2
      · exact c
      · rw [List.getElem?_eq_none (by simp; omega)] at hj; cases hj
    rw [show i * 6 + k * 2 + j = i * 6 + (k * 2 + j) by omega, m.row_arr i (k * 2 + j) hi (by omega)]
    exact arr_two (m.row i) k hk j v hj)

/-- The sum of the first k products of a row and a vector. -/
def Fx.dot (r v : Fx.V3) : Nat → Int × Int
  | 0 => (0, 0)
  | k + 1 => (Fx.addLo (Fx.dot r v k).1 (Fx.dot r v k).2 (Fx.mulLo (r.lo k) (r.hi k) (v.lo k) (v.hi k)) (Fx.mulHi (r.lo k) (r.hi k) (v.lo k) (v.hi k)), Fx.addHi (Fx.dot r v k).1 (Fx.dot r v k).2 (Fx.mulLo (r.lo k) (r.hi k) (v.lo k) (v.hi k)) (Fx.mulHi (r.lo k) (r.hi k) (v.lo k) (v.hi k)))
def Fx.applyM (m : Fx.M3) (v : Fx.V3) : Fx.V3 := Fx.ofEnds (fun i => (Fx.dot (m.row i) v 3).1) (fun i => (Fx.dot (m.row i) v 3).2)

/-- The first i pairs of ends; then l and h; then zeros. -/
def Fx.part3 (lo hi : Nat → Int) (i : Nat) (l h : Int) : Fx.V3 :=
  ⟨if 0 < i then lo 0 else if 0 = i then l else 0, if 0 < i then hi 0 else if 0 = i then h else 0, if 1 < i then lo 1 else if 1 = i then l else 0, if 1 < i then hi 1 else if 1 = i then h else 0, if 2 < i then lo 2 else if 2 = i then l else 0, if 2 < i then hi 2 else if 2 = i then h else 0⟩
theorem Fx.part3_zero (lo hi : Nat → Int) : ∀ i : Nat, i < 3 → Fx.part3 lo hi i 0 0 = Fx.endsTo lo hi i
  | 0, _ => rfl
  | 1, _ => rfl
  | 2, _ => rfl
theorem Fx.part3_full (lo hi : Nat → Int) : ∀ i : Nat, i < 3 → Fx.part3 lo hi i (lo i) (hi i) = Fx.endsTo lo hi (i + 1)
  | 0, _ => rfl
  | 1, _ => rfl
  | 2, _ => rfl
theorem Fx.part3_at (lo hi : Nat → Int) (l h : Int) : ∀ i : Nat, i < 3 → (Fx.part3 lo hi i l h).lo i = l ∧ (Fx.part3 lo hi i l h).hi i = h
  | 0, _ => ⟨rfl, rfl⟩
  | 1, _ => ⟨rfl, rfl⟩
  | 2, _ => ⟨rfl, rfl⟩
theorem Fx.part3_set (lo hi : Nat → Int) (l h l' h' : Int) : ∀ i : Nat, i < 3 → (((Fx.part3 lo hi i l h).arr.setIfInBounds (i * 2) (.int .i64 l')).setIfInBounds (i * 2 + 1) (.int .i64 h')) = (Fx.part3 lo hi i l' h').arr
  | 0, _ => rfl
  | 1, _ => rfl
  | 2, _ => rfl

theorem ret_mapply {tmps : Array Value} {w : World} {g : Nat} {x : Fx.V3} (hW : Whole w g 34 x.arr) (h2 : tmps.getD 4 undef = .pointer (some ⟨g, 0, none⟩)) :
    (results Try.f79 tmps).run Try.prog w = .ok (.agg x.arr) w := by
  obtain ⟨⟨c0, c1, c2, c3, c4, c5⟩, _⟩ := hW.six
  clear hW
  have h2' : tmps[4]?.getD undef = .pointer (some ⟨g, 0, none⟩) := by simpa using h2
  simp [results, Try.results79, go_sem, h2', c0, c1, c2, c3, c4, c5, Fx.V3.arr]

set_option maxRecDepth 100000 in
set_option maxHeartbeats 2000000 in
theorem mapply_any (m : Fx.M3) (v : Fx.V3) (w : World) :
    Calls Try.prog 79 #[.agg m.arr, .agg v.arr] w fun e w' => e = .returned (.agg (Fx.applyM m v).arr) ∧ Below w.heap.size w w' := by
  go_enter Try.func79, Try.ntmps79
  go_wp2_with fail
  have h4 := blocks4 w 50 34 34 34 m.arr v.arr zero6 zero6
  generalize (((w.alloc (.cells m.arr 50)).alloc (.cells v.arr 34)).alloc (.cells zero6 34)).alloc (.cells zero6 34) = w0 at *
  obtain ⟨hA0, hB0, hC0, hD0, hE0⟩ := h4
  have HA0 := Lib.hid hA0; have HB0 := Lib.hid hB0
  have HC0 : Hid (Whole w0 (w.heap.size + 1 + 1) 34 Fx.V3.zero.arr) := Lib.hid hC0
  have HD0 : Hid (Whole w0 (w.heap.size + 1 + 1 + 1) 34 Fx.V3.zero.arr) := Lib.hid hD0
  clear hA0 hB0 hC0 hD0
  go_loopw [8] (fun iv wr => ∃ i : Nat, i ≤ 3 ∧ iv = .int .i64 i ∧ Whole wr w.heap.size 50 m.arr ∧ Whole wr (w.heap.size + 1) 34 v.arr ∧ Whole wr (w.heap.size + 1 + 1) 34 Fx.V3.zero.arr ∧ Whole wr (w.heap.size + 1 + 1 + 1) 34 (Fx.endsTo (fun i => (Fx.dot (m.row i) v 3).1) (fun i => (Fx.dot (m.row i) v 3).2) i).arr ∧ Below w.heap.size w wr) (fun iv _ => 3 - (intOf iv).toNat)
  case atStart => exact ⟨0, by omega, rfl, HA0.out, HB0.out, HC0.out, HD0.out, hE0⟩
  case round =>
    obtain ⟨i, hi, rfl, hA, hB, hC, hD, hb⟩ := hrel
    clear HA0 HB0 HC0 HD0 hE0
    have HA := Lib.hid hA; have HB := Lib.hid hB; have HC := Lib.hid hC
    by_cases hi3 : i < 3
    · rw [← Fx.part3_zero _ _ i hi3] at hD
      have HD := Lib.hid hD
      have k0 : (0 : Int) ≤ (i : Int) := by omega
      have k1 : (i : Int) < 3 := by omega
      clear hA hB hC hD
      go_wp2_with fail
      obtain ⟨wo, hwo⟩ : ∃ wo : World, wo = wr := ⟨_, rfl⟩
      subst hwo
      go_loopw [11] (fun jv wr => ∃ j : Nat, j ≤ 3 ∧ jv = .int .i64 j ∧ Whole wr w.heap.size 50 m.arr ∧ Whole wr (w.heap.size + 1) 34 v.arr ∧ Whole wr (w.heap.size + 1 + 1) 34 Fx.V3.zero.arr ∧ Whole wr (w.heap.size + 1 + 1 + 1) 34 (Fx.part3 (fun i => (Fx.dot (m.row i) v 3).1) (fun i => (Fx.dot (m.row i) v 3).2) i (Fx.dot (m.row i) v j).1 (Fx.dot (m.row i) v j).2).arr ∧ Below w.heap.size w wr) (fun jv _ => 3 - (intOf jv).toNat)
      case atStart => exact ⟨0, by omega, rfl, HA.out, HB.out, HC.out, HD.out, hb⟩
      case round =>
        obtain ⟨j, hj, rfl, hA, hB, hC, hD, hbj⟩ := hrel
        clear HA HB HC HD hb
        have HA := Lib.hid hA; have HB := Lib.hid hB; have HC := Lib.hid hC; have HD := Lib.hid hD
        by_cases hj3 : j < 3
        · clear hA hB hC hD
          have k2 : (0 : Int) ≤ (j : Int) := by omega
          have k3 : (j : Int) < 3 := by omega
          have hrd := HD.out.two i hi3
          rw [(Fx.part3_at _ _ _ _ i hi3).1, (Fx.part3_at _ _ _ _ i hi3).2] at hrd
          have HRD := Lib.hid hrd
          clear hrd
          have HNx : Hid ((Fx.dot (m.row i) v (j + 1)).1 = Fx.addLo (Fx.dot (m.row i) v j).1 (Fx.dot (m.row i) v j).2 (Fx.mulLo ((m.row i).lo j) ((m.row i).hi j) (v.lo j) (v.hi j)) (Fx.mulHi ((m.row i).lo j) ((m.row i).hi j) (v.lo j) (v.hi j)) ∧ (Fx.dot (m.row i) v (j + 1)).2 = Fx.addHi (Fx.dot (m.row i) v j).1 (Fx.dot (m.row i) v j).2 (Fx.mulLo ((m.row i).lo j) ((m.row i).hi j) (v.lo j) (v.hi j)) (Fx.mulHi ((m.row i).lo j) ((m.row i).hi j) (v.lo j) (v.hi j))) := Lib.hid ⟨rfl, rfl⟩
          go_wp2_with fail
          refine wp_region_noPanic ?_
          refine wp_region_until_drew (k := 15) (S := fun w' => Below wr.heap.size wr w') (by kernel_rfl) (ext_drew (ext_refl _)) (fun hHeld => ?_)
          refine wpAnyU_take (i := 0) (v := ?_) (by simp only [List.getElem?_toArray, List.getElem?_cons_succ, List.getElem?_cons_zero]; rfl) (by kernel_rfl) (by kernel_rfl) (by kernel_rfl) (by kernel_rfl) (by kernel_rfl) (fun _ _ _ h => h) (Or.inl ⟨by rfl, ?_⟩) (by assumption) ?_
          rotate_left
          · intro w hSw; (try dsimp only at hSw); go_simp; first | done | with_reducible rfl
          try simp only [Act.put, List.setIfInBounds_toArray, List.set_cons_zero, List.set_cons_succ]
          refine wpAnyU_take (i := 1) (v := ?_) (by simp only [List.getElem?_toArray, List.getElem?_cons_succ, List.getElem?_cons_zero]; rfl) (by kernel_rfl) (by kernel_rfl) (by kernel_rfl) (by kernel_rfl) (by kernel_rfl) (fun _ _ _ h => h) (Or.inl ⟨by rfl, ?_⟩) (by assumption) ?_
          rotate_left
          · intro w hSw; (try dsimp only at hSw); go_simp; first | done | with_reducible rfl
          try simp only [Act.put, List.setIfInBounds_toArray, List.set_cons_zero, List.set_cons_succ]
          refine wpAnyU_take (i := 2) (v := ?_) (by simp only [List.getElem?_toArray, List.getElem?_cons_succ, List.getElem?_cons_zero]; rfl) (by kernel_rfl) (by kernel_rfl) (by kernel_rfl) (by kernel_rfl) (by kernel_rfl) (fun _ _ _ h => h) (Or.inl ⟨by rfl, ?_⟩) (by assumption) ?_
          rotate_left
          · intro w hSw; (try dsimp only at hSw); go_simp; first | done | with_reducible rfl
          try simp only [Act.put, List.setIfInBounds_toArray, List.set_cons_zero, List.set_cons_succ]
          refine wpAnyU_take (i := 3) (by simp only [List.getElem?_toArray, List.getElem?_cons_succ, List.getElem?_cons_zero]; rfl) (by kernel_rfl) (by kernel_rfl) (by kernel_rfl) (by kernel_rfl) (by kernel_rfl) (fun _ _ _ h => h) (yields_load (by rfl) _ _ rfl (w.heap.size + 1 + 1 + 1) (i * 2) (by rfl) [.int .i64 (Fx.dot (m.row i) v j).1, .int .i64 (Fx.dot (m.row i) v j).2] _ HRD.out HD.out.lt Try.underlying32 rfl (by kernel_rfl)) (by assumption) ?_
          try simp only [Act.put, List.setIfInBounds_toArray, List.set_cons_zero, List.set_cons_succ]
          refine wpAnyU_take (i := 4) (v := ?_) (by simp only [List.getElem?_toArray, List.getElem?_cons_succ, List.getElem?_cons_zero]; rfl) (by kernel_rfl) (by kernel_rfl) (by kernel_rfl) (by kernel_rfl) (by kernel_rfl) (fun _ _ _ h => h) (Or.inl ⟨by rfl, ?_⟩) (by assumption) ?_
          rotate_left
          · intro w hSw; (try dsimp only at hSw); go_simp; first | done | with_reducible rfl
          try simp only [Act.put, List.setIfInBounds_toArray, List.set_cons_zero, List.set_cons_succ]
          refine wpAnyU_take (i := 5) (v := ?_) (by simp only [List.getElem?_toArray, List.getElem?_cons_succ, List.getElem?_cons_zero]; rfl) (by kernel_rfl) (by kernel_rfl) (by kernel_rfl) (by kernel_rfl) (by kernel_rfl) (fun _ _ _ h => h) (Or.inl ⟨by rfl, ?_⟩) (by assumption) ?_
          rotate_left
          · intro w hSw; (try dsimp only at hSw); go_simp; first | done | with_reducible rfl
          try simp only [Act.put, List.setIfInBounds_toArray, List.set_cons_zero, List.set_cons_succ]
          refine wpAnyU_take (i := 6) (v := ?_) (by simp only [List.getElem?_toArray, List.getElem?_cons_succ, List.getElem?_cons_zero]; rfl) (by kernel_rfl) (by kernel_rfl) (by kernel_rfl) (by kernel_rfl) (by kernel_rfl) (fun _ _ _ h => h) (Or.inl ⟨by rfl, ?_⟩) (by assumption) ?_
          rotate_left
          · intro w hSw; (try dsimp only at hSw); go_simp; first | done | with_reducible rfl
          try simp only [Act.put, List.setIfInBounds_toArray, List.set_cons_zero, List.set_cons_succ]
          refine wpAnyU_take (i := 7) (v := ?_) (by simp only [List.getElem?_toArray, List.getElem?_cons_succ, List.getElem?_cons_zero]; rfl) (by kernel_rfl) (by kernel_rfl) (by kernel_rfl) (by kernel_rfl) (by kernel_rfl) (fun _ _ _ h => h) (Or.inl ⟨by rfl, ?_⟩) (by assumption) ?_
          rotate_left
          · intro w hSw; (try dsimp only at hSw); go_simp; first | done | with_reducible rfl
          try simp only [Act.put, List.setIfInBounds_toArray, List.set_cons_zero, List.set_cons_succ]
          refine wpAnyU_take (i := 8) (by simp only [List.getElem?_toArray, List.getElem?_cons_succ, List.getElem?_cons_zero]; rfl) (by kernel_rfl) (by kernel_rfl) (by kernel_rfl) (by kernel_rfl) (by kernel_rfl) (fun _ _ _ h => h) (yields_load (by rfl) _ _ rfl w.heap.size (i * 6 + j * 2) (by rfl) [.int .i64 ((m.row i).lo j), .int .i64 ((m.row i).hi j)] _ (HA.out.mat i j hi3 hj3) HA.out.lt Try.underlying32 rfl (by kernel_rfl)) (by assumption) ?_
          try simp only [Act.put, List.setIfInBounds_toArray, List.set_cons_zero, List.set_cons_succ]
          refine wpAnyU_take (i := 9) (v := ?_) (by simp only [List.getElem?_toArray, List.getElem?_cons_succ, List.getElem?_cons_zero]; rfl) (by kernel_rfl) (by kernel_rfl) (by kernel_rfl) (by kernel_rfl) (by kernel_rfl) (fun _ _ _ h => h) (Or.inl ⟨by rfl, ?_⟩) (by assumption) ?_
          rotate_left
          · intro w hSw; (try dsimp only at hSw); go_simp; first | done | with_reducible rfl
          try simp only [Act.put, List.setIfInBounds_toArray, List.set_cons_zero, List.set_cons_succ]
          refine wpAnyU_take (i := 10) (v := ?_) (by simp only [List.getElem?_toArray, List.getElem?_cons_succ, List.getElem?_cons_zero]; rfl) (by kernel_rfl) (by kernel_rfl) (by kernel_rfl) (by kernel_rfl) (by kernel_rfl) (fun _ _ _ h => h) (Or.inl ⟨by rfl, ?_⟩) (by assumption) ?_
          rotate_left
          · intro w hSw; (try dsimp only at hSw); go_simp; first | done | with_reducible rfl
          try simp only [Act.put, List.setIfInBounds_toArray, List.set_cons_zero, List.set_cons_succ]
          refine wpAnyU_take (i := 11) (by simp only [List.getElem?_toArray, List.getElem?_cons_succ, List.getElem?_cons_zero]; rfl) (by kernel_rfl) (by kernel_rfl) (by kernel_rfl) (by kernel_rfl) (by kernel_rfl) (fun _ _ _ h => h) (yields_load (by rfl) _ _ rfl (w.heap.size + 1) (j * 2) (by rfl) [.int .i64 (v.lo j), .int .i64 (v.hi j)] _ (HB.out.two j hj3) HB.out.lt Try.underlying32 rfl (by kernel_rfl)) (by assumption) ?_
          try simp only [Act.put, List.setIfInBounds_toArray, List.set_cons_zero, List.set_cons_succ]
          refine wpAnyU_ready (rs := [12]) (by kernel_rfl) (by simp) ?_
          refine AllReadyU.cons (by simp only [List.getElem?_toArray, List.getElem?_cons_succ, List.getElem?_cons_zero]; rfl) (fun K hK => ?_) AllReadyU.nil
          go_simp
          refine (mul_any _ _ _ _ _).mono ?_
          rintro e w_12 ⟨rfl, hb_12⟩
          have hHeld' := ext_trans hHeld hb_12
          clear hHeld hb_12
          go_wp2_with fail
          refine hK.out _ _ hHeld' (fun hHeld => ?_)
          clear hK K hHeld'
          try simp only [Act.put, List.setIfInBounds_toArray, List.set_cons_zero, List.set_cons_succ]
          refine wpAnyU_ready (rs := [13]) (by kernel_rfl) (by simp) ?_
          refine AllReadyU.cons (by simp only [List.getElem?_toArray, List.getElem?_cons_succ, List.getElem?_cons_zero]; rfl) (fun K hK => ?_) AllReadyU.nil
          go_simp
          refine (add_any _ _ _ _ _).mono ?_
          rintro e w_13 ⟨rfl, hb_13⟩
          have hHeld' := ext_trans hHeld hb_13
          clear hHeld hb_13
          go_wp2_with fail
          refine hK.out _ _ hHeld' (fun hHeld => ?_)
          clear hK K hHeld'
          try simp only [Act.put, List.setIfInBounds_toArray, List.set_cons_zero, List.set_cons_succ]
          rw [← HNx.out.1, ← HNx.out.2]
          refine wpAnyU_take (i := 14) (v := ?_) (by simp only [List.getElem?_toArray, List.getElem?_cons_succ, List.getElem?_cons_zero]; rfl) (by kernel_rfl) (by kernel_rfl) (by kernel_rfl) (by kernel_rfl) (by kernel_rfl) (fun _ _ _ h => h) (Or.inl ⟨by rfl, ?_⟩) (by assumption) ?_
          rotate_left
          · intro w hSw; (try dsimp only at hSw); go_simp; first | done | with_reducible rfl
          try simp only [Act.put, List.setIfInBounds_toArray, List.set_cons_zero, List.set_cons_succ]
          have hD7 := HD.out.ext hHeld
          have HA7 := Lib.hid (HA.out.ext hHeld); have HB7 := Lib.hid (HB.out.ext hHeld); have HC7 := Lib.hid (HC.out.ext hHeld)
          have hB7 := ext_trans hbj hHeld
          clear HA HB HC HD hbj hHeld HRD HNx
          refine wpAnyU_ready (rs := [15]) (by kernel_rfl) (by simp) ?_
          refine AllReadyU.last (by simp only [List.getElem?_toArray, List.getElem?_cons_succ, List.getElem?_cons_zero]; rfl) (fun K hK => ?_) AllReadyU.nil
          rw [if_pos (by rfl)]
          generalize hlo : (Fx.dot (m.row i) v (j + 1)).1 = lo at *
          generalize hhi : (Fx.dot (m.row i) v (j + 1)).2 = hi' at *
          have HLo := Lib.hid hlo; have HHi := Lib.hid hhi
          clear hlo hhi
          refine wp_store_mid _ _ _ rfl (w.heap.size + 1 + 1 + 1) (i * 2) #[.int .i64 lo, .int .i64 hi'] rfl rfl (there_of hD7 _ _ (by simp [Fx.V3.arr]; omega)) (by kernel_rfl) (two_one _ _) ?_
          have HDn := Lib.hid (hD7.store2 (i * 2) (.int .i64 lo) (.int .i64 hi') (Fx.part3_set _ _ _ _ lo hi' i hi3))
          have HAn := Lib.hid (HA7.out.farN [.int .i64 lo, .int .i64 hi'] (show w.heap.size ≠ w.heap.size + 1 + 1 + 1 by omega) (i * 2))
          have HBn := Lib.hid (HB7.out.farN [.int .i64 lo, .int .i64 hi'] (show w.heap.size + 1 ≠ w.heap.size + 1 + 1 + 1 by omega) (i * 2))
          have HCn := Lib.hid (HC7.out.farN [.int .i64 lo, .int .i64 hi'] (show w.heap.size + 1 + 1 ≠ w.heap.size + 1 + 1 + 1 by omega) (i * 2))
          have hBn := ext_setN [.int .i64 lo, .int .i64 hi'] hB7 (show w.heap.size ≤ w.heap.size + 1 + 1 + 1 by omega) (i * 2)
          refine hK.out _ _ ?_
          clear hK K hD7 HA7 HB7 HC7 hB7
          try simp only [Act.put, List.setIfInBounds_toArray, List.set_cons_zero, List.set_cons_succ]
          refine wpAnyU_done (by kernel_rfl) ?_ _
          refine NoPanic.normal ?_
          generalize w_13.setCells (w.heap.size + 1 + 1 + 1) (i * 2) [.int .i64 lo, .int .i64 hi'] = w8 at *
          go_wp2_with fail
          go_roundw
          case rel => exact ⟨j + 1, by omega, by go_num, HAn.out, HBn.out, HCn.out, (by rw [HLo.out, HHi.out]; exact HDn.out), hBn⟩
          case measure => simp [intOf]; omega
        · obtain rfl : j = 3 := by omega
          have HD' := Lib.hid (show Whole wr (w.heap.size + 1 + 1 + 1) 34 (Fx.endsTo (fun i => (Fx.dot (m.row i) v 3).1) (fun i => (Fx.dot (m.row i) v 3).2) (i + 1)).arr from (by rw [← Fx.part3_full _ _ i hi3]; exact hD))
          clear hA hB hC hD HD
          go_wp2_with fail
          go_roundw
          case rel => exact ⟨i + 1, by omega, by go_num, HA.out, HB.out, HC.out, HD'.out, hbj⟩
          case measure => simp [intOf]; omega
    · obtain rfl : i = 3 := by omega
      rw [Fx.endsTo_three] at hD
      generalize hx : Fx.ofEnds (fun i => (Fx.dot (m.row i) v 3).1) (fun i => (Fx.dot (m.row i) v 3).2) = x at *
      have HX : Hid (Fx.applyM m v = x) := Lib.hid hx
      obtain ⟨⟨z0, z1, z2, z3, z4, z5⟩, ⟨y0, y1, y2, y3, y4, y5⟩⟩ := hC.six
      obtain ⟨⟨s0, s1, s2, s3, s4, s5⟩, _⟩ := hD.six
      simp only [Fx.V3.zero] at z0 z1 z2 z3 z4 z5
      clear hA hB hC hD hx HA HB
      go_wp2_with fail
      exact bodyPost_ret (ret_mapply (x := x) (set6_whole x HC.out) rfl) rfl ⟨by rw [HX.out], set6_ext x hb (show w.heap.size ≤ w.heap.size + 1 + 1 by omega)⟩
end Go.Proofs.Ytgnjconhbloocaa

namespace Go.Proofs.Ytgnjconhbloocaa
open Go.RowKit
set_option linter.unusedVariables false

theorem Fx.mul_vb' (a b c d : Int) : Fx.vb (Fx.mulLo a b c d) (Fx.mulHi a b c d) = true := by
  by_cases h : Fx.v2 a b c d = true
  · exact Fx.mul_vb (Fx.v2_true.1 h).1 (Fx.v2_true.1 h).2
  · have h' : Fx.v2 a b c d = false := by simpa using h
    unfold Fx.mulLo Fx.mulHi
    rw [h']
    rfl
theorem Fx.zero_left {l h : Int} (hv : Fx.vb l h = true) : Fx.addLo 0 0 l h = l ∧ Fx.addHi 0 0 l h = h := by
  have hb := Fx.vb_true.1 hv
  have e : Fx.v2 0 0 l h = true := Fx.v2_of rfl hv
  unfold Fx.addLo Fx.addHi
  rw [e]
  simp only [if_true, Int.zero_add]
  exact ⟨Fx.clamp_id _ (by omega) (by omega), Fx.clamp_id _ (by omega) (by omega)⟩
theorem Fx.dot3 (r v : Fx.V3) : Fx.dot r v 3 = (Fx.addLo (Fx.addLo (Fx.mulLo (r.lo 0) (r.hi 0) (v.lo 0) (v.hi 0)) (Fx.mulHi (r.lo 0) (r.hi 0) (v.lo 0) (v.hi 0)) (Fx.mulLo (r.lo 1) (r.hi 1) (v.lo 1) (v.hi 1)) (Fx.mulHi (r.lo 1) (r.hi 1) (v.lo 1) (v.hi 1))) (Fx.addHi (Fx.mulLo (r.lo 0) (r.hi 0) (v.lo 0) (v.hi 0)) (Fx.mulHi (r.lo 0) (r.hi 0) (v.lo 0) (v.hi 0)) (Fx.mulLo (r.lo 1) (r.hi 1) (v.lo 1) (v.hi 1)) (Fx.mulHi (r.lo 1) (r.hi 1) (v.lo 1) (v.hi 1))) (Fx.mulLo (r.lo 2) (r.hi 2) (v.lo 2) (v.hi 2)) (Fx.mulHi (r.lo 2) (r.hi 2) (v.lo 2) (v.hi 2)),
    Fx.addHi (Fx.addLo (Fx.mulLo (r.lo 0) (r.hi 0) (v.lo 0) (v.hi 0)) (Fx.mulHi (r.lo 0) (r.hi 0) (v.lo 0) (v.hi 0)) (Fx.mulLo (r.lo 1) (r.hi 1) (v.lo 1) (v.hi 1)) (Fx.mulHi (r.lo 1) (r.hi 1) (v.lo 1) (v.hi 1))) (Fx.addHi (Fx.mulLo (r.lo 0) (r.hi 0) (v.lo 0) (v.hi 0)) (Fx.mulHi (r.lo 0) (r.hi 0) (v.lo 0) (v.hi 0)) (Fx.mulLo (r.lo 1) (r.hi 1) (v.lo 1) (v.hi 1)) (Fx.mulHi (r.lo 1) (r.hi 1) (v.lo 1) (v.hi 1))) (Fx.mulLo (r.lo 2) (r.hi 2) (v.lo 2) (v.hi 2)) (Fx.mulHi (r.lo 2) (r.hi 2) (v.lo 2) (v.hi 2))) := by
  have e := Fx.zero_left (Fx.mul_vb' (r.lo 0) (r.hi 0) (v.lo 0) (v.hi 0))
  simp only [Fx.dot, e.1, e.2]

theorem ret_rapplym {tmps : Array Value} {w : World} {g : Nat} {x : Fx.V3} (hW : Whole w g 34 x.arr) (h2 : tmps.getD 4 undef = .pointer (some ⟨g, 0, none⟩)) :
    (results Try.f60 tmps).run Try.prog w = .ok (.agg x.arr) w := by
  obtain ⟨⟨c0, c1, c2, c3, c4, c5⟩, _⟩ := hW.six
  clear hW
  have h2' : tmps[4]?.getD undef = .pointer (some ⟨g, 0, none⟩) := by simpa using h2
  simp [results, Try.results60, go_sem, h2', c0, c1, c2, c3, c4, c5, Fx.V3.arr]

set_option maxRecDepth 100000 in
set_option maxHeartbeats 2000000 in
theorem rapplym_any (m : Fx.M3) (v : Fx.V3) (w : World) :
    Calls Try.prog 60 #[.agg m.arr, .agg v.arr] w fun e w' => e = .returned (.agg (Fx.applyM m v).arr) ∧ Below w.heap.size w w' := by
  go_enter Try.func60, Try.ntmps60
  go_wp2_with fail
  have h4 := blocks4 w 50 34 34 34 m.arr v.arr zero6 zero6
  generalize (((w.alloc (.cells m.arr 50)).alloc (.cells v.arr 34)).alloc (.cells zero6 34)).alloc (.cells zero6 34) = w0 at *
  obtain ⟨hA0, hB0, hC0, hD0, hE0⟩ := h4
  have HA0 := Lib.hid hA0; have HB0 := Lib.hid hB0
  have HC0 : Hid (Whole w0 (w.heap.size + 1 + 1) 34 Fx.V3.zero.arr) := Lib.hid hC0
  have HD0 : Hid (Whole w0 (w.heap.size + 1 + 1 + 1) 34 Fx.V3.zero.arr) := Lib.hid hD0
  clear hA0 hB0 hC0 hD0
  go_loopw [6] (fun iv wr => ∃ i : Nat, i ≤ 3 ∧ iv = .int .i64 i ∧ Whole wr w.heap.size 50 m.arr ∧ Whole wr (w.heap.size + 1) 34 v.arr ∧ Whole wr (w.heap.size + 1 + 1) 34 Fx.V3.zero.arr ∧ Whole wr (w.heap.size + 1 + 1 + 1) 34 (Fx.endsTo (fun i => (Fx.dot (m.row i) v 3).1) (fun i => (Fx.dot (m.row i) v 3).2) i).arr ∧ Below w.heap.size w wr) (fun iv _ => 3 - (intOf iv).toNat)
  case atStart => exact ⟨0, by omega, rfl, HA0.out, HB0.out, HC0.out, HD0.out, hE0⟩
  case round =>
    obtain ⟨i, hi, rfl, hA, hB, hC, hD, hb⟩ := hrel
    clear HA0 HB0 HC0 HD0 hE0
    have HA := Lib.hid hA; have HB := Lib.hid hB; have HC := Lib.hid hC; have HD := Lib.hid hD
    by_cases hi3 : i < 3
    · have k0 : (0 : Int) ≤ (i : Int) := by omega
      have k1 : (i : Int) < 3 := by omega
      clear hA hB hC hD
      have HDt := Lib.hid (Fx.dot3 (m.row i) v)
      have HNx := Lib.hid (Fx.endsTo_next (fun i => (Fx.dot (m.row i) v 3).1) (fun i => (Fx.dot (m.row i) v 3).2) i hi3)
      go_wp2_with fail
      refine wp_region_noPanic ?_
      refine wp_region_until_drew (k := 25) (S := fun w' => Below wr.heap.size wr w') (by kernel_rfl) (ext_drew (ext_refl _)) (fun hHeld => ?_)
      refine wpAnyU_take (i := 0) (v := ?_) (by simp only [List.getElem?_toArray, List.getElem?_cons_succ, List.getElem?_cons_zero]; rfl) (by kernel_rfl) (by kernel_rfl) (by kernel_rfl) (by kernel_rfl) (by kernel_rfl) (fun _ _ _ h => h) (Or.inl ⟨by rfl, ?_⟩) (by assumption) ?_
      rotate_left
      · intro w hSw; (try dsimp only at hSw); go_simp; first | done | with_reducible rfl
      try simp only [Act.put, List.setIfInBounds_toArray, List.set_cons_zero, List.set_cons_succ]
      refine wpAnyU_take (i := 1) (v := ?_) (by simp only [List.getElem?_toArray, List.getElem?_cons_succ, List.getElem?_cons_zero]; rfl) (by kernel_rfl) (by kernel_rfl) (by kernel_rfl) (by kernel_rfl) (by kernel_rfl) (fun _ _ _ h => h) (Or.inl ⟨by rfl, ?_⟩) (by assumption) ?_
      rotate_left
      · intro w hSw; (try dsimp only at hSw); go_simp; first | done | with_reducible rfl
      try simp only [Act.put, List.setIfInBounds_toArray, List.set_cons_zero, List.set_cons_succ]
      refine wpAnyU_take (i := 2) (v := ?_) (by simp only [List.getElem?_toArray, List.getElem?_cons_succ, List.getElem?_cons_zero]; rfl) (by kernel_rfl) (by kernel_rfl) (by kernel_rfl) (by kernel_rfl) (by kernel_rfl) (fun _ _ _ h => h) (Or.inl ⟨by rfl, ?_⟩) (by assumption) ?_
      rotate_left
      · intro w hSw; (try dsimp only at hSw); go_simp; first | done | with_reducible rfl
      try simp only [Act.put, List.setIfInBounds_toArray, List.set_cons_zero, List.set_cons_succ]
      refine wpAnyU_take (i := 3) (v := ?_) (by simp only [List.getElem?_toArray, List.getElem?_cons_succ, List.getElem?_cons_zero]; rfl) (by kernel_rfl) (by kernel_rfl) (by kernel_rfl) (by kernel_rfl) (by kernel_rfl) (fun _ _ _ h => h) (Or.inl ⟨by rfl, ?_⟩) (by assumption) ?_
      rotate_left
      · intro w hSw; (try dsimp only at hSw); go_simp; first | done | with_reducible rfl
      try simp only [Act.put, List.setIfInBounds_toArray, List.set_cons_zero, List.set_cons_succ]
      refine wpAnyU_take (i := 4) (by simp only [List.getElem?_toArray, List.getElem?_cons_succ, List.getElem?_cons_zero]; rfl) (by kernel_rfl) (by kernel_rfl) (by kernel_rfl) (by kernel_rfl) (by kernel_rfl) (fun _ _ _ h => h) (yields_load (by rfl) _ _ rfl w.heap.size (i * 6) (by rfl) [.int .i64 ((m.row i).lo 0), .int .i64 ((m.row i).hi 0)] _ (HA.out.mat i 0 hi3 (by omega)) HA.out.lt Try.underlying32 rfl (by kernel_rfl)) (by assumption) ?_
      try simp only [Act.put, List.setIfInBounds_toArray, List.set_cons_zero, List.set_cons_succ]
      refine wpAnyU_take (i := 5) (v := ?_) (by simp only [List.getElem?_toArray, List.getElem?_cons_succ, List.getElem?_cons_zero]; rfl) (by kernel_rfl) (by kernel_rfl) (by kernel_rfl) (by kernel_rfl) (by kernel_rfl) (fun _ _ _ h => h) (Or.inl ⟨by rfl, ?_⟩) (by assumption) ?_
      rotate_left
      · intro w hSw; (try dsimp only at hSw); go_simp; first | done | with_reducible rfl
      try simp only [Act.put, List.setIfInBounds_toArray, List.set_cons_zero, List.set_cons_succ]
      refine wpAnyU_take (i := 6) (by simp only [List.getElem?_toArray, List.getElem?_cons_succ, List.getElem?_cons_zero]; rfl) (by kernel_rfl) (by kernel_rfl) (by kernel_rfl) (by kernel_rfl) (by kernel_rfl) (fun _ _ _ h => h) (yields_load (by rfl) _ _ rfl (w.heap.size + 1) (0) (by rfl) [.int .i64 (v.lo 0), .int .i64 (v.hi 0)] _ (HB.out.two 0 (by omega)) HB.out.lt Try.underlying32 rfl (by kernel_rfl)) (by assumption) ?_
      try simp only [Act.put, List.setIfInBounds_toArray, List.set_cons_zero, List.set_cons_succ]
      refine wpAnyU_take (i := 8) (v := ?_) (by simp only [List.getElem?_toArray, List.getElem?_cons_succ, List.getElem?_cons_zero]; rfl) (by kernel_rfl) (by kernel_rfl) (by kernel_rfl) (by kernel_rfl) (by kernel_rfl) (fun _ _ _ h => h) (Or.inl ⟨by rfl, ?_⟩) (by assumption) ?_
      rotate_left
      · intro w hSw; (try dsimp only at hSw); go_simp; first | done | with_reducible rfl
      try simp only [Act.put, List.setIfInBounds_toArray, List.set_cons_zero, List.set_cons_succ]
      refine wpAnyU_take (i := 9) (v := ?_) (by simp only [List.getElem?_toArray, List.getElem?_cons_succ, List.getElem?_cons_zero]; rfl) (by kernel_rfl) (by kernel_rfl) (by kernel_rfl) (by kernel_rfl) (by kernel_rfl) (fun _ _ _ h => h) (Or.inl ⟨by rfl, ?_⟩) (by assumption) ?_
      rotate_left
      · intro w hSw; (try dsimp only at hSw); go_simp; first | done | with_reducible rfl
      try simp only [Act.put, List.setIfInBounds_toArray, List.set_cons_zero, List.set_cons_succ]
      refine wpAnyU_take (i := 10) (v := ?_) (by simp only [List.getElem?_toArray, List.getElem?_cons_succ, List.getElem?_cons_zero]; rfl) (by kernel_rfl) (by kernel_rfl) (by kernel_rfl) (by kernel_rfl) (by kernel_rfl) (fun _ _ _ h => h) (Or.inl ⟨by rfl, ?_⟩) (by assumption) ?_
      rotate_left
      · intro w hSw; (try dsimp only at hSw); go_simp; first | done | with_reducible rfl
      try simp only [Act.put, List.setIfInBounds_toArray, List.set_cons_zero, List.set_cons_succ]
      refine wpAnyU_take (i := 11) (by simp only [List.getElem?_toArray, List.getElem?_cons_succ, List.getElem?_cons_zero]; rfl) (by kernel_rfl) (by kernel_rfl) (by kernel_rfl) (by kernel_rfl) (by kernel_rfl) (fun _ _ _ h => h) (yields_load (by rfl) _ _ rfl w.heap.size (i * 6 + 2) (by rfl) [.int .i64 ((m.row i).lo 1), .int .i64 ((m.row i).hi 1)] _ (HA.out.mat i 1 hi3 (by omega)) HA.out.lt Try.underlying32 rfl (by kernel_rfl)) (by assumption) ?_
      try simp only [Act.put, List.setIfInBounds_toArray, List.set_cons_zero, List.set_cons_succ]
      refine wpAnyU_take (i := 12) (v := ?_) (by simp only [List.getElem?_toArray, List.getElem?_cons_succ, List.getElem?_cons_zero]; rfl) (by kernel_rfl) (by kernel_rfl) (by kernel_rfl) (by kernel_rfl) (by kernel_rfl) (fun _ _ _ h => h) (Or.inl ⟨by rfl, ?_⟩) (by assumption) ?_
      rotate_left
      · intro w hSw; (try dsimp only at hSw); go_simp; first | done | with_reducible rfl
      try simp only [Act.put, List.setIfInBounds_toArray, List.set_cons_zero, List.set_cons_succ]
      refine wpAnyU_take (i := 13) (by simp only [List.getElem?_toArray, List.getElem?_cons_succ, List.getElem?_cons_zero]; rfl) (by kernel_rfl) (by kernel_rfl) (by kernel_rfl) (by kernel_rfl) (by kernel_rfl) (fun _ _ _ h => h) (yields_load (by rfl) _ _ rfl (w.heap.size + 1) (2) (by rfl) [.int .i64 (v.lo 1), .int .i64 (v.hi 1)] _ (HB.out.two 1 (by omega)) HB.out.lt Try.underlying32 rfl (by kernel_rfl)) (by assumption) ?_
      try simp only [Act.put, List.setIfInBounds_toArray, List.set_cons_zero, List.set_cons_succ]
      refine wpAnyU_take (i := 16) (v := ?_) (by simp only [List.getElem?_toArray, List.getElem?_cons_succ, List.getElem?_cons_zero]; rfl) (by kernel_rfl) (by kernel_rfl) (by kernel_rfl) (by kernel_rfl) (by kernel_rfl) (fun _ _ _ h => h) (Or.inl ⟨by rfl, ?_⟩) (by assumption) ?_
      rotate_left
      · intro w hSw; (try dsimp only at hSw); go_simp; first | done | with_reducible rfl
      try simp only [Act.put, List.setIfInBounds_toArray, List.set_cons_zero, List.set_cons_succ]
      refine wpAnyU_take (i := 17) (v := ?_) (by simp only [List.getElem?_toArray, List.getElem?_cons_succ, List.getElem?_cons_zero]; rfl) (by kernel_rfl) (by kernel_rfl) (by kernel_rfl) (by kernel_rfl) (by kernel_rfl) (fun _ _ _ h => h) (Or.inl ⟨by rfl, ?_⟩) (by assumption) ?_
      rotate_left
      · intro w hSw; (try dsimp only at hSw); go_simp; first | done | with_reducible rfl
      try simp only [Act.put, List.setIfInBounds_toArray, List.set_cons_zero, List.set_cons_succ]
      refine wpAnyU_take (i := 18) (v := ?_) (by simp only [List.getElem?_toArray, List.getElem?_cons_succ, List.getElem?_cons_zero]; rfl) (by kernel_rfl) (by kernel_rfl) (by kernel_rfl) (by kernel_rfl) (by kernel_rfl) (fun _ _ _ h => h) (Or.inl ⟨by rfl, ?_⟩) (by assumption) ?_
      rotate_left
      · intro w hSw; (try dsimp only at hSw); go_simp; first | done | with_reducible rfl
      try simp only [Act.put, List.setIfInBounds_toArray, List.set_cons_zero, List.set_cons_succ]
      refine wpAnyU_take (i := 19) (by simp only [List.getElem?_toArray, List.getElem?_cons_succ, List.getElem?_cons_zero]; rfl) (by kernel_rfl) (by kernel_rfl) (by kernel_rfl) (by kernel_rfl) (by kernel_rfl) (fun _ _ _ h => h) (yields_load (by rfl) _ _ rfl w.heap.size (i * 6 + 4) (by rfl) [.int .i64 ((m.row i).lo 2), .int .i64 ((m.row i).hi 2)] _ (HA.out.mat i 2 hi3 (by omega)) HA.out.lt Try.underlying32 rfl (by kernel_rfl)) (by assumption) ?_
      try simp only [Act.put, List.setIfInBounds_toArray, List.set_cons_zero, List.set_cons_succ]
      refine wpAnyU_take (i := 20) (v := ?_) (by simp only [List.getElem?_toArray, List.getElem?_cons_succ, List.getElem?_cons_zero]; rfl) (by kernel_rfl) (by kernel_rfl) (by kernel_rfl) (by kernel_rfl) (by kernel_rfl) (fun _ _ _ h => h) (Or.inl ⟨by rfl, ?_⟩) (by assumption) ?_
      rotate_left
      · intro w hSw; (try dsimp only at hSw); go_simp; first | done | with_reducible rfl
      try simp only [Act.put, List.setIfInBounds_toArray, List.set_cons_zero, List.set_cons_succ]
      refine wpAnyU_take (i := 21) (by simp only [List.getElem?_toArray, List.getElem?_cons_succ, List.getElem?_cons_zero]; rfl) (by kernel_rfl) (by kernel_rfl) (by kernel_rfl) (by kernel_rfl) (by kernel_rfl) (fun _ _ _ h => h) (yields_load (by rfl) _ _ rfl (w.heap.size + 1) (4) (by rfl) [.int .i64 (v.lo 2), .int .i64 (v.hi 2)] _ (HB.out.two 2 (by omega)) HB.out.lt Try.underlying32 rfl (by kernel_rfl)) (by assumption) ?_
      try simp only [Act.put, List.setIfInBounds_toArray, List.set_cons_zero, List.set_cons_succ]
      refine wpAnyU_ready (rs := [7]) (by kernel_rfl) (by simp) ?_
      refine AllReadyU.cons (by simp only [List.getElem?_toArray, List.getElem?_cons_succ, List.getElem?_cons_zero]; rfl) (fun K hK => ?_) AllReadyU.nil
      go_simp
      refine (rmul_any _ _ _ _ _).mono ?_
      rintro e w_7 ⟨rfl, hb_7⟩
      have hHeld' := ext_trans hHeld hb_7
      clear hHeld hb_7
      go_wp2_with fail
      refine hK.out _ _ hHeld' (fun hHeld => ?_)
      clear hK K hHeld'
      try simp only [Act.put, List.setIfInBounds_toArray, List.set_cons_zero, List.set_cons_succ]
      refine wpAnyU_ready (rs := [14]) (by kernel_rfl) (by simp) ?_
      refine AllReadyU.cons (by simp only [List.getElem?_toArray, List.getElem?_cons_succ, List.getElem?_cons_zero]; rfl) (fun K hK => ?_) AllReadyU.nil
      go_simp
      refine (rmul_any _ _ _ _ _).mono ?_
      rintro e w_14 ⟨rfl, hb_14⟩
      have hHeld' := ext_trans hHeld hb_14
      clear hHeld hb_14
      go_wp2_with fail
      refine hK.out _ _ hHeld' (fun hHeld => ?_)
      clear hK K hHeld'
      try simp only [Act.put, List.setIfInBounds_toArray, List.set_cons_zero, List.set_cons_succ]
      refine wpAnyU_ready (rs := [15]) (by kernel_rfl) (by simp) ?_
      refine AllReadyU.cons (by simp only [List.getElem?_toArray, List.getElem?_cons_succ, List.getElem?_cons_zero]; rfl) (fun K hK => ?_) AllReadyU.nil
      go_simp
      refine (radd_any _ _ _ _ _).mono ?_
      rintro e w_15 ⟨rfl, hb_15⟩
      have hHeld' := ext_trans hHeld hb_15
      clear hHeld hb_15
      go_wp2_with fail
      refine hK.out _ _ hHeld' (fun hHeld => ?_)
      clear hK K hHeld'
      try simp only [Act.put, List.setIfInBounds_toArray, List.set_cons_zero, List.set_cons_succ]
      refine wpAnyU_ready (rs := [22]) (by kernel_rfl) (by simp) ?_
      refine AllReadyU.cons (by simp only [List.getElem?_toArray, List.getElem?_cons_succ, List.getElem?_cons_zero]; rfl) (fun K hK => ?_) AllReadyU.nil
      go_simp
      refine (rmul_any _ _ _ _ _).mono ?_
      rintro e w_22 ⟨rfl, hb_22⟩
      have hHeld' := ext_trans hHeld hb_22
      clear hHeld hb_22
      go_wp2_with fail
      refine hK.out _ _ hHeld' (fun hHeld => ?_)
      clear hK K hHeld'
      try simp only [Act.put, List.setIfInBounds_toArray, List.set_cons_zero, List.set_cons_succ]
      refine wpAnyU_ready (rs := [23]) (by kernel_rfl) (by simp) ?_
      refine AllReadyU.cons (by simp only [List.getElem?_toArray, List.getElem?_cons_succ, List.getElem?_cons_zero]; rfl) (fun K hK => ?_) AllReadyU.nil
      go_simp
      refine (radd_any _ _ _ _ _).mono ?_
      rintro e w_23 ⟨rfl, hb_23⟩
      have hHeld' := ext_trans hHeld hb_23
      clear hHeld hb_23
      go_wp2_with fail
      refine hK.out _ _ hHeld' (fun hHeld => ?_)
      clear hK K hHeld'
      try simp only [Act.put, List.setIfInBounds_toArray, List.set_cons_zero, List.set_cons_succ]
      refine wpAnyU_take (i := 24) (v := ?_) (by simp only [List.getElem?_toArray, List.getElem?_cons_succ, List.getElem?_cons_zero]; rfl) (by kernel_rfl) (by kernel_rfl) (by kernel_rfl) (by kernel_rfl) (by kernel_rfl) (fun _ _ _ h => h) (Or.inl ⟨by rfl, ?_⟩) (by assumption) ?_
      rotate_left
      · intro w hSw; (try dsimp only at hSw); go_simp; first | done | with_reducible rfl
      try simp only [Act.put, List.setIfInBounds_toArray, List.set_cons_zero, List.set_cons_succ]
      have hD7 := HD.out.ext hHeld
      have HA7 := Lib.hid (HA.out.ext hHeld); have HB7 := Lib.hid (HB.out.ext hHeld); have HC7 := Lib.hid (HC.out.ext hHeld)
      have hB7 := ext_trans hb hHeld
      have e1 := congrArg Prod.fst HDt.out
      have e2 := congrArg Prod.snd HDt.out
      dsimp only at e1 e2
      rw [← e1, ← e2]
      clear HA HB HC HD hb hHeld HDt e1 e2
      refine wpAnyU_ready (rs := [25]) (by kernel_rfl) (by simp) ?_
      refine AllReadyU.last (by simp only [List.getElem?_toArray, List.getElem?_cons_succ, List.getElem?_cons_zero]; rfl) (fun K hK => ?_) AllReadyU.nil
      rw [if_pos (by rfl)]
      generalize hlo : (Fx.dot (m.row i) v 3).1 = lo at *
      generalize hhi : (Fx.dot (m.row i) v 3).2 = hi' at *
      clear hlo hhi
      refine wp_store_mid _ _ _ rfl (w.heap.size + 1 + 1 + 1) (i * 2) #[.int .i64 lo, .int .i64 hi'] rfl rfl (there_of hD7 _ _ (by simp [Fx.V3.arr]; omega)) (by kernel_rfl) (two_one _ _) ?_
      have HDn := Lib.hid (hD7.store2 (i * 2) (.int .i64 lo) (.int .i64 hi') HNx.out)
      have HAn := Lib.hid (HA7.out.farN [.int .i64 lo, .int .i64 hi'] (show w.heap.size ≠ w.heap.size + 1 + 1 + 1 by omega) (i * 2))
      have HBn := Lib.hid (HB7.out.farN [.int .i64 lo, .int .i64 hi'] (show w.heap.size + 1 ≠ w.heap.size + 1 + 1 + 1 by omega) (i * 2))
      have HCn := Lib.hid (HC7.out.farN [.int .i64 lo, .int .i64 hi'] (show w.heap.size + 1 + 1 ≠ w.heap.size + 1 + 1 + 1 by omega) (i * 2))
      have hBn := ext_setN [.int .i64 lo, .int .i64 hi'] hB7 (show w.heap.size ≤ w.heap.size + 1 + 1 + 1 by omega) (i * 2)
      refine hK.out _ _ ?_
      clear hK K hD7 HA7 HB7 HC7 hB7
      try simp only [Act.put, List.setIfInBounds_toArray, List.set_cons_zero, List.set_cons_succ]
      refine wpAnyU_done (by kernel_rfl) ?_ _
      refine NoPanic.normal ?_
      generalize w_23.setCells (w.heap.size + 1 + 1 + 1) (i * 2) [.int .i64 lo, .int .i64 hi'] = w8 at *
      go_wp2_with fail
      go_roundw
      case rel => exact ⟨i + 1, by omega, by go_num, HAn.out, HBn.out, HCn.out, HDn.out, hBn⟩
      case measure => simp [intOf]; omega
    · obtain rfl : i = 3 := by omega
      rw [Fx.endsTo_three] at hD
      generalize hx : Fx.ofEnds (fun i => (Fx.dot (m.row i) v 3).1) (fun i => (Fx.dot (m.row i) v 3).2) = x at *
      have HX : Hid (Fx.applyM m v = x) := Lib.hid hx
      obtain ⟨⟨z0, z1, z2, z3, z4, z5⟩, ⟨y0, y1, y2, y3, y4, y5⟩⟩ := hC.six
      obtain ⟨⟨s0, s1, s2, s3, s4, s5⟩, _⟩ := hD.six
      simp only [Fx.V3.zero] at z0 z1 z2 z3 z4 z5
      clear hA hB hC hD hx HA HB HD
      go_wp2_with fail
      exact bodyPost_ret (ret_rapplym (x := x) (set6_whole x HC.out) rfl) rfl ⟨by rw [HX.out], set6_ext x hb (show w.heap.size ≤ w.heap.size + 1 + 1 by omega)⟩

/-- A pose: a matrix and a shift. -/
structure Fx.Ps where
  (R : Fx.M3)
  (T : Fx.V3)
def Fx.Ps.arr (p : Fx.Ps) : Array Value := p.R.arr ++ p.T.arr
def Fx.applyP (p : Fx.Ps) (v : Fx.V3) : Fx.V3 := Fx.addV p.T (Fx.applyM p.R v)
theorem Fx.Ps.mat (p : Fx.Ps) (j : Nat) (v : Value) (h : p.R.arr.toList[j]? = some v) : p.arr[0 + j]? = some v := by
  have h1 : p.R.arr.size = 18 := rfl
  have hj : j < 18 := by
    by_cases c : j < 18
    · exact c
    · rw [List.getElem?_eq_none (by rw [Array.length_toList, h1]; omega)] at h; cases h
  unfold Fx.Ps.arr
  rw [Nat.zero_add, Array.getElem?_append_left (by omega)]
  simpa using h
theorem Fx.Ps.vec (p : Fx.Ps) (j : Nat) (v : Value) (h : p.T.arr.toList[j]? = some v) : p.arr[18 + j]? = some v := by
  have h1 : p.R.arr.size = 18 := rfl
  unfold Fx.Ps.arr
  rw [Array.getElem?_append_right (by omega), h1, Nat.add_sub_cancel_left]
  simpa using h

theorem ret_rapply {tmps : Array Value} {w : World} {g : Nat} {x : Fx.V3} (hW : Whole w g 34 x.arr) (h2 : tmps.getD 4 undef = .pointer (some ⟨g, 0, none⟩)) :
    (results Try.f63 tmps).run Try.prog w = .ok (.agg x.arr) w := by
  obtain ⟨⟨c0, c1, c2, c3, c4, c5⟩, _⟩ := hW.six
  clear hW
  have h2' : tmps[4]?.getD undef = .pointer (some ⟨g, 0, none⟩) := by simpa using h2
  simp [results, Try.results63, go_sem, h2', c0, c1, c2, c3, c4, c5, Fx.V3.arr]

set_option maxRecDepth 100000 in
set_option maxHeartbeats 2000000 in
theorem rapply_any (p : Fx.Ps) (v : Fx.V3) (w : World) :
    Calls Try.prog 63 #[.agg p.arr, .agg v.arr] w fun e w' => e = .returned (.agg (Fx.applyP p v).arr) ∧ Below w.heap.size w w' := by
  go_enter Try.func63, Try.ntmps63
  go_wp2_with fail
  have h3 := blocks3 w 52 34 34 p.arr v.arr zero6
  generalize ((w.alloc (.cells p.arr 52)).alloc (.cells v.arr 34)).alloc (.cells zero6 34) = wr at *
  obtain ⟨hA, hB, hC0, hb⟩ := h3
  have HA := Lib.hid hA; have HB := Lib.hid hB
  have HC : Hid (Whole wr (w.heap.size + 1 + 1) 34 Fx.V3.zero.arr) := Lib.hid hC0
  clear hA hB hC0
  refine wp_region_noPanic ?_
  refine wp_region_until_drew (k := 7) (S := fun w' => Below wr.heap.size wr w') (by kernel_rfl) (ext_drew (ext_refl _)) (fun hHeld => ?_)
  refine wpAnyU_take (i := 0) (v := ?_) (by simp only [List.getElem?_toArray, List.getElem?_cons_succ, List.getElem?_cons_zero]; rfl) (by kernel_rfl) (by kernel_rfl) (by kernel_rfl) (by kernel_rfl) (by kernel_rfl) (fun _ _ _ h => h) (Or.inl ⟨by rfl, ?_⟩) (by assumption) ?_
  rotate_left
  · intro w hSw; (try dsimp only at hSw); go_simp; first | done | with_reducible rfl
  try simp only [Act.put, List.setIfInBounds_toArray, List.set_cons_zero, List.set_cons_succ]
  refine wpAnyU_take (i := 1) (by simp only [List.getElem?_toArray, List.getElem?_cons_succ, List.getElem?_cons_zero]; rfl) (by kernel_rfl) (by kernel_rfl) (by kernel_rfl) (by kernel_rfl) (by kernel_rfl) (fun _ _ _ h => h) (yields_load (by rfl) _ _ rfl w.heap.size (18) (by rfl) p.T.arr.toList _ (HA.out.range 18 _ p.vec) HA.out.lt Try.underlying34 rfl (by kernel_rfl)) (by assumption) ?_
  try simp only [Act.put, List.setIfInBounds_toArray, List.set_cons_zero, List.set_cons_succ]
  refine wpAnyU_take (i := 2) (v := ?_) (by simp only [List.getElem?_toArray, List.getElem?_cons_succ, List.getElem?_cons_zero]; rfl) (by kernel_rfl) (by kernel_rfl) (by kernel_rfl) (by kernel_rfl) (by kernel_rfl) (fun _ _ _ h => h) (Or.inl ⟨by rfl, ?_⟩) (by assumption) ?_
  rotate_left
  · intro w hSw; (try dsimp only at hSw); go_simp; first | done | with_reducible rfl
  try simp only [Act.put, List.setIfInBounds_toArray, List.set_cons_zero, List.set_cons_succ]
  refine wpAnyU_take (i := 3) (by simp only [List.getElem?_toArray, List.getElem?_cons_succ, List.getElem?_cons_zero]; rfl) (by kernel_rfl) (by kernel_rfl) (by kernel_rfl) (by kernel_rfl) (by kernel_rfl) (fun _ _ _ h => h) (yields_load (by rfl) _ _ rfl w.heap.size (0) (by rfl) p.R.arr.toList _ (HA.out.range 0 _ p.mat) HA.out.lt Try.underlying50 rfl (by kernel_rfl)) (by assumption) ?_
  try simp only [Act.put, List.setIfInBounds_toArray, List.set_cons_zero, List.set_cons_succ]
  refine wpAnyU_take (i := 4) (by simp only [List.getElem?_toArray, List.getElem?_cons_succ, List.getElem?_cons_zero]; rfl) (by kernel_rfl) (by kernel_rfl) (by kernel_rfl) (by kernel_rfl) (by kernel_rfl) (fun _ _ _ h => h) (yields_load (by rfl) _ _ rfl (w.heap.size + 1) (0) (by rfl) v.arr.toList _ HB.out.all HB.out.lt Try.underlying34 rfl (by kernel_rfl)) (by assumption) ?_
  try simp only [Act.put, List.setIfInBounds_toArray, List.set_cons_zero, List.set_cons_succ]
  refine wpAnyU_ready (rs := [5]) (by kernel_rfl) (by simp) ?_
  refine AllReadyU.cons (by simp only [List.getElem?_toArray, List.getElem?_cons_succ, List.getElem?_cons_zero]; rfl) (fun K hK => ?_) AllReadyU.nil
  go_simp
  refine (rapplym_any p.R v _).mono ?_
  rintro e w_5 ⟨rfl, hb_5⟩
  have hHeld' := ext_trans hHeld hb_5
  clear hHeld hb_5
  go_wp2_with fail
  refine hK.out _ _ hHeld' (fun hHeld => ?_)
  clear hK K hHeld'
  try simp only [Act.put, List.setIfInBounds_toArray, List.set_cons_zero, List.set_cons_succ]
  refine wpAnyU_ready (rs := [6]) (by kernel_rfl) (by simp) ?_
  refine AllReadyU.cons (by simp only [List.getElem?_toArray, List.getElem?_cons_succ, List.getElem?_cons_zero]; rfl) (fun K hK => ?_) AllReadyU.nil
  go_simp
  refine (raddv_any p.T (Fx.applyM p.R v) _).mono ?_
  rintro e w_6 ⟨rfl, hb_6⟩
  have hHeld' := ext_trans hHeld hb_6
  clear hHeld hb_6
  go_wp2_with fail
  refine hK.out _ _ hHeld' (fun hHeld => ?_)
  clear hK K hHeld'
  try simp only [Act.put, List.setIfInBounds_toArray, List.set_cons_zero, List.set_cons_succ]
  have hC := HC.out.ext hHeld
  have hB7 := ext_trans hb hHeld
  refine wpAnyU_ready (rs := [7]) (by kernel_rfl) (by simp) ?_
  refine AllReadyU.last (by simp only [List.getElem?_toArray, List.getElem?_cons_succ, List.getElem?_cons_zero]; rfl) (fun K hK => ?_) AllReadyU.nil
  rw [if_pos (by rfl)]
  refine wp_store_mid _ _ _ rfl (w.heap.size + 1 + 1) 0 (Fx.applyP p v).arr rfl rfl (there6 hC) (by kernel_rfl) (arr_one _) ?_
  have HDn : Hid (Whole (w_6.setCells (w.heap.size + 1 + 1) 0 (Fx.applyP p v).arr.toList) (w.heap.size + 1 + 1) 34 (Fx.applyP p v).arr) := Lib.hid (set6_whole (Fx.applyP p v) hC)
  have hBn := ext_setN (Fx.applyP p v).arr.toList hB7 (show w.heap.size ≤ w.heap.size + 1 + 1 by omega) 0
  refine hK.out _ _ ?_
  clear hK K hC hB7 hHeld
  try simp only [Act.put, List.setIfInBounds_toArray, List.set_cons_zero, List.set_cons_succ]
  refine wpAnyU_done (by kernel_rfl) ?_ _
  refine NoPanic.normal ?_
  generalize w_6.setCells (w.heap.size + 1 + 1) 0 (Fx.applyP p v).arr.toList = w8 at *
  go_wp2_with fail
  exact bodyPost_ret (ret_rapply HDn.out rfl) rfl ⟨rfl, hBn⟩
end Go.Proofs.Ytgnjconhbloocaa

namespace Go.Proofs.Ytgnjconhbloocaa
open Go.RowKit
set_option linter.unusedVariables false

set_option maxRecDepth 100000 in
theorem mover_any (p : Fx.Ps) (w : World) :
    Calls Try.prog 64 #[.agg p.arr] w fun e w' => e = .returned (.func (.func 77) #[] #[.pointer (some ⟨w.heap.size, 0, none⟩)]) ∧ w' = w.alloc (.cells p.arr 52) := by
  go_enter Try.func64, Try.ntmps64
  go_wp2_with fail
  go_ret
  exact ⟨rfl, rfl⟩

theorem ret_moved {tmps : Array Value} {w : World} {g : Nat} {x : Fx.V3} (hW : Whole w g 34 x.arr) (h2 : tmps.getD 3 undef = .pointer (some ⟨g, 0, none⟩)) :
    (results Try.f77 tmps).run Try.prog w = .ok (.agg x.arr) w := by
  obtain ⟨⟨c0, c1, c2, c3, c4, c5⟩, _⟩ := hW.six
  clear hW
  have h2' : tmps[3]?.getD undef = .pointer (some ⟨g, 0, none⟩) := by simpa using h2
  simp [results, Try.results77, go_sem, h2', c0, c1, c2, c3, c4, c5, Fx.V3.arr]

set_option maxRecDepth 100000 in
set_option maxHeartbeats 2000000 in
theorem moved_any (p : Fx.Ps) (v : Fx.V3) (g : Nat) (w : World) (hP : Whole w g 52 p.arr) :
    Calls Try.prog 77 #[.agg v.arr, .pointer (some ⟨g, 0, none⟩)] w fun e w' => e = .returned (.agg (Fx.applyP p v).arr) ∧ Below w.heap.size w w' := by
  have HP := Lib.hid hP
  clear hP
  go_enter Try.func77, Try.ntmps77
  go_wp2_with fail
  have h2 := blocks2 w 34 34 v.arr zero6
  generalize (w.alloc (.cells v.arr 34)).alloc (.cells zero6 34) = wr at *
  obtain ⟨hB, hC0, hb⟩ := h2
  have HA := Lib.hid (HP.out.ext hb); have HB := Lib.hid hB
  have HC : Hid (Whole wr (w.heap.size + 1) 34 Fx.V3.zero.arr) := Lib.hid hC0
  clear hB hC0 HP
  refine wp_region_noPanic ?_
  refine wp_region_until_drew (k := 7) (S := fun w' => Below wr.heap.size wr w') (by kernel_rfl) (ext_drew (ext_refl _)) (fun hHeld => ?_)
  refine wpAnyU_take (i := 0) (v := ?_) (by simp only [List.getElem?_toArray, List.getElem?_cons_succ, List.getElem?_cons_zero]; rfl) (by kernel_rfl) (by kernel_rfl) (by kernel_rfl) (by kernel_rfl) (by kernel_rfl) (fun _ _ _ h => h) (Or.inl ⟨by rfl, ?_⟩) (by assumption) ?_
  rotate_left
  · intro w hSw; (try dsimp only at hSw); go_simp; first | done | with_reducible rfl
  try simp only [Act.put, List.setIfInBounds_toArray, List.set_cons_zero, List.set_cons_succ]
  refine wpAnyU_take (i := 1) (by simp only [List.getElem?_toArray, List.getElem?_cons_succ, List.getElem?_cons_zero]; rfl) (by kernel_rfl) (by kernel_rfl) (by kernel_rfl) (by kernel_rfl) (by kernel_rfl) (fun _ _ _ h => h) (yields_load (by rfl) _ _ rfl g (18) (by rfl) p.T.arr.toList _ (HA.out.range 18 _ p.vec) HA.out.lt Try.underlying34 rfl (by kernel_rfl)) (by assumption) ?_
  try simp only [Act.put, List.setIfInBounds_toArray, List.set_cons_zero, List.set_cons_succ]
  refine wpAnyU_take (i := 2) (v := ?_) (by simp only [List.getElem?_toArray, List.getElem?_cons_succ, List.getElem?_cons_zero]; rfl) (by kernel_rfl) (by kernel_rfl) (by kernel_rfl) (by kernel_rfl) (by kernel_rfl) (fun _ _ _ h => h) (Or.inl ⟨by rfl, ?_⟩) (by assumption) ?_
  rotate_left
  · intro w hSw; (try dsimp only at hSw); go_simp; first | done | with_reducible rfl
  try simp only [Act.put, List.setIfInBounds_toArray, List.set_cons_zero, List.set_cons_succ]
  refine wpAnyU_take (i := 3) (by simp only [List.getElem?_toArray, List.getElem?_cons_succ, List.getElem?_cons_zero]; rfl) (by kernel_rfl) (by kernel_rfl) (by kernel_rfl) (by kernel_rfl) (by kernel_rfl) (fun _ _ _ h => h) (yields_load (by rfl) _ _ rfl g (0) (by rfl) p.R.arr.toList _ (HA.out.range 0 _ p.mat) HA.out.lt Try.underlying50 rfl (by kernel_rfl)) (by assumption) ?_
  try simp only [Act.put, List.setIfInBounds_toArray, List.set_cons_zero, List.set_cons_succ]
  refine wpAnyU_take (i := 4) (by simp only [List.getElem?_toArray, List.getElem?_cons_succ, List.getElem?_cons_zero]; rfl) (by kernel_rfl) (by kernel_rfl) (by kernel_rfl) (by kernel_rfl) (by kernel_rfl) (fun _ _ _ h => h) (yields_load (by rfl) _ _ rfl w.heap.size (0) (by rfl) v.arr.toList _ HB.out.all HB.out.lt Try.underlying34 rfl (by kernel_rfl)) (by assumption) ?_
  try simp only [Act.put, List.setIfInBounds_toArray, List.set_cons_zero, List.set_cons_succ]
  refine wpAnyU_ready (rs := [5]) (by kernel_rfl) (by simp) ?_
  refine AllReadyU.cons (by simp only [List.getElem?_toArray, List.getElem?_cons_succ, List.getElem?_cons_zero]; rfl) (fun K hK => ?_) AllReadyU.nil
  go_simp
  refine (mapply_any p.R v _).mono ?_
  rintro e w_5 ⟨rfl, hb_5⟩
  have hHeld' := ext_trans hHeld hb_5
  clear hHeld hb_5
  go_wp2_with fail
  refine hK.out _ _ hHeld' (fun hHeld => ?_)
  clear hK K hHeld'
  try simp only [Act.put, List.setIfInBounds_toArray, List.set_cons_zero, List.set_cons_succ]
  refine wpAnyU_ready (rs := [6]) (by kernel_rfl) (by simp) ?_
  refine AllReadyU.cons (by simp only [List.getElem?_toArray, List.getElem?_cons_succ, List.getElem?_cons_zero]; rfl) (fun K hK => ?_) AllReadyU.nil
  go_simp
  refine (madd_any p.T (Fx.applyM p.R v) _).mono ?_
  rintro e w_6 ⟨rfl, hb_6⟩
  have hHeld' := ext_trans hHeld hb_6
  clear hHeld hb_6
  go_wp2_with fail
  refine hK.out _ _ hHeld' (fun hHeld => ?_)
  clear hK K hHeld'
  try simp only [Act.put, List.setIfInBounds_toArray, List.set_cons_zero, List.set_cons_succ]
  have hC := HC.out.ext hHeld
  have hB7 := ext_trans hb hHeld
  refine wpAnyU_ready (rs := [7]) (by kernel_rfl) (by simp) ?_
  refine AllReadyU.last (by simp only [List.getElem?_toArray, List.getElem?_cons_succ, List.getElem?_cons_zero]; rfl) (fun K hK => ?_) AllReadyU.nil
  rw [if_pos (by rfl)]
  refine wp_store_mid _ _ _ rfl (w.heap.size + 1) 0 (Fx.applyP p v).arr rfl rfl (there6 hC) (by kernel_rfl) (arr_one _) ?_
  have HDn : Hid (Whole (w_6.setCells (w.heap.size + 1) 0 (Fx.applyP p v).arr.toList) (w.heap.size + 1) 34 (Fx.applyP p v).arr) := Lib.hid (set6_whole (Fx.applyP p v) hC)
  have hBn := ext_setN (Fx.applyP p v).arr.toList hB7 (show w.heap.size ≤ w.heap.size + 1 by omega) 0
  refine hK.out _ _ ?_
  clear hK K hC hB7 hHeld
  try simp only [Act.put, List.setIfInBounds_toArray, List.set_cons_zero, List.set_cons_succ]
  refine wpAnyU_done (by kernel_rfl) ?_ _
  refine NoPanic.normal ?_
  generalize w_6.setCells (w.heap.size + 1) 0 (Fx.applyP p v).arr.toList = w8 at *
  go_wp2_with fail
  exact bodyPost_ret (ret_moved HDn.out rfl) rfl ⟨rfl, hBn⟩

theorem ret_papply {tmps : Array Value} {w : World} {g : Nat} {x : Fx.V3} (hW : Whole w g 34 x.arr) (h2 : tmps.getD 4 undef = .pointer (some ⟨g, 0, none⟩)) :
    (results Try.f47 tmps).run Try.prog w = .ok (.agg x.arr) w := by
  obtain ⟨⟨c0, c1, c2, c3, c4, c5⟩, _⟩ := hW.six
  clear hW
  have h2' : tmps[4]?.getD undef = .pointer (some ⟨g, 0, none⟩) := by simpa using h2
  simp [results, Try.results47, go_sem, h2', c0, c1, c2, c3, c4, c5, Fx.V3.arr]

set_option maxRecDepth 100000 in
set_option maxHeartbeats 2000000 in
theorem papply_any (p : Fx.Ps) (v : Fx.V3) (w : World) :
    Calls Try.prog 47 #[.agg p.arr, .agg v.arr] w fun e w' => e = .returned (.agg (Fx.applyP p v).arr) ∧ Below w.heap.size w w' := by
  go_enter Try.func47, Try.ntmps47
  go_wp2_with fail
  have h3 := blocks3 w 52 34 34 p.arr v.arr zero6
  generalize ((w.alloc (.cells p.arr 52)).alloc (.cells v.arr 34)).alloc (.cells zero6 34) = wr at *
  obtain ⟨hA, hB, hC0, hb⟩ := h3
  have HA := Lib.hid hA; have HB := Lib.hid hB
  have HC : Hid (Whole wr (w.heap.size + 1 + 1) 34 Fx.V3.zero.arr) := Lib.hid hC0
  clear hA hB hC0
  refine wp_region_noPanic ?_
  refine wp_region_until_drew (k := 4) (S := fun w' => Below wr.heap.size wr w') (by kernel_rfl) (ext_drew (ext_refl _)) (fun hHeld => ?_)
  refine wpAnyU_take (i := 0) (by simp only [List.getElem?_toArray, List.getElem?_cons_succ, List.getElem?_cons_zero]; rfl) (by kernel_rfl) (by kernel_rfl) (by kernel_rfl) (by kernel_rfl) (by kernel_rfl) (fun _ _ _ h => h) (yields_load (by rfl) _ _ rfl w.heap.size (0) (by rfl) p.arr.toList _ HA.out.all HA.out.lt Try.underlying52 rfl (by kernel_rfl)) (by assumption) ?_
  try simp only [Act.put, List.setIfInBounds_toArray, List.set_cons_zero, List.set_cons_succ]
  refine wpAnyU_take (i := 2) (by simp only [List.getElem?_toArray, List.getElem?_cons_succ, List.getElem?_cons_zero]; rfl) (by kernel_rfl) (by kernel_rfl) (by kernel_rfl) (by kernel_rfl) (by kernel_rfl) (fun _ _ _ h => h) (yields_load (by rfl) _ _ rfl (w.heap.size + 1) (0) (by rfl) v.arr.toList _ HB.out.all HB.out.lt Try.underlying34 rfl (by kernel_rfl)) (by assumption) ?_
  try simp only [Act.put, List.setIfInBounds_toArray, List.set_cons_zero, List.set_cons_succ]
  refine wpAnyU_ready (rs := [1]) (by kernel_rfl) (by simp) ?_
  refine AllReadyU.cons (by simp only [List.getElem?_toArray, List.getElem?_cons_succ, List.getElem?_cons_zero]; rfl) (fun K hK => ?_) AllReadyU.nil
  go_simp
  refine (mover_any p _).mono ?_
  rintro e w1 ⟨rfl, rfl⟩
  have hHeld' := ext_alloc hHeld (.cells p.arr 52)
  clear hHeld
  go_wp2_with fail
  refine hK.out _ _ hHeld' (fun hHeld => ?_)
  clear hK K hHeld'
  try simp only [Act.put, List.setIfInBounds_toArray, List.set_cons_zero, List.set_cons_succ]
  refine wpAnyU_ready (rs := [3]) (by kernel_rfl) (by simp) ?_
  refine AllReadyU.cons (by simp only [List.getElem?_toArray, List.getElem?_cons_succ, List.getElem?_cons_zero]; rfl) (fun K hK => ?_) AllReadyU.nil
  go_simp
  refine (moved_any p v _ _ (Whole.new wr 52 p.arr).drew).mono ?_
  rintro e w_3 ⟨rfl, hb_3⟩
  have hHeld' := ext_trans hHeld hb_3
  clear hHeld hb_3
  go_wp2_with fail
  refine hK.out _ _ hHeld' (fun hHeld => ?_)
  clear hK K hHeld'
  try simp only [Act.put, List.setIfInBounds_toArray, List.set_cons_zero, List.set_cons_succ]
  have hC := HC.out.ext hHeld
  have hB7 := ext_trans hb hHeld
  refine wpAnyU_ready (rs := [4]) (by kernel_rfl) (by simp) ?_
  refine AllReadyU.last (by simp only [List.getElem?_toArray, List.getElem?_cons_succ, List.getElem?_cons_zero]; rfl) (fun K hK => ?_) AllReadyU.nil
  rw [if_pos (by rfl)]
  refine wp_store_mid _ _ _ rfl (w.heap.size + 1 + 1) 0 (Fx.applyP p v).arr rfl rfl (there6 hC) (by kernel_rfl) (arr_one _) ?_
  have HDn : Hid (Whole (w_3.setCells (w.heap.size + 1 + 1) 0 (Fx.applyP p v).arr.toList) (w.heap.size + 1 + 1) 34 (Fx.applyP p v).arr) := Lib.hid (set6_whole (Fx.applyP p v) hC)
  have hBn := ext_setN (Fx.applyP p v).arr.toList hB7 (show w.heap.size ≤ w.heap.size + 1 + 1 by omega) 0
  refine hK.out _ _ ?_
  clear hK K hC hB7 hHeld
  try simp only [Act.put, List.setIfInBounds_toArray, List.set_cons_zero, List.set_cons_succ]
  refine wpAnyU_done (by kernel_rfl) ?_ _
  refine NoPanic.normal ?_
  generalize w_3.setCells (w.heap.size + 1 + 1) 0 (Fx.applyP p v).arr.toList = w8 at *
  go_wp2_with fail
  exact bodyPost_ret (ret_papply HDn.out rfl) rfl ⟨rfl, hBn⟩
end Go.Proofs.Ytgnjconhbloocaa

namespace Go.Proofs.Ytgnjconhbloocaa
open Go.RowKit
set_option linter.unusedVariables false

/-- The slice value v reads as the list P of points. -/
def PSl (w : World) (v : Value) (P : List (Int × Int × Int)) : Prop :=
  ∃ (a : Option Addr) (c : Nat), v = .slice a P.length c ∧ P.length ≤ 9223372036854775807 ∧ (0 < P.length → ∃ b o, a = some ⟨b, o, none⟩ ∧ b < w.heap.size ∧ ∀ i : Nat, i < P.length →
    w.cell? ⟨b, o + i * 3, none⟩ = some (.int .i64 (P.getD i (0, 0, 0)).1) ∧ w.cell? ⟨b, o + i * 3 + 1, none⟩ = some (.int .i64 (P.getD i (0, 0, 0)).2.1) ∧ w.cell? ⟨b, o + i * 3 + 2, none⟩ = some (.int .i64 (P.getD i (0, 0, 0)).2.2))
def Fx.boxed (P : List (Int × Int × Int)) : List Fx.V3 := P.map fun p => Fx.ofV p.1 p.2.1 p.2.2
theorem Fx.boxed_take (P : List (Int × Int × Int)) (k : Nat) (hk : k < P.length) : Fx.boxed (P.take (k + 1)) = Fx.boxed (P.take k) ++ [Fx.ofV (P.getD k (0, 0, 0)).1 (P.getD k (0, 0, 0)).2.1 (P.getD k (0, 0, 0)).2.2] := by
  unfold Fx.boxed
  rw [List.take_add_one, List.map_append, List.getD_eq_getElem?_getD, List.getElem?_eq_getElem hk]
  simp
theorem Fx.boxed_len (P : List (Int × Int × Int)) (k : Nat) (hk : k ≤ P.length) : (Fx.boxed (P.take k)).length = k := by
  unfold Fx.boxed
  simp; omega

set_option maxRecDepth 100000 in
set_option maxHeartbeats 1000000 in
theorem boxed_any (v : Value) (P : List (Int × Int × Int)) (w : World) (h : PSl w v P) (hn : P.length ≤ 40) :
    Calls Try.prog 30 #[v] w fun e w' => ∃ u, e = .returned u ∧ w'.ownsRow w.heap.size 34 6 u P.length (vCells (Fx.boxed P)) ∧ Below w.heap.size w w' := by
  obtain ⟨a, c, rfl, hl, h⟩ := h
  have H := Lib.hid h
  clear h
  obtain ⟨i0, hi, hz0, hz1, hz2⟩ := info_parts info_ivec
  go_enter Try.func30, Try.ntmps30
  go_wp2_with fail
  go_loopw [3, 4] (fun ov jv wr => ∃ k : Nat, k ≤ P.length ∧ jv = .int .i64 k ∧ wr.ownsRow w.heap.size 34 6 ov k (vCells (Fx.boxed (P.take k))) ∧ Below w.heap.size w wr) (fun _ jv _ => P.length - (intOf jv).toNat)
  case atStart => exact ⟨0, by omega, by go_num, World.ownsRow_nil _ _ _ _, ext_refl _⟩
  case round =>
    obtain ⟨k, hk, rfl, hown, hb⟩ := hrel
    by_cases hlt : k < P.length
    · obtain ⟨b, o, rfl, hbw, hc⟩ := H.out (by omega)
      obtain ⟨c0, c1, c2⟩ := hc k hlt
      have d0 := (hb.cell (p := ⟨b, o + k * 3, none⟩) hbw).trans c0
      have d1 := (hb.cell (p := ⟨b, o + k * 3 + 1, none⟩) hbw).trans c1
      have d2 := (hb.cell (p := ⟨b, o + k * 3 + 2, none⟩) hbw).trans c2
      have HE := Lib.hid (Fx.boxed_take P k hlt)
      have hlen := Fx.boxed_len P k hk
      have hd : decide ((k : Int) < (P.length : Int)) = true := by simp; omega
      have k0 : (0 : Int) ≤ (k : Int) := by omega
      have k1 : (k : Int) < (P.length : Int) := by omega
      clear hc c0 c1 c2
      generalize (P.getD k (0, 0, 0)).1 = x at *
      generalize (P.getD k (0, 0, 0)).2.1 = y at *
      generalize (P.getD k (0, 0, 0)).2.2 = z at *
      go_wp2_with fail
      refine (rpoint_any _ _ _ _).mono ?_
      rintro e w1 ⟨rfl, hb1⟩
      have hown1 := owns_ext hown hb1
      have hB1 := ext_trans hb hb1
      have hz := hB1.size
      generalize Fx.ofV x y z = q at *
      clear hown hb hb1 d0 d1 d2
      unfold Fx.V3.arr
      go_wp2_with (at_builtin; refine wpList_append_lies _ rfl _ _ _ rfl w.heap.size 34 i0 _ 6 48 Try.underlying22 hi hz0 hz1 hz2 rfl (by omega) _ k (vCells (Fx.boxed (P.take k))) rfl (hown1.alloc _) ⟨w1.heap.size, 0, none⟩ 1 1 q.cells rfl rfl (World.news_of_block (cs := #[.int .i64 q.a, .int .i64 q.b, .int .i64 q.c, .int .i64 q.d, .int .i64 q.e, .int .i64 q.f]) (t := 34) (fr := (0, 0)) (heap_alloc_new w1 _)) (by simp [Fx.V3.cells, Value.oneCell']) (by omega) (by unfold maxLen; omega) (by omega) (by simp; omega) (w1.heap.size + 1) (by simp) ?_; intro g' cap w2 hown2 hgrow hat hlt2)
      have hb2 : Below w.heap.size w w2 := (ext_alloc hB1 _).grown hgrow (by simp; omega) (fun k e => by have := (hown1.lt k e).1; omega)
      have hnext : w2.ownsRow w.heap.size 34 6 (.slice (some ⟨g', 0, none⟩) (k + 1) cap) (k + 1) (vCells (Fx.boxed (P.take (k + 1)))) := by
        rw [HE.out, vCells_snoc]; exact hown2
      have HN := Lib.hid hnext
      clear hnext hown2 hgrow hat hlt2 hown1 hB1
      go_wp2_with fail
      go_roundw
      case rel => exact ⟨k + 1, by omega, by go_num, HN.out, hb2⟩
      case measure => simp [intOf]; omega
    · obtain rfl : k = P.length := by omega
      have HO : Hid (wr.ownsRow w.heap.size 34 6 u3 P.length (vCells (Fx.boxed P))) := Lib.hid (by have := hown; rw [List.take_length] at this; exact this)
      clear hown
      go_wp2_with fail
      go_ret
      exact ⟨_, rfl, HO.out, hb⟩
end Go.Proofs.Ytgnjconhbloocaa

namespace Go.Proofs.Ytgnjconhbloocaa
open Go.RowKit
set_option linter.unusedVariables false

/-- The middle of a vector of intervals. -/
def Fx.ctr (x : Fx.V3) : Int × Int × Int := (Fx.mid x.a x.b, Fx.mid x.c x.d, Fx.mid x.e x.f)
def Fx.centers (L : List Fx.V3) : List (Int × Int × Int) := if Fx.placedB L then L.map Fx.ctr else []
theorem Fx.centers_no {L : List Fx.V3} (h : Fx.placedB L = false) : Fx.centers L = [] := by unfold Fx.centers; rw [h]; rfl
theorem Fx.centers_yes {L : List Fx.V3} (h : Fx.placedB L = true) : Fx.centers L = L.map Fx.ctr := by unfold Fx.centers; rw [h]; rfl

/-- Number t of the row of the middles. -/
def Fx.ctrAt (L : List Fx.V3) (t : Nat) : Int := Fx.mid ((L.getD (t / 3) Fx.V3.zero).lo (t % 3)) ((L.getD (t / 3) Fx.V3.zero).hi (t % 3))
theorem Fx.ctrAt_eq (L : List Fx.V3) (i k : Nat) (hk : k < 3) : Fx.ctrAt L (i * 3 + k) = Fx.mid ((L.getD i Fx.V3.zero).lo k) ((L.getD i Fx.V3.zero).hi k) := by
  unfold Fx.ctrAt
  rw [show (i * 3 + k) / 3 = i by omega, show (i * 3 + k) % 3 = k by omega]

/-- A row of N numbers of which the first m are those of f; the others are 0. -/
def rowTo (f : Nat → Int) (N m : Nat) : List Value := (List.range N).map fun t => .int .i64 (if t < m then f t else 0)
theorem rowTo_len (f : Nat → Int) (N m : Nat) : (rowTo f N m).length = N := by simp [rowTo]
theorem rowTo_get (f : Nat → Int) (N m t : Nat) (ht : t < N) : (rowTo f N m)[t]? = some (.int .i64 (if t < m then f t else 0)) := by simp [rowTo, ht]
theorem rowTo_set (f : Nat → Int) (N m : Nat) : (rowTo f N m).set m (.int .i64 (f m)) = rowTo f N (m + 1) := by
  apply List.ext_getElem?
  intro t
  rw [List.getElem?_set]
  by_cases ht : t < N
  · rw [rowTo_get f N m t ht, rowTo_get f N (m + 1) t ht, rowTo_len]
    by_cases e : m = t
    · subst e
      rw [if_pos rfl, if_pos ht, if_pos (by omega)]
    · rw [if_neg e]
      by_cases c : t < m
      · rw [if_pos c, if_pos (by omega)]
      · rw [if_neg c, if_neg (by omega)]
  · rw [List.getElem?_eq_none (by rw [rowTo_len]; omega), List.getElem?_eq_none (by rw [rowTo_len]; omega), rowTo_len]
    by_cases e : m = t
    · rw [if_pos e, if_neg (by omega)]
    · rw [if_neg e]
theorem made_vecs (f : Nat → Int) (n : Nat) : (madeCells (Value.agg #[.int .i64 0, .int .i64 0, .int .i64 0]).cells (n * 3)).toList = rowTo f (n * 3) 0 := by
  apply List.ext_getElem?
  intro t
  by_cases ht : t < n * 3
  · rw [rowTo_get f _ _ t ht]
    have h3 : t % 3 = 0 ∨ t % 3 = 1 ∨ t % 3 = 2 := by omega
    simp [madeCells, Value.cells, ht]
    rcases h3 with h | h | h <;> simp [h]
  · rw [List.getElem?_eq_none (l := rowTo f (n * 3) 0) (by rw [rowTo_len]; omega)]
    rw [List.getElem?_eq_none]
    simp [madeCells, Value.cells]
    omega

theorem PSl.ext {w w' : World} {v : Value} {P : List (Int × Int × Int)} (h : PSl w v P) (hb : Below w.heap.size w w') : PSl w' v P := by
  obtain ⟨a, c, hv, hl, h⟩ := h
  refine ⟨a, c, hv, hl, fun h0 => ?_⟩
  obtain ⟨b, o, ha, hbw, hI⟩ := h h0
  refine ⟨b, o, ha, Nat.lt_of_lt_of_le hbw hb.size, fun i hi => ?_⟩
  obtain ⟨h1, h2, h3⟩ := hI i hi
  exact ⟨(hb.cell (p := ⟨b, _, none⟩) hbw).trans h1, (hb.cell (p := ⟨b, _, none⟩) hbw).trans h2, (hb.cell (p := ⟨b, _, none⟩) hbw).trans h3⟩
theorem PSl.nil (w : World) (a : Option Addr) (c : Nat) : PSl w (.slice a 0 c) [] := ⟨a, c, rfl, by simp, fun h => absurd h (by simp)⟩

theorem map_ctr_getD (L : List Fx.V3) (i : Nat) (hi : i < L.length) : (L.map Fx.ctr).getD i (0, 0, 0) = Fx.ctr (L.getD i Fx.V3.zero) := by
  simp only [List.getD_eq_getElem?_getD, List.getElem?_map, List.getElem?_eq_getElem hi]; rfl

theorem PSl.of_row {w : World} {base : Nat} {e : TypeId} {v : Value} {L : List Fx.V3} (h : w.ownsRow base e 3 v L.length (rowTo (Fx.ctrAt L) (L.length * 3) (L.length * 3))) (hn : L.length ≤ 8) : PSl w v (L.map Fx.ctr) := by
  have hl := h.lt
  have h' := h
  obtain ⟨h0, h⟩ := h
  rcases h with ⟨h1, h2⟩ | ⟨g, cap, cur, rfl, hg, hh, h⟩
  · have : L = [] := by cases L with | nil => rfl | cons a l => simp at h2
    subst this
    rw [h1]
    exact PSl.nil _ _ _
  · refine ⟨some ⟨g, 0, none⟩, cap, by simp, by simp; omega, fun _ => ⟨g, 0, rfl, (hl g rfl).2, fun i hi => ?_⟩⟩
    rw [List.length_map] at hi
    rw [map_ctr_getD L i hi]
    have hc : ∀ k : Nat, k < 3 → w.cell? ⟨g, i * 3 + k, none⟩ = some (.int .i64 (Fx.mid ((L.getD i Fx.V3.zero).lo k) ((L.getD i Fx.V3.zero).hi k))) := fun k hk => by
      rw [h'.cellAt (i * 3 + k) (by omega), rowTo_get _ _ _ _ (by omega), if_pos (by omega), Fx.ctrAt_eq L i k hk]
    rw [Nat.zero_add]
    exact ⟨hc 0 (by omega), hc 1 (by omega), hc 2 (by omega)⟩

theorem info_vec : (Try.prog.info? 66).map (fun i => (i.zero, i.size, i.bytes)) = some (some (.agg #[.int .i64 0, .int .i64 0, .int .i64 0]), 3, 24) := by kernel_rfl

/-- A list of points is returned. -/
def GivesP (P : List (Int × Int × Int)) (w : World) (e : Ending) (w' : World) : Prop := ∃ u, e = .returned u ∧ PSl w' u P ∧ Below w.heap.size w w'

set_option maxRecDepth 100000 in
set_option maxHeartbeats 2000000 in
theorem centers_any (v : Value) (L : List Fx.V3) (w : World) (hI : VSl w v L) :
    Calls Try.prog 38 #[v] w (GivesP (Fx.centers L) w) := by
  have HI := Lib.hid hI
  obtain ⟨a, c, rfl, hl, hI'⟩ := hI
  by_cases hp : Fx.placedB L = true
  · rw [Fx.centers_yes hp]
    have hlen := Fx.placedB_len hp
    obtain ⟨b, o, rfl, hJ⟩ := hI' (by omega)
    have HJ := Lib.hid hJ
    have hbw := hJ.1
    have HP := Lib.hid hp
    clear hI' hJ hp
    obtain ⟨i0, hi, hz0, hz1, hz2⟩ := info_parts info_vec
    go_enter Try.func38, Try.ntmps38
    go_wp2_with fail
    refine (placed_yes _ L _ HI.out HP.out).mono ?_
    rintro e w1 ⟨rfl, hb1⟩
    obtain ⟨wm, hmk, hownm, hgm⟩ := run_makeSlice_full w1 w1.heap.size 46 66 i0 (.agg #[.int .i64 0, .int .i64 0, .int .i64 0]) 3 Try.underlying46 hi hz0 hz1 .i64 .i64 L.length (by omega) (by rw [hz2]; omega) (by unfold maxLen; omega) (Nat.le_refl _)
    rw [made_vecs (Fx.ctrAt L)] at hownm
    have Bm : Below w1.heap.size w1 wm := (ext_refl w1).grown hgm (Nat.le_refl _) (fun k e => by cases e)
    have Bw := ext_trans hb1 Bm
    have hsz := hb1.size
    have HO := Lib.hid (owns_base hownm hsz)
    clear hownm hgm hb1 Bm HI HP
    go_wp2_with fail
    generalize hg1 : w1.heap.size = g at *
    clear hmk hg1
    go_loopw [16] (fun iv wr => ∃ i : Nat, i ≤ L.length ∧ iv = .int .i64 i ∧ wr.ownsRow w.heap.size 66 3 (.slice (some ⟨g, 0, none⟩) L.length L.length) L.length (rowTo (Fx.ctrAt L) (L.length * 3) (i * 3)) ∧ Below w.heap.size w wr) (fun iv _ => L.length - (intOf iv).toNat)
    case atStart => exact ⟨0, by omega, rfl, by rw [Nat.zero_mul]; exact HO.out, Bw⟩
    case round =>
      obtain ⟨i, hil, rfl, hO, hb⟩ := hrel
      clear HO Bw
      by_cases hlt : i < L.length
      · obtain ⟨c0, c1, c2, c3, c4, c5⟩ := (HJ.out.ext hb).at_ i hlt
        have HFe := Lib.hid (fun j hj => Fx.ctrAt_eq L i j hj)
        generalize L.getD i Fx.V3.zero = x at *
        have hd : decide ((i : Int) < (L.length : Int)) = true := by simp; omega
        have k0 : (0 : Int) ≤ (i : Int) := by omega
        have k1 : (i : Int) < (L.length : Int) := by omega
        have HO := Lib.hid hO
        clear hO
        go_wp2_with fail
        obtain ⟨wo, hwo⟩ : ∃ wo : World, wo = wr := ⟨_, rfl⟩
        subst hwo
        have HO0 := Lib.hid (HO.out.alloc (.cells x.arr 34))
        have HB0 := Lib.hid (ext_alloc hb (.cells x.arr 34))
        clear c0 c1 c2 c3 c4 c5 HO hb
        go_loopw [22] (fun jv wr => ∃ j : Nat, j ≤ 3 ∧ jv = .int .i64 j ∧ wr.ownsRow w.heap.size 66 3 (.slice (some ⟨g, 0, none⟩) L.length L.length) L.length (rowTo (Fx.ctrAt L) (L.length * 3) (i * 3 + j)) ∧ Below w.heap.size w wr) (fun jv _ => 3 - (intOf jv).toNat)
        case atStart => exact ⟨0, by omega, rfl, HO0.out, HB0.out⟩
        case round =>
          obtain ⟨j, hj, rfl, hO, hbj⟩ := hrel
          clear HO0 HB0
          by_cases hj3 : j < 3
          · have hix := fun w => idx3 x j hj3 w
            have HF := Lib.hid (HFe.out j hj3)
            generalize x.lo j = xl at *
            generalize x.hi j = xh at *
            have k2 : (0 : Int) ≤ (j : Int) := by omega
            have k3 : (j : Int) < 3 := by omega
            have HO := Lib.hid hO
            have hgl := hO.lt g rfl
            clear hO
            go_wp2_with fail
            have hX := Whole.new wr 32 #[.int .i64 xl, .int .i64 xh]
            have HO2 := Lib.hid (HO.out.alloc (.cells #[.int .i64 xl, .int .i64 xh] 32))
            have hB2 := ext_alloc hbj (.cells #[.int .i64 xl, .int .i64 xh] 32)
            have hz2 : wr.heap.size < (wr.alloc (.cells #[.int .i64 xl, .int .i64 xh] 32)).heap.size := by simp
            clear HO hbj
            generalize wr.alloc (.cells #[.int .i64 xl, .int .i64 xh] 32) = w2 at *
            generalize wr.heap.size = gx at *
            have HCl : Hid (w2.cell? ⟨gx, 0, none⟩ = some (.int .i64 xl)) := Lib.hid (hX.cell 0)
            have HCh : Hid (w2.cell? ⟨gx, 1, none⟩ = some (.int .i64 xh)) := Lib.hid (hX.cell 1)
            clear hX
            refine wp_region_noPanic ?_
            refine wp_region_held_drew (S := (fun w' => w'.cell? ⟨gx, 0, none⟩ = some (.int .i64 xl) ∧ w'.cell? ⟨gx, 1, none⟩ = some (.int .i64 xh))) (by kernel_rfl) ?_ (fun hHeld => ?_)
            · exact ⟨HCl.out, HCh.out⟩
            refine wpAnyH_take (i := 0) (v := ?_) (by simp only [List.getElem?_toArray, List.getElem?_cons_succ, List.getElem?_cons_zero]; rfl) (by kernel_rfl) (by kernel_rfl) (by kernel_rfl) (fun _ _ _ h => h) (Or.inl ⟨by rfl, ?_⟩) (by assumption) ?_
            rotate_left
            · intro w hSw; (try dsimp only at hSw); go_simp; first | done | with_reducible rfl
            try simp only [Act.put, List.setIfInBounds_toArray, List.set_cons_zero, List.set_cons_succ]
            refine wpAnyH_take (i := 1) (v := ?_) (by simp only [List.getElem?_toArray, List.getElem?_cons_succ, List.getElem?_cons_zero]; rfl) (by kernel_rfl) (by kernel_rfl) (by kernel_rfl) (fun _ _ _ h => h) (Or.inl ⟨by rfl, ?_⟩) (by assumption) ?_
            rotate_left
            · intro w hSw; (try dsimp only at hSw); go_simp; first | done | with_reducible rfl
            try simp only [Act.put, List.setIfInBounds_toArray, List.set_cons_zero, List.set_cons_succ]
            refine wpAnyH_take (i := 2) (v := ?_) (by simp only [List.getElem?_toArray, List.getElem?_cons_succ, List.getElem?_cons_zero]; rfl) (by kernel_rfl) (by kernel_rfl) (by kernel_rfl) (fun _ _ _ h => h) (Or.inl ⟨by rfl, ?_⟩) (by assumption) ?_
            rotate_left
            · intro w hSw; (try dsimp only at hSw); go_simp; first | done | with_reducible rfl
            try simp only [Act.put, List.setIfInBounds_toArray, List.set_cons_zero, List.set_cons_succ]
            refine wpAnyH_take (i := 3) (v := ?_) (by simp only [List.getElem?_toArray, List.getElem?_cons_succ, List.getElem?_cons_zero]; rfl) (by kernel_rfl) (by kernel_rfl) (by kernel_rfl) (fun _ _ _ h => h) (Or.inl ⟨by rfl, ?_⟩) (by assumption) ?_
            rotate_left
            · intro w hSw; (try dsimp only at hSw); go_simp; first | done | with_reducible rfl
            try simp only [Act.put, List.setIfInBounds_toArray, List.set_cons_zero, List.set_cons_succ]
            refine wpAnyH_take (i := 5) (v := ?_) (by simp only [List.getElem?_toArray, List.getElem?_cons_succ, List.getElem?_cons_zero]; rfl) (by kernel_rfl) (by kernel_rfl) (by kernel_rfl) (fun _ _ _ h => h) (Or.inl ⟨by rfl, ?_⟩) (by assumption) ?_
            rotate_left
            · intro w hSw; (try dsimp only at hSw); go_simp; first | done | with_reducible rfl
            try simp only [Act.put, List.setIfInBounds_toArray, List.set_cons_zero, List.set_cons_succ]
            refine wpAnyH_ready (rs := [4]) (by kernel_rfl) (by simp) ?_
            refine AllReadyH.cons (by simp only [List.getElem?_toArray, List.getElem?_cons_succ, List.getElem?_cons_zero]; rfl) (fun K hK => ?_) AllReadyH.nil
            go_simp
            refine (mid_any xl xh _).mono ?_
            rintro e w3 ⟨rfl, hb3⟩
            rw [← HF.out]
            have HO3 := Lib.hid (owns_ext (owns_ext HO2.out (ext_drew (ext_refl _))) hb3)
            have hB3 := ext_trans (ext_drew hB2) hb3
            have hK3 : w3.cell? ⟨gx, 0, none⟩ = some (.int .i64 xl) ∧ w3.cell? ⟨gx, 1, none⟩ = some (.int .i64 xh) := ⟨(hb3.cell (p := ⟨gx, 0, none⟩) hz2).trans HCl.out, (hb3.cell (p := ⟨gx, 1, none⟩) hz2).trans HCh.out⟩
            go_wp2_with fail
            refine hK.out _ _ ?_ (fun hHeld => ?_)
            · exact hK3
            clear hK K HO2 hB2 hb3
            try simp only [Act.put, List.setIfInBounds_toArray, List.set_cons_zero, List.set_cons_succ]
            refine wpAnyH_take (i := 6) (v := ?_) (by simp only [List.getElem?_toArray, List.getElem?_cons_succ, List.getElem?_cons_zero]; rfl) (by kernel_rfl) (by kernel_rfl) (by kernel_rfl) (fun _ _ _ h => h) (Or.inl ⟨by rfl, ?_⟩) (by assumption) ?_
            rotate_left
            · intro w hSw; (try dsimp only at hSw); go_simp; first | done | with_reducible rfl
            try simp only [Act.put, List.setIfInBounds_toArray, List.set_cons_zero, List.set_cons_succ]
            refine wpAnyH_ready (rs := [7]) (by kernel_rfl) (by simp) ?_
            refine AllReadyH.cons (by simp only [List.getElem?_toArray, List.getElem?_cons_succ, List.getElem?_cons_zero]; rfl) (fun K hK => ?_) AllReadyH.nil
            have ck := (HO3.out.cellAt (i * 3 + j) (by omega)).trans (rowTo_get (Fx.ctrAt L) _ _ (i * 3 + j) (by omega))
            have fk := HO3.out.frozenAt (i * 3 + j)
            have hst := (HO3.out.stored (i * 3 + j) (.int .i64 (Fx.ctrAt L (i * 3 + j)))).1
            rw [rowTo_set] at hst
            have HO4 := Lib.hid hst
            have hB4 := ext_set hB3 (p := ⟨g, i * 3 + j, none⟩) hgl.1 (.int .i64 (Fx.ctrAt L (i * 3 + j)))
            have e4 : (w3.setCell ⟨g, i * 3 + j, none⟩ (.int .i64 (Fx.ctrAt L (i * 3 + j)))).heap[gx]? = w3.heap[gx]? := Below.heap_setCell _ _ _ _ (show gx ≠ g by omega)
            have hK4 : (w3.setCell ⟨g, i * 3 + j, none⟩ (.int .i64 (Fx.ctrAt L (i * 3 + j)))).cell? ⟨gx, 0, none⟩ = some (.int .i64 xl) ∧ (w3.setCell ⟨g, i * 3 + j, none⟩ (.int .i64 (Fx.ctrAt L (i * 3 + j)))).cell? ⟨gx, 1, none⟩ = some (.int .i64 xh) := by
              obtain ⟨q1, q2⟩ := hK3
              simp only [World.cell?, e4] at q1 q2 ⊢
              exact ⟨q1, q2⟩
            clear hst e4 hK3 hHeld
            generalize Fx.ctrAt L (i * 3 + j) = y at *
            go_simp
            generalize w3.setCell ⟨g, i * 3 + j, none⟩ (.int .i64 y) = w4 at *
            refine hK.out _ _ ?_ (fun hHeld => ?_)
            · exact hK4
            clear hK K hK4 HO3 hB3 ck fk
            try simp only [Act.put, List.setIfInBounds_toArray, List.set_cons_zero, List.set_cons_succ]
            refine wpAnyH_done (by kernel_rfl) ?_ _
            refine NoPanic.normal ?_
            clear hHeld
            go_wp2_with fail
            go_roundw
            case rel => exact ⟨j + 1, by omega, by go_num, HO4.out, hB4⟩
            case measure => simp [intOf]; omega
          · obtain rfl : j = 3 := by omega
            have HO := Lib.hid (show wr.ownsRow w.heap.size 66 3 (.slice (some ⟨g, 0, none⟩) L.length L.length) L.length (rowTo (Fx.ctrAt L) (L.length * 3) ((i + 1) * 3)) from (by rw [show (i + 1) * 3 = i * 3 + 3 by omega]; exact hO))
            clear hO
            go_wp2_with fail
            go_roundw
            case rel => exact ⟨i + 1, by omega, by go_num, HO.out, hbj⟩
            case measure => simp [intOf]; omega
      · obtain rfl : i = L.length := by omega
        have hd : decide ((L.length : Int) < (L.length : Int)) = false := by simp
        have HO := Lib.hid (PSl.of_row hO (by omega))
        clear hO
        go_wp2_with fail
        go_ret
        exact ⟨_, rfl, HO.out, hb⟩
  · have hp : Fx.placedB L = false := by simpa using hp
    rw [Fx.centers_no hp]
    have HP := Lib.hid hp
    clear hp hI'
    go_enter Try.func38, Try.ntmps38
    go_wp2_with fail
    refine (placed_no _ L _ HI.out HP.out).mono ?_
    rintro e w1 ⟨rfl, hb1⟩
    go_wp2_with fail
    go_ret
    exact ⟨_, rfl, PSl.nil _ _ _, hb1⟩

end Go.Proofs.Ytgnjconhbloocaa

namespace Go.Proofs.Ytgnjconhbloocaa
open Go.RowKit
set_option linter.unusedVariables false

def Fx.coordOk (x : Int) : Bool := decide (-4194304 ≤ x ∧ x ≤ 4194304)
theorem Fx.coord_true {x : Int} : Fx.coordOk x = true ↔ (-4194304 ≤ x ∧ x ≤ 4194304) := by unfold Fx.coordOk; simp
theorem Fx.coord_false {x : Int} : Fx.coordOk x = false ↔ ¬ (-4194304 ≤ x ∧ x ≤ 4194304) := by unfold Fx.coordOk; simp
def Fx.ptOk (p : Int × Int × Int) : Bool := Fx.coordOk p.1 && Fx.coordOk p.2.1 && Fx.coordOk p.2.2
theorem Fx.ptOk_of (p : Int × Int × Int) (h : ∀ j : Nat, j < 3 → Fx.coordOk (pick3 p.1 p.2.1 p.2.2 j) = true) : Fx.ptOk p = true := by
  unfold Fx.ptOk
  rw [show Fx.coordOk p.1 = true from h 0 (by omega), show Fx.coordOk p.2.1 = true from h 1 (by omega), show Fx.coordOk p.2.2 = true from h 2 (by omega)]; rfl
theorem Fx.ptOk_not (p : Int × Int × Int) (j : Nat) (hj : j < 3) (h : Fx.coordOk (pick3 p.1 p.2.1 p.2.2 j) = false) : Fx.ptOk p = false := by
  unfold Fx.ptOk
  match j, hj with
  | 0, _ => rw [show Fx.coordOk p.1 = false from h]; rfl
  | 1, _ => rw [show Fx.coordOk p.2.1 = false from h]; simp
  | 2, _ => rw [show Fx.coordOk p.2.2 = false from h]; simp
def Fx.shapeOk (r : Int) (P : List (Int × Int × Int)) : Bool := decide (1 ≤ r ∧ r ≤ 1048576) && decide (1 ≤ P.length ∧ P.length ≤ 8) && P.all Fx.ptOk
theorem Fx.shapeOk_1 {r : Int} {P : List (Int × Int × Int)} (h : ¬ (1 ≤ r ∧ r ≤ 1048576)) : Fx.shapeOk r P = false := by unfold Fx.shapeOk; simp [h]
theorem Fx.shapeOk_2 {r : Int} {P : List (Int × Int × Int)} (h : ¬ (1 ≤ P.length ∧ P.length ≤ 8)) : Fx.shapeOk r P = false := by unfold Fx.shapeOk; simp [h]
theorem Fx.shapeOk_3 {r : Int} {P : List (Int × Int × Int)} (h : P.all Fx.ptOk = false) : Fx.shapeOk r P = false := by unfold Fx.shapeOk; rw [h]; simp
theorem Fx.shapeOk_yes {r : Int} {P : List (Int × Int × Int)} (h1 : 1 ≤ r ∧ r ≤ 1048576) (h2 : 1 ≤ P.length ∧ P.length ≤ 8) (h3 : P.all Fx.ptOk = true) : Fx.shapeOk r P = true := by unfold Fx.shapeOk; rw [h3]; simp [h1, h2]
theorem Fx.shapeOk_len {r : Int} {P : List (Int × Int × Int)} (h : Fx.shapeOk r P = true) : 1 ≤ P.length ∧ P.length ≤ 8 := by unfold Fx.shapeOk at h; simp at h; omega
theorem Fx.pt_next (P : List (Int × Int × Int)) (k : Nat) (hk : k < P.length) (h : (P.take k).all Fx.ptOk = true) (hv : Fx.ptOk (P.getD k (0, 0, 0)) = true) : (P.take (k + 1)).all Fx.ptOk = true := by
  rw [List.take_add_one, List.all_append, h, List.getElem?_eq_getElem hk]
  rw [List.getD_eq_getElem?_getD, List.getElem?_eq_getElem hk] at hv
  simpa using hv
theorem Fx.pt_stop (P : List (Int × Int × Int)) (k : Nat) (hk : k < P.length) (hv : Fx.ptOk (P.getD k (0, 0, 0)) = false) : P.all Fx.ptOk = false := by
  rw [List.all_eq_false]
  refine ⟨P[k], List.getElem_mem hk, ?_⟩
  rw [List.getD_eq_getElem?_getD, List.getElem?_eq_getElem hk] at hv
  simpa using hv

theorem idxv (a b c : Int) : ∀ (j : Nat) (_ : j < 3) (w : World), (Instr.index 66 (.agg #[.int .i64 a, .int .i64 b, .int .i64 c]) (.int .i64 (j : Int))).run Try.prog w = .ok (.int .i64 (pick3 a b c j)) w
  | 0, _, w => by kernel_rfl
  | 1, _, w => by kernel_rfl
  | 2, _, w => by kernel_rfl
  | n + 3, h, _ => absurd h (by omega)

/-- The three cells of point k of a slice of points. -/
theorem PSl.at_ {w w' : World} {a : Option Addr} {c : Nat} {P : List (Int × Int × Int)} (h : PSl w (.slice a P.length c) P) (hb : Below w.heap.size w w') (k : Nat) (hk : k < P.length) : ∃ b o, a = some ⟨b, o, none⟩ ∧ b < w.heap.size ∧
    w'.cell? ⟨b, o + k * 3, none⟩ = some (.int .i64 (P.getD k (0, 0, 0)).1) ∧ w'.cell? ⟨b, o + k * 3 + 1, none⟩ = some (.int .i64 (P.getD k (0, 0, 0)).2.1) ∧ w'.cell? ⟨b, o + k * 3 + 2, none⟩ = some (.int .i64 (P.getD k (0, 0, 0)).2.2) := by
  obtain ⟨a', c', hv, hl, h⟩ := h
  simp only [Value.slice.injEq] at hv
  obtain ⟨rfl, _, rfl⟩ := hv
  obtain ⟨b, o, rfl, hbw, hI⟩ := h (by omega)
  obtain ⟨h1, h2, h3⟩ := hI k hk
  exact ⟨b, o, rfl, hbw, (hb.cell (p := ⟨b, _, none⟩) hbw).trans h1, (hb.cell (p := ⟨b, _, none⟩) hbw).trans h2, (hb.cell (p := ⟨b, _, none⟩) hbw).trans h3⟩

set_option maxRecDepth 100000 in
set_option maxHeartbeats 1000000 in
theorem check_any (lk r : Int) (v : Value) (P : List (Int × Int × Int)) (w : World) (hP : PSl w v P) :
    Calls Try.prog 24 #[.agg #[.int .i64 lk, .int .i64 r, v]] w fun e w' => e = .returned (.bool (Fx.shapeOk r P)) ∧ Below w.heap.size w w' := by
  have HP := Lib.hid hP
  obtain ⟨a, c, rfl, hl, _⟩ := hP
  by_cases h1 : r < 1
  · have HF := Lib.hid (Fx.shapeOk_1 (P := P) (show ¬ (1 ≤ r ∧ r ≤ 1048576) by omega))
    have d1 : decide (r < 1) = true := by simp; omega
    go_enter Try.func24, Try.ntmps24
    go_wp2_with fail
    go_ret
    exact ⟨ret_bool HF.out.symm, (by repeat (first | assumption | exact ext_refl _ | refine ext_alloc ?_ _ | refine ext_drewN ?_ _ | refine ext_drew ?_ | refine ext_set ?_ (by first | (simp; done) | (simp; omega) | omega) _ | refine ext_trans ?_ ‹Below _ _ _›))⟩
  · have d1 : decide (r < 1) = false := by simp; omega
    by_cases h2 : 1048576 < r
    · have HF := Lib.hid (Fx.shapeOk_1 (P := P) (show ¬ (1 ≤ r ∧ r ≤ 1048576) by omega))
      have d2 : decide (1048576 < r) = true := by simp; omega
      go_enter Try.func24, Try.ntmps24
      go_wp2_with fail
      go_ret
      exact ⟨ret_bool HF.out.symm, (by repeat (first | assumption | exact ext_refl _ | refine ext_alloc ?_ _ | refine ext_drewN ?_ _ | refine ext_drew ?_ | refine ext_set ?_ (by first | (simp; done) | (simp; omega) | omega) _ | refine ext_trans ?_ ‹Below _ _ _›))⟩
    · have d2 : decide (1048576 < r) = false := by simp; omega
      by_cases h3 : P.length < 1
      · have HF := Lib.hid (Fx.shapeOk_2 (r := r) (show ¬ (1 ≤ P.length ∧ P.length ≤ 8) by omega))
        have d3 : decide ((P.length : Int) < 1) = true := by simp; omega
        go_enter Try.func24, Try.ntmps24
        go_wp2_with fail
        go_ret
        exact ⟨ret_bool HF.out.symm, (by repeat (first | assumption | exact ext_refl _ | refine ext_alloc ?_ _ | refine ext_drewN ?_ _ | refine ext_drew ?_ | refine ext_set ?_ (by first | (simp; done) | (simp; omega) | omega) _ | refine ext_trans ?_ ‹Below _ _ _›))⟩
      · have d3 : decide ((P.length : Int) < 1) = false := by simp; omega
        by_cases h4 : 8 < P.length
        · have HF := Lib.hid (Fx.shapeOk_2 (r := r) (show ¬ (1 ≤ P.length ∧ P.length ≤ 8) by omega))
          have d4 : decide ((8 : Int) < (P.length : Int)) = true := by simp; omega
          go_enter Try.func24, Try.ntmps24
          go_wp2_with fail
          go_ret
          exact ⟨ret_bool HF.out.symm, (by repeat (first | assumption | exact ext_refl _ | refine ext_alloc ?_ _ | refine ext_drewN ?_ _ | refine ext_drew ?_ | refine ext_set ?_ (by first | (simp; done) | (simp; omega) | omega) _ | refine ext_trans ?_ ‹Below _ _ _›))⟩
        · have d4 : decide ((8 : Int) < (P.length : Int)) = false := by simp; omega
          have HS := Lib.hid (fun h => Fx.shapeOk_yes (P := P) (show 1 ≤ r ∧ r ≤ 1048576 by omega) (by omega) h)
          go_enter Try.func24, Try.ntmps24
          go_wp2_with fail
          have hb0 : Below w.heap.size w (w.alloc (.cells #[.int .i64 lk, .int .i64 r, .slice a P.length c] 48)) := ext_alloc (ext_refl _) _
          clear d1 d2 d3 d4
          go_loopw [30] (fun iv wr => ∃ k : Nat, k ≤ P.length ∧ iv = .int .i64 k ∧ Hid ((P.take k).all Fx.ptOk = true) ∧ Below w.heap.size w wr) (fun iv _ => P.length - (intOf iv).toNat)
          case atStart => exact ⟨0, Nat.zero_le _, rfl, Lib.hid (by simp), hb0⟩
          case round =>
            obtain ⟨k, hk, rfl, hA, hb⟩ := hrel
            clear hb0
            by_cases hlt : k < P.length
            · obtain ⟨b, o, rfl, hbw, c0, c1, c2⟩ := HP.out.at_ hb k hlt
              have HN := Lib.hid (Fx.pt_next P k hlt hA.out)
              have HSt := Lib.hid (fun h => Fx.shapeOk_3 (r := r) (Fx.pt_stop P k hlt h))
              have HO := Lib.hid (Fx.ptOk_of (P.getD k (0, 0, 0)))
              have HNo := Lib.hid (Fx.ptOk_not (P.getD k (0, 0, 0)))
              generalize P.getD k (0, 0, 0) = p at *
              obtain ⟨x, y, z⟩ := p
              dsimp only at c0 c1 c2 HO HNo
              have hd : decide ((k : Int) < (P.length : Int)) = true := by simp; omega
              have k0 : (0 : Int) ≤ (k : Int) := by omega
              have k1 : (k : Int) < (P.length : Int) := by omega
              go_wp2_with fail
              obtain ⟨wo, hwo⟩ : ∃ wo : World, wo = wr := ⟨_, rfl⟩
              subst hwo
              have hbo : Below w.heap.size w (wo.alloc (.cells #[.int .i64 x, .int .i64 y, .int .i64 z] 66)) := ext_alloc hb _
              clear c0 c1 c2 hb
              go_loopw [35] (fun jv wr => ∃ j : Nat, j ≤ 3 ∧ jv = .int .i64 j ∧ Hid (∀ i : Nat, i < j → Fx.coordOk (pick3 x y z i) = true) ∧ Below w.heap.size w wr) (fun jv _ => 3 - (intOf jv).toNat)
              case atStart => exact ⟨0, by omega, rfl, Lib.hid (fun i hi => absurd hi (by omega)), hbo⟩
              case round =>
                obtain ⟨j, hj, rfl, hR, hbj⟩ := hrel
                clear hbo
                by_cases hj3 : j < 3
                · have hix := fun w => idxv x y z j hj3 w
                  by_cases hn : Fx.coordOk (pick3 x y z j) = true
                  · have hn' := Fx.coord_true.1 hn
                    have HR := Lib.hid (show ∀ i : Nat, i < j + 1 → Fx.coordOk (pick3 x y z i) = true from fun i hi => by
                      by_cases e : i = j
                      · rw [e]; exact hn
                      · exact hR.out i (by omega))
                    clear hn
                    generalize pick3 x y z j = u at *
                    have e1 : decide (u < -4194304) = false := by simp; omega
                    have e2 : decide (4194304 < u) = false := by simp; omega
                    go_wp2_with fail
                    go_roundw
                    case rel => exact ⟨j + 1, by omega, by go_num, HR, (by repeat (first | assumption | exact ext_refl _ | refine ext_alloc ?_ _ | refine ext_drewN ?_ _ | refine ext_drew ?_ | refine ext_set ?_ (by first | (simp; done) | (simp; omega) | omega) _ | refine ext_trans ?_ ‹Below _ _ _›))⟩
                    case measure => simp [intOf]; omega
                  · have hn : Fx.coordOk (pick3 x y z j) = false := by simpa using hn
                    have HF := Lib.hid (HSt.out (HNo.out j hj3 hn))
                    have hn' := Fx.coord_false.1 hn
                    clear hn
                    generalize pick3 x y z j = u at *
                    by_cases q1 : u < -4194304
                    · have e1 : decide (u < -4194304) = true := by simp; omega
                      clear hn'
                      go_wp2_with fail
                      go_ret
                      exact ⟨ret_bool HF.out.symm, (by repeat (first | assumption | exact ext_refl _ | refine ext_alloc ?_ _ | refine ext_drewN ?_ _ | refine ext_drew ?_ | refine ext_set ?_ (by first | (simp; done) | (simp; omega) | omega) _ | refine ext_trans ?_ ‹Below _ _ _›))⟩
                    · have e1 : decide (u < -4194304) = false := by simp; omega
                      have e2 : decide (4194304 < u) = true := by simp; omega
                      clear hn'
                      go_wp2_with fail
                      go_ret
                      exact ⟨ret_bool HF.out.symm, (by repeat (first | assumption | exact ext_refl _ | refine ext_alloc ?_ _ | refine ext_drewN ?_ _ | refine ext_drew ?_ | refine ext_set ?_ (by first | (simp; done) | (simp; omega) | omega) _ | refine ext_trans ?_ ‹Below _ _ _›))⟩
                · obtain rfl : j = 3 := by omega
                  have HA := Lib.hid (HN.out (HO.out hR.out))
                  go_wp2_with fail
                  go_roundw
                  case rel => exact ⟨k + 1, by omega, by go_num, HA, hbj⟩
                  case measure => simp [intOf]; omega
            · have HF := Lib.hid (HS.out (by have := hA.out; rwa [List.take_of_length_le (by omega)] at this))
              have hd : decide ((k : Int) < (P.length : Int)) = false := by simp; omega
              go_wp2_with fail
              go_ret
              exact ⟨ret_bool HF.out.symm, hb⟩
end Go.Proofs.Ytgnjconhbloocaa

namespace Go.Proofs.Ytgnjconhbloocaa
open Go.RowKit
set_option linter.unusedVariables false

set_option maxRecDepth 100000 in
set_option maxHeartbeats 1000000 in
theorem near_any (x y z : Int) (w : World) :
    Calls Try.prog 62 #[.agg #[.int .i64 x, .int .i64 y, .int .i64 z], .int .i64 4194304] w fun e w' => e = .returned (.bool (Fx.ptOk (x, y, z))) ∧ Below w.heap.size w w' := by
  have HO := Lib.hid (Fx.ptOk_of (x, y, z))
  have HNo := Lib.hid (Fx.ptOk_not (x, y, z))
  have HP := Lib.hid (pick3_cell x y z)
  go_enter Try.func62, Try.ntmps62
  go_wp2_with fail
  have hW0 := Whole.new w 66 #[.int .i64 x, .int .i64 y, .int .i64 z]
  have hb0 : Below w.heap.size w (w.alloc (.cells #[.int .i64 x, .int .i64 y, .int .i64 z] 66)) := ext_alloc (ext_refl _) _
  go_loopw [5] (fun jv wr => ∃ j : Nat, j ≤ 3 ∧ jv = .int .i64 j ∧ Hid (∀ i : Nat, i < j → Fx.coordOk (pick3 x y z i) = true) ∧ Whole wr w.heap.size 66 #[.int .i64 x, .int .i64 y, .int .i64 z] ∧ Below w.heap.size w wr) (fun jv _ => 3 - (intOf jv).toNat)
  case atStart => exact ⟨0, by omega, rfl, Lib.hid (fun i hi => absurd hi (by omega)), hW0, hb0⟩
  case round =>
    obtain ⟨j, hj, rfl, hR, hW, hb⟩ := hrel
    clear hW0 hb0
    by_cases hj3 : j < 3
    · have cj := (hW.cell j).trans (HP.out j hj3)
      have HW := Lib.hid hW
      clear hW
      have k0 : (0 : Int) ≤ (j : Int) := by omega
      have k1 : (j : Int) < 3 := by omega
      by_cases hn : Fx.coordOk (pick3 x y z j) = true
      · have hn' := Fx.coord_true.1 hn
        have HR := Lib.hid (show ∀ i : Nat, i < j + 1 → Fx.coordOk (pick3 x y z i) = true from fun i hi => by
          by_cases e : i = j
          · rw [e]; exact hn
          · exact hR.out i (by omega))
        clear hn
        generalize pick3 x y z j = u at *
        have e1 : decide (u < -4194304) = false := by simp; omega
        have e2 : decide (4194304 < u) = false := by simp; omega
        go_wp2_with fail
        go_roundw
        case rel => exact ⟨j + 1, by omega, by go_num, HR, HW.out, hb⟩
        case measure => simp [intOf]; omega
      · have hn : Fx.coordOk (pick3 x y z j) = false := by simpa using hn
        have HF := Lib.hid (HNo.out j hj3 hn)
        have hn' := Fx.coord_false.1 hn
        clear hn
        generalize pick3 x y z j = u at *
        by_cases q1 : u < -4194304
        · have e1 : decide (u < -4194304) = true := by simp; omega
          clear hn'
          go_wp2_with fail
          go_ret
          exact ⟨ret_bool HF.out.symm, hb⟩
        · have e1 : decide (u < -4194304) = false := by simp; omega
          have e2 : decide (4194304 < u) = true := by simp; omega
          clear hn'
          go_wp2_with fail
          go_ret
          exact ⟨ret_bool HF.out.symm, hb⟩
    · obtain rfl : j = 3 := by omega
      have HF := Lib.hid (HO.out hR.out)
      clear hW
      go_wp2_with fail
      go_ret
      exact ⟨ret_bool HF.out.symm, hb⟩

set_option maxRecDepth 100000 in
set_option maxHeartbeats 1000000 in
theorem rcheck_any (lk r : Int) (v : Value) (P : List (Int × Int × Int)) (w : World) (hP : PSl w v P) :
    Calls Try.prog 44 #[.agg #[.int .i64 lk, .int .i64 r, v]] w fun e w' => e = .returned (.bool (Fx.shapeOk r P)) ∧ Below w.heap.size w w' := by
  have HP := Lib.hid hP
  obtain ⟨a, c, rfl, hl, _⟩ := hP
  by_cases h1 : r < 1
  · have HF := Lib.hid (Fx.shapeOk_1 (P := P) (show ¬ (1 ≤ r ∧ r ≤ 1048576) by omega))
    have d1 : decide (r < 1) = true := by simp; omega
    go_enter Try.func44, Try.ntmps44
    go_wp2_with fail
    go_ret
    exact ⟨ret_bool HF.out.symm, (by repeat (first | assumption | exact ext_refl _ | refine ext_alloc ?_ _ | refine ext_drewN ?_ _ | refine ext_drew ?_ | refine ext_set ?_ (by first | (simp; done) | (simp; omega) | omega) _ | refine ext_trans ?_ ‹Below _ _ _›))⟩
  · have d1 : decide (r < 1) = false := by simp; omega
    by_cases h2 : 1048576 < r
    · have HF := Lib.hid (Fx.shapeOk_1 (P := P) (show ¬ (1 ≤ r ∧ r ≤ 1048576) by omega))
      have d2 : decide (1048576 < r) = true := by simp; omega
      go_enter Try.func44, Try.ntmps44
      go_wp2_with fail
      go_ret
      exact ⟨ret_bool HF.out.symm, (by repeat (first | assumption | exact ext_refl _ | refine ext_alloc ?_ _ | refine ext_drewN ?_ _ | refine ext_drew ?_ | refine ext_set ?_ (by first | (simp; done) | (simp; omega) | omega) _ | refine ext_trans ?_ ‹Below _ _ _›))⟩
    · have d2 : decide (1048576 < r) = false := by simp; omega
      by_cases h3 : P.length < 1
      · have HF := Lib.hid (Fx.shapeOk_2 (r := r) (show ¬ (1 ≤ P.length ∧ P.length ≤ 8) by omega))
        have d3 : decide ((P.length : Int) < 1) = true := by simp; omega
        go_enter Try.func44, Try.ntmps44
        go_wp2_with fail
        go_ret
        exact ⟨ret_bool HF.out.symm, (by repeat (first | assumption | exact ext_refl _ | refine ext_alloc ?_ _ | refine ext_drewN ?_ _ | refine ext_drew ?_ | refine ext_set ?_ (by first | (simp; done) | (simp; omega) | omega) _ | refine ext_trans ?_ ‹Below _ _ _›))⟩
      · have d3 : decide ((P.length : Int) < 1) = false := by simp; omega
        by_cases h4 : 8 < P.length
        · have HF := Lib.hid (Fx.shapeOk_2 (r := r) (show ¬ (1 ≤ P.length ∧ P.length ≤ 8) by omega))
          have d4 : decide ((8 : Int) < (P.length : Int)) = true := by simp; omega
          go_enter Try.func44, Try.ntmps44
          go_wp2_with fail
          go_ret
          exact ⟨ret_bool HF.out.symm, (by repeat (first | assumption | exact ext_refl _ | refine ext_alloc ?_ _ | refine ext_drewN ?_ _ | refine ext_drew ?_ | refine ext_set ?_ (by first | (simp; done) | (simp; omega) | omega) _ | refine ext_trans ?_ ‹Below _ _ _›))⟩
        · have d4 : decide ((8 : Int) < (P.length : Int)) = false := by simp; omega
          have HS := Lib.hid (fun h => Fx.shapeOk_yes (P := P) (show 1 ≤ r ∧ r ≤ 1048576 by omega) (by omega) h)
          go_enter Try.func44, Try.ntmps44
          go_wp2_with fail
          have hW0 := Whole.new w 48 #[.int .i64 lk, .int .i64 r, .slice a P.length c]
          have hb0 : Below w.heap.size w (w.alloc (.cells #[.int .i64 lk, .int .i64 r, .slice a P.length c] 48)) := ext_alloc (ext_refl _) _
          clear d1 d2 d3 d4
          go_loopw [3] (fun iv wr => ∃ k : Nat, k ≤ P.length ∧ iv = .int .i64 k ∧ Hid ((P.take k).all Fx.ptOk = true) ∧ Whole wr w.heap.size 48 #[.int .i64 lk, .int .i64 r, .slice a P.length c] ∧ Below w.heap.size w wr) (fun iv _ => P.length - (intOf iv).toNat)
          case atStart => exact ⟨0, Nat.zero_le _, rfl, Lib.hid (by simp), hW0, hb0⟩
          case round =>
            obtain ⟨k, hk, rfl, hA, hW, hb⟩ := hrel
            clear hb0 hW0
            have s2 : wr.cell? ⟨w.heap.size, 2, none⟩ = some (.slice a P.length c) := hW.cell 2
            have HW := Lib.hid hW
            clear hW
            by_cases hlt : k < P.length
            · obtain ⟨b, o, rfl, hbw, c0, c1, c2⟩ := HP.out.at_ hb k hlt
              have HN := Lib.hid (Fx.pt_next P k hlt hA.out)
              have HSt := Lib.hid (fun h => Fx.shapeOk_3 (r := r) (Fx.pt_stop P k hlt h))
              generalize P.getD k (0, 0, 0) = p at *
              obtain ⟨x, y, z⟩ := p
              dsimp only at c0 c1 c2
              have hd : decide ((k : Int) < (P.length : Int)) = true := by simp; omega
              have k0 : (0 : Int) ≤ (k : Int) := by omega
              have k1 : (k : Int) < (P.length : Int) := by omega
              go_wp2_with fail
              refine (near_any x y z _).mono ?_
              rintro e w1 ⟨rfl, hb1⟩
              have hB1 := ext_trans hb hb1
              have HW1 := Lib.hid (HW.out.ext hb1)
              clear HW hb hb1 c0 c1 c2 s2
              by_cases hn : Fx.ptOk (x, y, z) = true
              · rw [hn]
                have HA := Lib.hid (HN.out hn)
                clear hn
                go_wp2_with fail
                go_roundw
                case rel => exact ⟨k + 1, by omega, by go_num, HA, HW1.out, hB1⟩
                case measure => simp [intOf]; omega
              · have hn : Fx.ptOk (x, y, z) = false := by simpa using hn
                rw [hn]
                have HF := Lib.hid (HSt.out hn)
                clear hn
                go_wp2_with fail
                go_ret
                exact ⟨ret_bool HF.out.symm, hB1⟩
            · have HF := Lib.hid (HS.out (by have := hA.out; rwa [List.take_of_length_le (by omega)] at this))
              have hd : decide ((k : Int) < (P.length : Int)) = false := by simp; omega
              go_wp2_with fail
              go_ret
              exact ⟨ret_bool HF.out.symm, hb⟩
end Go.Proofs.Ytgnjconhbloocaa
