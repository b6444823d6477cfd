/- Plain laws of weighted sums of points that the makers make. -/
import Derived.Test.YtgnjconhbloocaaWts
import Derived.Test.YtgnjconhbloocaaComb1
namespace Go.Proofs.Ytgnjconhbloocaa
open Go.RowKit
set_option linter.unusedVariables false

theorem made_reach {W : Int} {x : Fx.V3} (h : Made W x 3) (hW : W ≤ 5000) : Fx.reachB x = true := by
  refine Fx.reachB_of x fun j hj => ?_
  have := h j hj
  rw [Fx.near_true]
  omega

theorem allR_of {L : List Fx.V3} (h : ∀ x ∈ L, Fx.reachB x = true) : Fx.allR L = true := by
  unfold Fx.allR
  rw [List.all_eq_true]
  exact h

theorem placed_made {W : Int} {L : List Fx.V3} (h1 : 1 ≤ L.length) (h5 : L.length ≤ 5) (h : ∀ x ∈ L, Made W x 3) (hW : W ≤ 5000) : Fx.placedB L = true := by
  rw [Fx.placedB_eq L h1 (by omega)]
  exact allR_of fun x hx => made_reach (h x hx) hW

theorem tot_pos (ws : List Int) (n k : Nat) (h : ∀ i : Nat, i < n → 0 ≤ ws.getD i 0) (hk : k < n) (h1 : 1 ≤ ws.getD k 0) : 1 ≤ Fx.tot ws n := by
  have h2 := Fx.tot_mono ws n h (n - (k + 1)) (k + 1) (by omega)
  have h3 := Fx.tot_mono ws n h k 0 (by omega)
  rw [show k + 1 + (n - (k + 1)) = n by omega] at h2
  rw [Nat.zero_add] at h3
  have e : Fx.tot ws (k + 1) = Fx.tot ws k + ws.getD k 0 := rfl
  have e0 : Fx.tot ws 0 = 0 := rfl
  omega
theorem tot_le (ws : List Int) (B : Int) : ∀ (n : Nat), (∀ i : Nat, i < n → ws.getD i 0 ≤ B) → Fx.tot ws n ≤ n * B
  | 0, _ => by simp [Fx.tot]
  | n + 1, h => by
    have h1 := tot_le ws B n (fun i hi => h i (by omega))
    have h2 := h n (by omega)
    have e : Fx.tot ws (n + 1) = Fx.tot ws n + ws.getD n 0 := rfl
    have e2 : ((n + 1 : Nat) : Int) * B = n * B + B := by rw [Int.natCast_add, Int.add_mul]; simp
    omega

theorem okW_small {ws : List Int} {B : Int} (hB : B ≤ 2304) (hl : ws.length ≤ 5) (hb : ∀ k : Nat, k < ws.length → 0 ≤ ws.getD k 0 ∧ ws.getD k 0 ≤ B) (hp : ∃ k : Nat, k < ws.length ∧ 1 ≤ ws.getD k 0) : Fx.okW ws = true := by
  obtain ⟨k, hk, hk1⟩ := hp
  have h1 := tot_pos ws ws.length k (fun i hi => (hb i hi).1) hk hk1
  have h2 := tot_le ws B ws.length (fun i hi => (hb i hi).2)
  refine Fx.okW_yes ws (fun i hi => by have := hb i hi; omega) ⟨h1, ?_⟩
  have hB0 : 0 ≤ B := by have := hb k hk; omega
  have : (ws.length : Int) * B ≤ 5 * B := Int.mul_le_mul_of_nonneg_right (by omega) hB0
  omega

theorem combOk_yes {L : List Fx.V3} {ws : List Int} (h1 : Fx.placedB L = true) (h2 : ws.length = L.length) (h3 : Fx.okW ws = true) : Fx.combOk L ws = true := by
  unfold Fx.combOk; rw [h1, h3]; simp [h2]

/-- What Combine returns for arguments in order. -/
def combYes (x : Fx.V3) (t : Int) : Value := .tuple #[.agg #[.int .i64 x.a, .int .i64 x.b, .int .i64 x.c, .int .i64 x.d, .int .i64 x.e, .int .i64 x.f], .int .i64 t, .bool true]
theorem combRet_yes {L : List Fx.V3} {ws : List Int} (h : Fx.combOk L ws = true) : combRet L ws = combYes (Fx.comb L ws L.length) (Fx.tot ws L.length) := by
  unfold combRet Fx.combV Fx.combT combYes
  rw [h]; rfl

theorem addw_lo (s v : Fx.V3) (w : Int) (j : Nat) : (s.addw w v).lo j = s.lo j + w * v.lo j := by
  match j with
  | 0 => rfl
  | 1 => rfl
  | n + 2 => rfl
theorem addw_hi (s v : Fx.V3) (w : Int) (j : Nat) : (s.addw w v).hi j = s.hi j + w * v.hi j := by
  match j with
  | 0 => rfl
  | 1 => rfl
  | n + 2 => rfl
theorem zero_lo (j : Nat) : Fx.V3.zero.lo j = 0 := by
  match j with
  | 0 => rfl
  | 1 => rfl
  | n + 2 => rfl
theorem zero_hi (j : Nat) : Fx.V3.zero.hi j = 0 := by
  match j with
  | 0 => rfl
  | 1 => rfl
  | n + 2 => rfl

/-- The first j intervals of y are numbers of those of x. -/
def Took (x y : Fx.V3) (j : Nat) : Prop := ∀ i : Nat, i < j → y.lo i = y.hi i ∧ x.lo i ≤ y.lo i ∧ y.hi i ≤ x.hi i

theorem comb_within (L M : List Fx.V3) (ws : List Int) : ∀ (n : Nat), (∀ i : Nat, i < n → 0 ≤ ws.getD i 0) → (∀ i : Nat, i < n → Took (L.getD i Fx.V3.zero) (M.getD i Fx.V3.zero) 3) → Took (Fx.comb L ws n) (Fx.comb M ws n) 3
  | 0, _, _ => fun i hi => by simp [Fx.comb, zero_lo, zero_hi]
  | n + 1, h, ht => by
    have h1 := comb_within L M ws n (fun i hi => h i (by omega)) (fun i hi => ht i (by omega))
    intro i hi
    have h2 := h1 i hi
    have h3 := ht n (by omega) i hi
    have h4 := h n (by omega)
    show ((Fx.comb M ws n).addw (ws.getD n 0) (M.getD n Fx.V3.zero)).lo i = ((Fx.comb M ws n).addw (ws.getD n 0) (M.getD n Fx.V3.zero)).hi i ∧ ((Fx.comb L ws n).addw (ws.getD n 0) (L.getD n Fx.V3.zero)).lo i ≤ ((Fx.comb M ws n).addw (ws.getD n 0) (M.getD n Fx.V3.zero)).lo i ∧ ((Fx.comb M ws n).addw (ws.getD n 0) (M.getD n Fx.V3.zero)).hi i ≤ ((Fx.comb L ws n).addw (ws.getD n 0) (L.getD n Fx.V3.zero)).hi i
    simp only [addw_lo, addw_hi]
    have m1 := Int.mul_le_mul_of_nonneg_left h3.2.1 h4
    have m2 := Int.mul_le_mul_of_nonneg_left h3.2.2 h4
    rw [h3.1] at m1 ⊢
    obtain ⟨q1, q2, q3⟩ := h2
    refine ⟨by omega, by omega, by omega⟩

theorem reach_took {x y : Fx.V3} (hx : Fx.reachB x = true) (h : Took x y 3) : Fx.reachB y = true := by
  refine Fx.reachB_of y fun j hj => ?_
  have h1 := h j hj
  have h2 := Fx.near_true.1 (Fx.reachB_at hx j hj)
  rw [Fx.near_true]
  omega

theorem comb_scale (L : List Fx.V3) (ws : List Int) (f : Int) : ∀ (n : Nat), n ≤ ws.length → Fx.tot (ws.map (f * ·)) n = f * Fx.tot ws n ∧ ∀ j : Nat, (Fx.comb L (ws.map (f * ·)) n).lo j = f * (Fx.comb L ws n).lo j ∧ (Fx.comb L (ws.map (f * ·)) n).hi j = f * (Fx.comb L ws n).hi j
  | 0, _ => ⟨by simp [Fx.tot], fun j => by simp [Fx.comb, zero_lo, zero_hi]⟩
  | n + 1, hn => by
    obtain ⟨h1, h2⟩ := comb_scale L ws f n (by omega)
    have e : (ws.map (f * ·)).getD n 0 = f * ws.getD n 0 := by
      simp only [List.getD_eq_getElem?_getD, List.getElem?_map, List.getElem?_eq_getElem (show n < ws.length by omega)]; rfl
    refine ⟨?_, fun j => ?_⟩
    · show Fx.tot (ws.map (f * ·)) n + (ws.map (f * ·)).getD n 0 = f * (Fx.tot ws n + ws.getD n 0)
      rw [h1, e, Int.mul_add]
    · show ((Fx.comb L (ws.map (f * ·)) n).addw ((ws.map (f * ·)).getD n 0) (L.getD n Fx.V3.zero)).lo j = f * ((Fx.comb L ws n).addw (ws.getD n 0) (L.getD n Fx.V3.zero)).lo j ∧ ((Fx.comb L (ws.map (f * ·)) n).addw ((ws.map (f * ·)).getD n 0) (L.getD n Fx.V3.zero)).hi j = f * ((Fx.comb L ws n).addw (ws.getD n 0) (L.getD n Fx.V3.zero)).hi j
      simp only [addw_lo, addw_hi, (h2 j).1, (h2 j).2, e, Int.mul_add, Int.mul_assoc]
      exact ⟨trivial, trivial⟩

/-- The two sums of the law on chosen points. -/
theorem chosen_sums {L M : List Fx.V3} {ws : List Int} {W : Int} (hW : W ≤ 5000) (h1 : 1 ≤ L.length) (h5 : L.length ≤ 5) (hL : ∀ x ∈ L, Made W x 3) (hM : M.length = L.length) (ht : ∀ i : Nat, i < L.length → Took (L.getD i Fx.V3.zero) (M.getD i Fx.V3.zero) 3)
    (hw : ws.length = L.length) (hb : ∀ k : Nat, k < L.length → 0 ≤ ws.getD k 0 ∧ ws.getD k 0 ≤ 9) (hp : ∃ k : Nat, k < L.length ∧ 1 ≤ ws.getD k 0) :
    ∃ x y : Fx.V3, combRet M ws = combYes x (Fx.tot ws ws.length) ∧ combRet L ws = combYes y (Fx.tot ws ws.length) ∧ Took y x 3 := by
  have hok : Fx.okW ws = true := okW_small (B := 9) (by omega) (by omega) (by rw [hw]; exact hb) (by rw [hw]; exact hp)
  have hpl := placed_made h1 h5 hL hW
  have hR := Fx.placedB_all hpl
  have hpm : Fx.placedB M = true := by
    rw [Fx.placedB_eq M (by omega) (by omega)]
    refine allR_of fun x hx => ?_
    obtain ⟨k, hk, rfl⟩ := List.mem_iff_getElem.1 hx
    have := reach_took (Fx.allR_at hR k (by omega)) (ht k (by omega))
    rw [List.getD_eq_getElem?_getD, List.getElem?_eq_getElem hk] at this
    exact this
  have o1 := combOk_yes hpl hw hok
  have o2 := combOk_yes hpm (by omega) hok
  refine ⟨_, _, combRet_yes o2 |>.trans (by rw [hM, hw]), combRet_yes o1 |>.trans (by rw [hw]), ?_⟩
  exact comb_within L M ws L.length (fun i hi => (hb i hi).1) ht

/-- The two sums of the law on multiplied weights. -/
theorem scaled_sums {L : List Fx.V3} {ws : List Int} {W f : Int} (hf0 : 1 ≤ f) (hf1 : f ≤ 256) (hW : W ≤ 5000) (h1 : 1 ≤ L.length) (h5 : L.length ≤ 5) (hL : ∀ x ∈ L, Made W x 3)
    (hw : ws.length = L.length) (hb : ∀ k : Nat, k < L.length → 0 ≤ ws.getD k 0 ∧ ws.getD k 0 ≤ 9) (hp : ∃ k : Nat, k < L.length ∧ 1 ≤ ws.getD k 0) :
    ∃ (x y : Fx.V3) (t : Int), combRet L ws = combYes x t ∧ combRet L (ws.map (f * ·)) = combYes y (f * t) ∧ (0 ≤ t ∧ t ≤ 45) ∧ x.within 87960930222080 ∧ ∀ j : Nat, y.lo j = f * x.lo j ∧ y.hi j = f * x.hi j := by
  have hok : Fx.okW ws = true := okW_small (B := 9) (by omega) (by omega) (by rw [hw]; exact hb) (by rw [hw]; exact hp)
  have hpl := placed_made h1 h5 hL hW
  have e : ∀ n : Nat, n < ws.length → (ws.map (f * ·)).getD n 0 = f * ws.getD n 0 := fun n hn => by
    simp only [List.getD_eq_getElem?_getD, List.getElem?_map, List.getElem?_eq_getElem hn]; rfl
  have hok2 : Fx.okW (ws.map (f * ·)) = true := okW_small (B := 2304) (by omega) (by simp; omega) (by
    intro k hk
    rw [List.length_map] at hk
    rw [e k hk]
    have h := hb k (by omega)
    have m1 := Int.mul_nonneg (show (0 : Int) ≤ f by omega) h.1
    have m2 := Int.mul_le_mul_of_nonneg_left h.2 (show (0 : Int) ≤ f by omega)
    omega) (by
    obtain ⟨k, hk, hk1⟩ := hp
    refine ⟨k, by rw [List.length_map]; omega, ?_⟩
    rw [e k (by omega)]
    have m2 := Int.mul_le_mul_of_nonneg_left hk1 (show (0 : Int) ≤ f by omega)
    omega)
  have o1 := combOk_yes hpl hw hok
  have o2 := combOk_yes hpl (show (ws.map (f * ·)).length = L.length by simp [hw]) hok2
  obtain ⟨s1, s2⟩ := comb_scale L ws f L.length (by omega)
  have hbd := Fx.comb_bd L ws L.length (fun i hi => by have := hb i hi; omega) (fun i hi => Fx.allR_at (Fx.placedB_all hpl) i hi)
  have hwt : Fx.V3.within (Fx.comb L ws L.length) 87960930222080 := by
    generalize Fx.comb L ws L.length = s at *
    unfold Fx.V3.within at *
    omega
  have t0 := tot_le ws 9 L.length (fun i hi => (hb i hi).2)
  have t1 := Fx.tot_mono ws L.length (fun i hi => (hb i hi).1) L.length 0 (by omega)
  have t2 : Fx.tot ws 0 = 0 := rfl
  rw [Nat.zero_add] at t1
  refine ⟨_, _, _, combRet_yes o1, (combRet_yes o2).trans (by rw [s1]), ⟨by omega, by omega⟩, hwt, s2⟩
end Go.Proofs.Ytgnjconhbloocaa
