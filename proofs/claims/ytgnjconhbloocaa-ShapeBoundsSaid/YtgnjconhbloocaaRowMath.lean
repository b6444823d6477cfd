/- Plain mathematics of lists of intervals. No program in sight. -/
import Derived.Test.YtgnjconhbloocaaIvMath
namespace Go.Proofs.Ytgnjconhbloocaa.Fx

/-- Whether all pairs are valid intervals. -/
def allB (L : List (Int × Int)) : Bool := L.all fun p => vb p.1 p.2
/-- Whether a list is a box of 1 to 10 valid intervals. -/
def boxB (L : List (Int × Int)) : Bool := decide (1 ≤ L.length ∧ L.length ≤ 10) && allB L

theorem boxB_short (L : List (Int × Int)) (h : L.length < 1) : boxB L = false := by unfold boxB; simp; omega
theorem boxB_long (L : List (Int × Int)) (h : 10 < L.length) : boxB L = false := by unfold boxB; simp; omega
theorem boxB_eq (L : List (Int × Int)) (h : 1 ≤ L.length) (h1 : L.length ≤ 10) : boxB L = allB L := by unfold boxB; simp [h, h1]
theorem boxB_len {L : List (Int × Int)} (h : boxB L = true) : 1 ≤ L.length ∧ L.length ≤ 10 := by unfold boxB at h; simp at h; omega
theorem boxB_all {L : List (Int × Int)} (h : boxB L = true) : allB L = true := by unfold boxB at h; simp at h; exact h.2

theorem take_next (L : List (Int × Int)) (k : Nat) (hk : k < L.length) : L.take (k + 1) = L.take k ++ [L.getD k (0, 0)] := by
  rw [List.take_succ_eq_append_getElem hk, List.getD_eq_getElem?_getD, List.getElem?_eq_getElem hk]; rfl

theorem allB_next (L : List (Int × Int)) (k : Nat) (hk : k < L.length) (h : allB (L.take k) = true) (hv : vb (L.getD k (0, 0)).1 (L.getD k (0, 0)).2 = true) : allB (L.take (k + 1)) = true := by
  unfold allB at *
  rw [take_next L k hk, List.all_append, h]
  simp at hv ⊢
  exact hv

theorem allB_stop (L : List (Int × Int)) (k : Nat) (hk : k < L.length) (hv : vb (L.getD k (0, 0)).1 (L.getD k (0, 0)).2 = false) : allB L = false := by
  unfold allB
  rw [List.all_eq_false]
  refine ⟨L[k], List.getElem_mem hk, ?_⟩
  rw [List.getD_eq_getElem?_getD, List.getElem?_eq_getElem hk] at hv
  simpa using hv

theorem allB_end (L : List (Int × Int)) (k : Nat) (hk : L.length ≤ k) (h : allB (L.take k) = true) : allB L = true := by
  rwa [List.take_of_length_le hk] at h

end Go.Proofs.Ytgnjconhbloocaa.Fx
