/- Plain mathematics of placed points: what the functions on them compute. No program in sight. -/
import Derived.Test.YtgnjconhbloocaaRowMath
namespace Go.Proofs.Ytgnjconhbloocaa.Fx

/-- A vector of three intervals. -/
structure V3 where
  (a b c d e f : Int)
  deriving Inhabited

def V3.zero : V3 := ⟨0, 0, 0, 0, 0, 0⟩
/-- The cells of a vector. -/
def V3.cells (v : V3) : List Value := [.int .i64 v.a, .int .i64 v.b, .int .i64 v.c, .int .i64 v.d, .int .i64 v.e, .int .i64 v.f]
def V3.val (v : V3) : Value := .agg #[.int .i64 v.a, .int .i64 v.b, .int .i64 v.c, .int .i64 v.d, .int .i64 v.e, .int .i64 v.f]

/-- Whether an interval lies within the reach. -/
def near (l h : Int) : Bool := decide (-268435456 ≤ l ∧ l ≤ h ∧ h ≤ 268435456)
theorem near_true {l h : Int} : near l h = true ↔ (-268435456 ≤ l ∧ l ≤ h ∧ h ≤ 268435456) := by unfold near; simp
theorem near_false {l h : Int} : near l h = false ↔ ¬ (-268435456 ≤ l ∧ l ≤ h ∧ h ≤ 268435456) := by unfold near; simp
def reachB (v : V3) : Bool := near v.a v.b && near v.c v.d && near v.e v.f
def allR (L : List V3) : Bool := L.all reachB
def placedB (L : List V3) : Bool := decide (1 ≤ L.length ∧ L.length ≤ 8) && allR L

/-- The ends of interval j of a vector. -/
def V3.lo (v : V3) : Nat → Int
  | 0 => v.a
  | 1 => v.c
  | _ => v.e
def V3.hi (v : V3) : Nat → Int
  | 0 => v.b
  | 1 => v.d
  | _ => v.f
theorem reachB_of (v : V3) (h : ∀ j : Nat, j < 3 → near (v.lo j) (v.hi j) = true) : reachB v = true := by
  unfold reachB
  rw [show near v.a v.b = true from h 0 (by omega), show near v.c v.d = true from h 1 (by omega), show near v.e v.f = true from h 2 (by omega)]; rfl
theorem reachB_not (v : V3) (j : Nat) (hj : j < 3) (h : near (v.lo j) (v.hi j) = false) : reachB v = false := by
  unfold reachB
  match j, hj with
  | 0, _ => rw [show near v.a v.b = false from h]; rfl
  | 1, _ => rw [show near v.c v.d = false from h]; simp
  | 2, _ => rw [show near v.e v.f = false from h]; simp
theorem reachB_at {v : V3} (h : reachB v = true) (j : Nat) (hj : j < 3) : near (v.lo j) (v.hi j) = true := by
  unfold reachB at h
  simp only [Bool.and_eq_true] at h
  match j, hj with
  | 0, _ => exact h.1.1
  | 1, _ => exact h.1.2
  | 2, _ => exact h.2

theorem placedB_short (L : List V3) (h : L.length < 1) : placedB L = false := by unfold placedB; simp; omega
theorem placedB_long (L : List V3) (h : 8 < L.length) : placedB L = false := by unfold placedB; simp; omega
theorem placedB_eq (L : List V3) (h : 1 ≤ L.length) (h1 : L.length ≤ 8) : placedB L = allR L := by unfold placedB; simp [h, h1]
theorem placedB_len {L : List V3} (h : placedB L = true) : 1 ≤ L.length ∧ L.length ≤ 8 := by unfold placedB at h; simp at h; omega
theorem placedB_all {L : List V3} (h : placedB L = true) : allR L = true := by unfold placedB at h; simp at h; exact h.2

theorem takeV (L : List V3) (k : Nat) (hk : k < L.length) : L.take (k + 1) = L.take k ++ [L.getD k V3.zero] := by
  rw [List.take_succ_eq_append_getElem hk, List.getD_eq_getElem?_getD, List.getElem?_eq_getElem hk]; rfl
theorem allR_next (L : List V3) (k : Nat) (hk : k < L.length) (h : allR (L.take k) = true) (hv : reachB (L.getD k V3.zero) = true) : allR (L.take (k + 1)) = true := by
  unfold allR at *
  rw [takeV L k hk, List.all_append, h]
  simp at hv ⊢
  exact hv
theorem allR_stop (L : List V3) (k : Nat) (hk : k < L.length) (hv : reachB (L.getD k V3.zero) = false) : allR L = false := by
  unfold allR
  rw [List.all_eq_false]
  refine ⟨L[k], List.getElem_mem hk, ?_⟩
  rw [List.getD_eq_getElem?_getD, List.getElem?_eq_getElem hk] at hv
  simpa using hv
theorem allR_end (L : List V3) (k : Nat) (hk : L.length ≤ k) (h : allR (L.take k) = true) : allR L = true := by
  rwa [List.take_of_length_le hk] at h
theorem allR_at {L : List V3} (h : allR L = true) (k : Nat) (hk : k < L.length) : reachB (L.getD k V3.zero) = true := by
  unfold allR at h
  rw [List.all_eq_true] at h
  have := h L[k] (List.getElem_mem hk)
  rw [List.getD_eq_getElem?_getD, List.getElem?_eq_getElem hk]
  exact this

end Go.Proofs.Ytgnjconhbloocaa.Fx
