/- Placed points that the makers make. -/
import Derived.Test.YtgnjconhbloocaaSrc
import Derived.Test.YtgnjconhbloocaaShape1
import Derived.Test.YtgnjconhbloocaaCombMath
import Derived.Deep.AppendLies
import Derived.Deep.RegionHeld3
namespace Go.Proofs.Ytgnjconhbloocaa
open Go.RowKit
set_option linter.unusedVariables false

theorem info_ivec : (Try.prog.info? 34).map (fun i => (i.zero, i.size, i.bytes)) = some (some (.agg #[.int .i64 0, .int .i64 0, .int .i64 0, .int .i64 0, .int .i64 0, .int .i64 0]), 6, 48) := by kernel_rfl

/-- The cells of a list of vectors. -/
def vCells (L : List Fx.V3) : List Value := L.flatMap Fx.V3.cells
theorem vCells_len (L : List Fx.V3) : (vCells L).length = L.length * 6 := by
  induction L with
  | nil => rfl
  | cons a L ih => simp only [vCells, List.flatMap_cons, List.length_append, List.length_cons, Fx.V3.cells, List.length_nil] at *; omega
theorem vCells_snoc (L : List Fx.V3) (x : Fx.V3) : vCells (L ++ [x]) = vCells L ++ x.cells := by simp [vCells]
theorem vCells_get : ∀ (L : List Fx.V3) (i : Nat), i < L.length → ∀ j : Nat, j < 6 → (vCells L)[i * 6 + j]? = (L.getD i Fx.V3.zero).cells[j]?
  | [], i, h, _, _ => absurd h (by simp)
  | a :: L, 0, _, j, hj => by
    have e : vCells (a :: L) = a.cells ++ vCells L := by simp [vCells]
    have h6 : a.cells.length = 6 := rfl
    rw [e, Nat.zero_mul, Nat.zero_add, List.getElem?_append_left (by omega)]; rfl
  | a :: L, i + 1, h, j, hj => by
    have ih := vCells_get L i (by simpa using h) j hj
    have e : vCells (a :: L) = a.cells ++ vCells L := by simp [vCells]
    have h6 : a.cells.length = 6 := rfl
    rw [e, List.getElem?_append_right (by omega), h6, show (i + 1) * 6 + j - 6 = i * 6 + j by omega, ih]; rfl

theorem VSl.of_owns {w : World} {base : Nat} {e : TypeId} {v : Value} {L : List Fx.V3} (h : w.ownsRow base e 6 v L.length (vCells L)) (hn : L.length ≤ 9223372036854775807) : VSl w v L := by
  have hl := h.lt
  have h' := h
  obtain ⟨h0, h⟩ := h
  rcases h with ⟨rfl, h⟩ | ⟨g, cap, cur, rfl, hg, hh, h⟩
  · refine ⟨none, 0, by rw [h], hn, fun hp => absurd hp (by omega)⟩
  · refine ⟨some ⟨g, 0, none⟩, cap, rfl, hn, fun hp => ⟨g, 0, rfl, (hl g rfl).2, fun i hi j hj => ?_⟩⟩
    rw [Nat.zero_add, h'.cellAt (i * 6 + j) (by omega)]
    exact vCells_get L i hi j hj

/-- What a region with draws from the source keeps: a cell of another block, the source, and all but the source's block. -/
theorem held_next {w0 w w' : World} {B g gc k : Nat} {x : Value} (hne : some gc ≠ some g) (hlt : gc < w0.heap.size) (h : w.cell? ⟨gc, k, none⟩ = some x ∧ Src w B g ∧ w0.grownBy w (some g)) (hs : Src w' B g) (hg : w.grownBy w' (some g)) :
    w'.cell? ⟨gc, k, none⟩ = some x ∧ Src w' B g ∧ w0.grownBy w' (some g) :=
  ⟨(hg.cell_far ⟨gc, k, none⟩ (Nat.lt_of_lt_of_le hlt h.2.2.size) hne).trans h.1, hs, grown_trans h.2.2 hg⟩
theorem held_drew {w0 w : World} {B g gc k : Nat} {x : Value} (h : w.cell? ⟨gc, k, none⟩ = some x ∧ Src w B g ∧ w0.grownBy w (some g)) :
    w.drew.cell? ⟨gc, k, none⟩ = some x ∧ Src w.drew B g ∧ w0.grownBy w.drew (some g) := ⟨h.1, h.2.1.ext (ext_drew (ext_refl _)), grown_drew h.2.2⟩
theorem signed_held {w0 w : World} {B g gc k : Nat} {x : Value} (n : Int) (hn : 0 ≤ n) (hn1 : n ≤ 4611686018427387903) (h : w.cell? ⟨gc, k, none⟩ = some x ∧ Src w B g ∧ w0.grownBy w (some g)) :
    Calls Try.prog 29 #[.pointer (some ⟨g, 0, none⟩), .int .i64 n] w (Drawn B g (-n) (n + 1) w) := signed_any B g n w h.2.1 hn hn1

/-- The intervals that were made so far are in order. -/
def Made (W : Int) (x : Fx.V3) (j : Nat) : Prop := ∀ i : Nat, i < j → -400000 ≤ x.lo i ∧ x.lo i ≤ x.hi i ∧ x.hi i ≤ x.lo i + W ∧ x.lo i ≤ 400000
def setV (x : Fx.V3) (l h : Int) : Nat → Fx.V3
  | 0 => { x with a := l, b := h }
  | 1 => { x with c := l, d := h }
  | _ => { x with e := l, f := h }
theorem setV_arr (x : Fx.V3) (l h : Int) : ∀ j : Nat, j < 3 → (x.arr.setIfInBounds (j * 2) (.int .i64 l)).setIfInBounds (j * 2 + 1) (.int .i64 h) = (setV x l h j).arr
  | 0, _ => rfl
  | 1, _ => rfl
  | 2, _ => rfl
theorem setV_made {W : Int} {x : Fx.V3} {l h : Int} {j : Nat} (hj : j < 3) (hm : Made W x j) (hl : -400000 ≤ l ∧ l ≤ h ∧ h ≤ l + W ∧ l ≤ 400000) : Made W (setV x l h j) (j + 1) := by
  intro i hi
  match j, hj, i, hi with
  | 0, _, 0, _ => exact hl
  | 1, _, 0, _ => exact hm 0 (by omega)
  | 1, _, 1, _ => exact hl
  | 2, _, 0, _ => exact hm 0 (by omega)
  | 2, _, 1, _ => exact hm 1 (by omega)
  | 2, _, 2, _ => exact hl

/-- A list of placed points is returned. -/
def GivesPts (W : Int) (w : World) (e : Ending) (w' : World) : Prop :=
  ∃ (v : Value) (L : List Fx.V3), e = .returned v ∧ 1 ≤ L.length ∧ L.length ≤ 5 ∧ (∀ x ∈ L, Made W x 3) ∧ w'.ownsRow w.heap.size 34 6 v L.length (vCells L) ∧ Below w.heap.size w w'
end Go.Proofs.Ytgnjconhbloocaa
