/- Slices of 64-bit integers: what such a slice reads as. -/
import Derived.Test.YtgnjconhbloocaaMem
import Derived.Test.YtgnjconhbloocaaSampMath
import Derived.Deep.AppendLies
namespace Go.Proofs.Ytgnjconhbloocaa
open Go.RowKit
set_option linter.unusedVariables false

/-- The cells of block b from o on hold the numbers xs. -/
def IntAt (w : World) (b o : Nat) (xs : List Int) : Prop :=
  b < w.heap.size ∧ ∀ i : Nat, i < xs.length → w.cell? ⟨b, o + i, none⟩ = some (.int .i64 (xs.getD i 0))

/-- The slice value v reads as the list xs of numbers. -/
def IntSl (w : World) (v : Value) (xs : List Int) : Prop :=
  ∃ (a : Option Addr) (c : Nat), v = .slice a xs.length c ∧ xs.length ≤ 9223372036854775807 ∧ (0 < xs.length → ∃ b o, a = some ⟨b, o, none⟩ ∧ IntAt w b o xs)

theorem IntAt.ext {w w' : World} {b o : Nat} {xs : List Int} (h : IntAt w b o xs) (hb : Below w.heap.size w w') : IntAt w' b o xs :=
  ⟨Nat.lt_of_lt_of_le h.1 hb.size, fun i hi => (hb.cell (p := ⟨b, _, none⟩) h.1).trans (h.2 i hi)⟩

theorem IntSl.ext {w w' : World} {v : Value} {xs : List Int} (h : IntSl w v xs) (hb : Below w.heap.size w w') : IntSl w' v xs := by
  obtain ⟨a, c, hv, hl, h⟩ := h
  exact ⟨a, c, hv, hl, fun h0 => by obtain ⟨b, o, ha, hI⟩ := h h0; exact ⟨b, o, ha, hI.ext hb⟩⟩

theorem IntSl.nil (w : World) (a : Option Addr) (c : Nat) : IntSl w (.slice a 0 c) [] := ⟨a, c, rfl, by simp, fun h => absurd h (by simp)⟩

theorem owns_ext {w w' : World} {base : Nat} {e : TypeId} {size : Nat} {v : Value} {n : Nat} {xs : List Value} (h : w.ownsRow base e size v n xs) (hb : Below w.heap.size w w') : w'.ownsRow base e size v n xs := by
  have hl := h.lt
  obtain ⟨h0, h⟩ := h
  refine ⟨h0, ?_⟩
  rcases h with h | ⟨g, cap, cur, rfl, hg, hh, h⟩
  · exact .inl h
  · exact .inr ⟨g, cap, cur, rfl, hg, (hb.block g (hl g rfl).2).trans hh, h⟩

theorem IntSl.of_owns {w : World} {base : Nat} {e : TypeId} {v : Value} {n : Nat} {f : Nat → Int} (h : w.ownsRow base e 1 v n (Fx.cellsOf f n)) (hn : n ≤ 9223372036854775807) : IntSl w v ((List.range n).map f) := by
  have hl := h.lt
  have h' := h
  obtain ⟨h0, h⟩ := h
  rcases h with ⟨rfl, rfl⟩ | ⟨g, cap, cur, rfl, hg, hh, h⟩
  · exact IntSl.nil _ _ _
  · refine ⟨some ⟨g, 0, none⟩, cap, by simp, by simpa using hn, fun hp => ⟨g, 0, rfl, (hl g rfl).2, fun i hi => ?_⟩⟩
    simp at hi
    rw [Nat.zero_add, h'.cellAt i (by omega), Fx.cellsOf_get f n i hi]
    simp [List.getD_eq_getElem?_getD, hi]
end Go.Proofs.Ytgnjconhbloocaa
