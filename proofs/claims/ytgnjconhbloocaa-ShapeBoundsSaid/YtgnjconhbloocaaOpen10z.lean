/- A row's argument that is a slice of vectors, opened, with the size of its datum. -/
import Derived.Test.YtgnjconhbloocaaOpen10
import Derived.SizedLaws
namespace Go.Proofs.Ytgnjconhbloocaa
open Go.ChangeShapes Go.WideShapes Go.ChangeAt Go.RowKit Go.Deep
set_option linter.unusedVariables false

set_option maxRecDepth 100000 in
theorem open_vslz {H : Type} {enc : TypeId × Value → H} {W : World} {r : Reach} {b0 base : Nat} {sp : Nat → Bool} {held : Bool} {v : Value} {d : DataW H} {p : List MemPlace}
    (hv : Value.okWide Try.prog W r b0 22 v) (h : DataW.Trod enc Try.prog W base sp held 22 v d p) : ∃ L : List Fx.V3, VSl W v L ∧ (L = [] ∨ ∃ elems spare, d = .slice elems spare ∧ elems.length = L.length) := by
  obtain ⟨L, hL⟩ := open_vsl hv h
  refine ⟨L, hL, ?_⟩
  obtain ⟨a0, c0, rfl, _, _⟩ := hL
  obtain ⟨fuel, hf⟩ := h
  rcases open_slice Try.underlying22 hf with ⟨hcs, hx⟩ | ⟨a, len', cap', m, n, D, Pl, hcs, hb, hl, hm, hmm, hx, hi⟩
  · simp [Value.cells] at hcs
    exact .inl hcs.2.1
  · simp [Value.cells] at hcs
    right
    simp only [Prod.mk.injEq] at hx
    exact ⟨_, _, hx.1, by rw [List.length_map, List.length_range]; exact hcs.2.1.symm⟩

theorem bytes_ivec : Try.prog.bytesOf 34 = 48 := by kernel_rfl
theorem reach_num : reachBytes = 140737488351232 := by kernel_rfl
end Go.Proofs.Ytgnjconhbloocaa
