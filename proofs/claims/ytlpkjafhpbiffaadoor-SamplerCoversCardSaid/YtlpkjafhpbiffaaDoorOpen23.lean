/- A row's arguments that are slices, opened: what they read as. -/
import Derived.Test.YtlpkjafhpbiffaaDoorIvRow
import Derived.Test.YtlpkjafhpbiffaaDoorIntRow
import Derived.ProofKit
import Derived.OpenShut
import Derived.Deep.Slices
import Derived.Deep.SlicePairs
import Derived.Lib.SmallJoins
namespace Go.Proofs.YtlpkjafhpbiffaaDoor
open Go.ChangeShapes Go.WideShapes Go.ChangeAt Go.RowKit Go.Deep
set_option linter.unusedVariables false

theorem cells_int : Tryd.prog.cellsOf 3 = 1 := by kernel_rfl
theorem cells_iv : Tryd.prog.cellsOf 39 = 2 := by kernel_rfl

theorem add_none (b o i : Nat) : (⟨b, o, none⟩ : Addr).add i = ⟨b, o + i, none⟩ := by
  unfold Addr.add
  split
  · rename_i h; subst h; rfl
  · rfl

theorem open_intsl {H : Type} {enc : TypeId × Value → H} {W : World} {r : Reach} {b0 base : Nat} {sp : Nat → Bool} {held : Bool} {v : Value} {d : DataW H} {p : List MemPlace}
    (hv : Value.okWide Tryd.prog W r b0 34 v) (h : DataW.Trod enc Tryd.prog W base sp held 34 v d p) : ∃ xs : List Int, IntSl W v xs ∧ ∀ x ∈ xs, (Lit.int .i64 x).wf = true := by
  obtain ⟨a0, len, cap, rfl⟩ := okWide_slice Tryd.underlying34 hv
  obtain ⟨fuel, hf⟩ := h
  rcases open_ints Tryd.underlying34 Tryd.underlying3 cells_int hf with ⟨hcs, hx⟩ | ⟨a, len', cap', zs, hcs, _, hl, hm, hz, hx, hcell, hwz⟩
  · simp [Value.cells] at hcs
    obtain ⟨rfl, rfl, rfl⟩ := hcs
    exact ⟨[], IntSl.nil _ _ _, by simp⟩
  · simp [Value.cells] at hcs
    obtain ⟨rfl, rfl, rfl⟩ := hcs
    unfold maxLen at hm
    have hlz : len ≤ zs.length := by rw [hz]; split <;> omega
    refine ⟨zs.take len, ⟨some a, cap, by rw [List.length_take, Nat.min_eq_left hlz], by rw [List.length_take, Nat.min_eq_left hlz]; omega, fun hp => ?_⟩, fun x hx => hwz x (List.mem_of_mem_take hx)⟩
    rw [List.length_take, Nat.min_eq_left hlz] at hp
    obtain ⟨b, off, spot⟩ := a
    have hspot : spot = none := by simpa [Addr.add] using World.cell?_spot (hcell 0 (by omega))
    subst hspot
    have hc : ∀ i, i < len → W.cell? ⟨b, off + i, none⟩ = some (.int .i64 (zs.getD i 0)) := fun i hi => by rw [← add_none]; exact hcell i (by omega)
    refine ⟨b, off, rfl, World.block_lt_of_cell? W _ (hc 0 hp), fun i hi => ?_⟩
    rw [List.length_take, Nat.min_eq_left hlz] at hi
    rw [hc i hi]
    simp [List.getD_eq_getElem?_getD, List.getElem?_take, hi]

theorem open_ivsl {H : Type} {enc : TypeId × Value → H} {W : World} {r : Reach} {b0 base : Nat} {sp : Nat → Bool} {held : Bool} {v : Value} {d : DataW H} {p : List MemPlace}
    (hv : Value.okWide Tryd.prog W r b0 36 v) (h : DataW.Trod enc Tryd.prog W base sp held 36 v d p) : ∃ L : List (Int × Int), IvSl W v L := by
  obtain ⟨a0, len, cap, rfl⟩ := okWide_slice Tryd.underlying36 hv
  obtain ⟨fuel, hf⟩ := h
  rcases open_slice_pairs Tryd.underlying36 Tryd.underlying39 cells_iv rfl rfl (show Tryd.prog.cellsOf 2 = 1 by kernel_rfl) (show Tryd.prog.cellsOf 2 = 1 by kernel_rfl) hf with ⟨hcs, hx⟩ | ⟨a, len', cap', m, n, V0, V1, D0, D1, P0, P1, hcs, hb, hl, hm, hmm, hx, hi⟩
  · simp [Value.cells] at hcs
    obtain ⟨rfl, rfl, rfl⟩ := hcs
    exact ⟨[], ⟨_, _, rfl, by simp, fun h => absurd h (by simp)⟩⟩
  · simp [Value.cells] at hcs
    obtain ⟨rfl, rfl, rfl⟩ := hcs
    unfold maxLen at hm
    have hlm : len ≤ m := by rw [hmm]; split <;> omega
    have each : ∀ i, i < len → ∃ q : Int × Int, W.cell? (a.add (i * 2)) = some (.int .i64 q.1) ∧ W.cell? (a.add (i * 2 + 1)) = some (.int .i64 q.2) := fun i hi' => by
      obtain ⟨h0, h1, t0, t1⟩ := hi i (by omega)
      obtain ⟨x, e0, _, _⟩ := DataW.trod_int Tryd.underlying2 t0
      obtain ⟨y, e1, _, _⟩ := DataW.trod_int Tryd.underlying2 t1
      simp at e0 e1
      rw [e0] at h0
      rw [e1] at h1
      exact ⟨(x, y), h0, h1⟩
    have choose : ∃ f : Nat → Int × Int, ∀ i, i < len → W.cell? (a.add (i * 2)) = some (.int .i64 (f i).1) ∧ W.cell? (a.add (i * 2 + 1)) = some (.int .i64 (f i).2) :=
      ⟨fun i => if h : i < len then Classical.choose (each i h) else (0, 0), fun i h => by simp only [dif_pos h]; exact Classical.choose_spec (each i h)⟩
    obtain ⟨f, hf'⟩ := choose
    refine ⟨(List.range len).map f, some a, cap, by simp, by simp; omega, fun hp => ?_⟩
    simp at hp
    obtain ⟨b, off, spot⟩ := a
    have hspot : spot = none := by simpa [Addr.add] using World.cell?_spot (hf' 0 (by omega)).1
    subst hspot
    refine ⟨b, off, rfl, World.block_lt_of_cell? W _ (by have := (hf' 0 hp).1; rw [add_none] at this; exact this), fun i hi => ?_⟩
    simp at hi
    obtain ⟨h0, h1⟩ := hf' i hi
    rw [add_none] at h0 h1
    rw [h0, Nat.add_assoc, h1]
    simp [List.getD_eq_getElem?_getD, hi]
end Go.Proofs.YtlpkjafhpbiffaaDoor
