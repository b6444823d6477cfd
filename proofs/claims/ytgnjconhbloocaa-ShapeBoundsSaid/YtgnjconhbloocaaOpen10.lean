/- A row's arguments that are slices, opened: what they read as. -/
import Derived.Test.YtgnjconhbloocaaIntRow
import Derived.Test.YtgnjconhbloocaaShape1
import Derived.ProofKit
import Derived.OpenShut
import Derived.Deep.Slices
import Derived.Deep.SlicePairs
import Derived.Lib.SmallJoins
namespace Go.Proofs.Ytgnjconhbloocaa
open Go.ChangeShapes Go.WideShapes Go.ChangeAt Go.RowKit Go.Deep
set_option linter.unusedVariables false

theorem cells_int : Try.prog.cellsOf 3 = 1 := by kernel_rfl
theorem cells_int64 : Try.prog.cellsOf 2 = 1 := by kernel_rfl

theorem add_none (b o i : Nat) : (⟨b, o, none⟩ : Addr).add i = ⟨b, o + i, none⟩ := by
  unfold Addr.add
  split
  · rename_i h; subst h; rfl
  · rfl

set_option maxRecDepth 100000 in
theorem open_intsl {H : Type} {enc : TypeId × Value → H} {W : World} {r : Reach} {b0 base : Nat} {sp : Nat → Bool} {held : Bool} {v : Value} {d : DataW H} {p : List MemPlace}
    (hv : Value.okWide Try.prog W r b0 24 v) (h : DataW.Trod enc Try.prog W base sp held 24 v d p) : ∃ xs : List Int, IntSl W v xs ∧ ∀ x ∈ xs, (Lit.int .i64 x).wf = true := by
  obtain ⟨a0, len, cap, rfl⟩ := okWide_slice Try.underlying24 hv
  obtain ⟨fuel, hf⟩ := h
  rcases open_ints Try.underlying24 Try.underlying3 cells_int hf with ⟨hcs, hx⟩ | ⟨a, len', cap', zs, hcs, _, hl, hm, hz, hx, hcell, hwz⟩
  · simp [Value.cells] at hcs
    obtain ⟨rfl, rfl, rfl⟩ := hcs
    exact ⟨[], IntSl.nil _ _ _, by simp⟩
  · simp [Value.cells] at hcs
    obtain ⟨rfl, rfl, rfl⟩ := hcs
    unfold maxLen at hm
    have hlz : len ≤ zs.length := by rw [hz]; split <;> omega
    refine ⟨zs.take len, ⟨some a, cap, by rw [List.length_take, Nat.min_eq_left hlz], by rw [List.length_take, Nat.min_eq_left hlz]; omega, fun hp => ?_⟩, fun x hx => hwz x (List.mem_of_mem_take hx)⟩
    rw [List.length_take, Nat.min_eq_left hlz] at hp
    obtain ⟨b, off, spot⟩ := a
    have hspot : spot = none := by simpa [Addr.add] using World.cell?_spot (hcell 0 (by omega))
    subst hspot
    have hc : ∀ i, i < len → W.cell? ⟨b, off + i, none⟩ = some (.int .i64 (zs.getD i 0)) := fun i hi => by rw [← add_none]; exact hcell i (by omega)
    refine ⟨b, off, rfl, World.block_lt_of_cell? W _ (hc 0 hp), fun i hi => ?_⟩
    rw [List.length_take, Nat.min_eq_left hlz] at hi
    rw [hc i hi]
    simp [List.getD_eq_getElem?_getD, List.getElem?_take, hi]

set_option maxRecDepth 100000 in
theorem open_i64sl {H : Type} {enc : TypeId × Value → H} {W : World} {r : Reach} {b0 base : Nat} {sp : Nat → Bool} {held : Bool} {v : Value} {d : DataW H} {p : List MemPlace}
    (hv : Value.okWide Try.prog W r b0 23 v) (h : DataW.Trod enc Try.prog W base sp held 23 v d p) : ∃ xs : List Int, IntSl W v xs ∧ ∀ x ∈ xs, (Lit.int .i64 x).wf = true := by
  obtain ⟨a0, len, cap, rfl⟩ := okWide_slice Try.underlying23 hv
  obtain ⟨fuel, hf⟩ := h
  rcases open_ints Try.underlying23 Try.underlying2 cells_int64 hf with ⟨hcs, hx⟩ | ⟨a, len', cap', zs, hcs, _, hl, hm, hz, hx, hcell, hwz⟩
  · simp [Value.cells] at hcs
    obtain ⟨rfl, rfl, rfl⟩ := hcs
    exact ⟨[], IntSl.nil _ _ _, by simp⟩
  · simp [Value.cells] at hcs
    obtain ⟨rfl, rfl, rfl⟩ := hcs
    unfold maxLen at hm
    have hlz : len ≤ zs.length := by rw [hz]; split <;> omega
    refine ⟨zs.take len, ⟨some a, cap, by rw [List.length_take, Nat.min_eq_left hlz], by rw [List.length_take, Nat.min_eq_left hlz]; omega, fun hp => ?_⟩, fun x hx => hwz x (List.mem_of_mem_take hx)⟩
    rw [List.length_take, Nat.min_eq_left hlz] at hp
    obtain ⟨b, off, spot⟩ := a
    have hspot : spot = none := by simpa [Addr.add] using World.cell?_spot (hcell 0 (by omega))
    subst hspot
    have hc : ∀ i, i < len → W.cell? ⟨b, off + i, none⟩ = some (.int .i64 (zs.getD i 0)) := fun i hi => by rw [← add_none]; exact hcell i (by omega)
    refine ⟨b, off, rfl, World.block_lt_of_cell? W _ (hc 0 hp), fun i hi => ?_⟩
    rw [List.length_take, Nat.min_eq_left hlz] at hi
    rw [hc i hi]
    simp [List.getD_eq_getElem?_getD, List.getElem?_take, hi]

set_option maxRecDepth 100000 in
/-- The two cells of an interval are numbers. -/
theorem iv_ints {H : Type} {enc : TypeId × Value → H} {W : World} {base : Nat} {sp : Nat → Bool} {held : Bool} {n : Nat} {x y : Value} {z : DataW H × List MemPlace}
    (h : DataW.trod enc Try.prog W base sp held n 32 [x, y] = some z) : ∃ a b : Int, x = .int .i64 a ∧ y = .int .i64 b := by
  obtain ⟨ys, n', hn', hy, hlen, hyl, hf⟩ := DataW.trod_struct Try.underlying32 h
  have h0 : DataW.trod enc Try.prog W base sp held n' 2 (([x, y].drop 0).take (Try.prog.cellsOf 2)) = ys[0]? := hf 0 _ rfl
  have h1 : DataW.trod enc Try.prog W base sp held n' 2 (([x, y].drop 1).take (Try.prog.cellsOf 2)) = ys[1]? := hf 1 _ rfl
  rw [show Try.prog.cellsOf 2 = 1 by kernel_rfl] at h0 h1
  simp at hyl
  rw [List.getElem?_eq_getElem (by omega)] at h0 h1
  obtain ⟨a, e0, _, _⟩ := DataW.trod_int Try.underlying2 h0
  obtain ⟨b, e1, _, _⟩ := DataW.trod_int Try.underlying2 h1
  simp at e0 e1
  exact ⟨a, b, e0, e1⟩

set_option maxRecDepth 100000 in
/-- The six cells of a vector of intervals are numbers. -/
theorem ivec_ints {H : Type} {enc : TypeId × Value → H} {W : World} {base : Nat} {sp : Nat → Bool} {held : Bool} {n : Nat} {cs : List Value} {z : DataW H × List MemPlace} (hl : cs.length = 6)
    (h : DataW.trod enc Try.prog W base sp held n 34 cs = some z) : ∃ q : Fx.V3, cs = q.cells := by
  obtain ⟨xs, m, hm, hx, hlen, hxl, hf⟩ := DataW.trod_array Try.underlying34 h
  match cs, hl with
  | [c0, c1, c2, c3, c4, c5], _ =>
    have h0 : DataW.trod enc Try.prog W base sp held m 32 (([c0, c1, c2, c3, c4, c5].drop (0 * Try.prog.cellsOf 32)).take (Try.prog.cellsOf 32)) = xs[0]? := hf 0 (by omega)
    have h1 : DataW.trod enc Try.prog W base sp held m 32 (([c0, c1, c2, c3, c4, c5].drop (1 * Try.prog.cellsOf 32)).take (Try.prog.cellsOf 32)) = xs[1]? := hf 1 (by omega)
    have h2 : DataW.trod enc Try.prog W base sp held m 32 (([c0, c1, c2, c3, c4, c5].drop (2 * Try.prog.cellsOf 32)).take (Try.prog.cellsOf 32)) = xs[2]? := hf 2 (by omega)
    rw [show Try.prog.cellsOf 32 = 2 by kernel_rfl] at h0 h1 h2
    rw [List.getElem?_eq_getElem (by omega)] at h0 h1 h2
    obtain ⟨a, b, rfl, rfl⟩ := iv_ints h0
    obtain ⟨c, d, rfl, rfl⟩ := iv_ints h1
    obtain ⟨e, f, rfl, rfl⟩ := iv_ints h2
    exact ⟨⟨a, b, c, d, e, f⟩, rfl⟩

set_option maxRecDepth 100000 in
theorem open_vsl {H : Type} {enc : TypeId × Value → H} {W : World} {r : Reach} {b0 base : Nat} {sp : Nat → Bool} {held : Bool} {v : Value} {d : DataW H} {p : List MemPlace}
    (hv : Value.okWide Try.prog W r b0 22 v) (h : DataW.Trod enc Try.prog W base sp held 22 v d p) : ∃ L : List Fx.V3, VSl W v L := by
  obtain ⟨a0, len, cap, rfl⟩ := okWide_slice Try.underlying22 hv
  obtain ⟨fuel, hf⟩ := h
  rcases open_slice Try.underlying22 hf with ⟨hcs, hx⟩ | ⟨a, len', cap', m, n, D, Pl, hcs, hb, hl, hm, hmm, hx, hi⟩
  · simp [Value.cells] at hcs
    obtain ⟨rfl, rfl, rfl⟩ := hcs
    exact ⟨[], ⟨_, _, rfl, by simp, fun h => absurd h (by simp)⟩⟩
  · simp [Value.cells] at hcs
    obtain ⟨rfl, rfl, rfl⟩ := hcs
    unfold maxLen at hm
    have hlm : len ≤ m := by rw [hmm]; split <;> omega
    have each : ∀ i, i < len → ∃ q : Fx.V3, ∀ j, j < 6 → W.cell? ((a.add (i * 6)).add j) = q.cells[j]? := fun i hi' => by
      obtain ⟨cs', hc, ht⟩ := hi i (by omega)
      rw [show Try.prog.cellsOf 34 = 6 by kernel_rfl] at hc
      obtain ⟨_, hcl, hat⟩ := World.cells?_some hc
      obtain ⟨q, rfl⟩ := ivec_ints hcl ht
      exact ⟨q, hat⟩
    have choose : ∃ f : Nat → Fx.V3, ∀ i, i < len → ∀ j, j < 6 → W.cell? ((a.add (i * 6)).add j) = (f i).cells[j]? :=
      ⟨fun i => if h : i < len then Classical.choose (each i h) else Fx.V3.zero, fun i h => by simp only [dif_pos h]; exact Classical.choose_spec (each i h)⟩
    obtain ⟨f, hf'⟩ := choose
    refine ⟨(List.range len).map f, some a, cap, by simp, by simp; omega, fun hp => ?_⟩
    simp at hp
    obtain ⟨b, off, spot⟩ := a
    have hc0 : W.cell? (((⟨b, off, spot⟩ : Addr).add (0 * 6)).add 0) = some (.int .i64 (f 0).a) := hf' 0 hp 0 (by omega)
    have hspot : spot = none := by simpa [Addr.add] using World.cell?_spot hc0
    subst hspot
    refine ⟨b, off, rfl, World.block_lt_of_cell? W _ (by rw [add_none, add_none] at hc0; exact hc0), fun i hi j hj => ?_⟩
    simp at hi
    have h0 := hf' i hi j hj
    rw [add_none, add_none] at h0
    rw [h0]
    simp [List.getD_eq_getElem?_getD, hi]
end Go.Proofs.Ytgnjconhbloocaa
