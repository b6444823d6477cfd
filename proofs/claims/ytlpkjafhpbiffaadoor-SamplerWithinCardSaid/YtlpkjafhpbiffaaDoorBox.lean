/- Boxes that the makers make; comparing lists; whether a list of numbers lies in a box. -/
import Derived.Test.YtlpkjafhpbiffaaDoorSrc
import Derived.Test.YtlpkjafhpbiffaaDoorIvRow
import Derived.Deep.AppendLies
namespace Go.Proofs.YtlpkjafhpbiffaaDoor
open Go.RowKit
set_option linter.unusedVariables false

theorem info_iv : (Tryd.prog.info? 39).map (fun i => (i.zero, i.size, i.bytes)) = some (some (.agg #[.int .i64 0, .int .i64 0]), 2, 16) := by kernel_rfl

/-- The cells of a list of intervals. -/
def ivCells (L : List (Int × Int)) : List Value := L.flatMap fun p => [.int .i64 p.1, .int .i64 p.2]
theorem ivCells_len (L : List (Int × Int)) : (ivCells L).length = L.length * 2 := by
  induction L with
  | nil => rfl
  | cons a L ih => simp only [ivCells, List.flatMap_cons, List.length_append, List.length_cons, List.length_nil] at *; omega
theorem ivCells_snoc (L : List (Int × Int)) (a b : Int) : ivCells (L ++ [(a, b)]) = ivCells L ++ [.int .i64 a, .int .i64 b] := by simp [ivCells]
theorem ivCells_get : ∀ (L : List (Int × Int)) (i : Nat), i < L.length → (ivCells L)[i * 2]? = some (.int .i64 (L.getD i (0, 0)).1) ∧ (ivCells L)[i * 2 + 1]? = some (.int .i64 (L.getD i (0, 0)).2)
  | [], i, h => absurd h (by simp)
  | a :: L, 0, _ => ⟨rfl, rfl⟩
  | a :: L, i + 1, h => by
    have := ivCells_get L i (by simpa using h)
    have e : (i + 1) * 2 = i * 2 + 1 + 1 := by omega
    rw [e]
    simpa [ivCells] using this

theorem IvSl.of_owns {w : World} {base : Nat} {e : TypeId} {v : Value} {L : List (Int × Int)} (h : w.ownsRow base e 2 v L.length (ivCells L)) (hn : L.length ≤ 9223372036854775807) : IvSl w v L := by
  have hl := h.lt
  have h' := h
  obtain ⟨h0, h⟩ := h
  rcases h with ⟨rfl, h⟩ | ⟨g, cap, cur, rfl, hg, hh, h⟩
  · refine ⟨none, 0, by rw [h], hn, fun hp => absurd hp (by omega)⟩
  · refine ⟨some ⟨g, 0, none⟩, cap, rfl, hn, fun hp => ⟨g, 0, rfl, (hl g rfl).2, fun i hi => ?_⟩⟩
    rw [Nat.zero_add, h'.cellAt (i * 2) (by omega), h'.cellAt (i * 2 + 1) (by omega)]
    exact ivCells_get L i hi

theorem owns_far {w w' : World} {base g : Nat} {e : TypeId} {size : Nat} {v : Value} {n : Nat} {xs : List Value} (h : w.ownsRow base e size v n xs) (hg : w.grownBy w' (some g)) (hlt : g < base) : w'.ownsRow base e size v n xs := by
  refine h.kept hg ?_
  by_cases hv : v.ownBlock = none
  · exact .inl hv
  · refine .inr fun e => ?_
    have := (h.lt g e).1
    omega

theorem own_ne {w : World} {base g : Nat} {e : TypeId} {size : Nat} {v : Value} {n : Nat} {xs : List Value} (h : w.ownsRow base e size v n xs) (hlt : g < base) : some g ≠ v.ownBlock := fun e => by
  have := (h.lt g e.symm).1
  omega

/-- Behind an append onto a row of the call's own only what is not below has changed. -/
theorem grown_app {a w w' : World} {g : Nat} {e : TypeId} {size : Nat} {v : Value} {n : Nat} {xs : List Value} (h : a.grownBy w (some g)) (hown : w.ownsRow a.heap.size e size v n xs) (hg : w.grownBy w' v.ownBlock) : a.grownBy w' (some g) :=
  ⟨hg.os.trans h.os, hg.tape.trans h.tape, hg.output.trans h.output, Nat.le_trans h.size hg.size, fun i hi hne => (hg.block i (Nat.lt_of_lt_of_le hi h.size) (fun e => by have := (hown.lt i e.symm).1; omega)).trans (h.block i hi hne)⟩

/-- A box of one to three intervals is returned; only the source's block, and what is new, has changed. -/
def GivesBox (B g : Nat) (w : World) (e : Ending) (w' : World) : Prop :=
  ∃ (v : Value) (L : List (Int × Int)), e = .returned v ∧ Fx.boxB L = true ∧ w'.ownsRow w.heap.size 39 2 v L.length (ivCells L) ∧ w.grownBy w' (some g)

set_option maxHeartbeats 2000000 in
theorem root_any (B g : Nat) (w : World) (hs : Src w B g) :
    Calls Tryd.prog 34 #[.pointer (some ⟨g, 0, none⟩)] w (GivesBox B g w) := by
  have hgw := hs.lt
  have HS := Lib.hid hs; clear hs
  obtain ⟨i0, hi, hz0, hz1, hz2⟩ := info_parts info_iv
  go_enter Tryd.func34, Tryd.ntmps34
  go_wp2_with fail
  refine (next_any B g _ _ HS.out (by omega) (by omega)).mono ?_
  rintro e w1 ⟨n, n0, n1, rfl, hs1, hg1⟩
  clear HS
  have HS1 := Lib.hid hs1; clear hs1
  go_wp2_with fail
  go_loopw [3, 4] (fun ov nv wr => ∃ (L : List (Int × Int)) (j : Nat), L.length + j = (1 + n).toNat ∧ nv = .int .i64 j ∧ Hid (Fx.allB L = true) ∧ wr.ownsRow w.heap.size 39 2 ov L.length (ivCells L) ∧ Src wr B g ∧ w.grownBy wr (some g)) (fun _ nv _ => (intOf nv).toNat)
  case atStart => exact ⟨[], (1 + n).toNat, by simp, by go_num, Lib.hid rfl, World.ownsRow_nil _ _ _ _, HS1.out, hg1⟩
  case round =>
    obtain ⟨L, j, hlj, rfl, hA, hown, hs, hg⟩ := hrel
    by_cases hj : 0 < j
    · have hL3 : L.length ≤ 2 := by omega
      go_wp2_with fail
      refine (signed_any B g _ _ hs (by omega) (by omega)).mono ?_
      rintro e w2 ⟨lo, lo0, lo1, rfl, hs2, hg2⟩
      have hown2 := owns_far hown hg2 hgw
      have hG2 := grown_trans hg hg2
      clear hs hg2 hown hg
      go_wp2_with fail
      refine (next_any B g _ _ hs2 (by omega) (by omega)).mono ?_
      rintro e w3 ⟨x, x0, x1, rfl, hs3, hg3⟩
      have hown3 := owns_far hown2 hg3 hgw
      have hG3 := grown_trans hG2 hg3
      clear hs2 hg3 hown2 hG2
      have hz3 := hG3.size
      go_wp2_with (at_builtin; refine wpList_append_lies _ rfl _ _ _ rfl w.heap.size 39 i0 _ 2 16 Tryd.underlying36 hi hz0 hz1 hz2 rfl (by omega) _ L.length (ivCells L) rfl (hown3.alloc _) ⟨w3.heap.size, 0, none⟩ 1 1 [.int .i64 lo, .int .i64 (lo + x)] rfl rfl (World.news_of_block (cs := #[.int .i64 lo, .int .i64 (lo + x)]) (t := 39) (fr := (0, 0)) (heap_alloc_new w3 _)) (by simp [Value.oneCell']) (by omega) (by unfold maxLen; omega) (by omega) (by simp; omega) (w3.heap.size + 1) (by simp) ?_; intro g' cap w5 hown5 hgrow hat hlt)
      have hs5 := (hs3.alloc (.cells #[.int .i64 lo, .int .i64 (lo + x)] 39)).grown hgrow (own_ne hown3 hgw) (fun k e => by have := (hown3.lt k e).1; have := hs3.1; omega)
      have hG5 := grown_app (grown_alloc hG3 _) (hown3.alloc _) hgrow
      have hnext : w5.ownsRow w.heap.size 39 2 (.slice (some ⟨g', 0, none⟩) (L.length + 1) cap) (L ++ [(lo, lo + x)]).length (ivCells (L ++ [(lo, lo + x)])) := by
        rw [ivCells_snoc, List.length_append]; exact hown5
      have HAx : Hid (Fx.allB (L ++ [(lo, lo + x)]) = true) := Lib.hid (by
        have h1 := hA.out
        unfold Fx.allB at h1 ⊢
        rw [List.all_append, h1]
        simp [Fx.vb]; omega)
      have hlen : (L ++ [(lo, lo + x)]).length + (j - 1) = (1 + n).toNat := by simp; omega
      have HL := Lib.hid hlen
      clear hlen hown5 hgrow hat hlt hs3 hG3 hown3
      go_wp2_with fail
      go_roundw
      case rel => exact ⟨_, j - 1, HL.out, by go_num, HAx, hnext, hs5, hG5⟩
      case measure => simp [intOf]; omega
    · obtain rfl : j = 0 := by omega
      have hB : Fx.boxB L = true := by rw [Fx.boxB_eq L (by omega) (by omega)]; exact hA.out
      have HB := Lib.hid hB; clear hB
      go_wp2_with fail
      go_ret
      exact ⟨_, L, rfl, HB.out, hown, hg⟩

theorem Root_any (v : Value) (xs : List Int) (w : World) (h : IntSl w v xs) :
    Calls Tryd.prog 20 #[v] w fun e w' => ∃ (u : Value) (L : List (Int × Int)), e = .returned u ∧ Fx.boxB L = true ∧ w'.ownsRow w.heap.size 39 2 u L.length (ivCells L) ∧ Below w.heap.size w w' := by
  have H := Lib.hid h
  obtain ⟨a, c, rfl, _, _⟩ := h
  go_enter Tryd.func20, Tryd.ntmps20
  go_wp2_with fail
  refine (from_any _ xs _ H.out).mono ?_
  rintro e w1 ⟨rfl, hs, hb⟩
  go_wp2_with fail
  refine (root_any w.heap.size w.heap.size _ hs).mono ?_
  rintro e w2 ⟨u, L, rfl, hB, hown, hg⟩
  have HB := Lib.hid hB; clear hB
  have hown' : w2.ownsRow w.heap.size 39 2 u L.length (ivCells L) := by
    obtain ⟨h0, h1⟩ := hown
    refine ⟨h0, ?_⟩
    rcases h1 with h1 | ⟨g, cap, cur, e1, e2, e3⟩
    · exact .inl h1
    · exact .inr ⟨g, cap, cur, e1, Nat.le_trans hb.size e2, e3⟩
  have hB2 := below_grown hb (Nat.le_refl _) (Nat.le_refl _) hg
  clear hown hg hs hb
  go_wp2_with fail
  go_ret
  exact ⟨u, L, rfl, HB.out, hown', hB2⟩
end Go.Proofs.YtlpkjafhpbiffaaDoor
