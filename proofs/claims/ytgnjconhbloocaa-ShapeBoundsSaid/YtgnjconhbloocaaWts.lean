/- Weights that the makers make, and their sum. -/
import Derived.Test.YtgnjconhbloocaaPts2
namespace Go.Proofs.Ytgnjconhbloocaa
open Go.RowKit
set_option linter.unusedVariables false

theorem info_int64' : (Try.prog.info? 2).map (fun i => (i.zero, i.size, i.bytes)) = some (some (.int .i64 0), 1, 8) := by kernel_rfl

def iCells (ws : List Int) : List Value := ws.map (.int .i64)
theorem iCells_len (ws : List Int) : (iCells ws).length = ws.length := by simp [iCells]
theorem iCells_snoc (ws : List Int) (x : Int) : iCells (ws ++ [x]) = iCells ws ++ [.int .i64 x] := by simp [iCells]
theorem iCells_get (ws : List Int) (i : Nat) (h : i < ws.length) : (iCells ws)[i]? = some (.int .i64 (ws.getD i 0)) := by simp [iCells, List.getD_eq_getElem?_getD, h]
theorem iCells_set (ws : List Int) (i : Nat) (x : Int) : (iCells ws).set i (.int .i64 x) = iCells (ws.set i x) := by simp [iCells, List.map_set]

theorem IntSl.of_rows {w : World} {base : Nat} {e : TypeId} {v : Value} {ws : List Int} (h : w.ownsRow base e 1 v ws.length (iCells ws)) (hn : ws.length ≤ 9223372036854775807) : IntSl w v ws := by
  have hl := h.lt
  have h' := h
  obtain ⟨h0, h⟩ := h
  rcases h with ⟨rfl, h⟩ | ⟨g, cap, cur, rfl, hg, hh, h⟩
  · refine ⟨none, 0, by rw [h], hn, fun hp => absurd hp (by omega)⟩
  · refine ⟨some ⟨g, 0, none⟩, cap, rfl, hn, fun hp => ⟨g, 0, rfl, (hl g rfl).2, fun i hi => ?_⟩⟩
    rw [Nat.zero_add, h'.cellAt i (by omega)]
    exact iCells_get ws i hi

/-- Weights from 0 to 9 that are not all 0 are returned. -/
def GivesWts (n : Nat) (w : World) (e : Ending) (w' : World) : Prop :=
  ∃ (v : Value) (ws : List Int), e = .returned v ∧ ws.length = n ∧ (∀ k : Nat, k < n → 0 ≤ ws.getD k 0 ∧ ws.getD k 0 ≤ 9) ∧ (∃ k : Nat, k < n ∧ 1 ≤ ws.getD k 0) ∧ w'.ownsRow w.heap.size 2 1 v ws.length (iCells ws) ∧ Below w.heap.size w w'

theorem ownsRow_form' {w : World} {base size n : Nat} {e : TypeId} {v : Value} {xs : List Value} (h : w.ownsRow base e size v n xs) (hn : 0 < n) : ∃ g cap, v = .slice (some ⟨g, 0, none⟩) n cap := by
  rcases h.2 with ⟨_, h⟩ | ⟨g, cap, _, rfl, _⟩
  · omega
  · exact ⟨g, cap, rfl⟩

theorem set_getD (ws : List Int) (i k : Nat) (x : Int) (hi : i < ws.length) : (ws.set i x).getD k 0 = if i = k then x else ws.getD k 0 := by
  simp only [List.getD_eq_getElem?_getD, List.getElem?_set]
  by_cases h : i = k
  · subst h; simp [hi]
  · simp [h]

theorem snoc_all {P : Int → Prop} {ws : List Int} {x : Int} (h : ∀ k : Nat, k < ws.length → P (ws.getD k 0)) (hx : P x) : ∀ k : Nat, k < (ws ++ [x]).length → P ((ws ++ [x]).getD k 0) := by
  intro k hk
  simp only [List.length_append, List.length_cons, List.length_nil] at hk
  by_cases e : k < ws.length
  · have := h k e
    simp only [List.getD_eq_getElem?_getD, List.getElem?_append_left e] at this ⊢
    exact this
  · obtain rfl : k = ws.length := by omega
    simpa [List.getD_eq_getElem?_getD] using hx

set_option maxRecDepth 100000 in
set_option maxHeartbeats 2000000 in
theorem weights_any (n : Nat) (v : Value) (xs : List Int) (w : World) (h : IntSl w v xs) (hn0 : 1 ≤ n) (hn1 : n ≤ 5) :
    Calls Try.prog 11 #[.int .i64 n, v] w (GivesWts n w) := by
  have H := Lib.hid h
  obtain ⟨a, c, rfl, _, _⟩ := h
  obtain ⟨i0, hi, hz0, hz1, hz2⟩ := info_parts info_int64'
  go_enter Try.func11, Try.ntmps11
  go_wp2_with fail
  refine (from_any _ xs _ H.out).mono ?_
  rintro e w1 ⟨rfl, hs1, hb1⟩
  clear H
  have HS1 := Lib.hid hs1
  clear hs1
  go_wp2_with fail
  go_loopw [6, 7] (fun ov jv wr => ∃ (ws : List Int), ws.length ≤ n ∧ jv = .int .i64 ws.length ∧ Hid (∀ k : Nat, k < ws.length → 0 ≤ ws.getD k 0 ∧ ws.getD k 0 ≤ 8) ∧ wr.ownsRow (w.heap.size + 1) 2 1 ov ws.length (iCells ws) ∧ Src wr w.heap.size w.heap.size ∧ Below w.heap.size w wr) (fun _ jv _ => n - (intOf jv).toNat)
  case atStart => exact ⟨[], by simp, by go_num, Lib.hid (by simp), World.ownsRow_nil _ _ _ _, HS1.out, hb1⟩
  case round =>
    obtain ⟨ws, hl, rfl, hA, hown, hs, hb⟩ := hrel
    clear HS1 hb1
    by_cases hlt : ws.length < n
    · have hd : decide ((ws.length : Int) < (n : Int)) = true := by simp; omega
      go_wp2_with fail
      refine (next_any w.heap.size w.heap.size _ _ hs (by omega) (by omega)).mono ?_
      rintro e w2 ⟨x, x0, x1, rfl, hs2, hg2⟩
      have hown2 := owns_away hown hg2 (by omega)
      have hB2 := below_grown hb (Nat.le_refl _) (Nat.le_refl _) hg2
      have hsz := hs2.lt
      clear hs hg2 hown hb
      go_wp2_with (at_builtin; refine wpList_append_lies _ rfl _ _ _ rfl (w.heap.size + 1) 2 i0 _ 1 8 Try.underlying23 hi hz0 hz1 hz2 rfl (by omega) _ ws.length (iCells ws) rfl (hown2.alloc _) ⟨w2.heap.size, 0, none⟩ 1 1 [.int .i64 x] rfl rfl (World.news_of_block (cs := #[.int .i64 x]) (t := 2) (fr := (0, 0)) (heap_alloc_new w2 _)) (by simp [Value.oneCell']) (by omega) (by unfold maxLen; omega) (by omega) (by simp; omega) (w2.heap.size + 1) (by simp) ?_; intro g' cap w5 hown5 hgrow hat hlt5)
      have hs5 := (hs2.alloc (.cells #[.int .i64 x] 2)).grown hgrow (fun e => by have := (hown2.lt _ e.symm).1; omega) (fun k e => by have := (hown2.lt k e).1; omega)
      have hb5 : Below w.heap.size w w5 := (ext_alloc hB2 _).grown hgrow (by simp; omega) (fun k e => by have := (hown2.lt k e).1; omega)
      have hnext : w5.ownsRow (w.heap.size + 1) 2 1 (.slice (some ⟨g', 0, none⟩) (ws.length + 1) cap) (ws ++ [x]).length (iCells (ws ++ [x])) := by
        rw [iCells_snoc, List.length_append]; exact hown5
      have HAx : Hid (∀ k : Nat, k < (ws ++ [x]).length → 0 ≤ (ws ++ [x]).getD k 0 ∧ (ws ++ [x]).getD k 0 ≤ 8) := Lib.hid (snoc_all (P := fun y => 0 ≤ y ∧ y ≤ 8) hA.out (by omega))
      clear hown5 hgrow hat hlt5 hs2 hB2 hown2
      go_wp2_with fail
      go_roundw
      case rel => exact ⟨ws ++ [x], by rw [List.length_append]; exact hlt, by simp, HAx, hnext, hs5, hb5⟩
      case measure => simp [intOf]; omega
    · obtain rfl : n = ws.length := by omega
      obtain ⟨g, cap, rfl⟩ := ownsRow_form' hown (by omega)
      have hd0 : decide (0 < ws.length) = true := by simp; omega
      have hp0 : 0 < ws.length := by omega
      have HA := Lib.hid hA.out
      go_wp2_with fail
      refine (next_any w.heap.size w.heap.size _ _ hs (by omega) (by omega)).mono ?_
      rintro e w2 ⟨x, x0, x1, rfl, hs2, hg2⟩
      obtain ⟨k, rfl⟩ : ∃ k : Nat, x = k := ⟨x.toNat, by omega⟩
      have hk : k < ws.length := by omega
      have hown2 := owns_away hown hg2 (by omega)
      have hB2 := below_grown hb (Nat.le_refl _) (Nat.le_refl _) hg2
      have hgl := hown2.lt g rfl
      have ck : w2.cell? ⟨g, k, none⟩ = some (.int .i64 (ws.getD k 0)) := (hown2.cellAt k (by omega)).trans (iCells_get ws k hk)
      have fk := hown2.frozenAt k
      have hbd := HA.out k hk
      have hst := (hown2.stored k (.int .i64 (ws.getD k 0 + 1))).1
      rw [iCells_set] at hst
      have hst' : (w2.setCell ⟨g, k, none⟩ (.int .i64 (ws.getD k 0 + 1))).ownsRow w.heap.size 2 1 (.slice (some ⟨g, 0, none⟩) ws.length cap) (ws.set k (ws.getD k 0 + 1)).length (iCells (ws.set k (ws.getD k 0 + 1))) := by
        rw [List.length_set]; exact owns_base hst (by omega)
      have hset := set_getD ws k
      have H1 := Lib.hid (show ∀ j : Nat, j < ws.length → 0 ≤ (ws.set k (ws.getD k 0 + 1)).getD j 0 ∧ (ws.set k (ws.getD k 0 + 1)).getD j 0 ≤ 9 from fun j hj => by
        rw [set_getD ws k j _ hk]
        have := HA.out j hj
        split <;> omega)
      have H2 := Lib.hid (show ∃ j : Nat, j < ws.length ∧ 1 ≤ (ws.set k (ws.getD k 0 + 1)).getD j 0 from ⟨k, hk, by rw [set_getD ws k k _ hk, if_pos rfl]; omega⟩)
      have H3 := Lib.hid hst'
      have H4 := Lib.hid (ext_set hB2 (p := ⟨g, k, none⟩) (show w.heap.size ≤ g by omega) (.int .i64 (ws.getD k 0 + 1)))
      clear hst hst' hset hA hs hs2 hg2 hown hown2
      generalize ws.getD k 0 = y at *
      go_wp2_with fail
      go_ret
      exact ⟨_, _, rfl, List.length_set .., H1.out, H2.out, H3.out, H4.out⟩
end Go.Proofs.Ytgnjconhbloocaa
