/- Points as boxes: Boxed. -/
import Derived.Test.YtgnjconhbloocaaPoint
namespace Go.Proofs.Ytgnjconhbloocaa
open Go.RowKit
set_option linter.unusedVariables false

/-- The slice value v reads as the list P of points. -/
def PSl (w : World) (v : Value) (P : List (Int × Int × Int)) : Prop :=
  ∃ (a : Option Addr) (c : Nat), v = .slice a P.length c ∧ P.length ≤ 9223372036854775807 ∧ (0 < P.length → ∃ b o, a = some ⟨b, o, none⟩ ∧ b < w.heap.size ∧ ∀ i : Nat, i < P.length →
    w.cell? ⟨b, o + i * 3, none⟩ = some (.int .i64 (P.getD i (0, 0, 0)).1) ∧ w.cell? ⟨b, o + i * 3 + 1, none⟩ = some (.int .i64 (P.getD i (0, 0, 0)).2.1) ∧ w.cell? ⟨b, o + i * 3 + 2, none⟩ = some (.int .i64 (P.getD i (0, 0, 0)).2.2))
def Fx.boxed (P : List (Int × Int × Int)) : List Fx.V3 := P.map fun p => Fx.ofV p.1 p.2.1 p.2.2
theorem Fx.boxed_take (P : List (Int × Int × Int)) (k : Nat) (hk : k < P.length) : Fx.boxed (P.take (k + 1)) = Fx.boxed (P.take k) ++ [Fx.ofV (P.getD k (0, 0, 0)).1 (P.getD k (0, 0, 0)).2.1 (P.getD k (0, 0, 0)).2.2] := by
  unfold Fx.boxed
  rw [List.take_add_one, List.map_append, List.getD_eq_getElem?_getD, List.getElem?_eq_getElem hk]
  simp
theorem Fx.boxed_len (P : List (Int × Int × Int)) (k : Nat) (hk : k ≤ P.length) : (Fx.boxed (P.take k)).length = k := by
  unfold Fx.boxed
  simp; omega

set_option maxRecDepth 100000 in
set_option maxHeartbeats 1000000 in
theorem boxed_any (v : Value) (P : List (Int × Int × Int)) (w : World) (h : PSl w v P) (hn : P.length ≤ 40) :
    Calls Try.prog 30 #[v] w fun e w' => ∃ u, e = .returned u ∧ w'.ownsRow w.heap.size 34 6 u P.length (vCells (Fx.boxed P)) ∧ Below w.heap.size w w' := by
  obtain ⟨a, c, rfl, hl, h⟩ := h
  have H := Lib.hid h
  clear h
  obtain ⟨i0, hi, hz0, hz1, hz2⟩ := info_parts info_ivec
  go_enter Try.func30, Try.ntmps30
  go_wp2_with fail
  go_loopw [3, 4] (fun ov jv wr => ∃ k : Nat, k ≤ P.length ∧ jv = .int .i64 k ∧ wr.ownsRow w.heap.size 34 6 ov k (vCells (Fx.boxed (P.take k))) ∧ Below w.heap.size w wr) (fun _ jv _ => P.length - (intOf jv).toNat)
  case atStart => exact ⟨0, by omega, by go_num, World.ownsRow_nil _ _ _ _, ext_refl _⟩
  case round =>
    obtain ⟨k, hk, rfl, hown, hb⟩ := hrel
    by_cases hlt : k < P.length
    · obtain ⟨b, o, rfl, hbw, hc⟩ := H.out (by omega)
      obtain ⟨c0, c1, c2⟩ := hc k hlt
      have d0 := (hb.cell (p := ⟨b, o + k * 3, none⟩) hbw).trans c0
      have d1 := (hb.cell (p := ⟨b, o + k * 3 + 1, none⟩) hbw).trans c1
      have d2 := (hb.cell (p := ⟨b, o + k * 3 + 2, none⟩) hbw).trans c2
      have HE := Lib.hid (Fx.boxed_take P k hlt)
      have hlen := Fx.boxed_len P k hk
      have hd : decide ((k : Int) < (P.length : Int)) = true := by simp; omega
      have k0 : (0 : Int) ≤ (k : Int) := by omega
      have k1 : (k : Int) < (P.length : Int) := by omega
      clear hc c0 c1 c2
      generalize (P.getD k (0, 0, 0)).1 = x at *
      generalize (P.getD k (0, 0, 0)).2.1 = y at *
      generalize (P.getD k (0, 0, 0)).2.2 = z at *
      go_wp2_with fail
      refine (rpoint_any _ _ _ _).mono ?_
      rintro e w1 ⟨rfl, hb1⟩
      have hown1 := owns_ext hown hb1
      have hB1 := ext_trans hb hb1
      have hz := hB1.size
      generalize Fx.ofV x y z = q at *
      clear hown hb hb1 d0 d1 d2
      unfold Fx.V3.arr
      go_wp2_with (at_builtin; refine wpList_append_lies _ rfl _ _ _ rfl w.heap.size 34 i0 _ 6 48 Try.underlying22 hi hz0 hz1 hz2 rfl (by omega) _ k (vCells (Fx.boxed (P.take k))) rfl (hown1.alloc _) ⟨w1.heap.size, 0, none⟩ 1 1 q.cells rfl rfl (World.news_of_block (cs := #[.int .i64 q.a, .int .i64 q.b, .int .i64 q.c, .int .i64 q.d, .int .i64 q.e, .int .i64 q.f]) (t := 34) (fr := (0, 0)) (heap_alloc_new w1 _)) (by simp [Fx.V3.cells, Value.oneCell']) (by omega) (by unfold maxLen; omega) (by omega) (by simp; omega) (w1.heap.size + 1) (by simp) ?_; intro g' cap w2 hown2 hgrow hat hlt2)
      have hb2 : Below w.heap.size w w2 := (ext_alloc hB1 _).grown hgrow (by simp; omega) (fun k e => by have := (hown1.lt k e).1; omega)
      have hnext : w2.ownsRow w.heap.size 34 6 (.slice (some ⟨g', 0, none⟩) (k + 1) cap) (k + 1) (vCells (Fx.boxed (P.take (k + 1)))) := by
        rw [HE.out, vCells_snoc]; exact hown2
      have HN := Lib.hid hnext
      clear hnext hown2 hgrow hat hlt2 hown1 hB1
      go_wp2_with fail
      go_roundw
      case rel => exact ⟨k + 1, by omega, by go_num, HN.out, hb2⟩
      case measure => simp [intOf]; omega
    · obtain rfl : k = P.length := by omega
      have HO : Hid (wr.ownsRow w.heap.size 34 6 u3 P.length (vCells (Fx.boxed P))) := Lib.hid (by have := hown; rw [List.take_length] at this; exact this)
      clear hown
      go_wp2_with fail
      go_ret
      exact ⟨_, rfl, HO.out, hb⟩
end Go.Proofs.Ytgnjconhbloocaa
