/- Contract of the maker of placed points. -/
import Derived.Test.YtgnjconhbloocaaPts
namespace Go.Proofs.Ytgnjconhbloocaa
open Go.RowKit
set_option linter.unusedVariables false

theorem owns_away {w w' : World} {base g : Nat} {e : TypeId} {size : Nat} {v : Value} {n : Nat} {xs : List Value} (h : w.ownsRow base e size v n xs) (hg : w.grownBy w' (some g)) (hlt : g < base) : w'.ownsRow base e size v n xs := by
  refine h.kept hg ?_
  by_cases hv : v.ownBlock = none
  · exact .inl hv
  · exact .inr fun e => by have := (h.lt g e).1; omega
theorem owns_base {w : World} {base base' : Nat} {e : TypeId} {size : Nat} {v : Value} {n : Nat} {xs : List Value} (h : w.ownsRow base e size v n xs) (hb : base' ≤ base) : w.ownsRow base' e size v n xs := by
  obtain ⟨h0, h1⟩ := h
  refine ⟨h0, ?_⟩
  rcases h1 with h1 | ⟨g, cap, cur, e1, e2, e3⟩
  · exact .inl h1
  · exact .inr ⟨g, cap, cur, e1, Nat.le_trans hb e2, e3⟩
theorem Whole.away {w w' : World} {g r : Nat} {t : TypeId} {cs : Array Value} (h : Whole w g t cs) (hg : w.grownBy w' (some r)) (hne : g ≠ r) : Whole w' g t cs := h.grown hg (fun e => hne (by injection e))

/-- Three numbers, by their place. -/
def pick3 (a b c : Int) : Nat → Int
  | 0 => a
  | 1 => b
  | _ => c
theorem pick3_cell (a b c : Int) : ∀ j : Nat, j < 3 → (#[Value.int .i64 a, .int .i64 b, .int .i64 c])[j]? = some (.int .i64 (pick3 a b c j))
  | 0, _ => rfl
  | 1, _ => rfl
  | 2, _ => rfl
theorem pick3_bd {a b c B : Int} (ha : -B ≤ a ∧ a ≤ B) (hb : -B ≤ b ∧ b ≤ B) (hc : -B ≤ c ∧ c ≤ B) : ∀ j : Nat, -B ≤ pick3 a b c j ∧ pick3 a b c j ≤ B
  | 0 => ha
  | 1 => hb
  | n + 2 => hc

theorem arr_cell (x : Fx.V3) : ∀ j : Nat, j < 3 → x.arr[j * 2]? = some (.int .i64 (x.lo j)) ∧ x.arr[j * 2 + 1]? = some (.int .i64 (x.hi j))
  | 0, _ => ⟨rfl, rfl⟩
  | 1, _ => ⟨rfl, rfl⟩
  | 2, _ => ⟨rfl, rfl⟩
theorem owns_set {w : World} {base : Nat} {e : TypeId} {size : Nat} {v : Value} {n : Nat} {xs : List Value} (h : w.ownsRow base e size v n xs) {p : Addr} (hne : some p.block ≠ v.ownBlock) (u : Value) : (w.setCell p u).ownsRow base e size v n xs :=
  h.kept (grown_set (grown_refl w (some p.block)) (.inl rfl) u) (.inr fun e => hne e.symm)
theorem Src.set {w : World} {B g : Nat} (h : Src w B g) {p : Addr} (hne : g ≠ p.block) (hB : B ≤ p.block) (u : Value) : Src (w.setCell p u) B g :=
  h.keep (Below.heap_setCell w p u g hne) ((Below.refl _ _).setCell hB u)

set_option maxRecDepth 100000 in
set_option maxHeartbeats 2000000 in
theorem points_any (v : Value) (xs : List Int) (W : Int) (w : World) (h : IntSl w v xs) (hW0 : 0 ≤ W) (hW1 : W ≤ 5000) :
    Calls Try.prog 10 #[v, .int .i64 W] w (GivesPts W w) := by
  have H := Lib.hid h
  obtain ⟨a, c, rfl, _, _⟩ := h
  obtain ⟨i0, hi, hz0, hz1, hz2⟩ := info_parts info_ivec
  go_enter Try.func10, Try.ntmps10
  go_wp2_with fail
  refine (from_any _ xs _ H.out).mono ?_
  rintro e w1 ⟨rfl, hs1, hb1⟩
  clear H
  go_wp2_with fail
  refine (signed_any w.heap.size w.heap.size _ _ hs1 (by omega) (by omega)).mono ?_
  rintro e w2 ⟨a0, a1, a2, rfl, hs2, hg2⟩
  go_wp2_with fail
  refine (signed_any w.heap.size w.heap.size _ _ hs2 (by omega) (by omega)).mono ?_
  rintro e w3 ⟨b0, b1, b2, rfl, hs3, hg3⟩
  go_wp2_with fail
  refine (signed_any w.heap.size w.heap.size _ _ hs3 (by omega) (by omega)).mono ?_
  rintro e w4 ⟨c0, c1, c2, rfl, hs4, hg4⟩
  have hB4 : Below w.heap.size w w4 := below_grown (below_grown (below_grown hb1 (Nat.le_refl _) (Nat.le_refl _) hg2) (Nat.le_refl _) (Nat.le_refl _) hg3) (Nat.le_refl _) (Nat.le_refl _) hg4
  have hg4w := hs4.lt
  clear hs1 hs2 hs3 hb1 hg2 hg3 hg4
  go_wp2_with fail
  have hs5 := hs4.alloc (.cells #[.int .i64 (a0 * 32768), .int .i64 (b0 * 32768), .int .i64 (c0 * 32768)] 66)
  have hC5 := Whole.new w4 66 #[.int .i64 (a0 * 32768), .int .i64 (b0 * 32768), .int .i64 (c0 * 32768)]
  have hB5 := ext_alloc hB4 (.cells #[.int .i64 (a0 * 32768), .int .i64 (b0 * 32768), .int .i64 (c0 * 32768)] 66)
  have hz4 := hB4.size
  have cb := pick3_bd (B := 196608) (show -196608 ≤ a0 * 32768 ∧ a0 * 32768 ≤ 196608 by omega) (show -196608 ≤ b0 * 32768 ∧ b0 * 32768 ≤ 196608 by omega) (show -196608 ≤ c0 * 32768 ∧ c0 * 32768 ≤ 196608 by omega)
  have cc := pick3_cell (a0 * 32768) (b0 * 32768) (c0 * 32768)
  have CB := Lib.hid cb
  have CC := Lib.hid cc
  clear cb cc hs4 hB4
  generalize hc5 : (#[Value.int .i64 (a0 * 32768), .int .i64 (b0 * 32768), .int .i64 (c0 * 32768)] : Array Value) = carr at *
  generalize pick3 (a0 * 32768) (b0 * 32768) (c0 * 32768) = ck at *
  clear hc5 a1 a2 b1 b2 c1 c2
  generalize w4.alloc (.cells carr 66) = w5 at *
  generalize w4.heap.size = gc at *
  have hgc : w.heap.size < gc := hg4w
  refine (next_any w.heap.size w.heap.size _ _ hs5 (by omega) (by omega)).mono ?_
  rintro e w6 ⟨n, n0, n1, rfl, hs6, hg6⟩
  have hC6 := hC5.away hg6 (by omega)
  have hB6 := below_grown hB5 (Nat.le_refl _) (Nat.le_refl _) hg6
  clear hs5 hC5 hB5 hg6 hg4w hz4
  have HS6 := Lib.hid hs6
  have HC6 := Lib.hid hC6
  clear hs6 hC6
  go_wp2_with fail
  go_loopw [7, 8] (fun ov nv wr => ∃ (L : List Fx.V3) (j : Nat), L.length + j = (1 + n).toNat ∧ nv = .int .i64 j ∧ Hid (∀ x ∈ L, Made W x 3) ∧ wr.ownsRow (gc + 1) 34 6 ov L.length (vCells L) ∧ Src wr w.heap.size w.heap.size ∧ Whole wr gc 66 carr ∧ Below w.heap.size w wr) (fun _ nv _ => (intOf nv).toNat)
  case atStart => exact ⟨[], (1 + n).toNat, by simp, by go_num, Lib.hid (by simp), World.ownsRow_nil _ _ _ _, HS6.out, HC6.out, hB6⟩
  case round =>
    obtain ⟨L, m, hlm, rfl, hM, hown, hs, hC, hb⟩ := hrel
    clear HS6 HC6 hB6
    by_cases hm : 0 < m
    · have hL4 : L.length ≤ 4 := by omega
      go_wp2_with fail
      obtain ⟨wo, rfl⟩ : ∃ wo : World, wo = wr := ⟨_, rfl⟩
      have hgcw := hC.lt
      have hown0 := hown.alloc (.cells Fx.V3.zero.arr 34)
      have hs0 := hs.alloc (.cells Fx.V3.zero.arr 34)
      have hC0 := hC.alloc (.cells Fx.V3.zero.arr 34)
      have hV0 := Whole.new wo 34 Fx.V3.zero.arr
      have hb0 := ext_alloc hb (.cells Fx.V3.zero.arr 34)
      have hnov : ∀ {ov : Value}, wo.ownsRow (gc + 1) 34 6 ov L.length (vCells L) → some wo.heap.size ≠ ov.ownBlock := fun ho e => by have := (ho.lt _ e.symm).2; omega
      have hne0 := hnov hown
      clear hown hs hC hb hnov
      go_loopw [10] (fun jv wr => ∃ (j : Nat) (x : Fx.V3), j ≤ 3 ∧ jv = .int .i64 j ∧ Hid (Made W x j) ∧ Whole wr wo.heap.size 34 x.arr ∧ wr.ownsRow (gc + 1) 34 6 u7 L.length (vCells L) ∧ Src wr w.heap.size w.heap.size ∧ Whole wr gc 66 carr ∧ Below w.heap.size w wr) (fun jv _ => 3 - (intOf jv).toNat)
      case atStart => exact ⟨0, _, by omega, rfl, Lib.hid (fun i hi => absurd hi (by omega)), hV0, hown0, hs0, hC0, hb0⟩
      case round =>
        obtain ⟨j, x, hj, rfl, hMd, hV, hown, hs, hC, hbj⟩ := hrel
        clear hV0 hown0 hs0 hC0 hb0
        have hbz := hbj.size
        by_cases hj3 : j < 3
        · have cj := (hC.cell j).trans (CC.out j hj3)
          have cbj := CB.out j
          have hgw : gc < wr.heap.size := hC.lt
          have hvw : wo.heap.size < wr.heap.size := hV.lt
          have hneg : some gc ≠ some w.heap.size := fun e => by injection e with e; omega
          have hS : wr.cell? ⟨gc, j, none⟩ = some (.int .i64 (ck j)) ∧ Src wr w.heap.size w.heap.size ∧ wr.grownBy wr (some w.heap.size) := ⟨cj, hs, grown_refl _ _⟩
          have HV := Lib.hid hV; have HO := Lib.hid hown; have HC := Lib.hid hC
          clear hV hown hs hC cj
          generalize ck j = cj at *
          have k0 : (0 : Int) ≤ (j : Int) := by omega
          have k1 : (j : Int) < 3 := by omega
          go_wp2_with fail
          go_region_held3 (fun w' => w'.cell? ⟨gc, j, none⟩ = some (.int .i64 cj) ∧ Src w' w.heap.size w.heap.size ∧ wr.grownBy w' (some w.heap.size))
            (first | exact held_drew hS | exact held_next hneg hgw (by assumption) hs9 hg9 | exact held_next hneg hgw (by assumption) hs8 hg8)
            (first
              | (go_at_call_of 29 (Value.int IntKind.i64 4); refine (signed_held 4 (by omega) (by omega) (by assumption)).mono ?_; rintro e w8 ⟨p, p0, p1, rfl, hs8, hg8⟩)
              | (go_at_call_of 29 (Value.int IntKind.i64 9); refine (signed_held 9 (by omega) (by omega) (by assumption)).mono ?_; rintro e w9 ⟨q, q0, q1, rfl, hs9, hg9⟩))
          have hH : w9.cell? ⟨gc, j, none⟩ = some (.int .i64 cj) ∧ Src w9 w.heap.size w.heap.size ∧ wr.grownBy w9 (some w.heap.size) := by assumption
          have ew : IntKind.i64.wrap (IntKind.i64.wrap (cj + IntKind.i64.wrap (p * 32768)) + q) = cj + p * 32768 + q := by
            simp only [IntKind.wrap_i64]; omega
          have hx0 : -400000 ≤ cj + p * 32768 + q := by omega
          have hx1 : cj + p * 32768 + q ≤ 400000 := by omega
          rw [ew]
          clear ew
          generalize cj + p * 32768 + q = X at *
          have hV9 := HV.out.away hH.2.2 (by omega)
          have hC9 := HC.out.away hH.2.2 (by omega)
          have hO9 := owns_away HO.out hH.2.2 (by omega)
          have hB9 := below_grown hbj (Nat.le_refl _) (Nat.le_refl _) hH.2.2
          have hs9' := hH.2.1
          have HV9 := Lib.hid hV9; have HO9 := Lib.hid hO9; have HC9 := Lib.hid hC9; have HS9 := Lib.hid hs9'
          clear hV9 hC9 hO9 hs9' hH HV HO HC hS hs8 hg8 hs9 hg9 hbj
          rename_i hHeld
          clear hHeld
          go_wp2_with fail
          refine (next_any w.heap.size w.heap.size _ _ HS9.out (by omega) (by omega)).mono ?_
          rintro e w10 ⟨r, r0, r1, rfl, hs10, hg10⟩
          have hV10 := HV9.out.away hg10 (by omega)
          have hC10 := HC9.out.away hg10 (by omega)
          have hO10 := owns_away HO9.out hg10 (by omega)
          have hB10 := below_grown hB9 (Nat.le_refl _) (Nat.le_refl _) hg10
          obtain ⟨g0, g1⟩ := arr_cell x j hj3
          have t0 := (hV10.cell (j * 2)).trans g0
          have t1 := (hV10.cell (j * 2 + 1)).trans g1
          have f0 := hV10.frozen (j * 2)
          have f1 := hV10.frozen (j * 2 + 1)
          have hVn := (hV10.store (j * 2) (.int .i64 X)).store (j * 2 + 1) (.int .i64 (X + r))
          rw [setV_arr x X (X + r) j hj3] at hVn
          have hgv : w.heap.size ≤ wo.heap.size := by omega
          have HVn := Lib.hid hVn
          have HCn := Lib.hid ((hC10.far (p := ⟨wo.heap.size, j * 2, none⟩) (show gc ≠ wo.heap.size by omega) (.int .i64 X)).far (p := ⟨wo.heap.size, j * 2 + 1, none⟩) (show gc ≠ wo.heap.size by omega) (.int .i64 (X + r)))
          have HOn := Lib.hid (owns_set (owns_set hO10 (p := ⟨wo.heap.size, j * 2, none⟩) hne0 (.int .i64 X)) (p := ⟨wo.heap.size, j * 2 + 1, none⟩) hne0 (.int .i64 (X + r)))
          have HSn := Lib.hid ((hs10.set (p := ⟨wo.heap.size, j * 2, none⟩) (show w.heap.size ≠ wo.heap.size by omega) hgv (.int .i64 X)).set (p := ⟨wo.heap.size, j * 2 + 1, none⟩) (show w.heap.size ≠ wo.heap.size by omega) hgv (.int .i64 (X + r)))
          have HBn := Lib.hid (ext_set (ext_set hB10 (p := ⟨wo.heap.size, j * 2, none⟩) hgv (.int .i64 X)) (p := ⟨wo.heap.size, j * 2 + 1, none⟩) hgv (.int .i64 (X + r)))
          have HMn := Lib.hid (setV_made hj3 hMd.out (show -400000 ≤ X ∧ X ≤ X + r ∧ X + r ≤ X + W ∧ X ≤ 400000 by omega))
          clear hVn hV10 hC10 hO10 hs10 hg10 hB10 HV9 HO9 HC9 HS9 hB9 g0 g1
          generalize x.lo j = xl at *
          generalize x.hi j = xh at *
          go_wp2_with fail
          go_roundw
          case rel => exact ⟨j + 1, _, by omega, by go_num, HMn, HVn.out, HOn.out, HSn.out, HCn.out, HBn.out⟩
          case measure => simp [intOf]; omega
        · obtain rfl : j = 3 := by omega
          have t0 : _ = some (Value.int .i64 x.a) := hV.cell 0
          have t1 : _ = some (Value.int .i64 x.b) := hV.cell 1
          have t2 : _ = some (Value.int .i64 x.c) := hV.cell 2
          have t3 : _ = some (Value.int .i64 x.d) := hV.cell 3
          have t4 : _ = some (Value.int .i64 x.e) := hV.cell 4
          have t5 : _ = some (Value.int .i64 x.f) := hV.cell 5
          have hvw : wo.heap.size < wr.heap.size := hV.lt
          have HC := Lib.hid hC; have HS := Lib.hid hs
          have hgw := hC.lt
          clear hV hC hs
          go_wp2_with (at_builtin; refine wpList_append_lies _ rfl _ _ _ rfl (gc + 1) 34 i0 _ 6 48 Try.underlying22 hi hz0 hz1 hz2 rfl (by omega) _ L.length (vCells L) rfl (hown.alloc _) ⟨wr.heap.size, 0, none⟩ 1 1 x.cells rfl rfl (World.news_of_block (cs := #[.int .i64 x.a, .int .i64 x.b, .int .i64 x.c, .int .i64 x.d, .int .i64 x.e, .int .i64 x.f]) (t := 34) (fr := (0, 0)) (heap_alloc_new wr _)) (by simp [Fx.V3.cells, Value.oneCell']) (by omega) (by unfold maxLen; omega) (by omega) (by simp; omega) (wr.heap.size + 1) (by simp) ?_; intro g' cap w11 hown11 hgrow hat hlt11)
          have hb11 : Below w.heap.size w w11 := (ext_alloc hbj _).grown hgrow (by simp; omega) (fun k e => by have := (hown.lt k e).1; omega)
          have hs11 := (HS.out.alloc (.cells #[.int .i64 x.a, .int .i64 x.b, .int .i64 x.c, .int .i64 x.d, .int .i64 x.e, .int .i64 x.f] 34)).grown hgrow (fun e => by have := (hown.lt _ e.symm).1; omega) (fun k e => by have := (hown.lt k e).1; omega)
          have hC11 := (HC.out.alloc (.cells #[.int .i64 x.a, .int .i64 x.b, .int .i64 x.c, .int .i64 x.d, .int .i64 x.e, .int .i64 x.f] 34)).grown hgrow (fun e => by have := (hown.lt _ e.symm).1; omega)
          have hnext : w11.ownsRow (gc + 1) 34 6 (.slice (some ⟨g', 0, none⟩) (L.length + 1) cap) (L ++ [x]).length (vCells (L ++ [x])) := by
            rw [vCells_snoc, List.length_append]; exact hown11
          have HMx : Hid (∀ y ∈ L ++ [x], Made W y 3) := Lib.hid (fun y hy => by
            rcases List.mem_append.1 hy with hy | hy
            · exact hM.out y hy
            · rw [List.mem_singleton.1 hy]; exact hMd.out)
          have HL := Lib.hid (show (L ++ [x]).length + (m - 1) = (1 + n).toNat by simp; omega)
          have HN := Lib.hid hnext; have HS11 := Lib.hid hs11; have HC11 := Lib.hid hC11
          clear hnext hs11 hC11 hown11 hgrow hat hlt11 HC HS t0 t1 t2 t3 t4 t5
          go_wp2_with fail
          go_roundw
          case rel => exact ⟨_, m - 1, HL.out, by go_num, HMx, HN.out, HS11.out, HC11.out, hb11⟩
          case measure => simp [intOf]; omega
    · obtain rfl : m = 0 := by omega
      have hl1 : 1 ≤ L.length := by omega
      have hl5 : L.length ≤ 5 := by omega
      have HO := Lib.hid (owns_base hown (show w.heap.size ≤ gc + 1 by omega))
      have HM := Lib.hid hM.out
      clear hown hC hs
      go_wp2_with fail
      go_ret
      exact ⟨_, L, rfl, hl1, hl5, HM.out, HO.out, hb⟩
end Go.Proofs.Ytgnjconhbloocaa
