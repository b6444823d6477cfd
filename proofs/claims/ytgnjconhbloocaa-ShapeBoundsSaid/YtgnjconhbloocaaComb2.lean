/- Contract of the reference's Combine. -/
import Derived.Test.YtgnjconhbloocaaComb1
namespace Go.Proofs.Ytgnjconhbloocaa
open Go.RowKit
set_option linter.unusedVariables false

theorem ret_rcomb {tmps : Array Value} {w : World} {g : Nat} {x : Fx.V3} {t : Int} {ok : Bool} (hW : Whole w g 34 x.arr) (h4 : tmps.getD 4 undef = .pointer (some ⟨g, 0, none⟩)) (h5 : tmps.getD 5 undef = .int .i64 t) (h6 : tmps.getD 6 undef = .bool ok) :
    (results Try.f33 tmps).run Try.prog w = .ok (.tuple #[.agg #[.int .i64 x.a, .int .i64 x.b, .int .i64 x.c, .int .i64 x.d, .int .i64 x.e, .int .i64 x.f], .int .i64 t, .bool ok]) w := by
  have c0 : _ = some (Value.int .i64 x.a) := hW.cell 0
  have c1 : _ = some (Value.int .i64 x.b) := hW.cell 1
  have c2 : _ = some (Value.int .i64 x.c) := hW.cell 2
  have c3 : _ = some (Value.int .i64 x.d) := hW.cell 3
  have c4 : _ = some (Value.int .i64 x.e) := hW.cell 4
  have c5 : _ = some (Value.int .i64 x.f) := hW.cell 5
  clear hW
  have h4' : tmps[4]?.getD undef = .pointer (some ⟨g, 0, none⟩) := by simpa using h4
  have h5' : tmps[5]?.getD undef = .int .i64 t := by simpa using h5
  have h6' : tmps[6]?.getD undef = .bool ok := by simpa using h6
  simp [results, Try.results33, go_sem, h4', h5', h6', c0, c1, c2, c3, c4, c5]

set_option maxRecDepth 100000 in
set_option maxHeartbeats 2000000 in
theorem rcombine_any (v u : Value) (L : List Fx.V3) (ws : List Int) (w : World) (hI : VSl w v L) (hU : IntSl w u ws) :
    Calls Try.prog 33 #[v, u] w fun e w' => e = .returned (combRet L ws) ∧ Below w.heap.size w w' := by
  have HI := Lib.hid hI
  have HU := Lib.hid hU
  obtain ⟨a, c, rfl, hl, hI'⟩ := hI
  obtain ⟨a2, c2, rfl, hl2, hU'⟩ := hU
  have H1 := Lib.hid hI'
  have H2 := Lib.hid hU'
  clear hI' hU'
  by_cases hp : Fx.placedB L = true
  · have HP := Lib.hid hp
    have hlen := Fx.placedB_len hp
    clear hp
    by_cases hn : ws.length = L.length
    · have HN := Lib.hid hn
      rw [hn]
      have hn1 : ws.length ≤ L.length := by omega
      have hn2 : L.length ≤ ws.length := by omega
      clear hn
      obtain ⟨b, o, hab, hJ⟩ := H1.out (by omega)
      obtain ⟨b2, o2, hab2, hK⟩ := H2.out (by omega)
      subst hab hab2
      have HJ := Lib.hid hJ
      have HK := Lib.hid hK
      clear hJ hK H1 H2
      go_enter Try.func33, Try.ntmps33
      go_wp2_with (go_at_call 35; refine (rplaced_yes _ L _ (HI.out.ext (ext_alloc (ext_refl _) _)) HP.out).mono ?_; rintro e w1 ⟨rfl, hb1⟩)
      have hZ0 : Whole w1 w.heap.size 34 Fx.V3.zero.arr := (Whole.new w _ _).ext hb1
      have hB0 : Below w.heap.size w w1 := ext_trans (ext_alloc (ext_refl _) _) hb1
      clear hb1
      go_loopw [7, 8] (fun tv iv wr => ∃ k : Nat, k ≤ L.length ∧ iv = .int .i64 k ∧ tv = .int .i64 (Fx.tot ws k) ∧ Fx.tot ws k ≤ 65536 ∧ Hid (∀ i : Nat, i < k → 0 ≤ ws.getD i 0 ∧ ws.getD i 0 ≤ 65536) ∧ Whole wr w.heap.size 34 Fx.V3.zero.arr ∧ Below w.heap.size w wr) (fun _ iv _ => L.length - (intOf iv).toNat)
      case atStart => exact ⟨0, Nat.zero_le _, rfl, rfl, by simp [Fx.tot], Lib.hid (fun i hi => absurd hi (by omega)), hZ0, hB0⟩
      case round =>
        obtain ⟨k, hk, rfl, rfl, htk, hR, hZ, hb⟩ := hrel
        clear hZ0 hB0
        have tb := Fx.tot_bd ws k hR.out
        have z0 : _ = some (Value.int .i64 0) := hZ.cell 0
        have z1 : _ = some (Value.int .i64 0) := hZ.cell 1
        have z2 : _ = some (Value.int .i64 0) := hZ.cell 2
        have z3 : _ = some (Value.int .i64 0) := hZ.cell 3
        have z4 : _ = some (Value.int .i64 0) := hZ.cell 4
        have z5 : _ = some (Value.int .i64 0) := hZ.cell 5
        have y0 := hZ.frozen 0
        have y1 := hZ.frozen 1
        have y2 := hZ.frozen 2
        have y3 := hZ.frozen 3
        have y4 := hZ.frozen 4
        have y5 := hZ.frozen 5
        have HZ := Lib.hid hZ
        clear hZ
        by_cases hlt : k < L.length
        · have cw := (HK.out.ext hb).2 k (by omega)
          have HT : Hid (Fx.tot ws (k + 1) = Fx.tot ws k + ws.getD k 0) := Lib.hid rfl
          have k0 : (0 : Int) ≤ (k : Int) := by omega
          have k1 : (k : Int) < (L.length : Int) := by omega
          by_cases hw0 : ws.getD k 0 < 0
          · have HF := Lib.hid (combRet_no (combOk_3 (L := L) (Fx.okW_over ws k (by omega) (.inl hw0))))
            generalize ws.getD k 0 = wt at *
            have d1 : decide (wt < 0) = true := by simp; omega
            go_wp2_with fail
            exact bodyPost_ret (ret_rcomb (x := Fx.V3.zero) (set6_whole Fx.V3.zero HZ.out) rfl rfl rfl) rfl ⟨by rw [HF.out]; rfl, set6_ext Fx.V3.zero hb (Nat.le_refl _)⟩
          · by_cases hw1 : 65536 - Fx.tot ws k < ws.getD k 0
            · have HF := Lib.hid (combRet_no (combOk_3 (L := L) (Fx.okW_over ws k (by omega) (.inr hw1))))
              generalize ws.getD k 0 = wt at *
              generalize Fx.tot ws k = tk at *
              have d1 : decide (wt < 0) = false := by simp; omega
              have d2 : decide (65536 - tk < wt) = true := by simp; omega
              go_wp2_with fail
              exact bodyPost_ret (ret_rcomb (x := Fx.V3.zero) (set6_whole Fx.V3.zero HZ.out) rfl rfl rfl) rfl ⟨by rw [HF.out]; rfl, set6_ext Fx.V3.zero hb (Nat.le_refl _)⟩
            · have HR' := Lib.hid (show ∀ i : Nat, i < k + 1 → 0 ≤ ws.getD i 0 ∧ ws.getD i 0 ≤ 65536 from fun i hi => by
                by_cases e : i = k
                · rw [e]; omega
                · exact hR.out i (by omega))
              have HT2 := Lib.hid (show Fx.tot ws (k + 1) ≤ 65536 by have := HT.out; omega)
              generalize ws.getD k 0 = wt at *
              generalize Fx.tot ws k = tk at *
              have d1 : decide (wt < 0) = false := by simp; omega
              have d2 : decide (65536 - tk < wt) = false := by simp; omega
              go_wp2_with fail
              go_roundw
              case rel => exact ⟨k + 1, by omega, by go_num, by rw [HT.out], HT2.out, HR', HZ.out, hb⟩
              case measure => simp [intOf]; omega
        · obtain rfl : k = L.length := by omega
          by_cases ht : Fx.tot ws L.length < 1
          · have hno : Fx.okW ws = false := Fx.okW_not ws (by have h2 := HN.out; rw [h2]; omega)
            have HF := Lib.hid (combRet_no (combOk_3 (L := L) hno))
            clear hno
            have d1 : decide (Fx.tot ws L.length < 1) = true := by simp; omega
            go_wp2_with fail
            exact bodyPost_ret (ret_rcomb (x := Fx.V3.zero) (set6_whole Fx.V3.zero HZ.out) rfl rfl rfl) rfl ⟨by rw [HF.out]; rfl, set6_ext Fx.V3.zero hb (Nat.le_refl _)⟩
          · have hok : Fx.combOk L ws = true := by
              unfold Fx.combOk
              have h1 := HP.out
              have h2 := HN.out
              rw [h1, Fx.okW_yes ws (fun i hi => hR.out i (by omega)) (by rw [h2]; omega)]
              simp [h2]
            have HF : Hid (combRet L ws = .tuple #[.agg #[.int .i64 (Fx.comb L ws L.length).a, .int .i64 (Fx.comb L ws L.length).b, .int .i64 (Fx.comb L ws L.length).c, .int .i64 (Fx.comb L ws L.length).d, .int .i64 (Fx.comb L ws L.length).e, .int .i64 (Fx.comb L ws L.length).f], .int .i64 (Fx.tot ws L.length), .bool true]) := Lib.hid (by unfold combRet Fx.combV Fx.combT; rw [hok]; rfl)
            clear hok z0 z1 z2 z3 z4 z5 y0 y1 y2 y3 y4 y5
            have d1 : decide (Fx.tot ws L.length < 1) = false := by simp; omega
            go_wp2_with fail
            obtain ⟨w2, rfl⟩ : ∃ w2 : World, w2 = wr := ⟨_, rfl⟩
            have hgg : w.heap.size < w2.heap.size := HZ.out.lt
            have hZ0 := HZ.out.alloc (.cells Fx.V3.zero.arr 34)
            have hS0 := Whole.new w2 34 Fx.V3.zero.arr
            have hB0 := ext_alloc hb (.cells Fx.V3.zero.arr 34)
            clear hb HZ
            go_loopw [10] (fun iv wr => ∃ k : Nat, k ≤ L.length ∧ iv = .int .i64 k ∧ Whole wr w2.heap.size 34 (Fx.comb L ws k).arr ∧ Whole wr w.heap.size 34 Fx.V3.zero.arr ∧ Below w.heap.size w wr) (fun iv _ => L.length - (intOf iv).toNat)
            case atStart => exact ⟨0, Nat.zero_le _, rfl, hS0, hZ0, hB0⟩
            case round =>
              obtain ⟨k, hk', rfl, hS, hZ, hb⟩ := hrel
              clear hS0 hZ0 hB0
              by_cases hlt' : k < L.length
              · have hx := Fx.reach_within (Fx.allR_at (Fx.placedB_all HP.out) k hlt')
                have hs := Fx.comb_bd L ws k (fun i hi => hR.out i (by omega)) (fun i hi => Fx.allR_at (Fx.placedB_all HP.out) i (by omega))
                have hw := hR.out k hlt'
                have mb := fun y hy => Fx.wmul_bd (ws.getD k 0) y 268435456 hw.1 hw.2 (by omega) hy
                have HC : Hid (Fx.comb L ws (k + 1) = (Fx.comb L ws k).addw (ws.getD k 0) (L.getD k Fx.V3.zero)) := Lib.hid rfl
                have HX := Lib.hid hx; have HSB := Lib.hid hs; have MB := Lib.hid mb
                have HSW := Lib.hid hS; have HZ := Lib.hid hZ
                have hk8 : k < 8 := by omega
                clear hx hs mb hS hZ
                go_wp2_with fail
                obtain ⟨wo, rfl⟩ : ∃ wo : World, wo = wr := ⟨_, rfl⟩
                go_loopw [11] (fun jv wr => ∃ j : Nat, j ≤ 3 ∧ jv = .int .i64 j ∧ Whole wr w2.heap.size 34 (Fx.mixV (Fx.comb L ws k) (ws.getD k 0) (L.getD k Fx.V3.zero) j).arr ∧ Whole wr w.heap.size 34 Fx.V3.zero.arr ∧ Below w.heap.size w wr) (fun jv _ => 3 - (intOf jv).toNat)
                case atStart => exact ⟨0, by omega, rfl, HSW.out, HZ.out, hb⟩
                case round =>
                  obtain ⟨j, hj, rfl, hS, hZ, hbj⟩ := hrel
                  by_cases hj3 : j < 3
                  · have cw := (HK.out.ext hbj).2 k (by omega)
                    obtain ⟨cx0, cx1⟩ := (HJ.out.ext hbj).part k hlt' j hj3
                    have hKe := HK.out.1
                    have hJe := HJ.out.1
                    have sl := Fx.within_lo HSB.out j
                    have sh := Fx.within_hi HSB.out j
                    have pl := MB.out _ (Fx.within_lo HX.out j)
                    have ph := MB.out _ (Fx.within_hi HX.out j)
                    obtain ⟨g0, g1⟩ := Fx.mixV_lo (Fx.comb L ws k) (ws.getD k 0) (L.getD k Fx.V3.zero) j hj3
                    have c0 := (hS.cell (j * 2)).trans g0
                    have f0 := hS.frozen (j * 2)
                    have HHf := Lib.hid (fun u => Fx.mixV_half (Fx.comb L ws k) (ws.getD k 0) (L.getD k Fx.V3.zero) u j hj3)
                    have HNx := Lib.hid (Fx.mixV_next (Fx.comb L ws k) (ws.getD k 0) (L.getD k Fx.V3.zero) j hj3)
                    have HS2 := Lib.hid hS
                    have HZ2 := Lib.hid hZ
                    clear hS hZ g0 g1
                    generalize (Fx.comb L ws k).lo j = s0 at *
                    generalize (Fx.comb L ws k).hi j = s1 at *
                    generalize (L.getD k Fx.V3.zero).lo j = x0 at *
                    generalize (L.getD k Fx.V3.zero).hi j = x1 at *
                    generalize hwt : ws.getD k 0 = wt at *
                    clear hwt
                    have k0 : (0 : Int) ≤ (j : Int) := by omega
                    have k1 : (j : Int) < 3 := by omega
                    have k2 : (0 : Int) ≤ (k : Int) := by omega
                    have k3 : (k : Int) < (L.length : Int) := by omega
                    go_wp2_with fail
                    have hne2 : w.heap.size ≠ w2.heap.size := by omega
                    have e1 : IntKind.i64.wrap (wt * x0) = wt * x0 := by rw [IntKind.wrap_i64]; omega
                    have e2 : IntKind.i64.wrap (s0 + wt * x0) = s0 + wt * x0 := by rw [IntKind.wrap_i64]; omega
                    go_region
                    clear e1 e2
                    go_wp2_with fail
                    have hS3 := (HS2.out.store (j * 2) (.int .i64 (s0 + wt * x0))).drew
                    have hZ3 := (HZ2.out.far (p := ⟨w2.heap.size, j * 2, none⟩) hne2 (.int .i64 (s0 + wt * x0))).drew
                    have hb3' : Below w.heap.size wr (wr.setCell ⟨w2.heap.size, j * 2, none⟩ (.int .i64 (s0 + wt * x0))).drew := ((Below.refl _ _).setCell (p := ⟨w2.heap.size, j * 2, none⟩) (Nat.le_of_lt hgg) _).drew
                    have hb3 := hbj.trans hb3'
                    have cw' := (hb3'.cell (p := ⟨b2, o2 + k, none⟩) hKe).trans cw
                    have cx1' := (hb3'.cell (p := ⟨b, o + k * 6 + j * 2 + 1, none⟩) hJe).trans cx1
                    generalize (wr.setCell ⟨w2.heap.size, j * 2, none⟩ (.int .i64 (s0 + wt * x0))).drew = w3 at *
                    have c1' := (hS3.cell (j * 2 + 1)).trans (HHf.out _)
                    have f1' := hS3.frozen (j * 2 + 1)
                    have HS3 := Lib.hid hS3
                    have HZ3 := Lib.hid hZ3
                    clear hS3 hZ3 HS2 HZ2 HHf c0 f0 cw cx0 cx1 hbj hb3'
                    have e1 : IntKind.i64.wrap (wt * x1) = wt * x1 := by rw [IntKind.wrap_i64]; omega
                    have e2 : IntKind.i64.wrap (s1 + wt * x1) = s1 + wt * x1 := by rw [IntKind.wrap_i64]; omega
                    go_region
                    clear e1 e2
                    have hS4 := (HS3.out.store (j * 2 + 1) (.int .i64 (s1 + wt * x1))).drew
                    rw [HNx.out] at hS4
                    have HS4 := Lib.hid hS4
                    have HZ4 := Lib.hid (HZ3.out.far (p := ⟨w2.heap.size, j * 2 + 1, none⟩) hne2 (.int .i64 (s1 + wt * x1))).drew
                    have hb4 : Below w.heap.size w (w3.setCell ⟨w2.heap.size, j * 2 + 1, none⟩ (.int .i64 (s1 + wt * x1))).drew := ext_drew (ext_set hb3 (p := ⟨w2.heap.size, j * 2 + 1, none⟩) (Nat.le_of_lt hgg) _)
                    clear hS4 HS3 HZ3
                    go_wp2_with fail
                    go_roundw
                    case rel => exact ⟨j + 1, by omega, by go_num, HS4.out, HZ4.out, hb4⟩
                    case measure => simp [intOf]; omega
                  · obtain rfl : j = 3 := by omega
                    rw [Fx.mixV_three, ← HC.out] at hS
                    have HS' := Lib.hid hS
                    have HZ' := Lib.hid hZ
                    clear hS hZ
                    go_wp2_with fail
                    go_roundw
                    case rel => exact ⟨k + 1, by omega, by go_num, HS'.out, HZ'.out, hbj⟩
                    case measure => simp [intOf]; omega
              · obtain rfl : k = L.length := by omega
                have z0 : _ = some (Value.int .i64 0) := hZ.cell 0
                have z1 : _ = some (Value.int .i64 0) := hZ.cell 1
                have z2 : _ = some (Value.int .i64 0) := hZ.cell 2
                have z3 : _ = some (Value.int .i64 0) := hZ.cell 3
                have z4 : _ = some (Value.int .i64 0) := hZ.cell 4
                have z5 : _ = some (Value.int .i64 0) := hZ.cell 5
                have y0 := hZ.frozen 0
                have y1 := hZ.frozen 1
                have y2 := hZ.frozen 2
                have y3 := hZ.frozen 3
                have y4 := hZ.frozen 4
                have y5 := hZ.frozen 5
                generalize Fx.comb L ws L.length = x at *
                have s0 : _ = some (Value.int .i64 x.a) := hS.cell 0
                have s1 : _ = some (Value.int .i64 x.b) := hS.cell 1
                have s2 : _ = some (Value.int .i64 x.c) := hS.cell 2
                have s3 : _ = some (Value.int .i64 x.d) := hS.cell 3
                have s4 : _ = some (Value.int .i64 x.e) := hS.cell 4
                have s5 : _ = some (Value.int .i64 x.f) := hS.cell 5
                have HZ := Lib.hid hZ
                clear hZ hS
                go_wp2_with fail
                exact bodyPost_ret (ret_rcomb (x := x) (set6_whole x HZ.out) rfl rfl rfl) rfl ⟨by rw [HF.out], set6_ext x hb (Nat.le_refl _)⟩
    · have HF := Lib.hid (combRet_no (combOk_2 (L := L) hn))
      have d1 : ((ws.length : Int) != (L.length : Int)) = true := by simp; omega
      have d2 : ¬ ws.length = L.length := hn
      clear hn H1 H2
      go_enter Try.func33, Try.ntmps33
      go_wp2_with fail
      refine (rplaced_yes _ L _ (HI.out.ext (ext_alloc (ext_refl _) _)) HP.out).mono ?_
      rintro e w1 ⟨rfl, hb1⟩
      have hZ := (Whole.new w 34 Fx.V3.zero.arr).ext hb1
      have z0 : _ = some (Value.int .i64 0) := hZ.cell 0
      have z1 : _ = some (Value.int .i64 0) := hZ.cell 1
      have z2 : _ = some (Value.int .i64 0) := hZ.cell 2
      have z3 : _ = some (Value.int .i64 0) := hZ.cell 3
      have z4 : _ = some (Value.int .i64 0) := hZ.cell 4
      have z5 : _ = some (Value.int .i64 0) := hZ.cell 5
      have y0 := hZ.frozen 0
      have y1 := hZ.frozen 1
      have y2 := hZ.frozen 2
      have y3 := hZ.frozen 3
      have y4 := hZ.frozen 4
      have y5 := hZ.frozen 5
      have HZ := Lib.hid hZ
      have hB1 : Below w.heap.size w w1 := ext_trans (ext_alloc (ext_refl _) _) hb1
      clear hZ hb1
      go_wp2_with fail
      exact bodyPost_ret (ret_rcomb (x := Fx.V3.zero) (set6_whole Fx.V3.zero HZ.out) rfl rfl rfl) rfl ⟨by rw [HF.out]; rfl, set6_ext Fx.V3.zero hB1 (Nat.le_refl _)⟩
  · have hp : Fx.placedB L = false := by simpa using hp
    have HP := Lib.hid hp
    have HF := Lib.hid (combRet_no (combOk_1 (ws := ws) hp))
    clear hp H1 H2
    go_enter Try.func33, Try.ntmps33
    go_wp2_with fail
    refine (rplaced_no _ L _ (HI.out.ext (ext_alloc (ext_refl _) _)) HP.out).mono ?_
    rintro e w1 ⟨rfl, hb1⟩
    have hZ := (Whole.new w 34 Fx.V3.zero.arr).ext hb1
    have z0 : _ = some (Value.int .i64 0) := hZ.cell 0
    have z1 : _ = some (Value.int .i64 0) := hZ.cell 1
    have z2 : _ = some (Value.int .i64 0) := hZ.cell 2
    have z3 : _ = some (Value.int .i64 0) := hZ.cell 3
    have z4 : _ = some (Value.int .i64 0) := hZ.cell 4
    have z5 : _ = some (Value.int .i64 0) := hZ.cell 5
    have y0 := hZ.frozen 0
    have y1 := hZ.frozen 1
    have y2 := hZ.frozen 2
    have y3 := hZ.frozen 3
    have y4 := hZ.frozen 4
    have y5 := hZ.frozen 5
    have HZ := Lib.hid hZ
    have hB1 : Below w.heap.size w w1 := ext_trans (ext_alloc (ext_refl _) _) hb1
    clear hZ hb1
    go_wp2_with fail
    exact bodyPost_ret (ret_rcomb (x := Fx.V3.zero) (set6_whole Fx.V3.zero HZ.out) rfl rfl rfl) rfl ⟨by rw [HF.out]; rfl, set6_ext Fx.V3.zero hB1 (Nat.le_refl _)⟩
end Go.Proofs.Ytgnjconhbloocaa
