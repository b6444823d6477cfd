/- Contract of the reference's Combine. Comparing the two weighted sums; the sum of weights. The sanity check of the laws on shapes. A guarded load of a struct in a plain region. A row's arguments that are slices, opened: what they read as. A row's arguments that are a shape or a pose by value, opened. As Until: an operation for which the store waits through others may be taken first. -/
import Derived.Test.YtgnjconhbloocaaBunM2
import Derived.Test.YtgnjconhbloocaaBunM4
import Derived.Test.YtgnjconhbloocaaBunM5
import Derived.Deep.MidRow
import Derived.BigFrame
import Derived.Test.YtgnjconhbloocaaBunM1
import Derived.ProofKit
import Derived.OpenShut
import Derived.Deep.Slices
import Derived.Deep.SlicePairs
import Derived.Lib.SmallJoins
namespace Go.Proofs.Ytgnjconhbloocaa
open Go.RowKit
set_option linter.unusedVariables false

theorem ret_rcomb {tmps : Array Value} {w : World} {g : Nat} {x : Fx.V3} {t : Int} {ok : Bool} (hW : Whole w g 34 x.arr) (h4 : tmps.getD 4 undef = .pointer (some ⟨g, 0, none⟩)) (h5 : tmps.getD 5 undef = .int .i64 t) (h6 : tmps.getD 6 undef = .bool ok) :
    (results Try.f33 tmps).run Try.prog w = .ok (.tuple #[.agg #[.int .i64 x.a, .int .i64 x.b, .int .i64 x.c, .int .i64 x.d, .int .i64 x.e, .int .i64 x.f], .int .i64 t, .bool ok]) w := by
  have c0 : _ = some (Value.int .i64 x.a) := hW.cell 0
  have c1 : _ = some (Value.int .i64 x.b) := hW.cell 1
  have c2 : _ = some (Value.int .i64 x.c) := hW.cell 2
  have c3 : _ = some (Value.int .i64 x.d) := hW.cell 3
  have c4 : _ = some (Value.int .i64 x.e) := hW.cell 4
  have c5 : _ = some (Value.int .i64 x.f) := hW.cell 5
  clear hW
  have h4' : tmps[4]?.getD undef = .pointer (some ⟨g, 0, none⟩) := by simpa using h4
  have h5' : tmps[5]?.getD undef = .int .i64 t := by simpa using h5
  have h6' : tmps[6]?.getD undef = .bool ok := by simpa using h6
  simp [results, Try.results33, go_sem, h4', h5', h6', c0, c1, c2, c3, c4, c5]

set_option maxRecDepth 100000 in
set_option maxHeartbeats 2000000 in
theorem rcombine_any (v u : Value) (L : List Fx.V3) (ws : List Int) (w : World) (hI : VSl w v L) (hU : IntSl w u ws) :
    Calls Try.prog 33 #[v, u] w fun e w' => e = .returned (combRet L ws) ∧ Below w.heap.size w w' := by
  have HI := Lib.hid hI
  have HU := Lib.hid hU
  obtain ⟨a, c, rfl, hl, hI'⟩ := hI
  obtain ⟨a2, c2, rfl, hl2, hU'⟩ := hU
  have H1 := Lib.hid hI'
  have H2 := Lib.hid hU'
  clear hI' hU'
  by_cases hp : Fx.placedB L = true
  · have HP := Lib.hid hp
    have hlen := Fx.placedB_len hp
    clear hp
    by_cases hn : ws.length = L.length
    · have HN := Lib.hid hn
      rw [hn]
      have hn1 : ws.length ≤ L.length := by omega
      have hn2 : L.length ≤ ws.length := by omega
      clear hn
      obtain ⟨b, o, hab, hJ⟩ := H1.out (by omega)
      obtain ⟨b2, o2, hab2, hK⟩ := H2.out (by omega)
      subst hab hab2
      have HJ := Lib.hid hJ
      have HK := Lib.hid hK
      clear hJ hK H1 H2
      go_enter Try.func33, Try.ntmps33
      go_wp2_with (go_at_call 35; refine (rplaced_yes _ L _ (HI.out.ext (ext_alloc (ext_refl _) _)) HP.out).mono ?_; rintro e w1 ⟨rfl, hb1⟩)
      have hZ0 : Whole w1 w.heap.size 34 Fx.V3.zero.arr := (Whole.new w _ _).ext hb1
      have hB0 : Below w.heap.size w w1 := ext_trans (ext_alloc (ext_refl _) _) hb1
      clear hb1
      go_loopw [7, 8] (fun tv iv wr => ∃ k : Nat, k ≤ L.length ∧ iv = .int .i64 k ∧ tv = .int .i64 (Fx.tot ws k) ∧ Fx.tot ws k ≤ 65536 ∧ Hid (∀ i : Nat, i < k → 0 ≤ ws.getD i 0 ∧ ws.getD i 0 ≤ 65536) ∧ Whole wr w.heap.size 34 Fx.V3.zero.arr ∧ Below w.heap.size w wr) (fun _ iv _ => L.length - (intOf iv).toNat)
      case atStart => exact ⟨0, Nat.zero_le _, rfl, rfl, by simp [Fx.tot], Lib.hid (fun i hi => absurd hi (by omega)), hZ0, hB0⟩
      case round =>
        obtain ⟨k, hk, rfl, rfl, htk, hR, hZ, hb⟩ := hrel
        clear hZ0 hB0
        have tb := Fx.tot_bd ws k hR.out
        have z0 : _ = some (Value.int .i64 0) := hZ.cell 0
        have z1 : _ = some (Value.int .i64 0) := hZ.cell 1
        have z2 : _ = some (Value.int .i64 0) := hZ.cell 2
        have z3 : _ = some (Value.int .i64 0) := hZ.cell 3
        have z4 : _ = some (Value.int .i64 0) := hZ.cell 4
        have z5 : _ = some (Value.int .i64 0) := hZ.cell 5
        have y0 := hZ.frozen 0
        have y1 := hZ.frozen 1
        have y2 := hZ.frozen 2
        have y3 := hZ.frozen 3
        have y4 := hZ.frozen 4
        have y5 := hZ.frozen 5
        have HZ := Lib.hid hZ
        clear hZ
        by_cases hlt : k < L.length
        · have cw := (HK.out.ext hb).2 k (by omega)
          have HT : Hid (Fx.tot ws (k + 1) = Fx.tot ws k + ws.getD k 0) := Lib.hid rfl
          have k0 : (0 : Int) ≤ (k : Int) := by omega
          have k1 : (k : Int) < (L.length : Int) := by omega
          by_cases hw0 : ws.getD k 0 < 0
          · have HF := Lib.hid (combRet_no (combOk_3 (L := L) (Fx.okW_over ws k (by omega) (.inl hw0))))
            generalize ws.getD k 0 = wt at *
            have d1 : decide (wt < 0) = true := by simp; omega
            go_wp2_with fail
            exact bodyPost_ret (ret_rcomb (x := Fx.V3.zero) (set6_whole Fx.V3.zero HZ.out) rfl rfl rfl) rfl ⟨by rw [HF.out]; rfl, set6_ext Fx.V3.zero hb (Nat.le_refl _)⟩
          · by_cases hw1 : 65536 - Fx.tot ws k < ws.getD k 0
            · have HF := Lib.hid (combRet_no (combOk_3 (L := L) (Fx.okW_over ws k (by omega) (.inr hw1))))
              generalize ws.getD k 0 = wt at *
              generalize Fx.tot ws k = tk at *
              have d1 : decide (wt < 0) = false := by simp; omega
              have d2 : decide (65536 - tk < wt) = true := by simp; omega
              go_wp2_with fail
              exact bodyPost_ret (ret_rcomb (x := Fx.V3.zero) (set6_whole Fx.V3.zero HZ.out) rfl rfl rfl) rfl ⟨by rw [HF.out]; rfl, set6_ext Fx.V3.zero hb (Nat.le_refl _)⟩
            · have HR' := Lib.hid (show ∀ i : Nat, i < k + 1 → 0 ≤ ws.getD i 0 ∧ ws.getD i 0 ≤ 65536 from fun i hi => by
                by_cases e : i = k
                · rw [e]; omega
                · exact hR.out i (by omega))
              have HT2 := Lib.hid (show Fx.tot ws (k + 1) ≤ 65536 by have := HT.out; omega)
              generalize ws.getD k 0 = wt at *
              generalize Fx.tot ws k = tk at *
              have d1 : decide (wt < 0) = false := by simp; omega
              have d2 : decide (65536 - tk < wt) = false := by simp; omega
              go_wp2_with fail
              go_roundw
              case rel => exact ⟨k + 1, by omega, by go_num, by rw [HT.out], HT2.out, HR', HZ.out, hb⟩
              case measure => simp [intOf]; omega
        · obtain rfl : k = L.length := by omega
          by_cases ht : Fx.tot ws L.length < 1
          · have hno : Fx.okW ws = false := Fx.okW_not ws (by have h2 := HN.out; rw [h2]; omega)
            have HF := Lib.hid (combRet_no (combOk_3 (L := L) hno))
            clear hno
            have d1 : decide (Fx.tot ws L.length < 1) = true := by simp; omega
            go_wp2_with fail
            exact bodyPost_ret (ret_rcomb (x := Fx.V3.zero) (set6_whole Fx.V3.zero HZ.out) rfl rfl rfl) rfl ⟨by rw [HF.out]; rfl, set6_ext Fx.V3.zero hb (Nat.le_refl _)⟩
          · have hok : Fx.combOk L ws = true := by
              unfold Fx.combOk
              have h1 := HP.out
              have h2 := HN.out
              rw [h1, Fx.okW_yes ws (fun i hi => hR.out i (by omega)) (by rw [h2]; omega)]
              simp [h2]
            have HF : Hid (combRet L ws = .tuple #[.agg #[.int .i64 (Fx.comb L ws L.length).a, .int .i64 (Fx.comb L ws L.length).b, .int .i64 (Fx.comb L ws L.length).c, .int .i64 (Fx.comb L ws L.length).d, .int .i64 (Fx.comb L ws L.length).e, .int .i64 (Fx.comb L ws L.length).f], .int .i64 (Fx.tot ws L.length), .bool true]) := Lib.hid (by unfold combRet Fx.combV Fx.combT; rw [hok]; rfl)
            clear hok z0 z1 z2 z3 z4 z5 y0 y1 y2 y3 y4 y5
            have d1 : decide (Fx.tot ws L.length < 1) = false := by simp; omega
            go_wp2_with fail
            obtain ⟨w2, rfl⟩ : ∃ w2 : World, w2 = wr := ⟨_, rfl⟩
            have hgg : w.heap.size < w2.heap.size := HZ.out.lt
            have hZ0 := HZ.out.alloc (.cells Fx.V3.zero.arr 34)
            have hS0 := Whole.new w2 34 Fx.V3.zero.arr
            have hB0 := ext_alloc hb (.cells Fx.V3.zero.arr 34)
            clear hb HZ
            go_loopw [10] (fun iv wr => ∃ k : Nat, k ≤ L.length ∧ iv = .int .i64 k ∧ Whole wr w2.heap.size 34 (Fx.comb L ws k).arr ∧ Whole wr w.heap.size 34 Fx.V3.zero.arr ∧ Below w.heap.size w wr) (fun iv _ => L.length - (intOf iv).toNat)
            case atStart => exact ⟨0, Nat.zero_le _, rfl, hS0, hZ0, hB0⟩
            case round =>
              obtain ⟨k, hk', rfl, hS, hZ, hb⟩ := hrel
              clear hS0 hZ0 hB0
              by_cases hlt' : k < L.length
              · have hx := Fx.reach_within (Fx.allR_at (Fx.placedB_all HP.out) k hlt')
                have hs := Fx.comb_bd L ws k (fun i hi => hR.out i (by omega)) (fun i hi => Fx.allR_at (Fx.placedB_all HP.out) i (by omega))
                have hw := hR.out k hlt'
                have mb := fun y hy => Fx.wmul_bd (ws.getD k 0) y 268435456 hw.1 hw.2 (by omega) hy
                have HC : Hid (Fx.comb L ws (k + 1) = (Fx.comb L ws k).addw (ws.getD k 0) (L.getD k Fx.V3.zero)) := Lib.hid rfl
                have HX := Lib.hid hx; have HSB := Lib.hid hs; have MB := Lib.hid mb
                have HSW := Lib.hid hS; have HZ := Lib.hid hZ
                have hk8 : k < 8 := by omega
                clear hx hs mb hS hZ
                go_wp2_with fail
                obtain ⟨wo, rfl⟩ : ∃ wo : World, wo = wr := ⟨_, rfl⟩
                go_loopw [11] (fun jv wr => ∃ j : Nat, j ≤ 3 ∧ jv = .int .i64 j ∧ Whole wr w2.heap.size 34 (Fx.mixV (Fx.comb L ws k) (ws.getD k 0) (L.getD k Fx.V3.zero) j).arr ∧ Whole wr w.heap.size 34 Fx.V3.zero.arr ∧ Below w.heap.size w wr) (fun jv _ => 3 - (intOf jv).toNat)
                case atStart => exact ⟨0, by omega, rfl, HSW.out, HZ.out, hb⟩
                case round =>
                  obtain ⟨j, hj, rfl, hS, hZ, hbj⟩ := hrel
                  by_cases hj3 : j < 3
                  · have cw := (HK.out.ext hbj).2 k (by omega)
                    obtain ⟨cx0, cx1⟩ := (HJ.out.ext hbj).part k hlt' j hj3
                    have hKe := HK.out.1
                    have hJe := HJ.out.1
                    have sl := Fx.within_lo HSB.out j
                    have sh := Fx.within_hi HSB.out j
                    have pl := MB.out _ (Fx.within_lo HX.out j)
                    have ph := MB.out _ (Fx.within_hi HX.out j)
                    obtain ⟨g0, g1⟩ := Fx.mixV_lo (Fx.comb L ws k) (ws.getD k 0) (L.getD k Fx.V3.zero) j hj3
                    have c0 := (hS.cell (j * 2)).trans g0
                    have f0 := hS.frozen (j * 2)
                    have HHf := Lib.hid (fun u => Fx.mixV_half (Fx.comb L ws k) (ws.getD k 0) (L.getD k Fx.V3.zero) u j hj3)
                    have HNx := Lib.hid (Fx.mixV_next (Fx.comb L ws k) (ws.getD k 0) (L.getD k Fx.V3.zero) j hj3)
                    have HS2 := Lib.hid hS
                    have HZ2 := Lib.hid hZ
                    clear hS hZ g0 g1
                    generalize (Fx.comb L ws k).lo j = s0 at *
                    generalize (Fx.comb L ws k).hi j = s1 at *
                    generalize (L.getD k Fx.V3.zero).lo j = x0 at *
                    generalize (L.getD k Fx.V3.zero).hi j = x1 at *
                    generalize hwt : ws.getD k 0 = wt at *
                    clear hwt
                    have k0 : (0 : Int) ≤ (j : Int) := by omega
                    have k1 : (j : Int) < 3 := by omega
                    have k2 : (0 : Int) ≤ (k : Int) := by omega
                    have k3 : (k : Int) < (L.length : Int) := by omega
                    go_wp2_with fail
                    have hne2 : w.heap.size ≠ w2.heap.size := by omega
                    have e1 : IntKind.i64.wrap (wt * x0) = wt * x0 := by rw [IntKind.wrap_i64]; omega
                    have e2 : IntKind.i64.wrap (s0 + wt * x0) = s0 + wt * x0 := by rw [IntKind.wrap_i64]; omega
                    go_region
                    clear e1 e2
                    go_wp2_with fail
                    have hS3 := (HS2.out.store (j * 2) (.int .i64 (s0 + wt * x0))).drew
                    have hZ3 := (HZ2.out.far (p := ⟨w2.heap.size, j * 2, none⟩) hne2 (.int .i64 (s0 + wt * x0))).drew
                    have hb3' : Below w.heap.size wr (wr.setCell ⟨w2.heap.size, j * 2, none⟩ (.int .i64 (s0 + wt * x0))).drew := ((Below.refl _ _).setCell (p := ⟨w2.heap.size, j * 2, none⟩) (Nat.le_of_lt hgg) _).drew
                    have hb3 := hbj.trans hb3'
                    have cw' := (hb3'.cell (p := ⟨b2, o2 + k, none⟩) hKe).trans cw
                    have cx1' := (hb3'.cell (p := ⟨b, o + k * 6 + j * 2 + 1, none⟩) hJe).trans cx1
                    generalize (wr.setCell ⟨w2.heap.size, j * 2, none⟩ (.int .i64 (s0 + wt * x0))).drew = w3 at *
                    have c1' := (hS3.cell (j * 2 + 1)).trans (HHf.out _)
                    have f1' := hS3.frozen (j * 2 + 1)
                    have HS3 := Lib.hid hS3
                    have HZ3 := Lib.hid hZ3
                    clear hS3 hZ3 HS2 HZ2 HHf c0 f0 cw cx0 cx1 hbj hb3'
                    have e1 : IntKind.i64.wrap (wt * x1) = wt * x1 := by rw [IntKind.wrap_i64]; omega
                    have e2 : IntKind.i64.wrap (s1 + wt * x1) = s1 + wt * x1 := by rw [IntKind.wrap_i64]; omega
                    go_region
                    clear e1 e2
                    have hS4 := (HS3.out.store (j * 2 + 1) (.int .i64 (s1 + wt * x1))).drew
                    rw [HNx.out] at hS4
                    have HS4 := Lib.hid hS4
                    have HZ4 := Lib.hid (HZ3.out.far (p := ⟨w2.heap.size, j * 2 + 1, none⟩) hne2 (.int .i64 (s1 + wt * x1))).drew
                    have hb4 : Below w.heap.size w (w3.setCell ⟨w2.heap.size, j * 2 + 1, none⟩ (.int .i64 (s1 + wt * x1))).drew := ext_drew (ext_set hb3 (p := ⟨w2.heap.size, j * 2 + 1, none⟩) (Nat.le_of_lt hgg) _)
                    clear hS4 HS3 HZ3
                    go_wp2_with fail
                    go_roundw
                    case rel => exact ⟨j + 1, by omega, by go_num, HS4.out, HZ4.out, hb4⟩
                    case measure => simp [intOf]; omega
                  · obtain rfl : j = 3 := by omega
                    rw [Fx.mixV_three, ← HC.out] at hS
                    have HS' := Lib.hid hS
                    have HZ' := Lib.hid hZ
                    clear hS hZ
                    go_wp2_with fail
                    go_roundw
                    case rel => exact ⟨k + 1, by omega, by go_num, HS'.out, HZ'.out, hbj⟩
                    case measure => simp [intOf]; omega
              · obtain rfl : k = L.length := by omega
                have z0 : _ = some (Value.int .i64 0) := hZ.cell 0
                have z1 : _ = some (Value.int .i64 0) := hZ.cell 1
                have z2 : _ = some (Value.int .i64 0) := hZ.cell 2
                have z3 : _ = some (Value.int .i64 0) := hZ.cell 3
                have z4 : _ = some (Value.int .i64 0) := hZ.cell 4
                have z5 : _ = some (Value.int .i64 0) := hZ.cell 5
                have y0 := hZ.frozen 0
                have y1 := hZ.frozen 1
                have y2 := hZ.frozen 2
                have y3 := hZ.frozen 3
                have y4 := hZ.frozen 4
                have y5 := hZ.frozen 5
                generalize Fx.comb L ws L.length = x at *
                have s0 : _ = some (Value.int .i64 x.a) := hS.cell 0
                have s1 : _ = some (Value.int .i64 x.b) := hS.cell 1
                have s2 : _ = some (Value.int .i64 x.c) := hS.cell 2
                have s3 : _ = some (Value.int .i64 x.d) := hS.cell 3
                have s4 : _ = some (Value.int .i64 x.e) := hS.cell 4
                have s5 : _ = some (Value.int .i64 x.f) := hS.cell 5
                have HZ := Lib.hid hZ
                clear hZ hS
                go_wp2_with fail
                exact bodyPost_ret (ret_rcomb (x := x) (set6_whole x HZ.out) rfl rfl rfl) rfl ⟨by rw [HF.out], set6_ext x hb (Nat.le_refl _)⟩
    · have HF := Lib.hid (combRet_no (combOk_2 (L := L) hn))
      have d1 : ((ws.length : Int) != (L.length : Int)) = true := by simp; omega
      have d2 : ¬ ws.length = L.length := hn
      clear hn H1 H2
      go_enter Try.func33, Try.ntmps33
      go_wp2_with fail
      refine (rplaced_yes _ L _ (HI.out.ext (ext_alloc (ext_refl _) _)) HP.out).mono ?_
      rintro e w1 ⟨rfl, hb1⟩
      have hZ := (Whole.new w 34 Fx.V3.zero.arr).ext hb1
      have z0 : _ = some (Value.int .i64 0) := hZ.cell 0
      have z1 : _ = some (Value.int .i64 0) := hZ.cell 1
      have z2 : _ = some (Value.int .i64 0) := hZ.cell 2
      have z3 : _ = some (Value.int .i64 0) := hZ.cell 3
      have z4 : _ = some (Value.int .i64 0) := hZ.cell 4
      have z5 : _ = some (Value.int .i64 0) := hZ.cell 5
      have y0 := hZ.frozen 0
      have y1 := hZ.frozen 1
      have y2 := hZ.frozen 2
      have y3 := hZ.frozen 3
      have y4 := hZ.frozen 4
      have y5 := hZ.frozen 5
      have HZ := Lib.hid hZ
      have hB1 : Below w.heap.size w w1 := ext_trans (ext_alloc (ext_refl _) _) hb1
      clear hZ hb1
      go_wp2_with fail
      exact bodyPost_ret (ret_rcomb (x := Fx.V3.zero) (set6_whole Fx.V3.zero HZ.out) rfl rfl rfl) rfl ⟨by rw [HF.out]; rfl, set6_ext Fx.V3.zero hB1 (Nat.le_refl _)⟩
  · have hp : Fx.placedB L = false := by simpa using hp
    have HP := Lib.hid hp
    have HF := Lib.hid (combRet_no (combOk_1 (ws := ws) hp))
    clear hp H1 H2
    go_enter Try.func33, Try.ntmps33
    go_wp2_with fail
    refine (rplaced_no _ L _ (HI.out.ext (ext_alloc (ext_refl _) _)) HP.out).mono ?_
    rintro e w1 ⟨rfl, hb1⟩
    have hZ := (Whole.new w 34 Fx.V3.zero.arr).ext hb1
    have z0 : _ = some (Value.int .i64 0) := hZ.cell 0
    have z1 : _ = some (Value.int .i64 0) := hZ.cell 1
    have z2 : _ = some (Value.int .i64 0) := hZ.cell 2
    have z3 : _ = some (Value.int .i64 0) := hZ.cell 3
    have z4 : _ = some (Value.int .i64 0) := hZ.cell 4
    have z5 : _ = some (Value.int .i64 0) := hZ.cell 5
    have y0 := hZ.frozen 0
    have y1 := hZ.frozen 1
    have y2 := hZ.frozen 2
    have y3 := hZ.frozen 3
    have y4 := hZ.frozen 4
    have y5 := hZ.frozen 5
    have HZ := Lib.hid hZ
    have hB1 : Below w.heap.size w w1 := ext_trans (ext_alloc (ext_refl _) _) hb1
    clear hZ hb1
    go_wp2_with fail
    exact bodyPost_ret (ret_rcomb (x := Fx.V3.zero) (set6_whole Fx.V3.zero HZ.out) rfl rfl rfl) rfl ⟨by rw [HF.out]; rfl, set6_ext Fx.V3.zero hB1 (Nat.le_refl _)⟩
end Go.Proofs.Ytgnjconhbloocaa

namespace Go.Proofs.Ytgnjconhbloocaa
open Go.RowKit
set_option linter.unusedVariables false

set_option maxRecDepth 100000 in
set_option maxHeartbeats 2000000 in
theorem combines_any (v u : Value) (L : List Fx.V3) (ws : List Int) (w : World) (hI : VSl w v L) (hU : IntSl w u ws) :
    Calls Try.prog 13 #[v, u] w fun e w' => e = .returned (.bool true) ∧ Below w.heap.size w w' := by
  have HI := Lib.hid hI
  have HU := Lib.hid hU
  obtain ⟨a, c, rfl, hl, hI'⟩ := hI
  obtain ⟨a2, c2, rfl, hl2, hU'⟩ := hU
  clear hI' hU'
  obtain ⟨x, t, ok, hr⟩ : ∃ (x : Fx.V3) (t : Int) (ok : Bool), combRet L ws = .tuple #[.agg #[.int .i64 x.a, .int .i64 x.b, .int .i64 x.c, .int .i64 x.d, .int .i64 x.e, .int .i64 x.f], .int .i64 t, .bool ok] := ⟨_, _, _, rfl⟩
  have HR := Lib.hid hr
  clear hr
  go_enter Try.func13, Try.ntmps13
  go_wp2_with fail
  refine (combine_any _ _ L ws _ HI.out HU.out).mono ?_
  rintro e w1 ⟨rfl, hb1⟩
  rw [HR.out]
  go_wp2_with fail
  have hb2 := ext_alloc hb1 (.cells #[.int .i64 x.a, .int .i64 x.b, .int .i64 x.c, .int .i64 x.d, .int .i64 x.e, .int .i64 x.f] 34)
  have hW2 := Whole.new w1 34 #[.int .i64 x.a, .int .i64 x.b, .int .i64 x.c, .int .i64 x.d, .int .i64 x.e, .int .i64 x.f]
  have hz1 := hb1.size
  refine (rcombine_any _ _ L ws _ (HI.out.ext hb2) (HU.out.ext hb2)).mono ?_
  rintro e w3 ⟨rfl, hb3⟩
  rw [HR.out]
  have hW3 := hW2.ext hb3
  have hb3' := ext_trans hb2 hb3
  have hz3 : w1.heap.size < w3.heap.size := hW3.lt
  have c0 : _ = some (Value.int .i64 x.a) := hW3.cell 0
  have c1 : _ = some (Value.int .i64 x.b) := hW3.cell 1
  have c2 : _ = some (Value.int .i64 x.c) := hW3.cell 2
  have c3 : _ = some (Value.int .i64 x.d) := hW3.cell 3
  have c4 : _ = some (Value.int .i64 x.e) := hW3.cell 4
  have c5 : _ = some (Value.int .i64 x.f) := hW3.cell 5
  clear hW3 hW2 hb2 hb3 hb1
  go_wp2_with fail
  go_ret
  exact ⟨rfl, (by repeat (first | assumption | exact ext_refl _ | refine ext_alloc ?_ _ | refine ext_drewN ?_ _ | refine ext_drew ?_ | refine ext_set ?_ (by first | (simp; done) | (simp; omega) | omega) _ | refine ext_trans ?_ ‹Below _ _ _›))⟩
end Go.Proofs.Ytgnjconhbloocaa

namespace Go.Proofs.Ytgnjconhbloocaa
open Go.RowKit
set_option linter.unusedVariables false

theorem PSl.one (w : World) (t : TypeId) (x y z : Int) : PSl (w.alloc (.cells #[.int .i64 x, .int .i64 y, .int .i64 z] t)) (.slice (some ⟨w.heap.size, 0, none⟩) 1 1) [(x, y, z)] := by
  have hW := Whole.new w t #[.int .i64 x, .int .i64 y, .int .i64 z]
  refine ⟨_, _, rfl, by simp, fun _ => ⟨_, _, rfl, hW.lt, fun i hi => ?_⟩⟩
  obtain rfl : i = 0 := by simp at hi; exact hi
  exact ⟨hW.cell 0, hW.cell 1, hW.cell 2⟩
theorem PSl.two (w : World) (t : TypeId) (x y z a b c : Int) : PSl (w.alloc (.cells #[.int .i64 x, .int .i64 y, .int .i64 z, .int .i64 a, .int .i64 b, .int .i64 c] t)) (.slice (some ⟨w.heap.size, 0, none⟩) 2 2) [(x, y, z), (a, b, c)] := by
  have hW := Whole.new w t #[.int .i64 x, .int .i64 y, .int .i64 z, .int .i64 a, .int .i64 b, .int .i64 c]
  refine ⟨_, _, rfl, by simp, fun _ => ⟨_, _, rfl, hW.lt, fun i hi => ?_⟩⟩
  match i, hi with
  | 0, _ => exact ⟨hW.cell 0, hW.cell 1, hW.cell 2⟩
  | 1, _ => exact ⟨hW.cell 3, hW.cell 4, hW.cell 5⟩
theorem IntSl.two (w : World) (t : TypeId) (x y : Int) : IntSl (w.alloc (.cells #[.int .i64 x, .int .i64 y] t)) (.slice (some ⟨w.heap.size, 0, none⟩) 2 2) [x, y] := by
  have hW := Whole.new w t #[.int .i64 x, .int .i64 y]
  refine ⟨_, _, rfl, by simp, fun _ => ⟨_, _, rfl, hW.lt, fun i hi => ?_⟩⟩
  match i, hi with
  | 0, _ => exact hW.cell 0
  | 1, _ => exact hW.cell 1
theorem comb_awake : combRet (Fx.boxed [(0, 0, 0), (4, 0, 0)]) [1, 3] = .tuple #[.agg #[.int .i64 12, .int .i64 12, .int .i64 0, .int .i64 0, .int .i64 0, .int .i64 0], .int .i64 4, .bool true] := by kernel_rfl
theorem point_awake : (Fx.ofV 12 0 0).arr = #[.int .i64 12, .int .i64 12, .int .i64 0, .int .i64 0, .int .i64 0, .int .i64 0] := by kernel_rfl
theorem placed_awake : Fx.placedB (Fx.boxed [(1, 0, 0)]) = true := by kernel_rfl

/-- What stays while awake looks at its vector. -/
def KeepA (w : World) (g : Nat) (w' : World) : Prop := w'.cell? ⟨g, 0, none⟩ = some (.int .i64 12) ∧ w'.cell? ⟨g, 1, none⟩ = some (.int .i64 12) ∧ w'.cell? ⟨g, 2, none⟩ = some (.int .i64 0) ∧ w'.cell? ⟨g, 3, none⟩ = some (.int .i64 0) ∧ w'.cell? ⟨g, 4, none⟩ = some (.int .i64 0) ∧ w'.cell? ⟨g, 5, none⟩ = some (.int .i64 0) ∧ g < w'.heap.size ∧ Below w.heap.size w w'
theorem KeepA.step {w : World} {g : Nat} {w1 w2 : World} (h : KeepA w g w1) (hb : Below w1.heap.size w1 w2) : KeepA w g w2 := by
  obtain ⟨h0, h1, h2, h3, h4, h5, h6, h7⟩ := h
  have := hb.size
  exact ⟨(hb.cell (p := ⟨g, 0, none⟩) h6).trans h0, (hb.cell (p := ⟨g, 1, none⟩) h6).trans h1, (hb.cell (p := ⟨g, 2, none⟩) h6).trans h2, (hb.cell (p := ⟨g, 3, none⟩) h6).trans h3, (hb.cell (p := ⟨g, 4, none⟩) h6).trans h4, (hb.cell (p := ⟨g, 5, none⟩) h6).trans h5, by omega, ext_trans h7 hb⟩

set_option maxRecDepth 100000 in
set_option maxHeartbeats 1000000 in
theorem awake_any (w : World) :
    Calls Try.prog 12 #[] w fun e w' => e = .returned (.bool true) ∧ Below w.heap.size w w' := by
  go_enter Try.func12, Try.ntmps12
  go_wp2_with fail
  refine (boxed_any _ [(0, 0, 0), (4, 0, 0)] _ (PSl.two _ _ _ _ _ _ _ _) (by simp)).mono ?_
  rintro e w1 ⟨u, rfl, hown, hb1⟩
  have hB1 := ext_trans (ext_alloc (ext_refl w) _) hb1
  have HV := Lib.hid (VSl.of_owns (L := Fx.boxed [(0, 0, 0), (4, 0, 0)]) hown (by decide))
  clear hown hb1
  go_wp2_with fail
  refine (combine_any _ _ (Fx.boxed [(0, 0, 0), (4, 0, 0)]) [1, 3] _ (HV.out.ext (ext_alloc (ext_refl _) _)) (IntSl.two _ _ _ _)).mono ?_
  rintro e w2 ⟨rfl, hb2⟩
  have hB2 := ext_trans (ext_alloc hB1 _) hb2
  have hz2 := hB2.size
  rw [comb_awake]
  clear hb2 HV
  go_wp2_with fail
  have hW := Whole.new w2 34 #[.int .i64 12, .int .i64 12, .int .i64 0, .int .i64 0, .int .i64 0, .int .i64 0]
  have hB3 := ext_alloc hB2 (.cells #[.int .i64 12, .int .i64 12, .int .i64 0, .int .i64 0, .int .i64 0, .int .i64 0] 34)
  generalize (w2.alloc (.cells #[.int .i64 12, .int .i64 12, .int .i64 0, .int .i64 0, .int .i64 0, .int .i64 0] 34)) = w3 at *
  have hK : KeepA w w2.heap.size w3 := ⟨hW.cell 0, hW.cell 1, hW.cell 2, hW.cell 3, hW.cell 4, hW.cell 5, hW.lt, hB3⟩
  clear hW hB3
  generalize w2.heap.size = g at *
  go_region_held3 (fun w' => w'.cell? ⟨g, 0, none⟩ = some (.int .i64 12) ∧ w'.cell? ⟨g, 1, none⟩ = some (.int .i64 12) ∧ w'.cell? ⟨g, 2, none⟩ = some (.int .i64 0) ∧ w'.cell? ⟨g, 3, none⟩ = some (.int .i64 0) ∧ w'.cell? ⟨g, 4, none⟩ = some (.int .i64 0) ∧ w'.cell? ⟨g, 5, none⟩ = some (.int .i64 0) ∧ g < w'.heap.size ∧ Below w.heap.size w w')
    (first | exact hK.step (ext_drew (ext_refl _)) | exact KeepA.step (by assumption) hb6 | exact KeepA.step (by assumption) hb5 | exact KeepA.step (by assumption) hb4 | exact KeepA.step (by assumption) (ext_alloc (ext_refl _) _) | fail)
    (first
      | (go_at_call 31; refine (rpoint_any _ _ _ _).mono ?_; rintro e w4 ⟨rfl, hb4⟩; rw [point_awake])
      | (go_at_call 30; refine (boxed_any _ [(1, 0, 0)] _ (PSl.one _ _ _ _ _) (by simp)).mono ?_; rintro e w5 ⟨u5, rfl, hown5, hb5⟩; have HV5 := Lib.hid (VSl.of_owns (L := Fx.boxed [(1, 0, 0)]) hown5 (by decide)); clear hown5)
      | (go_at_call 32; refine (placed_any _ (Fx.boxed [(1, 0, 0)]) _ HV5.out).mono ?_; rintro e w6 ⟨rfl, hb6⟩; rw [placed_awake])
      | fail)
  rename_i hH
  have hB6 := hH.2.2.2.2.2.2.2
  clear hH
  go_wp2_with fail
  go_ret
  exact ⟨rfl, hB6⟩
end Go.Proofs.Ytgnjconhbloocaa

namespace Go.Proofs.Ytgnjconhbloocaa
open Go.RowKit
set_option linter.unusedVariables false

theorem wpList_load_want {P : Program} {ops : Array Oper} {rest : List Oper} {op : Oper} {a : Act} {w : World} {Q : Exit → Act → World → Prop} (hw : Region.wanted op (yielded ops a.tmps) = true) (ty : TypeId) (x : Operand) (ho : op.op = .load ty x)
    (b o : Nat) (hx : a.eval x = .pointer (some ⟨b, o, none⟩)) (cs : List Value) (d : TypeDesc) (hc : w.rangeAt b o cs)
    (hu : P.underlying ty = some d) (hd : d.isRow = true) (hi : (P.info? ty).map (·.size) = some cs.length)
    (h : wpList P ops Q rest (a.put op.dst (.agg cs.toArray)) w) : wpList P ops Q (op :: rest) a w :=
  BigFrame.wpList_want hw fun _ hK => wp_load_mid ty x ho b o hx cs d hc hu hd hi (hK _ _ h)
/-- Two loads ahead of a call. -/
theorem wpList_load2 {P : Program} {ops : Array Oper} {rest : List Oper} {op op' : Oper} {a : Act} {w : World} {Q : Exit → Act → World → Prop} (hw : Region.wanted op (yielded ops a.tmps) = true) (ty : TypeId) (x : Operand) (ho : op.op = .load ty x)
    (b o : Nat) (hx : a.eval x = .pointer (some ⟨b, o, none⟩)) (cs : List Value) (d : TypeDesc) (hc : w.rangeAt b o cs)
    (hu : P.underlying ty = some d) (hd : d.isRow = true) (hi : (P.info? ty).map (·.size) = some cs.length)
    (hw' : Region.wanted op' (yielded ops (a.put op.dst (.agg cs.toArray)).tmps) = true) (ty' : TypeId) (x' : Operand) (ho' : op'.op = .load ty' x')
    (b' o' : Nat) (hx' : (a.put op.dst (.agg cs.toArray)).eval x' = .pointer (some ⟨b', o', none⟩)) (cs' : List Value) (d' : TypeDesc) (hc' : w.rangeAt b' o' cs')
    (hu' : P.underlying ty' = some d') (hd' : d'.isRow = true) (hi' : (P.info? ty').map (·.size) = some cs'.length)
    (h : wpList P ops Q rest ((a.put op.dst (.agg cs.toArray)).put op'.dst (.agg cs'.toArray)) w) : wpList P ops Q (op :: op' :: rest) a w :=
  wpList_load_want hw ty x ho b o hx cs d hc hu hd hi (wpList_load_want hw' ty' x' ho' b' o' hx' cs' d' hc' hu' hd' hi' h)
end Go.Proofs.Ytgnjconhbloocaa

namespace Go.Proofs.Ytgnjconhbloocaa
open Go.ChangeShapes Go.WideShapes Go.ChangeAt Go.RowKit Go.Deep
set_option linter.unusedVariables false

theorem cells_int : Try.prog.cellsOf 3 = 1 := by kernel_rfl
theorem cells_int64 : Try.prog.cellsOf 2 = 1 := by kernel_rfl

theorem add_none (b o i : Nat) : (⟨b, o, none⟩ : Addr).add i = ⟨b, o + i, none⟩ := by
  unfold Addr.add
  split
  · rename_i h; subst h; rfl
  · rfl

set_option maxRecDepth 100000 in
theorem open_intsl {H : Type} {enc : TypeId × Value → H} {W : World} {r : Reach} {b0 base : Nat} {sp : Nat → Bool} {held : Bool} {v : Value} {d : DataW H} {p : List MemPlace}
    (hv : Value.okWide Try.prog W r b0 24 v) (h : DataW.Trod enc Try.prog W base sp held 24 v d p) : ∃ xs : List Int, IntSl W v xs ∧ ∀ x ∈ xs, (Lit.int .i64 x).wf = true := by
  obtain ⟨a0, len, cap, rfl⟩ := okWide_slice Try.underlying24 hv
  obtain ⟨fuel, hf⟩ := h
  rcases open_ints Try.underlying24 Try.underlying3 cells_int hf with ⟨hcs, hx⟩ | ⟨a, len', cap', zs, hcs, _, hl, hm, hz, hx, hcell, hwz⟩
  · simp [Value.cells] at hcs
    obtain ⟨rfl, rfl, rfl⟩ := hcs
    exact ⟨[], IntSl.nil _ _ _, by simp⟩
  · simp [Value.cells] at hcs
    obtain ⟨rfl, rfl, rfl⟩ := hcs
    unfold maxLen at hm
    have hlz : len ≤ zs.length := by rw [hz]; split <;> omega
    refine ⟨zs.take len, ⟨some a, cap, by rw [List.length_take, Nat.min_eq_left hlz], by rw [List.length_take, Nat.min_eq_left hlz]; omega, fun hp => ?_⟩, fun x hx => hwz x (List.mem_of_mem_take hx)⟩
    rw [List.length_take, Nat.min_eq_left hlz] at hp
    obtain ⟨b, off, spot⟩ := a
    have hspot : spot = none := by simpa [Addr.add] using World.cell?_spot (hcell 0 (by omega))
    subst hspot
    have hc : ∀ i, i < len → W.cell? ⟨b, off + i, none⟩ = some (.int .i64 (zs.getD i 0)) := fun i hi => by rw [← add_none]; exact hcell i (by omega)
    refine ⟨b, off, rfl, World.block_lt_of_cell? W _ (hc 0 hp), fun i hi => ?_⟩
    rw [List.length_take, Nat.min_eq_left hlz] at hi
    rw [hc i hi]
    simp [List.getD_eq_getElem?_getD, List.getElem?_take, hi]

set_option maxRecDepth 100000 in
theorem open_i64sl {H : Type} {enc : TypeId × Value → H} {W : World} {r : Reach} {b0 base : Nat} {sp : Nat → Bool} {held : Bool} {v : Value} {d : DataW H} {p : List MemPlace}
    (hv : Value.okWide Try.prog W r b0 23 v) (h : DataW.Trod enc Try.prog W base sp held 23 v d p) : ∃ xs : List Int, IntSl W v xs ∧ ∀ x ∈ xs, (Lit.int .i64 x).wf = true := by
  obtain ⟨a0, len, cap, rfl⟩ := okWide_slice Try.underlying23 hv
  obtain ⟨fuel, hf⟩ := h
  rcases open_ints Try.underlying23 Try.underlying2 cells_int64 hf with ⟨hcs, hx⟩ | ⟨a, len', cap', zs, hcs, _, hl, hm, hz, hx, hcell, hwz⟩
  · simp [Value.cells] at hcs
    obtain ⟨rfl, rfl, rfl⟩ := hcs
    exact ⟨[], IntSl.nil _ _ _, by simp⟩
  · simp [Value.cells] at hcs
    obtain ⟨rfl, rfl, rfl⟩ := hcs
    unfold maxLen at hm
    have hlz : len ≤ zs.length := by rw [hz]; split <;> omega
    refine ⟨zs.take len, ⟨some a, cap, by rw [List.length_take, Nat.min_eq_left hlz], by rw [List.length_take, Nat.min_eq_left hlz]; omega, fun hp => ?_⟩, fun x hx => hwz x (List.mem_of_mem_take hx)⟩
    rw [List.length_take, Nat.min_eq_left hlz] at hp
    obtain ⟨b, off, spot⟩ := a
    have hspot : spot = none := by simpa [Addr.add] using World.cell?_spot (hcell 0 (by omega))
    subst hspot
    have hc : ∀ i, i < len → W.cell? ⟨b, off + i, none⟩ = some (.int .i64 (zs.getD i 0)) := fun i hi => by rw [← add_none]; exact hcell i (by omega)
    refine ⟨b, off, rfl, World.block_lt_of_cell? W _ (hc 0 hp), fun i hi => ?_⟩
    rw [List.length_take, Nat.min_eq_left hlz] at hi
    rw [hc i hi]
    simp [List.getD_eq_getElem?_getD, List.getElem?_take, hi]

set_option maxRecDepth 100000 in
/-- The two cells of an interval are numbers. -/
theorem iv_ints {H : Type} {enc : TypeId × Value → H} {W : World} {base : Nat} {sp : Nat → Bool} {held : Bool} {n : Nat} {x y : Value} {z : DataW H × List MemPlace}
    (h : DataW.trod enc Try.prog W base sp held n 32 [x, y] = some z) : ∃ a b : Int, x = .int .i64 a ∧ y = .int .i64 b := by
  obtain ⟨ys, n', hn', hy, hlen, hyl, hf⟩ := DataW.trod_struct Try.underlying32 h
  have h0 : DataW.trod enc Try.prog W base sp held n' 2 (([x, y].drop 0).take (Try.prog.cellsOf 2)) = ys[0]? := hf 0 _ rfl
  have h1 : DataW.trod enc Try.prog W base sp held n' 2 (([x, y].drop 1).take (Try.prog.cellsOf 2)) = ys[1]? := hf 1 _ rfl
  rw [show Try.prog.cellsOf 2 = 1 by kernel_rfl] at h0 h1
  simp at hyl
  rw [List.getElem?_eq_getElem (by omega)] at h0 h1
  obtain ⟨a, e0, _, _⟩ := DataW.trod_int Try.underlying2 h0
  obtain ⟨b, e1, _, _⟩ := DataW.trod_int Try.underlying2 h1
  simp at e0 e1
  exact ⟨a, b, e0, e1⟩

set_option maxRecDepth 100000 in
/-- The six cells of a vector of intervals are numbers. -/
theorem ivec_ints {H : Type} {enc : TypeId × Value → H} {W : World} {base : Nat} {sp : Nat → Bool} {held : Bool} {n : Nat} {cs : List Value} {z : DataW H × List MemPlace} (hl : cs.length = 6)
    (h : DataW.trod enc Try.prog W base sp held n 34 cs = some z) : ∃ q : Fx.V3, cs = q.cells := by
  obtain ⟨xs, m, hm, hx, hlen, hxl, hf⟩ := DataW.trod_array Try.underlying34 h
  match cs, hl with
  | [c0, c1, c2, c3, c4, c5], _ =>
    have h0 : DataW.trod enc Try.prog W base sp held m 32 (([c0, c1, c2, c3, c4, c5].drop (0 * Try.prog.cellsOf 32)).take (Try.prog.cellsOf 32)) = xs[0]? := hf 0 (by omega)
    have h1 : DataW.trod enc Try.prog W base sp held m 32 (([c0, c1, c2, c3, c4, c5].drop (1 * Try.prog.cellsOf 32)).take (Try.prog.cellsOf 32)) = xs[1]? := hf 1 (by omega)
    have h2 : DataW.trod enc Try.prog W base sp held m 32 (([c0, c1, c2, c3, c4, c5].drop (2 * Try.prog.cellsOf 32)).take (Try.prog.cellsOf 32)) = xs[2]? := hf 2 (by omega)
    rw [show Try.prog.cellsOf 32 = 2 by kernel_rfl] at h0 h1 h2
    rw [List.getElem?_eq_getElem (by omega)] at h0 h1 h2
    obtain ⟨a, b, rfl, rfl⟩ := iv_ints h0
    obtain ⟨c, d, rfl, rfl⟩ := iv_ints h1
    obtain ⟨e, f, rfl, rfl⟩ := iv_ints h2
    exact ⟨⟨a, b, c, d, e, f⟩, rfl⟩

set_option maxRecDepth 100000 in
theorem open_vsl {H : Type} {enc : TypeId × Value → H} {W : World} {r : Reach} {b0 base : Nat} {sp : Nat → Bool} {held : Bool} {v : Value} {d : DataW H} {p : List MemPlace}
    (hv : Value.okWide Try.prog W r b0 22 v) (h : DataW.Trod enc Try.prog W base sp held 22 v d p) : ∃ L : List Fx.V3, VSl W v L := by
  obtain ⟨a0, len, cap, rfl⟩ := okWide_slice Try.underlying22 hv
  obtain ⟨fuel, hf⟩ := h
  rcases open_slice Try.underlying22 hf with ⟨hcs, hx⟩ | ⟨a, len', cap', m, n, D, Pl, hcs, hb, hl, hm, hmm, hx, hi⟩
  · simp [Value.cells] at hcs
    obtain ⟨rfl, rfl, rfl⟩ := hcs
    exact ⟨[], ⟨_, _, rfl, by simp, fun h => absurd h (by simp)⟩⟩
  · simp [Value.cells] at hcs
    obtain ⟨rfl, rfl, rfl⟩ := hcs
    unfold maxLen at hm
    have hlm : len ≤ m := by rw [hmm]; split <;> omega
    have each : ∀ i, i < len → ∃ q : Fx.V3, ∀ j, j < 6 → W.cell? ((a.add (i * 6)).add j) = q.cells[j]? := fun i hi' => by
      obtain ⟨cs', hc, ht⟩ := hi i (by omega)
      rw [show Try.prog.cellsOf 34 = 6 by kernel_rfl] at hc
      obtain ⟨_, hcl, hat⟩ := World.cells?_some hc
      obtain ⟨q, rfl⟩ := ivec_ints hcl ht
      exact ⟨q, hat⟩
    have choose : ∃ f : Nat → Fx.V3, ∀ i, i < len → ∀ j, j < 6 → W.cell? ((a.add (i * 6)).add j) = (f i).cells[j]? :=
      ⟨fun i => if h : i < len then Classical.choose (each i h) else Fx.V3.zero, fun i h => by simp only [dif_pos h]; exact Classical.choose_spec (each i h)⟩
    obtain ⟨f, hf'⟩ := choose
    refine ⟨(List.range len).map f, some a, cap, by simp, by simp; omega, fun hp => ?_⟩
    simp at hp
    obtain ⟨b, off, spot⟩ := a
    have hc0 : W.cell? (((⟨b, off, spot⟩ : Addr).add (0 * 6)).add 0) = some (.int .i64 (f 0).a) := hf' 0 hp 0 (by omega)
    have hspot : spot = none := by simpa [Addr.add] using World.cell?_spot hc0
    subst hspot
    refine ⟨b, off, rfl, World.block_lt_of_cell? W _ (by rw [add_none, add_none] at hc0; exact hc0), fun i hi j hj => ?_⟩
    simp at hi
    have h0 := hf' i hi j hj
    rw [add_none, add_none] at h0
    rw [h0]
    simp [List.getD_eq_getElem?_getD, hi]
end Go.Proofs.Ytgnjconhbloocaa

namespace Go.Proofs.Ytgnjconhbloocaa
open Go.ChangeShapes Go.WideShapes Go.ChangeAt Go.RowKit Go.Deep
set_option linter.unusedVariables false

set_option maxRecDepth 100000 in
theorem vec_ints {H : Type} {enc : TypeId × Value → H} {W : World} {base : Nat} {sp : Nat → Bool} {held : Bool} {n : Nat} {cs : List Value} {z : DataW H × List MemPlace} (hl : cs.length = 3)
    (h : DataW.trod enc Try.prog W base sp held n 66 cs = some z) : ∃ q : Int × Int × Int, cs = [.int .i64 q.1, .int .i64 q.2.1, .int .i64 q.2.2] := by
  obtain ⟨xs, m, hm, hx, hlen, hxl, hf⟩ := DataW.trod_array Try.underlying66 h
  match cs, hl with
  | [c0, c1, c2], _ =>
    have h0 : DataW.trod enc Try.prog W base sp held m 2 (([c0, c1, c2].drop (0 * Try.prog.cellsOf 2)).take (Try.prog.cellsOf 2)) = xs[0]? := hf 0 (by omega)
    have h1 : DataW.trod enc Try.prog W base sp held m 2 (([c0, c1, c2].drop (1 * Try.prog.cellsOf 2)).take (Try.prog.cellsOf 2)) = xs[1]? := hf 1 (by omega)
    have h2 : DataW.trod enc Try.prog W base sp held m 2 (([c0, c1, c2].drop (2 * Try.prog.cellsOf 2)).take (Try.prog.cellsOf 2)) = xs[2]? := hf 2 (by omega)
    rw [cells_int64] at h0 h1 h2
    rw [List.getElem?_eq_getElem (by omega)] at h0 h1 h2
    obtain ⟨a, e0, _, _⟩ := DataW.trod_int Try.underlying2 h0
    obtain ⟨b, e1, _, _⟩ := DataW.trod_int Try.underlying2 h1
    obtain ⟨c, e2, _, _⟩ := DataW.trod_int Try.underlying2 h2
    simp at e0 e1 e2
    subst e0 e1 e2
    exact ⟨(a, b, c), rfl⟩

set_option maxRecDepth 100000 in
theorem open_psl {H : Type} {enc : TypeId × Value → H} {W : World} {base : Nat} {sp : Nat → Bool} {held : Bool} {v : Value} {n0 : Nat} {y : DataW H × List MemPlace}
    (hf : DataW.trod enc Try.prog W base sp held n0 46 [v] = some y) : ∃ P : List (Int × Int × Int), PSl W v P := by
  rcases open_slice Try.underlying46 hf with ⟨hcs, hx⟩ | ⟨a, len, cap, m, n, D, Pl, hcs, hb, hl, hm, hmm, hx, hi⟩
  · simp at hcs
    subst hcs
    exact ⟨[], ⟨_, _, rfl, by simp, fun h => absurd h (by simp)⟩⟩
  · simp at hcs
    subst hcs
    unfold maxLen at hm
    have hlm : len ≤ m := by rw [hmm]; split <;> omega
    have each : ∀ i, i < len → ∃ q : Int × Int × Int, ∀ j, j < 3 → W.cell? ((a.add (i * 3)).add j) = ([.int .i64 q.1, .int .i64 q.2.1, .int .i64 q.2.2] : List Value)[j]? := fun i hi' => by
      obtain ⟨cs', hc, ht⟩ := hi i (by omega)
      rw [show Try.prog.cellsOf 66 = 3 by kernel_rfl] at hc
      obtain ⟨_, hcl, hat⟩ := World.cells?_some hc
      obtain ⟨q, rfl⟩ := vec_ints hcl ht
      exact ⟨q, hat⟩
    have choose : ∃ f : Nat → Int × Int × Int, ∀ i, i < len → ∀ j, j < 3 → W.cell? ((a.add (i * 3)).add j) = ([.int .i64 (f i).1, .int .i64 (f i).2.1, .int .i64 (f i).2.2] : List Value)[j]? :=
      ⟨fun i => if h : i < len then Classical.choose (each i h) else (0, 0, 0), fun i h => by simp only [dif_pos h]; exact Classical.choose_spec (each i h)⟩
    obtain ⟨f, hf'⟩ := choose
    refine ⟨(List.range len).map f, some a, cap, by simp, by simp; omega, fun hp => ?_⟩
    simp at hp
    obtain ⟨b, off, spot⟩ := a
    have hc0 : W.cell? (((⟨b, off, spot⟩ : Addr).add (0 * 3)).add 0) = some (.int .i64 (f 0).1) := hf' 0 hp 0 (by omega)
    have hspot : spot = none := by simpa [Addr.add] using World.cell?_spot hc0
    subst hspot
    refine ⟨b, off, rfl, World.block_lt_of_cell? W _ (by rw [add_none, add_none] at hc0; exact hc0), fun i hi => ?_⟩
    simp at hi
    have h0 := hf' i hi 0 (by omega)
    have h1 := hf' i hi 1 (by omega)
    have h2 := hf' i hi 2 (by omega)
    rw [add_none, add_none] at h0 h1 h2
    rw [show ((List.range len).map f).getD i (0, 0, 0) = f i by simp [List.getD_eq_getElem?_getD, hi]]
    exact ⟨h0, h1, h2⟩

set_option maxRecDepth 100000 in
theorem open_shape {H : Type} {enc : TypeId × Value → H} {W : World} {r : Reach} {b0 base : Nat} {sp : Nat → Bool} {held : Bool} {v : Value} {d : DataW H} {p : List MemPlace}
    (hv : Value.okWide Try.prog W r b0 48 v) (h : DataW.Trod enc Try.prog W base sp held 48 v d p) : ∃ (lk rd : Int) (u : Value) (P : List (Int × Int × Int)), v = .agg #[.int .i64 lk, .int .i64 rd, u] ∧ PSl W u P := by
  obtain ⟨v0, v1, v2, y0, y1, y2, n, rfl, _, _, h0, h1, h2⟩ := Joins.open_agg3 Try.underlying48 (by kernel_rfl) (show Try.prog.cellsOf 48 = 3 by kernel_rfl) hv h
  obtain ⟨a, e0, _, _⟩ := DataW.trod_int Try.underlying3 h0
  obtain ⟨b, e1, _, _⟩ := DataW.trod_int Try.underlying2 h1
  simp at e0 e1
  subst e0 e1
  obtain ⟨P, hP⟩ := open_psl h2
  exact ⟨a, b, v2, P, rfl, hP⟩

set_option maxRecDepth 100000 in
theorem row_ints {H : Type} {enc : TypeId × Value → H} {W : World} {base : Nat} {sp : Nat → Bool} {held : Bool} {n : Nat} {cs : List Value} {z : DataW H × List MemPlace} (hl : cs.length = 6)
    (h : DataW.trod enc Try.prog W base sp held n 33 cs = some z) : ∃ q : Fx.V3, cs = q.cells := by
  obtain ⟨xs, m, hm, hx, hlen, hxl, hf⟩ := DataW.trod_array Try.underlying33 h
  match cs, hl with
  | [c0, c1, c2, c3, c4, c5], _ =>
    have h0 : DataW.trod enc Try.prog W base sp held m 32 (([c0, c1, c2, c3, c4, c5].drop (0 * Try.prog.cellsOf 32)).take (Try.prog.cellsOf 32)) = xs[0]? := hf 0 (by omega)
    have h1 : DataW.trod enc Try.prog W base sp held m 32 (([c0, c1, c2, c3, c4, c5].drop (1 * Try.prog.cellsOf 32)).take (Try.prog.cellsOf 32)) = xs[1]? := hf 1 (by omega)
    have h2 : DataW.trod enc Try.prog W base sp held m 32 (([c0, c1, c2, c3, c4, c5].drop (2 * Try.prog.cellsOf 32)).take (Try.prog.cellsOf 32)) = xs[2]? := hf 2 (by omega)
    rw [show Try.prog.cellsOf 32 = 2 by kernel_rfl] at h0 h1 h2
    rw [List.getElem?_eq_getElem (by omega)] at h0 h1 h2
    obtain ⟨a, b, rfl, rfl⟩ := iv_ints h0
    obtain ⟨c, d, rfl, rfl⟩ := iv_ints h1
    obtain ⟨e, f, rfl, rfl⟩ := iv_ints h2
    exact ⟨⟨a, b, c, d, e, f⟩, rfl⟩

theorem cut18 {α : Type} (cs : List α) (hl : cs.length = 18) : cs = (cs.drop 0).take 6 ++ ((cs.drop 6).take 6 ++ (cs.drop 12).take 6) := by
  rw [show (cs.drop 12).take 6 = (cs.drop 6).drop 6 by rw [List.drop_drop, List.take_of_length_le (by simp; omega)], List.take_append_drop, List.drop_zero, List.take_append_drop]

set_option maxRecDepth 100000 in
theorem imat_ints {H : Type} {enc : TypeId × Value → H} {W : World} {base : Nat} {sp : Nat → Bool} {held : Bool} {n : Nat} {cs : List Value} {z : DataW H × List MemPlace} (hl : cs.length = 18)
    (h : DataW.trod enc Try.prog W base sp held n 50 cs = some z) : ∃ q : Fx.M3, cs = q.arr.toList := by
  obtain ⟨xs, m, hm, hx, hlen, hxl, hf⟩ := DataW.trod_array Try.underlying50 h
  have h0 : DataW.trod enc Try.prog W base sp held m 33 ((cs.drop (0 * Try.prog.cellsOf 33)).take (Try.prog.cellsOf 33)) = xs[0]? := hf 0 (by omega)
  have h1 : DataW.trod enc Try.prog W base sp held m 33 ((cs.drop (1 * Try.prog.cellsOf 33)).take (Try.prog.cellsOf 33)) = xs[1]? := hf 1 (by omega)
  have h2 : DataW.trod enc Try.prog W base sp held m 33 ((cs.drop (2 * Try.prog.cellsOf 33)).take (Try.prog.cellsOf 33)) = xs[2]? := hf 2 (by omega)
  rw [show Try.prog.cellsOf 33 = 6 by kernel_rfl] at h0 h1 h2
  rw [List.getElem?_eq_getElem (by omega)] at h0 h1 h2
  obtain ⟨x, e0⟩ := row_ints (by simp; omega) h0
  obtain ⟨y, e1⟩ := row_ints (by simp; omega) h1
  obtain ⟨z, e2⟩ := row_ints (by simp; omega) h2
  refine ⟨⟨x, y, z⟩, ?_⟩
  rw [cut18 cs hl]
  simp only [Nat.zero_mul, Nat.one_mul] at e0 e1
  rw [e0, e1, show (12 : Nat) = 2 * 6 by rfl, e2]
  rfl

theorem cut24 {α : Type} (cs : List α) (hl : cs.length = 24) : cs = (cs.drop 0).take 18 ++ (cs.drop 18).take 6 := by
  rw [List.take_of_length_le (l := cs.drop 18) (by simp; omega), List.drop_zero, List.take_append_drop]
theorem Fx.Ps.arr_list (R : Fx.M3) (T : Fx.V3) : (⟨R, T⟩ : Fx.Ps).arr.toList = R.arr.toList ++ T.cells := by unfold Fx.Ps.arr; rw [Array.toList_append]; rfl

set_option maxRecDepth 100000 in
theorem pose_ints {H : Type} {enc : TypeId × Value → H} {W : World} {base : Nat} {sp : Nat → Bool} {held : Bool} {n : Nat} {cs : List Value} {z : DataW H × List MemPlace} (hl : cs.length = 24)
    (h : DataW.trod enc Try.prog W base sp held n 52 cs = some z) : ∃ q : Fx.Ps, cs = q.arr.toList := by
  obtain ⟨ys, n', hn', hy, hlen, hyl, hf⟩ := DataW.trod_struct Try.underlying52 h
  have h0 : DataW.trod enc Try.prog W base sp held n' 50 ((cs.drop 0).take (Try.prog.cellsOf 50)) = ys[0]? := hf 0 _ rfl
  have h1 : DataW.trod enc Try.prog W base sp held n' 34 ((cs.drop 18).take (Try.prog.cellsOf 34)) = ys[1]? := hf 1 _ rfl
  clear hf h
  rw [show Try.prog.cellsOf 50 = 18 by kernel_rfl] at h0
  rw [show Try.prog.cellsOf 34 = 6 by kernel_rfl] at h1
  simp at hyl
  rw [List.getElem?_eq_getElem (by omega)] at h0 h1
  obtain ⟨R, e0⟩ := imat_ints (by simp; omega) h0
  obtain ⟨T, e1⟩ := ivec_ints (by simp; omega) h1
  refine ⟨⟨R, T⟩, ?_⟩
  rw [Fx.Ps.arr_list, ← e0, ← e1]
  exact cut24 cs hl

theorem agg_of {P : Program} {w : World} {r : Reach} {b0 n : Nat} {t : TypeId} {v : Value} {fs : Array Field} (ht : P.underlying t = some (.struct fs)) (hC : P.cellsOf t = n) (h : Value.okWide P w r b0 t v) : ∃ cs : Array Value, v = .agg cs ∧ cs.toList.length = n := by
  obtain ⟨cs, h1, h2⟩ := okWide_struct ht h
  exact ⟨cs, h1, h2.trans hC⟩
set_option maxRecDepth 100000 in
theorem open_pose {H : Type} {enc : TypeId × Value → H} {W : World} {r : Reach} {b0 base : Nat} {sp : Nat → Bool} {held : Bool} {v : Value} {d : DataW H} {p : List MemPlace}
    (hv : Value.okWide Try.prog W r b0 52 v) (h : DataW.Trod enc Try.prog W base sp held 52 v d p) : ∃ q : Fx.Ps, v = .agg q.arr := by
  obtain ⟨cs, hv', hsz⟩ := agg_of Try.underlying52 (show Try.prog.cellsOf 52 = 24 by kernel_rfl) hv
  clear hv
  subst hv'
  obtain ⟨fuel, hf⟩ := h
  obtain ⟨q, hq⟩ := pose_ints (cs := cs.toList) hsz hf
  exact ⟨q, congrArg Value.agg (Array.toList_inj.1 hq)⟩
end Go.Proofs.Ytgnjconhbloocaa

namespace Go.Proofs.Ytgnjconhbloocaa
open Go
set_option linter.unusedVariables false
section
variable {P : Program} {ops : Array Oper} {Q : Exit → Act → World → Prop} {md : Region.Mode} {S : World → Prop} {k : Nat}

theorem wpAnyU_firstB {i : Nat} {bs : List Nat} {oi : Oper} {v : Value} (hi : ops[i]? = some oi) (hsel : ∀ (j : Nat) (o : Oper) cs b, ops[j]? = some o → o.op ≠ .select cs b)
    (hQ : ∀ c a w, Q (.panic c) (a.put oi.dst v) w → Q (.panic c) a w) (hik : i ≠ k) (hkb : k ∈ bs) (hw : ∀ b ∈ bs, ∃ ob, ops[b]? = some ob ∧ ∃ e ∈ ob.after, Region.binds md e = true ∧ (e.on = i ∨ e.on ∈ bs)) :
    ∀ (fuel : Nat) (listed : Array Bool) (a : Act) (w : World),
      (∀ j oj, ops[j]? = some oj → j ≠ i → listed.getD j true = false → (∀ e ∈ oj.after, Region.binds md e = true → e.on ≠ i) → oi.apart ops oj = true) →
      i ∈ Region.ready md ops listed → (∀ b ∈ bs, listed.getD b true = false) → YieldsIf P ops S oi v a → S w →
      wpAnyU P md ops Q S k fuel (listed.setIfInBounds i true) (a.put oi.dst v) w → wpAnyU P md ops Q S k (fuel + 1) listed a w := by
  intro fuel
  induction fuel with
  | zero =>
    intro listed a w _ hr hm hy hS H
    refine ⟨fun h => (by rw [h] at hr; cases hr), fun j hj => ?_⟩
    by_cases hji : j = i
    · subst hji; exact hy.wpOp hi hS ⟨fun _ _ => hS, H⟩
    · have := ready_mono hj hji
      rw [H.1] at this
      cases this
  | succ fuel ih =>
    intro listed a w hfree hr hm hy hS H
    have hk := hm k hkb
    refine ⟨fun h => (by rw [h] at hr; cases hr), fun j hj => ?_⟩
    by_cases hji : j = i
    · subst hji; exact hy.wpOp hi hS ⟨fun _ _ => hS, H⟩
    · have h1 := H.2 j (ready_mono hj hji)
      obtain ⟨hjun, oj, hoj, hall⟩ := mem_ready.1 hj
      have hnot : ∀ e ∈ oj.after, Region.binds md e = true → e.on ≠ i := fun e he hb heq => by
        have h1 := hall e he hb
        have h0 := (mem_ready.1 hr).1
        rw [heq] at h1
        rcases Nat.lt_or_ge i listed.size with h' | h'
        · simp [h'] at h0 h1; rw [h0] at h1; cases h1
        · simp [Array.getElem?_eq_none h'] at h1
      have hjb : j ∉ bs := fun hjm => by
        obtain ⟨ok, hok, e', he', hb', hon'⟩ := hw j hjm
        rw [hoj] at hok
        injection hok with hok
        subst hok
        rcases hon' with hon' | hon'
        · exact hnot e' he' hb' hon'
        · have h1 := hall e' he' hb'
          have h0 := hm _ hon'
          rcases Nat.lt_or_ge e'.on listed.size with h' | h'
          · simp [h'] at h0 h1; rw [h0] at h1; cases h1
          · simp [Array.getElem?_eq_none h'] at h1
      have hjk : j ≠ k := fun e => hjb (e ▸ hkb)
      have h2 := wpOp_putIf hoj (hfree j oj hoj hji hjun hnot) (fun cs b => hsel i oi cs b hi) (fun cs b => hsel j oj cs b hoj) hQ hy h1
      have hfree' : ∀ m om, ops[m]? = some om → m ≠ i → (listed.setIfInBounds j true).getD m true = false →
          (∀ e ∈ om.after, Region.binds md e = true → e.on ≠ i) → oi.apart ops om = true := fun m om hm hmi hun hno => by
        refine hfree m om hm hmi ?_ hno
        by_cases hjm : j = m
        · subst hjm; exact hjun
        · rw [getD_set_ne true hjm] at hun; exact hun
      have hkj : (listed.setIfInBounds j true).getD k true = false := by rw [getD_set_ne true hjk]; exact hk
      have hki : (listed.setIfInBounds i true).getD k true = false := by rw [getD_set_ne true hik]; exact hk
      refine wpOp_mono (fun a' w' h3 => ⟨fun _ _ => h3.2.1 hjk hki, ih (listed.setIfInBounds j true) a' w' hfree' (ready_mono hr (Ne.symm hji)) (fun b hb => by have hne : j ≠ b := (fun e => by subst e; exact hjb hb); rw [getD_set_ne true hne]; exact hm b hb) h3.1 (h3.2.1 hjk hki) ?_⟩) h2
      rw [Array.setIfInBounds_comm _ _ hji]
      exact h3.2.2

/-- Each of the operations bs waits for i or for another one of them. -/
def allWait (md : Region.Mode) (ops : Array Oper) (bs : List Nat) (i : Nat) : Bool := bs.all fun b => match ops[b]? with | some o => o.after.any (fun e => Region.binds md e && (e.on == i || bs.contains e.on)) | none => false
theorem allWait_spec {i : Nat} {bs : List Nat} (h : allWait md ops bs i = true) : ∀ b ∈ bs, ∃ ob, ops[b]? = some ob ∧ ∃ e ∈ ob.after, Region.binds md e = true ∧ (e.on = i ∨ e.on ∈ bs) := fun b hb => by
  have h0 := List.all_eq_true.1 h b hb
  split at h0
  · rename_i o ho
    rw [Array.any_eq_true] at h0
    obtain ⟨m, hm, h3⟩ := h0
    simp only [Bool.and_eq_true, Bool.or_eq_true, beq_iff_eq, List.contains_iff_mem] at h3
    exact ⟨o, ho, o.after[m], Array.getElem_mem hm, h3.1, h3.2⟩
  · cases h0
theorem wpAnyU_takeB {i : Nat} (bs : List Nat) {oi : Oper} {v : Value} {fuel : Nat} {listed : Array Bool} {a : Act} {w : World} (hi : ops[i]? = some oi)
    (hs : Region.noSelect ops = true) (hf : Region.free md ops listed i = true) (hr : (Region.ready md ops listed).contains i = true) (hik : i ≠ k) (hkb : bs.contains k = true) (hwm : allWait md ops bs i = true) (hm : bs.all (fun b => listed.getD b true == false) = true)
    (hQ : ∀ c a w, Q (.panic c) (a.put oi.dst v) w → Q (.panic c) a w) (hy : YieldsIf P ops S oi v a) (hS : S w)
    (h : wpAnyU P md ops Q S k fuel (listed.setIfInBounds i true) (a.put oi.dst v) w) : wpAnyU P md ops Q S k (fuel + 1) listed a w :=
  wpAnyU_firstB hi (Region.noSelect_spec hs) hQ hik (List.contains_iff_mem.1 hkb) (allWait_spec hwm) fuel listed a w (Region.free_spec hi hf) (by simpa using hr) (fun b hb => by have := List.all_eq_true.1 hm b hb; rwa [beq_iff_eq] at this) hy hS h
end
end Go.Proofs.Ytgnjconhbloocaa
