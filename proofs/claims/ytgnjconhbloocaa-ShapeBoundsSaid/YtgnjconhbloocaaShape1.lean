/- Slices of vectors of intervals; whether a list of points is placed. -/
import Derived.Test.YtgnjconhbloocaaShMath
import Derived.Test.YtgnjconhbloocaaMem
import Derived.Test.YtgnjconhbloocaaIv
import Derived.Outline
namespace Go.Proofs.Ytgnjconhbloocaa
open Go.RowKit
set_option linter.unusedVariables false

/-- The cells of block b from o on hold the vectors of L. -/
def VAt (w : World) (b o : Nat) (L : List Fx.V3) : Prop :=
  b < w.heap.size ∧ ∀ i : Nat, i < L.length → ∀ j : Nat, j < 6 → w.cell? ⟨b, o + i * 6 + j, none⟩ = (L.getD i Fx.V3.zero).cells[j]?

/-- The slice value v reads as the list L of vectors. -/
def VSl (w : World) (v : Value) (L : List Fx.V3) : Prop :=
  ∃ (a : Option Addr) (c : Nat), v = .slice a L.length c ∧ L.length ≤ 9223372036854775807 ∧ (0 < L.length → ∃ b o, a = some ⟨b, o, none⟩ ∧ VAt w b o L)

theorem VAt.ext {w w' : World} {b o : Nat} {L : List Fx.V3} (h : VAt w b o L) (hb : Below w.heap.size w w') : VAt w' b o L :=
  ⟨Nat.lt_of_lt_of_le h.1 hb.size, fun i hi j hj => (hb.cell (p := ⟨b, _, none⟩) h.1).trans (h.2 i hi j hj)⟩
theorem VSl.ext {w w' : World} {v : Value} {L : List Fx.V3} (h : VSl w v L) (hb : Below w.heap.size w w') : VSl w' v L := by
  obtain ⟨a, c, hv, hl, h⟩ := h
  exact ⟨a, c, hv, hl, fun h0 => by obtain ⟨b, o, ha, hI⟩ := h h0; exact ⟨b, o, ha, hI.ext hb⟩⟩

theorem VAt.at_ {w : World} {b o : Nat} {L : List Fx.V3} (h : VAt w b o L) (i : Nat) (hi : i < L.length) :
    w.cell? ⟨b, o + i * 6, none⟩ = some (.int .i64 (L.getD i Fx.V3.zero).a) ∧ w.cell? ⟨b, o + i * 6 + 1, none⟩ = some (.int .i64 (L.getD i Fx.V3.zero).b) ∧ w.cell? ⟨b, o + i * 6 + 2, none⟩ = some (.int .i64 (L.getD i Fx.V3.zero).c) ∧
    w.cell? ⟨b, o + i * 6 + 3, none⟩ = some (.int .i64 (L.getD i Fx.V3.zero).d) ∧ w.cell? ⟨b, o + i * 6 + 4, none⟩ = some (.int .i64 (L.getD i Fx.V3.zero).e) ∧ w.cell? ⟨b, o + i * 6 + 5, none⟩ = some (.int .i64 (L.getD i Fx.V3.zero).f) :=
  ⟨h.2 i hi 0 (by omega), h.2 i hi 1 (by omega), h.2 i hi 2 (by omega), h.2 i hi 3 (by omega), h.2 i hi 4 (by omega), h.2 i hi 5 (by omega)⟩

theorem VAt.part {w : World} {b o : Nat} {L : List Fx.V3} (h : VAt w b o L) (i : Nat) (hi : i < L.length) : ∀ j : Nat, j < 3 →
    w.cell? ⟨b, o + i * 6 + j * 2, none⟩ = some (.int .i64 ((L.getD i Fx.V3.zero).lo j)) ∧ w.cell? ⟨b, o + i * 6 + j * 2 + 1, none⟩ = some (.int .i64 ((L.getD i Fx.V3.zero).hi j))
  | 0, _ => ⟨h.2 i hi 0 (by omega), h.2 i hi 1 (by omega)⟩
  | 1, _ => ⟨h.2 i hi 2 (by omega), h.2 i hi 3 (by omega)⟩
  | 2, _ => ⟨h.2 i hi 4 (by omega), h.2 i hi 5 (by omega)⟩

theorem idx3 (v : Fx.V3) : ∀ (j : Nat) (_ : j < 3) (w : World), (Instr.index 34 (.agg #[.int .i64 v.a, .int .i64 v.b, .int .i64 v.c, .int .i64 v.d, .int .i64 v.e, .int .i64 v.f]) (.int .i64 (j : Int))).run Try.prog w = .ok (.agg #[.int .i64 (v.lo j), .int .i64 (v.hi j)]) w
  | 0, _, w => by kernel_rfl
  | 1, _, w => by kernel_rfl
  | 2, _, w => by kernel_rfl
  | n + 3, h, _ => absurd h (by omega)

set_option maxHeartbeats 1000000 in
theorem placed_any (v : Value) (L : List Fx.V3) (w : World) (hI : VSl w v L) :
    Calls Try.prog 32 #[v] w fun e w' => e = .returned (.bool (Fx.placedB L)) ∧ Below w.heap.size w w' := by
  obtain ⟨a, c, rfl, hl, hI⟩ := hI
  by_cases h1 : (L.length : Int) < 1
  · have HB : Fx.placedB L = false := Fx.placedB_short L (by omega)
    rw [HB]; clear HB hI
    go_enter Try.func32, Try.ntmps32
    go_wp2
    go_ret
    exact ⟨rfl, (by repeat (first | assumption | exact ext_refl _ | refine ext_alloc ?_ _ | refine ext_drewN ?_ _ | refine ext_drew ?_ | refine ext_set ?_ (by first | (simp; done) | (simp; omega) | omega) _ | refine ext_trans ?_ ‹Below _ _ _›))⟩
  · by_cases h2 : (8 : Int) < L.length
    · have HB : Fx.placedB L = false := Fx.placedB_long L (by omega)
      rw [HB]; clear HB hI
      have hd : decide ((8 : Int) < (L.length : Int)) = true := by simp; omega
      go_enter Try.func32, Try.ntmps32
      go_wp2
      go_ret
      exact ⟨rfl, (by repeat (first | assumption | exact ext_refl _ | refine ext_alloc ?_ _ | refine ext_drewN ?_ _ | refine ext_drew ?_ | refine ext_set ?_ (by first | (simp; done) | (simp; omega) | omega) _ | refine ext_trans ?_ ‹Below _ _ _›))⟩
    · obtain ⟨b, o, rfl, hJ⟩ := hI (by omega)
      clear hI
      have hd : decide ((8 : Int) < (L.length : Int)) = false := by simp; omega
      have HB : Fx.placedB L = Fx.allR L := Fx.placedB_eq L (by omega) (by omega)
      rw [HB]; clear HB
      go_enter Try.func32, Try.ntmps32
      go_wp2
      go_loopw [17] (fun iv wr => ∃ k : Nat, k ≤ L.length ∧ iv = .int .i64 k ∧ Hid (Fx.allR (L.take k) = true) ∧ Below w.heap.size w wr) (fun iv _ => L.length - (intOf iv).toNat)
      case atStart => exact ⟨0, Nat.zero_le _, rfl, Lib.hid (by simp [Fx.allR]), Below.refl _ _⟩
      case round =>
        obtain ⟨k, hk, rfl, hA, hb⟩ := hrel
        by_cases hlt : k < L.length
        · obtain ⟨c0, c1, c2, c3, c4, c5⟩ := (hJ.ext hb).at_ k hlt
          have HN := Lib.hid (Fx.allR_next L k hlt hA.out)
          have HS := Lib.hid (Fx.allR_stop L k hlt)
          generalize L.getD k Fx.V3.zero = x at *
          go_wp2_with fail
          obtain ⟨wo, rfl⟩ : ∃ wo : World, wo = wr := ⟨_, rfl⟩
          have hbo : Below w.heap.size w (wo.alloc (.cells #[.int .i64 x.a, .int .i64 x.b, .int .i64 x.c, .int .i64 x.d, .int .i64 x.e, .int .i64 x.f] 34)) := ext_alloc hb _
          clear c0 c1 c2 c3 c4 c5 hb
          go_loopw [22] (fun jv wr => ∃ j : Nat, j ≤ 3 ∧ jv = .int .i64 j ∧ Hid (∀ i : Nat, i < j → Fx.near (x.lo i) (x.hi i) = true) ∧ Below w.heap.size w wr) (fun jv _ => 3 - (intOf jv).toNat)
          case atStart => exact ⟨0, by omega, rfl, Lib.hid (fun i hi => absurd hi (by omega)), hbo⟩
          case round =>
            obtain ⟨j, hj, rfl, hR, hbj⟩ := hrel
            clear hbo
            by_cases hj3 : j < 3
            · have hix := fun w => idx3 x j hj3 w
              by_cases hn : Fx.near (x.lo j) (x.hi j) = true
              · have hn' := Fx.near_true.1 hn
                have HR := Lib.hid (show ∀ i : Nat, i < j + 1 → Fx.near (x.lo i) (x.hi i) = true from fun i hi => by
                  by_cases e : i = j
                  · rw [e]; exact hn
                  · exact hR.out i (by omega))
                clear hn
                generalize x.lo j = lo at *
                generalize x.hi j = hi at *
                have d1 : decide (lo < -268435456) = false := by simp; omega
                have d2 : decide (hi < lo) = false := by simp; omega
                have d3 : decide (268435456 < hi) = false := by simp; omega
                go_wp2_with fail
                go_roundw
                case rel => exact ⟨j + 1, by omega, by go_num, HR, (by repeat (first | assumption | exact ext_refl _ | refine ext_alloc ?_ _ | refine ext_drewN ?_ _ | refine ext_drew ?_ | refine ext_set ?_ (by first | (simp; done) | (simp; omega) | omega) _ | refine ext_trans ?_ ‹Below _ _ _›))⟩
                case measure => simp [intOf]; omega
              · have hn : Fx.near (x.lo j) (x.hi j) = false := by simpa using hn
                have HF := Lib.hid (HS.out (Fx.reachB_not x j hj3 hn))
                have hn' := Fx.near_false.1 hn
                clear hn
                generalize x.lo j = lo at *
                generalize x.hi j = hi at *
                by_cases d1 : lo < -268435456
                · have d1' : decide (lo < -268435456) = true := by simp; omega
                  clear hn'
                  go_wp2_with fail
                  go_ret
                  exact ⟨ret_bool HF.out.symm, (by repeat (first | assumption | exact ext_refl _ | refine ext_alloc ?_ _ | refine ext_drewN ?_ _ | refine ext_drew ?_ | refine ext_set ?_ (by first | (simp; done) | (simp; omega) | omega) _ | refine ext_trans ?_ ‹Below _ _ _›))⟩
                · have d1' : decide (lo < -268435456) = false := by simp; omega
                  by_cases d2 : hi < lo
                  · have d2' : decide (hi < lo) = true := by simp; omega
                    clear hn'
                    go_wp2_with fail
                    go_ret
                    exact ⟨ret_bool HF.out.symm, (by repeat (first | assumption | exact ext_refl _ | refine ext_alloc ?_ _ | refine ext_drewN ?_ _ | refine ext_drew ?_ | refine ext_set ?_ (by first | (simp; done) | (simp; omega) | omega) _ | refine ext_trans ?_ ‹Below _ _ _›))⟩
                  · have d2' : decide (hi < lo) = false := by simp; omega
                    have d3' : decide (268435456 < hi) = true := by simp; omega
                    clear hn'
                    go_wp2_with fail
                    go_ret
                    exact ⟨ret_bool HF.out.symm, (by repeat (first | assumption | exact ext_refl _ | refine ext_alloc ?_ _ | refine ext_drewN ?_ _ | refine ext_drew ?_ | refine ext_set ?_ (by first | (simp; done) | (simp; omega) | omega) _ | refine ext_trans ?_ ‹Below _ _ _›))⟩
            · obtain rfl : j = 3 := by omega
              have HA := Lib.hid (HN.out (Fx.reachB_of x hR.out))
              go_wp2_with fail
              go_roundw
              case rel => exact ⟨k + 1, by omega, by go_num, HA, hbj⟩
              case measure => simp [intOf]; omega
        · have HA := Lib.hid (Fx.allR_end L k (by omega) hA.out)
          go_wp2_with fail
          go_ret
          exact ⟨ret_bool HA.out.symm, hb⟩

set_option maxHeartbeats 1000000 in
theorem reached_any (x : Fx.V3) (w : World) :
    Calls Try.prog 51 #[.agg #[.int .i64 x.a, .int .i64 x.b, .int .i64 x.c, .int .i64 x.d, .int .i64 x.e, .int .i64 x.f]] w fun e w' => e = .returned (.bool (Fx.reachB x)) ∧ Below w.heap.size w w' := by
  go_enter Try.func51, Try.ntmps51
  go_wp2_with fail
  have hW0 := Whole.new w 34 #[.int .i64 x.a, .int .i64 x.b, .int .i64 x.c, .int .i64 x.d, .int .i64 x.e, .int .i64 x.f]
  go_loopw [3] (fun jv wr => ∃ j : Nat, j ≤ 3 ∧ jv = .int .i64 j ∧ Hid (∀ i : Nat, i < j → Fx.near (x.lo i) (x.hi i) = true) ∧ Whole wr w.heap.size 34 #[.int .i64 x.a, .int .i64 x.b, .int .i64 x.c, .int .i64 x.d, .int .i64 x.e, .int .i64 x.f] ∧ Below w.heap.size w wr) (fun jv _ => 3 - (intOf jv).toNat)
  case atStart => exact ⟨0, by omega, rfl, Lib.hid (fun i hi => absurd hi (by omega)), hW0, ext_alloc (ext_refl _) _⟩
  case round =>
    obtain ⟨j, hj, rfl, hR, hW, hb⟩ := hrel
    clear hW0
    by_cases hj3 : j < 3
    · have c0 : wr.cell? ⟨w.heap.size, j * 2, none⟩ = some (.int .i64 (x.lo j)) := by
        rw [hW.cell]
        match j, hj3 with
        | 0, _ => rfl
        | 1, _ => rfl
        | 2, _ => rfl
      have c1 : wr.cell? ⟨w.heap.size, j * 2 + 1, none⟩ = some (.int .i64 (x.hi j)) := by
        rw [hW.cell]
        match j, hj3 with
        | 0, _ => rfl
        | 1, _ => rfl
        | 2, _ => rfl
      have HW := Lib.hid hW; clear hW
      have k0 : (0 : Int) ≤ (j : Int) := by omega
      have k1 : (j : Int) < 3 := by omega
      by_cases hn : Fx.near (x.lo j) (x.hi j) = true
      · have hn' := Fx.near_true.1 hn
        have HR := Lib.hid (show ∀ i : Nat, i < j + 1 → Fx.near (x.lo i) (x.hi i) = true from fun i hi => by
          by_cases e : i = j
          · rw [e]; exact hn
          · exact hR.out i (by omega))
        clear hn
        generalize x.lo j = lo at *
        generalize x.hi j = hi at *
        have d1 : decide (lo < -268435456) = false := by simp; omega
        have d2 : decide (hi < lo) = false := by simp; omega
        have d3 : decide (268435456 < hi) = false := by simp; omega
        go_wp2_with fail
        go_quiet (fail)
        go_wp2_with fail
        go_roundw
        case rel => exact ⟨j + 1, by omega, by go_num, HR, HW.out.drewN _, ext_drewN hb _⟩
        case measure => simp [intOf]; omega
      · have hn : Fx.near (x.lo j) (x.hi j) = false := by simpa using hn
        have HF := Lib.hid (Fx.reachB_not x j hj3 hn)
        have hn' := Fx.near_false.1 hn
        clear hn
        generalize x.lo j = lo at *
        generalize x.hi j = hi at *
        by_cases d1 : lo < -268435456
        · have d1' : decide (lo < -268435456) = true := by simp; omega
          clear hn'
          go_wp2_with fail
          go_quiet (fail)
          go_wp2_with fail
          go_ret
          exact ⟨ret_bool HF.out.symm, ext_drewN hb _⟩
        · have d1' : decide (lo < -268435456) = false := by simp; omega
          by_cases d2 : hi < lo
          · have d2' : decide (hi < lo) = true := by simp; omega
            clear hn'
            go_wp2_with fail
            go_quiet (fail)
            go_wp2_with fail
            go_ret
            exact ⟨ret_bool HF.out.symm, ext_drewN hb _⟩
          · have d2' : decide (hi < lo) = false := by simp; omega
            have d3' : decide (268435456 < hi) = true := by simp; omega
            clear hn'
            go_wp2_with fail
            go_quiet (fail)
            go_wp2_with fail
            go_ret
            exact ⟨ret_bool HF.out.symm, ext_drewN hb _⟩
    · obtain rfl : j = 3 := by omega
      have HA := Lib.hid (Fx.reachB_of x hR.out)
      clear hW
      go_wp2_with fail
      go_ret
      exact ⟨ret_bool HA.out.symm, hb⟩
end Go.Proofs.Ytgnjconhbloocaa
