/- Slices of intervals: what such a slice reads as; the loops that ask whether a list of intervals is a box. -/
import Derived.Test.YtlpkjafhpbiffaaDoorIv
import Derived.Test.YtlpkjafhpbiffaaDoorMem
import Derived.Test.YtlpkjafhpbiffaaDoorRowMath
import Derived.LoopTactic
import Derived.Outline
namespace Go.Proofs.YtlpkjafhpbiffaaDoor
open Go.RowKit
set_option linter.unusedVariables false

/-- The cells of block b from o on hold the intervals of L. -/
def IvAt (w : World) (b o : Nat) (L : List (Int × Int)) : Prop :=
  b < w.heap.size ∧ ∀ i : Nat, i < L.length → w.cell? ⟨b, o + i * 2, none⟩ = some (.int .i64 (L.getD i (0, 0)).1) ∧ w.cell? ⟨b, o + i * 2 + 1, none⟩ = some (.int .i64 (L.getD i (0, 0)).2)

/-- The slice value v reads as the list L of intervals. -/
def IvSl (w : World) (v : Value) (L : List (Int × Int)) : Prop :=
  ∃ (a : Option Addr) (c : Nat), v = .slice a L.length c ∧ L.length ≤ 9223372036854775807 ∧ (0 < L.length → ∃ b o, a = some ⟨b, o, none⟩ ∧ IvAt w b o L)

theorem IvAt.ext {w w' : World} {b o : Nat} {L : List (Int × Int)} (h : IvAt w b o L) (hb : Below w.heap.size w w') : IvAt w' b o L :=
  ⟨Nat.lt_of_lt_of_le h.1 hb.size, fun i hi => ⟨(hb.cell (p := ⟨b, _, none⟩) h.1).trans (h.2 i hi).1, (hb.cell (p := ⟨b, _, none⟩) h.1).trans (h.2 i hi).2⟩⟩

theorem IvSl.ext {w w' : World} {v : Value} {L : List (Int × Int)} (h : IvSl w v L) (hb : Below w.heap.size w w') : IvSl w' v L := by
  obtain ⟨a, c, hv, hl, h⟩ := h
  exact ⟨a, c, hv, hl, fun h0 => by obtain ⟨b, o, ha, hI⟩ := h h0; exact ⟨b, o, ha, hI.ext hb⟩⟩

set_option maxHeartbeats 1000000 in
theorem isBox_any (v : Value) (L : List (Int × Int)) (w : World) (hI : IvSl w v L) :
    Calls Tryd.prog 37 #[v] w fun e w' => e = .returned (.bool (Fx.boxB L)) ∧ Below w.heap.size w w' := by
  obtain ⟨a, c, rfl, hl, hI⟩ := hI
  by_cases h1 : (L.length : Int) < 1
  · have HB : Fx.boxB L = false := Fx.boxB_short L (by omega)
    rw [HB]; clear HB hI
    go_enter Tryd.func37, Tryd.ntmps37
    go_wp2
    go_ret
    exact ⟨rfl, (by repeat (first | assumption | exact ext_refl _ | refine ext_alloc ?_ _ | refine ext_drewN ?_ _ | refine ext_drew ?_ | refine ext_set ?_ (by first | (simp; done) | (simp; omega) | omega) _ | refine ext_trans ?_ ‹Below _ _ _›))⟩
  · by_cases h2 : (10 : Int) < L.length
    · have HB : Fx.boxB L = false := Fx.boxB_long L (by omega)
      rw [HB]; clear HB hI
      have hd : decide ((10 : Int) < (L.length : Int)) = true := by simp; omega
      go_enter Tryd.func37, Tryd.ntmps37
      go_wp2
      go_ret
      exact ⟨rfl, (by repeat (first | assumption | exact ext_refl _ | refine ext_alloc ?_ _ | refine ext_drewN ?_ _ | refine ext_drew ?_ | refine ext_set ?_ (by first | (simp; done) | (simp; omega) | omega) _ | refine ext_trans ?_ ‹Below _ _ _›))⟩
    · obtain ⟨b, o, rfl, hJ⟩ := hI (by omega)
      clear hI
      have hd : decide ((10 : Int) < (L.length : Int)) = false := by simp; omega
      have HB : Fx.boxB L = Fx.allB L := Fx.boxB_eq L (by omega) (by omega)
      rw [HB]; clear HB
      go_enter Tryd.func37, Tryd.ntmps37
      go_wp2
      go_loopw [15] (fun iv wr => ∃ k : Nat, k ≤ L.length ∧ iv = .int .i64 k ∧ Hid (Fx.allB (L.take k) = true) ∧ Below w.heap.size w wr) (fun iv _ => L.length - (intOf iv).toNat)
      case atStart => exact ⟨0, Nat.zero_le _, rfl, Lib.hid (by simp [Fx.allB]), Below.refl _ _⟩
      case round =>
        obtain ⟨k, hk, rfl, hA, hb⟩ := hrel
        by_cases hlt : k < L.length
        · obtain ⟨c0, c1⟩ := (hJ.ext hb).2 k hlt
          by_cases hv : Fx.vb (L.getD k (0, 0)).1 (L.getD k (0, 0)).2 = true
          · have HN := Lib.hid (Fx.allB_next L k hlt hA.out hv)
            have hV := Lib.hid hv; clear hv
            generalize (L.getD k (0, 0)).1 = lo at *
            generalize (L.getD k (0, 0)).2 = hi at *
            go_wp2_with (go_at_call 52; refine (valid_yes lo hi _ hV.out).mono ?_; rintro e w' ⟨rfl, hb'⟩)
            go_roundw
            case rel => exact ⟨k + 1, by omega, by go_num, HN, (by repeat (first | assumption | exact ext_refl _ | refine ext_alloc ?_ _ | refine ext_drewN ?_ _ | refine ext_drew ?_ | refine ext_set ?_ (by first | (simp; done) | (simp; omega) | omega) _ | refine ext_trans ?_ ‹Below _ _ _›))⟩
            case measure => simp [intOf]; omega
          · have hv : Fx.vb (L.getD k (0, 0)).1 (L.getD k (0, 0)).2 = false := by simpa using hv
            have HN := Lib.hid (Fx.allB_stop L k hlt hv)
            have hV := Lib.hid hv; clear hv
            generalize (L.getD k (0, 0)).1 = lo at *
            generalize (L.getD k (0, 0)).2 = hi at *
            go_wp2_with (go_at_call 52; refine (valid_no lo hi _ hV.out).mono ?_; rintro e w' ⟨rfl, hb'⟩)
            go_ret
            exact ⟨ret_bool HN.out.symm, (by repeat (first | assumption | exact ext_refl _ | refine ext_alloc ?_ _ | refine ext_drewN ?_ _ | refine ext_drew ?_ | refine ext_set ?_ (by first | (simp; done) | (simp; omega) | omega) _ | refine ext_trans ?_ ‹Below _ _ _›))⟩
        · have HN := Lib.hid (Fx.allB_end L k (by omega) hA.out)
          go_wp2_with fail
          go_ret
          exact ⟨ret_bool HN.out.symm, (by repeat (first | assumption | exact ext_refl _ | refine ext_alloc ?_ _ | refine ext_drewN ?_ _ | refine ext_drew ?_ | refine ext_set ?_ (by first | (simp; done) | (simp; omega) | omega) _ | refine ext_trans ?_ ‹Below _ _ _›))⟩

set_option maxHeartbeats 1000000 in
theorem sampled_any (v : Value) (L : List (Int × Int)) (w : World) (hI : IvSl w v L) :
    Calls Tryd.prog 55 #[v] w fun e w' => e = .returned (.bool (Fx.boxB L)) ∧ Below w.heap.size w w' := by
  obtain ⟨a, c, rfl, hl, hI⟩ := hI
  by_cases h1 : (L.length : Int) < 1
  · have HB : Fx.boxB L = false := Fx.boxB_short L (by omega)
    rw [HB]; clear HB hI
    go_enter Tryd.func55, Tryd.ntmps55
    go_wp2
    go_ret
    exact ⟨rfl, (by repeat (first | assumption | exact ext_refl _ | refine ext_alloc ?_ _ | refine ext_drewN ?_ _ | refine ext_drew ?_ | refine ext_set ?_ (by first | (simp; done) | (simp; omega) | omega) _ | refine ext_trans ?_ ‹Below _ _ _›))⟩
  · by_cases h2 : (10 : Int) < L.length
    · have HB : Fx.boxB L = false := Fx.boxB_long L (by omega)
      rw [HB]; clear HB hI
      have hd : decide ((10 : Int) < (L.length : Int)) = true := by simp; omega
      go_enter Tryd.func55, Tryd.ntmps55
      go_wp2
      go_ret
      exact ⟨rfl, (by repeat (first | assumption | exact ext_refl _ | refine ext_alloc ?_ _ | refine ext_drewN ?_ _ | refine ext_drew ?_ | refine ext_set ?_ (by first | (simp; done) | (simp; omega) | omega) _ | refine ext_trans ?_ ‹Below _ _ _›))⟩
    · obtain ⟨b, o, rfl, hJ⟩ := hI (by omega)
      clear hI
      have hd : decide ((10 : Int) < (L.length : Int)) = false := by simp; omega
      have HB : Fx.boxB L = Fx.allB L := Fx.boxB_eq L (by omega) (by omega)
      rw [HB]; clear HB
      go_enter Tryd.func55, Tryd.ntmps55
      go_wp2
      go_loopw [3] (fun iv wr => ∃ k : Nat, k ≤ L.length ∧ iv = .int .i64 k ∧ Hid (Fx.allB (L.take k) = true) ∧ Below w.heap.size w wr) (fun iv _ => L.length - (intOf iv).toNat)
      case atStart => exact ⟨0, Nat.zero_le _, rfl, Lib.hid (by simp [Fx.allB]), Below.refl _ _⟩
      case round =>
        obtain ⟨k, hk, rfl, hA, hb⟩ := hrel
        by_cases hlt : k < L.length
        · obtain ⟨c0, c1⟩ := (hJ.ext hb).2 k hlt
          by_cases hv : Fx.vb (L.getD k (0, 0)).1 (L.getD k (0, 0)).2 = true
          · have HN := Lib.hid (Fx.allB_next L k hlt hA.out hv)
            have hV := Lib.hid hv; clear hv
            generalize (L.getD k (0, 0)).1 = lo at *
            generalize (L.getD k (0, 0)).2 = hi at *
            go_wp2_with (go_at_call 53; refine (rvalid_yes lo hi _ hV.out).mono ?_; rintro e w' ⟨rfl, hb'⟩)
            go_roundw
            case rel => exact ⟨k + 1, by omega, by go_num, HN, (by repeat (first | assumption | exact ext_refl _ | refine ext_alloc ?_ _ | refine ext_drewN ?_ _ | refine ext_drew ?_ | refine ext_set ?_ (by first | (simp; done) | (simp; omega) | omega) _ | refine ext_trans ?_ ‹Below _ _ _›))⟩
            case measure => simp [intOf]; omega
          · have hv : Fx.vb (L.getD k (0, 0)).1 (L.getD k (0, 0)).2 = false := by simpa using hv
            have HN := Lib.hid (Fx.allB_stop L k hlt hv)
            have hV := Lib.hid hv; clear hv
            generalize (L.getD k (0, 0)).1 = lo at *
            generalize (L.getD k (0, 0)).2 = hi at *
            go_wp2_with (go_at_call 53; refine (rvalid_no lo hi _ hV.out).mono ?_; rintro e w' ⟨rfl, hb'⟩)
            go_ret
            exact ⟨ret_bool HN.out.symm, (by repeat (first | assumption | exact ext_refl _ | refine ext_alloc ?_ _ | refine ext_drewN ?_ _ | refine ext_drew ?_ | refine ext_set ?_ (by first | (simp; done) | (simp; omega) | omega) _ | refine ext_trans ?_ ‹Below _ _ _›))⟩
        · have HN := Lib.hid (Fx.allB_end L k (by omega) hA.out)
          go_wp2_with fail
          go_ret
          exact ⟨ret_bool HN.out.symm, (by repeat (first | assumption | exact ext_refl _ | refine ext_alloc ?_ _ | refine ext_drewN ?_ _ | refine ext_drew ?_ | refine ext_set ?_ (by first | (simp; done) | (simp; omega) | omega) _ | refine ext_trans ?_ ‹Below _ _ _›))⟩

theorem allValid_any (v : Value) (L : List (Int × Int)) (w : World) (hI : IvSl w v L) :
    Calls Tryd.prog 47 #[v] w fun e w' => e = .returned (.bool (Fx.allB L)) ∧ Below w.heap.size w w' := by
  obtain ⟨a, c, rfl, hl, hI⟩ := hI
  go_enter Tryd.func47, Tryd.ntmps47
  go_wp2
  go_loopw [3] (fun iv wr => ∃ k : Nat, k ≤ L.length ∧ iv = .int .i64 k ∧ Hid (Fx.allB (L.take k) = true) ∧ Below w.heap.size w wr) (fun iv _ => L.length - (intOf iv).toNat)
  case atStart => exact ⟨0, Nat.zero_le _, rfl, Lib.hid (by simp [Fx.allB]), Below.refl _ _⟩
  case round =>
    obtain ⟨k, hk, rfl, hA, hb⟩ := hrel
    by_cases hlt : k < L.length
    · obtain ⟨b, o, rfl, hJ⟩ := hI (by omega)
      obtain ⟨c0, c1⟩ := (hJ.ext hb).2 k hlt
      clear hI hJ
      by_cases hv : Fx.vb (L.getD k (0, 0)).1 (L.getD k (0, 0)).2 = true
      · have HN := Lib.hid (Fx.allB_next L k hlt hA.out hv)
        have hV := Lib.hid hv; clear hv
        generalize (L.getD k (0, 0)).1 = lo at *
        generalize (L.getD k (0, 0)).2 = hi at *
        go_wp2_with (go_at_call 53; refine (rvalid_yes lo hi _ hV.out).mono ?_; rintro e w' ⟨rfl, hb'⟩)
        go_roundw
        case rel => exact ⟨k + 1, by omega, by go_num, HN, (by repeat (first | assumption | exact ext_refl _ | refine ext_alloc ?_ _ | refine ext_drewN ?_ _ | refine ext_drew ?_ | refine ext_set ?_ (by first | (simp; done) | (simp; omega) | omega) _ | refine ext_trans ?_ ‹Below _ _ _›))⟩
        case measure => simp [intOf]; omega
      · have hv : Fx.vb (L.getD k (0, 0)).1 (L.getD k (0, 0)).2 = false := by simpa using hv
        have HN := Lib.hid (Fx.allB_stop L k hlt hv)
        have hV := Lib.hid hv; clear hv
        generalize (L.getD k (0, 0)).1 = lo at *
        generalize (L.getD k (0, 0)).2 = hi at *
        go_wp2_with (go_at_call 53; refine (rvalid_no lo hi _ hV.out).mono ?_; rintro e w' ⟨rfl, hb'⟩)
        go_ret
        exact ⟨ret_bool HN.out.symm, (by repeat (first | assumption | exact ext_refl _ | refine ext_alloc ?_ _ | refine ext_drewN ?_ _ | refine ext_drew ?_ | refine ext_set ?_ (by first | (simp; done) | (simp; omega) | omega) _ | refine ext_trans ?_ ‹Below _ _ _›))⟩
    · have HN := Lib.hid (Fx.allB_end L k (by omega) hA.out)
      clear hI
      go_wp2_with fail
      go_ret
      exact ⟨ret_bool HN.out.symm, (by repeat (first | assumption | exact ext_refl _ | refine ext_alloc ?_ _ | refine ext_drewN ?_ _ | refine ext_drew ?_ | refine ext_set ?_ (by first | (simp; done) | (simp; omega) | omega) _ | refine ext_trans ?_ ‹Below _ _ _›))⟩
end Go.Proofs.YtlpkjafhpbiffaaDoor
