/- Comparing lists of points, and lists of vectors of intervals. -/
import Derived.Test.YtgnjconhbloocaaRCenters
namespace Go.Proofs.Ytgnjconhbloocaa
open Go.RowKit
set_option linter.unusedVariables false

theorem cells_i64 : Try.prog.cellsOf 2 = 1 := by kernel_rfl
theorem eq_i64 (d : Nat) (a : Int) (w : World) : (Op.equalIn (d + 2) 2 (.int .i64 a) (.int .i64 a)).run Try.prog w = .ok true w := by
  simp [go_sem]

@[go_sem] theorem eq_vec (a b c : Int) (w : World) : (Op.equalIn 10000 66 (.agg #[.int .i64 a, .int .i64 b, .int .i64 c]) (.agg #[.int .i64 a, .int .i64 b, .int .i64 c])).run Try.prog w = .ok true w := by
  obtain ⟨i0, hi, _⟩ := info_parts info_int64'
  have p0 : (part 2 #[.int .i64 a, .int .i64 b, .int .i64 c] (0 * 1)).run Try.prog w = .ok (.int .i64 a) w := by kernel_rfl
  have p1 : (part 2 #[.int .i64 a, .int .i64 b, .int .i64 c] (1 * 1)).run Try.prog w = .ok (.int .i64 b) w := by kernel_rfl
  have p2 : (part 2 #[.int .i64 a, .int .i64 b, .int .i64 c] (2 * 1)).run Try.prog w = .ok (.int .i64 c) w := by kernel_rfl
  rw [run_equalIn_array w 9999 _ _ Try.underlying66 hi, cells_i64, show List.range 3 = [0, 1, 2] from rfl]
  simp only [Op.eqItems, Sem.run_bind, p0, p1, p2, eq_i64 9997, Result.andThen_ok, Bool.not_true, Bool.false_eq_true, if_false, Sem.run_pure]

set_option maxRecDepth 100000 in
set_option maxHeartbeats 1000000 in
theorem samevec_any (v u : Value) (P : List (Int × Int × Int)) (w : World) (hv : PSl w v P) (hu : PSl w u P) :
    Calls Try.prog 37 #[v, u] w fun e w' => e = .returned (.bool true) ∧ Below w.heap.size w w' := by
  obtain ⟨a, c, rfl, hl, h⟩ := hv
  obtain ⟨a2, c2, rfl, _, h2⟩ := hu
  have H := Lib.hid h; have H2 := Lib.hid h2
  clear h h2
  go_enter Try.func37, Try.ntmps37
  go_wp2_with fail
  go_loopw [5] (fun jv wr => ∃ k : Nat, k ≤ P.length ∧ jv = .int .i64 k ∧ Below w.heap.size w wr) (fun jv _ => P.length - (intOf jv).toNat)
  case atStart => exact ⟨0, by omega, by go_num, ext_refl _⟩
  case round =>
    obtain ⟨k, hk, rfl, hb⟩ := hrel
    by_cases hlt : k < P.length
    · obtain ⟨b, o, rfl, hbw, hc⟩ := H.out (by omega)
      obtain ⟨b2, o2, rfl, hbw2, hc2⟩ := H2.out (by omega)
      obtain ⟨q0, q1, q2⟩ := hc k hlt
      obtain ⟨r0, r1, r2⟩ := hc2 k hlt
      have d0 := (hb.cell (p := ⟨b, o + k * 3, none⟩) hbw).trans q0
      have d1 := (hb.cell (p := ⟨b, o + k * 3 + 1, none⟩) hbw).trans q1
      have d2 := (hb.cell (p := ⟨b, o + k * 3 + 2, none⟩) hbw).trans q2
      have f0 := (hb.cell (p := ⟨b2, o2 + k * 3, none⟩) hbw2).trans r0
      have f1 := (hb.cell (p := ⟨b2, o2 + k * 3 + 1, none⟩) hbw2).trans r1
      have f2 := (hb.cell (p := ⟨b2, o2 + k * 3 + 2, none⟩) hbw2).trans r2
      have hd : decide ((k : Int) < (P.length : Int)) = true := by simp; omega
      have k0 : (0 : Int) ≤ (k : Int) := by omega
      have k1 : (k : Int) < (P.length : Int) := by omega
      clear hc hc2 q0 q1 q2 r0 r1 r2
      generalize (P.getD k (0, 0, 0)).1 = x at *
      generalize (P.getD k (0, 0, 0)).2.1 = y at *
      generalize (P.getD k (0, 0, 0)).2.2 = z at *
      go_wp2_with fail
      go_quiet (fail)
      go_wp2_with fail
      go_roundw
      case rel => exact ⟨k + 1, by omega, by go_num, ext_drewN hb _⟩
      case measure => simp [intOf]; omega
    · obtain rfl : k = P.length := by omega
      go_wp2_with fail
      go_ret
      exact ⟨rfl, hb⟩

set_option maxRecDepth 100000 in
set_option maxHeartbeats 1000000 in
theorem sameivec_any (v u : Value) (L : List Fx.V3) (w : World) (hv : VSl w v L) (hu : VSl w u L) :
    Calls Try.prog 45 #[v, u] w fun e w' => e = .returned (.bool true) ∧ Below w.heap.size w w' := by
  obtain ⟨a, c, rfl, hl, h⟩ := hv
  obtain ⟨a2, c2, rfl, _, h2⟩ := hu
  have H := Lib.hid h; have H2 := Lib.hid h2
  clear h h2
  go_enter Try.func45, Try.ntmps45
  go_wp2_with fail
  go_loopw [5] (fun jv wr => ∃ k : Nat, k ≤ L.length ∧ jv = .int .i64 k ∧ Below w.heap.size w wr) (fun jv _ => L.length - (intOf jv).toNat)
  case atStart => exact ⟨0, by omega, by go_num, ext_refl _⟩
  case round =>
    obtain ⟨k, hk, rfl, hb⟩ := hrel
    by_cases hlt : k < L.length
    · obtain ⟨b, o, rfl, hJ⟩ := H.out (by omega)
      obtain ⟨b2, o2, rfl, hJ2⟩ := H2.out (by omega)
      obtain ⟨c0, c1, c2, c3, c4, c5⟩ := (hJ.ext hb).at_ k hlt
      obtain ⟨f0, f1, f2, f3, f4, f5⟩ := (hJ2.ext hb).at_ k hlt
      have hd : decide ((k : Int) < (L.length : Int)) = true := by simp; omega
      have k0 : (0 : Int) ≤ (k : Int) := by omega
      have k1 : (k : Int) < (L.length : Int) := by omega
      clear hJ hJ2
      generalize L.getD k Fx.V3.zero = x at *
      go_wp2_with fail
      go_quiet (fail)
      go_wp2_with fail
      go_roundw
      case rel => exact ⟨k + 1, by omega, by go_num, ext_drewN hb _⟩
      case measure => simp [intOf]; omega
    · obtain rfl : k = L.length := by omega
      go_wp2_with fail
      go_ret
      exact ⟨rfl, hb⟩
end Go.Proofs.Ytgnjconhbloocaa
