/- The sum of weights. -/
import Derived.Test.YtgnjconhbloocaaWts
namespace Go.Proofs.Ytgnjconhbloocaa
open Go.RowKit
set_option linter.unusedVariables false

set_option maxRecDepth 100000 in
set_option maxHeartbeats 1000000 in
theorem total_any (v : Value) (ws : List Int) (w : World) (h : IntSl w v ws) (hn : ws.length ≤ 5) (hA : ∀ k : Nat, k < ws.length → 0 ≤ ws.getD k 0 ∧ ws.getD k 0 ≤ 65536) :
    Calls Try.prog 16 #[v] w fun e w' => e = .returned (.int .i64 (Fx.tot ws ws.length)) ∧ w = w' := by
  obtain ⟨a, c, rfl, hl, h⟩ := h
  have H := Lib.hid h
  have HA := Lib.hid hA
  clear h hA
  go_enter Try.func16, Try.ntmps16
  go_wp2_with fail
  go_loopw [3, 4] (fun sv jv wr => ∃ k : Nat, k ≤ ws.length ∧ jv = .int .i64 k ∧ sv = .int .i64 (Fx.tot ws k) ∧ wr = w) (fun _ jv _ => ws.length - (intOf jv).toNat)
  case atStart => exact ⟨0, by omega, by go_num, rfl, rfl⟩
  case round =>
    obtain ⟨k, hk, rfl, rfl, rfl⟩ := hrel
    by_cases hlt : k < ws.length
    · obtain ⟨b, o, rfl, hb, hc⟩ := H.out (by omega)
      have ck := hc k hlt
      have hx := HA.out k hlt
      have ht := Fx.tot_bd ws k (fun i hi => HA.out i (by omega))
      have et : Fx.tot ws (k + 1) = Fx.tot ws k + ws.getD k 0 := rfl
      have hd : decide ((k : Int) < (ws.length : Int)) = true := by simp; omega
      have HE := Lib.hid et
      have k0 : (0 : Int) ≤ (k : Int) := by omega
      have k1 : (k : Int) < (ws.length : Int) := by omega
      clear hc et
      generalize ws.getD k 0 = x at *
      generalize Fx.tot ws k = t at *
      have hw : IntKind.i64.wrap (t + x) = t + x := by rw [IntKind.wrap_i64]; omega
      go_wp2_with fail
      go_roundw
      case rel => exact ⟨k + 1, by omega, by go_num, by rw [HE.out], trivial⟩
      case measure => simp [intOf]; omega
    · obtain rfl : k = ws.length := by omega
      go_wp2_with fail
      go_ret
      exact ⟨rfl, rfl⟩
end Go.Proofs.Ytgnjconhbloocaa
