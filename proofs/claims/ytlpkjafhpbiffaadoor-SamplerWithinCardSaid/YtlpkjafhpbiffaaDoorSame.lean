/- Comparing lists of numbers; whether a list of numbers lies in a box. -/
import Derived.Test.YtlpkjafhpbiffaaDoorIvRow
import Derived.Test.YtlpkjafhpbiffaaDoorIntRow
import Derived.Test.YtlpkjafhpbiffaaDoorIv2
import Derived.Deep.RegionHeld3
namespace Go.Proofs.YtlpkjafhpbiffaaDoor
open Go.RowKit
set_option linter.unusedVariables false

set_option maxHeartbeats 1000000 in
theorem same_any (u v : Value) (xs : List Int) (w : World) (hu : IntSl w u xs) (hv : IntSl w v xs) :
    Calls Tryd.prog 44 #[u, v] w fun e w' => e = .returned (.bool true) ∧ Below w.heap.size w w' := by
  obtain ⟨a, c, rfl, hl, hu⟩ := hu
  obtain ⟨b, d, rfl, _, hv⟩ := hv
  go_enter Tryd.func44, Tryd.ntmps44
  go_wp2_with fail
  go_loopw [5] (fun iv wr => ∃ k : Nat, k ≤ xs.length ∧ iv = .int .i64 k ∧ Below w.heap.size w wr) (fun iv _ => xs.length - (intOf iv).toNat)
  case atStart => exact ⟨0, Nat.zero_le _, rfl, Below.refl _ _⟩
  case round =>
    obtain ⟨k, hk, rfl, hb⟩ := hrel
    by_cases hlt : k < xs.length
    · obtain ⟨b1, o1, rfl, h1⟩ := hu (by omega)
      obtain ⟨b2, o2, rfl, h2⟩ := hv (by omega)
      have c1 := (h1.ext hb).2 k hlt
      have c2 := (h2.ext hb).2 k hlt
      clear hu hv h1 h2
      generalize xs.getD k 0 = x at *
      have k0 : (0 : Int) ≤ (k : Int) := by omega
      have k1 : (k : Int) < (xs.length : Int) := by omega
      go_wp2_with fail
      go_quiet (fail)
      go_wp2_with fail
      go_roundw
      case rel => exact ⟨k + 1, by omega, by go_num, ext_drewN hb _⟩
      case measure => simp [intOf]; omega
    · clear hu hv
      go_wp2_with fail
      go_ret
      exact ⟨rfl, hb⟩

theorem keep3 {w w' w'' : World} {b p q c r : Nat} {x y z : Value} (hb : b < w.heap.size) (hc : c < w.heap.size) (h : w'.cell? ⟨b, p, none⟩ = some x ∧ w'.cell? ⟨b, q, none⟩ = some y ∧ w'.cell? ⟨c, r, none⟩ = some z ∧ Below w.heap.size w w') (h2 : Below w'.heap.size w' w'') :
    w''.cell? ⟨b, p, none⟩ = some x ∧ w''.cell? ⟨b, q, none⟩ = some y ∧ w''.cell? ⟨c, r, none⟩ = some z ∧ Below w.heap.size w w'' :=
  have h3 := h2.mono h.2.2.2.size
  ⟨(h3.cell (p := ⟨b, p, none⟩) hb).trans h.1, (h3.cell (p := ⟨b, q, none⟩) hb).trans h.2.1, (h3.cell (p := ⟨c, r, none⟩) hc).trans h.2.2.1, h.2.2.2.trans h3⟩
theorem keep3_drew {w w' : World} {b p q c r : Nat} {x y z : Value} (h : w'.cell? ⟨b, p, none⟩ = some x ∧ w'.cell? ⟨b, q, none⟩ = some y ∧ w'.cell? ⟨c, r, none⟩ = some z ∧ Below w.heap.size w w') :
    w'.drew.cell? ⟨b, p, none⟩ = some x ∧ w'.drew.cell? ⟨b, q, none⟩ = some y ∧ w'.drew.cell? ⟨c, r, none⟩ = some z ∧ Below w.heap.size w w'.drew := ⟨h.1, h.2.1, h.2.2.1, ext_drew h.2.2.2⟩

theorem rhas_yes (a b x : Int) (w : World) (h : Fx.hasB a b x = true) :
    Calls Tryd.prog 48 #[.agg #[.int .i64 a, .int .i64 b], .int .i64 x] w fun e w' => e = .returned (.bool true) ∧ Below w.heap.size w w' := by
  rw [← h]; exact rhas_any a b x w

theorem allValid_yes (v : Value) (L : List (Int × Int)) (w : World) (hI : IvSl w v L) (h : Fx.allB L = true) :
    Calls Tryd.prog 47 #[v] w fun e w' => e = .returned (.bool true) ∧ Below w.heap.size w w' := by
  rw [← h]; exact allValid_any v L w hI

set_option maxHeartbeats 2000000 in
theorem has_yes (u v : Value) (L : List (Int × Int)) (xs : List Int) (w : World) (hI : IvSl w u L) (hx : IntSl w v xs) (hA : Fx.allB L = true) (hlen : xs.length = L.length)
    (hin : ∀ i : Nat, i < L.length → Fx.hasB (L.getD i (0, 0)).1 (L.getD i (0, 0)).2 (xs.getD i 0) = true) :
    Calls Tryd.prog 30 #[u, v] w fun e w' => e = .returned (.bool true) ∧ Below w.heap.size w w' := by
  have HI := Lib.hid hI
  have HA := Lib.hid hA; clear hA
  have HIn := Lib.hid hin; clear hin
  obtain ⟨a, c, rfl, hl, hI⟩ := hI
  obtain ⟨b, d, rfl, _, hx⟩ := hx
  rw [hlen]
  have HL := Lib.hid hlen
  go_enter Tryd.func30, Tryd.ntmps30
  have H1 := Lib.hid hI
  have H2 := Lib.hid hx
  clear hI hx hlen
  go_wp2_with (go_at_call 47; refine (allValid_yes _ L _ HI.out HA.out).mono ?_; rintro e w1 ⟨rfl, hb1⟩)
  go_loopw [5] (fun iv wr => ∃ k : Nat, k ≤ L.length ∧ iv = .int .i64 k ∧ Below w.heap.size w wr) (fun iv _ => L.length - (intOf iv).toNat)
  case atStart => exact ⟨0, Nat.zero_le _, rfl, hb1⟩
  case round =>
    obtain ⟨k, hk, rfl, hb⟩ := hrel
    by_cases hlt : k < L.length
    · obtain ⟨b1, o1, e1, h1⟩ := H1.out (by omega)
      obtain ⟨b2, o2, e2, h2⟩ := H2.out (by have := HL.out; omega)
      subst e1 e2
      obtain ⟨c0, c1⟩ := (h1.ext hb).2 k hlt
      have c2 := (h2.ext hb).2 k (by have := HL.out; omega)
      have HH := Lib.hid (HIn.out k hlt)
      have hb1w := h1.1
      have hb2w := h2.1
      clear h1 h2
      generalize (L.getD k (0, 0)).1 = lo at *
      generalize (L.getD k (0, 0)).2 = up at *
      generalize xs.getD k 0 = x at *
      have k0 : (0 : Int) ≤ (k : Int) := by omega
      have k1 : (k : Int) < (L.length : Int) := by omega
      go_wp2_with fail
      have hS : wr.cell? ⟨b1, o1 + k * 2, none⟩ = some (.int .i64 lo) ∧ wr.cell? ⟨b1, o1 + k * 2 + 1, none⟩ = some (.int .i64 up) ∧ wr.cell? ⟨b2, o2 + k, none⟩ = some (.int .i64 x) ∧ Below w.heap.size w wr := ⟨c0, c1, c2, hb⟩
      clear c0 c1 c2 hb
      go_region_held3 (fun w' => w'.cell? ⟨b1, o1 + k * 2, none⟩ = some (.int .i64 lo) ∧ w'.cell? ⟨b1, o1 + k * 2 + 1, none⟩ = some (.int .i64 up) ∧ w'.cell? ⟨b2, o2 + k, none⟩ = some (.int .i64 x) ∧ Below w.heap.size w w')
        (first | exact keep3_drew hS | exact keep3 hb1w hb2w (by assumption) hb4)
        (first | (go_at_call 48; refine (rhas_yes _ _ _ _ HH.out).mono ?_; rintro e w4 ⟨rfl, hb4⟩))
      have hb5 : Below w.heap.size w w4 := (by assumption : _ ∧ _ ∧ _ ∧ Below w.heap.size w w4).2.2.2
      go_wp2_with fail
      go_roundw
      case rel => exact ⟨k + 1, by omega, by go_num, hb5⟩
      case measure => simp [intOf]; omega
    · go_wp2_with fail
      go_ret
      exact ⟨rfl, hb⟩
end Go.Proofs.YtlpkjafhpbiffaaDoor
