/- Comparing Placed, Bound and Centers. -/
import Derived.Test.YtgnjconhbloocaaSame10
namespace Go.Proofs.Ytgnjconhbloocaa
open Go.RowKit
set_option linter.unusedVariables false

theorem GivesP.form {P : List (Int × Int × Int)} {w w' : World} {e : Ending} (h : GivesP P w e w') : ∃ (a : Option Addr) (c : Nat), e = .returned (.slice a P.length c) ∧ PSl w' (.slice a P.length c) P ∧ Below w.heap.size w w' := by
  obtain ⟨u, rfl, hp, hb⟩ := h
  obtain ⟨a, c, rfl, h1, h2⟩ := hp
  exact ⟨a, c, rfl, ⟨a, c, rfl, h1, h2⟩, hb⟩

set_option maxRecDepth 100000 in
set_option maxHeartbeats 2000000 in
theorem bounds_any (v : Value) (L : List Fx.V3) (r : Int) (w : World) (hI : VSl w v L) :
    Calls Try.prog 19 #[v, .int .i64 r] w fun e w' => e = .returned (.bool true) ∧ Below w.heap.size w w' := by
  have HI := Lib.hid hI
  obtain ⟨a, c, rfl, hl, hI'⟩ := hI
  clear hI'
  go_enter Try.func19, Try.ntmps19
  go_wp2_with fail
  refine (placed_any _ L _ HI.out).mono ?_
  rintro e w1 ⟨rfl, hb1⟩
  have HI1 := Lib.hid (HI.out.ext hb1)
  clear HI
  go_wp2_with fail
  refine (rplaced_any _ L _ HI1.out).mono ?_
  rintro e w2 ⟨rfl, hb2⟩
  generalize Fx.placedB L = pl at *
  have HI2 := Lib.hid (HI1.out.ext hb2)
  have hB2 := ext_trans hb1 hb2
  clear HI1 hb1 hb2
  go_wp2_with fail
  refine (bound_any _ L r _ HI2.out).mono ?_
  rintro e w3 ⟨rfl, hb3⟩
  have HI3 := Lib.hid (HI2.out.ext hb3)
  have hB3 := ext_trans hB2 hb3
  clear HI2 hb3 hB2
  go_wp2_with fail
  refine (rbound_any _ L r _ HI3.out).mono ?_
  rintro e w4 ⟨rfl, hb4⟩
  have HI4 := Lib.hid (HI3.out.ext hb4)
  have hB4 := ext_trans hB3 hb4
  clear HI3 hb4 hB3
  generalize Fx.boundV L r = x at *
  unfold Fx.V3.arr
  go_wp2_with fail
  refine (centers_any _ L _ HI4.out).mono ?_
  rintro e w5 h5
  obtain ⟨a5, c5, rfl, hp5, hb5⟩ := h5.form
  have HI5 := Lib.hid (HI4.out.ext hb5)
  have hB5 := ext_trans hB4 hb5
  have HP5 := Lib.hid hp5
  clear HI4 hb5 hB4 h5 hp5
  go_wp2_with fail
  refine (rcenters_any _ L _ HI5.out).mono ?_
  rintro e w6 h6
  obtain ⟨a6, c6, rfl, hp6, hb6⟩ := h6.form
  have HP6 := Lib.hid hp6
  have HP5' := Lib.hid (HP5.out.ext hb6)
  have hB6 := ext_trans hB5 hb6
  clear HP5 hb6 hB5 h6 hp6 HI5
  go_wp2_with fail
  refine (samevec_any _ _ (Fx.centers L) _ HP5'.out HP6.out).mono ?_
  rintro e w7 ⟨rfl, hb7⟩
  have hB7 := ext_trans hB6 hb7
  clear hb7 hB6
  go_wp2_with fail
  go_ret
  exact ⟨rfl, hB7⟩
end Go.Proofs.Ytgnjconhbloocaa
