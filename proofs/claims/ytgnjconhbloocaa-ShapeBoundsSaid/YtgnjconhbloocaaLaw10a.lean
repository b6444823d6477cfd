/- Comparing the two weighted sums; the sum of weights. -/
import Derived.Test.YtgnjconhbloocaaComb2
import Derived.Test.YtgnjconhbloocaaWts
import Derived.Test.YtgnjconhbloocaaEq
namespace Go.Proofs.Ytgnjconhbloocaa
open Go.RowKit
set_option linter.unusedVariables false

set_option maxRecDepth 100000 in
set_option maxHeartbeats 2000000 in
theorem combines_any (v u : Value) (L : List Fx.V3) (ws : List Int) (w : World) (hI : VSl w v L) (hU : IntSl w u ws) :
    Calls Try.prog 13 #[v, u] w fun e w' => e = .returned (.bool true) ∧ Below w.heap.size w w' := by
  have HI := Lib.hid hI
  have HU := Lib.hid hU
  obtain ⟨a, c, rfl, hl, hI'⟩ := hI
  obtain ⟨a2, c2, rfl, hl2, hU'⟩ := hU
  clear hI' hU'
  obtain ⟨x, t, ok, hr⟩ : ∃ (x : Fx.V3) (t : Int) (ok : Bool), combRet L ws = .tuple #[.agg #[.int .i64 x.a, .int .i64 x.b, .int .i64 x.c, .int .i64 x.d, .int .i64 x.e, .int .i64 x.f], .int .i64 t, .bool ok] := ⟨_, _, _, rfl⟩
  have HR := Lib.hid hr
  clear hr
  go_enter Try.func13, Try.ntmps13
  go_wp2_with fail
  refine (combine_any _ _ L ws _ HI.out HU.out).mono ?_
  rintro e w1 ⟨rfl, hb1⟩
  rw [HR.out]
  go_wp2_with fail
  have hb2 := ext_alloc hb1 (.cells #[.int .i64 x.a, .int .i64 x.b, .int .i64 x.c, .int .i64 x.d, .int .i64 x.e, .int .i64 x.f] 34)
  have hW2 := Whole.new w1 34 #[.int .i64 x.a, .int .i64 x.b, .int .i64 x.c, .int .i64 x.d, .int .i64 x.e, .int .i64 x.f]
  have hz1 := hb1.size
  refine (rcombine_any _ _ L ws _ (HI.out.ext hb2) (HU.out.ext hb2)).mono ?_
  rintro e w3 ⟨rfl, hb3⟩
  rw [HR.out]
  have hW3 := hW2.ext hb3
  have hb3' := ext_trans hb2 hb3
  have hz3 : w1.heap.size < w3.heap.size := hW3.lt
  have c0 : _ = some (Value.int .i64 x.a) := hW3.cell 0
  have c1 : _ = some (Value.int .i64 x.b) := hW3.cell 1
  have c2 : _ = some (Value.int .i64 x.c) := hW3.cell 2
  have c3 : _ = some (Value.int .i64 x.d) := hW3.cell 3
  have c4 : _ = some (Value.int .i64 x.e) := hW3.cell 4
  have c5 : _ = some (Value.int .i64 x.f) := hW3.cell 5
  clear hW3 hW2 hb2 hb3 hb1
  go_wp2_with fail
  go_ret
  exact ⟨rfl, (by repeat (first | assumption | exact ext_refl _ | refine ext_alloc ?_ _ | refine ext_drewN ?_ _ | refine ext_drew ?_ | refine ext_set ?_ (by first | (simp; done) | (simp; omega) | omega) _ | refine ext_trans ?_ ‹Below _ _ _›))⟩
end Go.Proofs.Ytgnjconhbloocaa
