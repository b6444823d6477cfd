/- The sanity check of the laws on shapes. -/
import Derived.Test.YtgnjconhbloocaaBoxed
import Derived.Test.YtgnjconhbloocaaLaw10a
namespace Go.Proofs.Ytgnjconhbloocaa
open Go.RowKit
set_option linter.unusedVariables false

theorem PSl.one (w : World) (t : TypeId) (x y z : Int) : PSl (w.alloc (.cells #[.int .i64 x, .int .i64 y, .int .i64 z] t)) (.slice (some ⟨w.heap.size, 0, none⟩) 1 1) [(x, y, z)] := by
  have hW := Whole.new w t #[.int .i64 x, .int .i64 y, .int .i64 z]
  refine ⟨_, _, rfl, by simp, fun _ => ⟨_, _, rfl, hW.lt, fun i hi => ?_⟩⟩
  obtain rfl : i = 0 := by simp at hi; exact hi
  exact ⟨hW.cell 0, hW.cell 1, hW.cell 2⟩
theorem PSl.two (w : World) (t : TypeId) (x y z a b c : Int) : PSl (w.alloc (.cells #[.int .i64 x, .int .i64 y, .int .i64 z, .int .i64 a, .int .i64 b, .int .i64 c] t)) (.slice (some ⟨w.heap.size, 0, none⟩) 2 2) [(x, y, z), (a, b, c)] := by
  have hW := Whole.new w t #[.int .i64 x, .int .i64 y, .int .i64 z, .int .i64 a, .int .i64 b, .int .i64 c]
  refine ⟨_, _, rfl, by simp, fun _ => ⟨_, _, rfl, hW.lt, fun i hi => ?_⟩⟩
  match i, hi with
  | 0, _ => exact ⟨hW.cell 0, hW.cell 1, hW.cell 2⟩
  | 1, _ => exact ⟨hW.cell 3, hW.cell 4, hW.cell 5⟩
theorem IntSl.two (w : World) (t : TypeId) (x y : Int) : IntSl (w.alloc (.cells #[.int .i64 x, .int .i64 y] t)) (.slice (some ⟨w.heap.size, 0, none⟩) 2 2) [x, y] := by
  have hW := Whole.new w t #[.int .i64 x, .int .i64 y]
  refine ⟨_, _, rfl, by simp, fun _ => ⟨_, _, rfl, hW.lt, fun i hi => ?_⟩⟩
  match i, hi with
  | 0, _ => exact hW.cell 0
  | 1, _ => exact hW.cell 1
theorem comb_awake : combRet (Fx.boxed [(0, 0, 0), (4, 0, 0)]) [1, 3] = .tuple #[.agg #[.int .i64 12, .int .i64 12, .int .i64 0, .int .i64 0, .int .i64 0, .int .i64 0], .int .i64 4, .bool true] := by kernel_rfl
theorem point_awake : (Fx.ofV 12 0 0).arr = #[.int .i64 12, .int .i64 12, .int .i64 0, .int .i64 0, .int .i64 0, .int .i64 0] := by kernel_rfl
theorem placed_awake : Fx.placedB (Fx.boxed [(1, 0, 0)]) = true := by kernel_rfl

/-- What stays while awake looks at its vector. -/
def KeepA (w : World) (g : Nat) (w' : World) : Prop := w'.cell? ⟨g, 0, none⟩ = some (.int .i64 12) ∧ w'.cell? ⟨g, 1, none⟩ = some (.int .i64 12) ∧ w'.cell? ⟨g, 2, none⟩ = some (.int .i64 0) ∧ w'.cell? ⟨g, 3, none⟩ = some (.int .i64 0) ∧ w'.cell? ⟨g, 4, none⟩ = some (.int .i64 0) ∧ w'.cell? ⟨g, 5, none⟩ = some (.int .i64 0) ∧ g < w'.heap.size ∧ Below w.heap.size w w'
theorem KeepA.step {w : World} {g : Nat} {w1 w2 : World} (h : KeepA w g w1) (hb : Below w1.heap.size w1 w2) : KeepA w g w2 := by
  obtain ⟨h0, h1, h2, h3, h4, h5, h6, h7⟩ := h
  have := hb.size
  exact ⟨(hb.cell (p := ⟨g, 0, none⟩) h6).trans h0, (hb.cell (p := ⟨g, 1, none⟩) h6).trans h1, (hb.cell (p := ⟨g, 2, none⟩) h6).trans h2, (hb.cell (p := ⟨g, 3, none⟩) h6).trans h3, (hb.cell (p := ⟨g, 4, none⟩) h6).trans h4, (hb.cell (p := ⟨g, 5, none⟩) h6).trans h5, by omega, ext_trans h7 hb⟩

set_option maxRecDepth 100000 in
set_option maxHeartbeats 1000000 in
theorem awake_any (w : World) :
    Calls Try.prog 12 #[] w fun e w' => e = .returned (.bool true) ∧ Below w.heap.size w w' := by
  go_enter Try.func12, Try.ntmps12
  go_wp2_with fail
  refine (boxed_any _ [(0, 0, 0), (4, 0, 0)] _ (PSl.two _ _ _ _ _ _ _ _) (by simp)).mono ?_
  rintro e w1 ⟨u, rfl, hown, hb1⟩
  have hB1 := ext_trans (ext_alloc (ext_refl w) _) hb1
  have HV := Lib.hid (VSl.of_owns (L := Fx.boxed [(0, 0, 0), (4, 0, 0)]) hown (by decide))
  clear hown hb1
  go_wp2_with fail
  refine (combine_any _ _ (Fx.boxed [(0, 0, 0), (4, 0, 0)]) [1, 3] _ (HV.out.ext (ext_alloc (ext_refl _) _)) (IntSl.two _ _ _ _)).mono ?_
  rintro e w2 ⟨rfl, hb2⟩
  have hB2 := ext_trans (ext_alloc hB1 _) hb2
  have hz2 := hB2.size
  rw [comb_awake]
  clear hb2 HV
  go_wp2_with fail
  have hW := Whole.new w2 34 #[.int .i64 12, .int .i64 12, .int .i64 0, .int .i64 0, .int .i64 0, .int .i64 0]
  have hB3 := ext_alloc hB2 (.cells #[.int .i64 12, .int .i64 12, .int .i64 0, .int .i64 0, .int .i64 0, .int .i64 0] 34)
  generalize (w2.alloc (.cells #[.int .i64 12, .int .i64 12, .int .i64 0, .int .i64 0, .int .i64 0, .int .i64 0] 34)) = w3 at *
  have hK : KeepA w w2.heap.size w3 := ⟨hW.cell 0, hW.cell 1, hW.cell 2, hW.cell 3, hW.cell 4, hW.cell 5, hW.lt, hB3⟩
  clear hW hB3
  generalize w2.heap.size = g at *
  go_region_held3 (fun w' => w'.cell? ⟨g, 0, none⟩ = some (.int .i64 12) ∧ w'.cell? ⟨g, 1, none⟩ = some (.int .i64 12) ∧ w'.cell? ⟨g, 2, none⟩ = some (.int .i64 0) ∧ w'.cell? ⟨g, 3, none⟩ = some (.int .i64 0) ∧ w'.cell? ⟨g, 4, none⟩ = some (.int .i64 0) ∧ w'.cell? ⟨g, 5, none⟩ = some (.int .i64 0) ∧ g < w'.heap.size ∧ Below w.heap.size w w')
    (first | exact hK.step (ext_drew (ext_refl _)) | exact KeepA.step (by assumption) hb6 | exact KeepA.step (by assumption) hb5 | exact KeepA.step (by assumption) hb4 | exact KeepA.step (by assumption) (ext_alloc (ext_refl _) _) | fail)
    (first
      | (go_at_call 31; refine (rpoint_any _ _ _ _).mono ?_; rintro e w4 ⟨rfl, hb4⟩; rw [point_awake])
      | (go_at_call 30; refine (boxed_any _ [(1, 0, 0)] _ (PSl.one _ _ _ _ _) (by simp)).mono ?_; rintro e w5 ⟨u5, rfl, hown5, hb5⟩; have HV5 := Lib.hid (VSl.of_owns (L := Fx.boxed [(1, 0, 0)]) hown5 (by decide)); clear hown5)
      | (go_at_call 32; refine (placed_any _ (Fx.boxed [(1, 0, 0)]) _ HV5.out).mono ?_; rintro e w6 ⟨rfl, hb6⟩; rw [placed_awake])
      | fail)
  rename_i hH
  have hB6 := hH.2.2.2.2.2.2.2
  clear hH
  go_wp2_with fail
  go_ret
  exact ⟨rfl, hB6⟩
end Go.Proofs.Ytgnjconhbloocaa
