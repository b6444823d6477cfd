/- The law's sanity check returns true; a row's arguments and its listed variable, opened. -/
import Derived.Test.YtlpkjafhpbiffaaDoorSamp5
import Derived.Test.YtlpkjafhpbiffaaDoorRows
import Derived.ProofKit
import Derived.LaidMore
import Derived.OpenShut
import Derived.Stop.Joined
import Derived.Lib.LaidTab
namespace Go.Proofs.YtlpkjafhpbiffaaDoor
open Go.ChangeShapes Go.WideShapes Go.ChangeAt Go.RowKit
set_option linter.unusedVariables false

theorem rad_3_5 : Fx.rad 3 5 = (7, 9) := by
  unfold Fx.rad
  rw [Fx.radN_step _ _ _ _ (by decide) (by decide), Fx.radN_step _ _ _ _ (by decide) (by decide), Fx.radN_end _ _ _ _ (by decide)]
  decide
theorem rad_2_6 : Fx.rad 2 6 = (3, 8) := by
  unfold Fx.rad
  rw [Fx.radN_step _ _ _ _ (by decide) (by decide), Fx.radN_step _ _ _ _ (by decide) (by decide), Fx.radN_step _ _ _ _ (by decide) (by decide), Fx.radN_end _ _ _ _ (by decide)]
  decide
theorem rad_3_6 : Fx.rad 3 6 = (2, 9) := by
  unfold Fx.rad
  rw [Fx.radN_step _ _ _ _ (by decide) (by decide), Fx.radN_step _ _ _ _ (by decide) (by decide), Fx.radN_end _ _ _ _ (by decide)]
  decide
theorem halton_two : Fx.halton [(0, 7), (0, 8)] 6 = [3, 2] := by
  have e0 : Fx.haltonAt [(0, 7), (0, 8)] 6 0 = Fx.place (Fx.rad 2 6).1 (Fx.rad 2 6).2 0 7 := rfl
  have e1 : Fx.haltonAt [(0, 7), (0, 8)] 6 1 = Fx.place (Fx.rad 3 6).1 (Fx.rad 3 6).2 0 8 := rfl
  have h : [Fx.haltonAt [(0, 7), (0, 8)] 6 0, Fx.haltonAt [(0, 7), (0, 8)] 6 1] = [3, 2] := by
    rw [e0, e1, rad_2_6, rad_3_6]
    decide
  have hb : Fx.boxB [(0, 7), (0, 8)] = true := by decide
  unfold Fx.halton
  rw [if_pos hb]
  exact h

set_option maxHeartbeats 1000000 in
theorem awake_any (w : World) (hT : PTab w) (hz : 0 < w.heap.size) :
    Calls Tryd.prog 15 #[] w fun e w' => e = .returned (.bool true) ∧ Below w.heap.size w w' := by
  have HT := Lib.hid hT; clear hT
  have HR := Lib.hid rad_3_5
  have HH := Lib.hid halton_two
  go_enter Tryd.func15, Tryd.ntmps15
  go_wp2_with fail
  refine (radical_any 3 5 _ (by omega) (by omega) (by omega) (by omega)).mono ?_
  rw [HR.out]
  rintro e w1 ⟨rfl, hb1⟩
  go_wp2_with fail
  have hI : IvSl (w1.alloc (.cells #[.int .i64 0, .int .i64 7, .int .i64 0, .int .i64 8] 39)) (.slice (some ⟨w1.heap.size, 0, none⟩) 2 2) [(0, 7), (0, 8)] := by
    refine ⟨_, _, rfl, by decide, fun _ => ⟨_, _, rfl, by simp, fun i hi => ?_⟩⟩
    have hW := Whole.new w1 39 #[.int .i64 0, .int .i64 7, .int .i64 0, .int .i64 8]
    match i, hi with
    | 0, _ => exact ⟨hW.cell 0, hW.cell 1⟩
    | 1, _ => exact ⟨hW.cell 2, hW.cell 3⟩
  have hB1 := ext_alloc hb1 (.cells #[.int .i64 0, .int .i64 7, .int .i64 0, .int .i64 8] 39)
  refine (halton_any _ _ 6 _ (HT.out.ext hB1 hz) (Nat.lt_of_lt_of_le hz hB1.size) hI (by omega) (by omega)).mono ?_
  rw [HH.out]
  rintro e w2 ⟨v, rfl, hv, hb2⟩
  obtain ⟨a, c, rfl, _, hv⟩ := hv
  obtain ⟨b, o, rfl, _, hv⟩ := hv (by decide)
  have c0 := hv 0 (by decide)
  have c1 := hv 1 (by decide)
  simp at c0 c1
  clear hv hI
  go_wp2_with fail
  go_ret
  exact ⟨rfl, (by repeat (first | assumption | exact ext_refl _ | refine ext_alloc ?_ _ | refine ext_drewN ?_ _ | refine ext_drew ?_ | refine ext_set ?_ (by first | (simp; done) | (simp; omega) | omega) _ | refine ext_trans ?_ ‹Below _ _ _›))⟩

theorem awake_two {w w' : World} {g : Nat} {x y : Value} (hT : PTab w) (hz : 0 < w.heap.size) (h : w'.cell? ⟨g, 0, none⟩ = some x ∧ w'.cell? ⟨g, 1, none⟩ = some y ∧ g < w'.heap.size ∧ Below w.heap.size w w') :
    Calls Tryd.prog 15 #[] w' fun e w'' => e = .returned (.bool true) ∧ Below w'.heap.size w' w'' :=
  awake_any w' (hT.ext h.2.2.2 hz) (Nat.lt_of_lt_of_le hz h.2.2.2.size)

theorem own : ownKnob Tryd.prog.godebug = none := by kernel_rfl
theorem laidOut : laidOutB Tryd.prog = true := by kernel_rfl

/-- What the rows list. -/
def laid1 : List (String × DataW Unit) := [("armplan/sampler.primes", Rows.laid_armplan_sampler_primes)]

theorem door_met (os : Os) (args : Array Value) : laidMetH Tryd.prog laid1 ((World.doorLaid Tryd.prog 400 os).forCall (fun _ _ => 0) ⟨#[], args, []⟩).memory :=
  laidMetH_of_parts3 (fuel := 8) (laidMet_of_run' 8 (by kernel_rfl) (by kernel_rfl)) (by kernel_rfl) (by kernel_rfl)

theorem of_laid {W : World} (h : laidMetH Tryd.prog laid1 W) : PTab W ∧ 0 < W.heap.size := by
  rw [MakeChecks.laidMetH_plain _ _ _ (by kernel_rfl)] at h
  have hg : Tryd.prog.globalNamed "armplan/sampler.primes" = some 0 := by kernel_rfl
  have hT : Lib.TabIs Tryd.prog W "armplan/sampler.primes" .u64 Fx.primes :=
    Lib.tabIs_of_head (rest := []) hg (t := 56) (by kernel_rfl) Tryd.underlying56 Tryd.underlying22 (by kernel_rfl) (by kernel_rfl) h
  have hP : PTab W := fun i hi => hT.cell hg i hi
  exact ⟨hP, World.block_lt_of_cell? W _ (hP 0 (by omega))⟩
end Go.Proofs.YtlpkjafhpbiffaaDoor
