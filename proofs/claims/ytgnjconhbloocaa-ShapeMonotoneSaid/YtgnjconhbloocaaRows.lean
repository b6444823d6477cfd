/-
  No cell of these rows narrows 'for every input' (looked for: loops, veiled, ifaces, maps, wideKeys, modest, calm, conditions, laid).
  DERIVED. THE GIVEN ROWS OF THIS SEAT. 7 by the template 'for every input the law returns true; each argument reads behind the call as it read before'; 0 by the template 'total and deterministic' (their statements: YtgnjconhbloocaaTotals.lean).
  GIVEN WITH THE SEED: the statements are not yours to turn. If you find one false, say at which input.
  Laid BY PROGRAM, IN A SANDBOX (cutbox-rows.mjs): the forced cells as the released guide's own fill.sh prints them over the translation d3e3b25f370b3197… (all of the seat's roots in one cut). By AI agents, Wed Nov 11 2026. No macro, syntax, notation, axiom, sorry.
-/
import Derived.Test.YtgnjconhbloocaaChecked
import GoSem.Claim
import GoSem.ClaimJoined
import GoSem.ClaimMapViews
import Derived.JoinedTies
import Derived.KernelRfl
namespace Go.Proofs.Ytgnjconhbloocaa
/- THE CELL 'sum', in the pinned program and in every row, IS THE sha256 OF THE DUMP (.gsa) THAT YtgnjconhbloocaaProg.lean LOADS. Nothing in Lean hashes anything: it is a label: what it is worth is what the hold of that sum in a sandbox is worth. -/
noncomputable def Try.pinned : Pinned := { name := "ytgnjconhbloocaa", sum := "d3e3b25f370b31970962611e9a36e786328b91d27663dfed97afe1808a86a9ab", checked := Try.checked }
namespace Rows
def none {H : Type} : Left H := { results := [], args := [] }

/-- 'armplanlaw10.ShapeCombines': WHATEVER THE INPUT: true; the input reads as it did. -/
def shapeCombinesSpec : ChangeSpec := { name := "shapeCombines", fn := fun _ => fun
  | [d1, d2, d3, d4, d5] => { results := [.lit (.bool true)], args := [d1, d2, d3, d4, d5] }
  | _ => none }
def shapeCombinesRow : OpenClaim := { program := "ytgnjconhbloocaa", sum := "d3e3b25f370b31970962611e9a36e786328b91d27663dfed97afe1808a86a9ab", func := "armplan/armplanlaw10.ShapeCombines", spec := "shapeCombines", apart := false }
def ShapeCombinesSaid : Prop := shapeCombinesRow.holds Try.pinned (OpenSpec.ofChange shapeCombinesSpec)

/-- ITS FALSE NEIGHBOUR: 'it returns false'. Refute it at one input. -/
def shapeCombinesWrong : ChangeSpec := { name := "shapeCombines", fn := fun _ => fun
  | [d1, d2, d3, d4, d5] => { results := [.lit (.bool false)], args := [d1, d2, d3, d4, d5] }
  | _ => none }
def ShapeCombinesWrongFalsely : Prop := shapeCombinesRow.holds Try.pinned (OpenSpec.ofChange shapeCombinesWrong)

/-- 'armplanlaw10.ShapeCombineWithin': WHATEVER THE INPUT: true; the input reads as it did. -/
def shapeCombineWithinSpec : ChangeSpec := { name := "shapeCombineWithin", fn := fun _ => fun
  | [d1, d2, d3] => { results := [.lit (.bool true)], args := [d1, d2, d3] }
  | _ => none }
def shapeCombineWithinRow : OpenClaim := { program := "ytgnjconhbloocaa", sum := "d3e3b25f370b31970962611e9a36e786328b91d27663dfed97afe1808a86a9ab", func := "armplan/armplanlaw10.ShapeCombineWithin", spec := "shapeCombineWithin", apart := false }
def ShapeCombineWithinSaid : Prop := shapeCombineWithinRow.holds Try.pinned (OpenSpec.ofChange shapeCombineWithinSpec)

/-- ITS FALSE NEIGHBOUR: 'it returns false'. Refute it at one input. -/
def shapeCombineWithinWrong : ChangeSpec := { name := "shapeCombineWithin", fn := fun _ => fun
  | [d1, d2, d3] => { results := [.lit (.bool false)], args := [d1, d2, d3] }
  | _ => none }
def ShapeCombineWithinWrongFalsely : Prop := shapeCombineWithinRow.holds Try.pinned (OpenSpec.ofChange shapeCombineWithinWrong)

/-- 'armplanlaw10.ShapeCombineScales': WHATEVER THE INPUT: true; the input reads as it did. -/
def shapeCombineScalesSpec : ChangeSpec := { name := "shapeCombineScales", fn := fun _ => fun
  | [d1, d2, d3] => { results := [.lit (.bool true)], args := [d1, d2, d3] }
  | _ => none }
def shapeCombineScalesRow : OpenClaim := { program := "ytgnjconhbloocaa", sum := "d3e3b25f370b31970962611e9a36e786328b91d27663dfed97afe1808a86a9ab", func := "armplan/armplanlaw10.ShapeCombineScales", spec := "shapeCombineScales", apart := false }
def ShapeCombineScalesSaid : Prop := shapeCombineScalesRow.holds Try.pinned (OpenSpec.ofChange shapeCombineScalesSpec)

/-- ITS FALSE NEIGHBOUR: 'it returns false'. Refute it at one input. -/
def shapeCombineScalesWrong : ChangeSpec := { name := "shapeCombineScales", fn := fun _ => fun
  | [d1, d2, d3] => { results := [.lit (.bool false)], args := [d1, d2, d3] }
  | _ => none }
def ShapeCombineScalesWrongFalsely : Prop := shapeCombineScalesRow.holds Try.pinned (OpenSpec.ofChange shapeCombineScalesWrong)

/-- 'armplanlaw10.ShapeBoundHolds': WHATEVER THE INPUT: true; the input reads as it did. -/
def shapeBoundHoldsSpec : ChangeSpec := { name := "shapeBoundHolds", fn := fun _ => fun
  | [d1, d2, d3] => { results := [.lit (.bool true)], args := [d1, d2, d3] }
  | _ => none }
def shapeBoundHoldsRow : OpenClaim := { program := "ytgnjconhbloocaa", sum := "d3e3b25f370b31970962611e9a36e786328b91d27663dfed97afe1808a86a9ab", func := "armplan/armplanlaw10.ShapeBoundHolds", spec := "shapeBoundHolds", apart := false }
def ShapeBoundHoldsSaid : Prop := shapeBoundHoldsRow.holds Try.pinned (OpenSpec.ofChange shapeBoundHoldsSpec)

/-- ITS FALSE NEIGHBOUR: 'it returns false'. Refute it at one input. -/
def shapeBoundHoldsWrong : ChangeSpec := { name := "shapeBoundHolds", fn := fun _ => fun
  | [d1, d2, d3] => { results := [.lit (.bool false)], args := [d1, d2, d3] }
  | _ => none }
def ShapeBoundHoldsWrongFalsely : Prop := shapeBoundHoldsRow.holds Try.pinned (OpenSpec.ofChange shapeBoundHoldsWrong)

/-- 'armplanlaw10.ShapeBounds': WHATEVER THE INPUT: true; the input reads as it did. -/
def shapeBoundsSpec : ChangeSpec := { name := "shapeBounds", fn := fun _ => fun
  | [d1, d2, d3, d4] => { results := [.lit (.bool true)], args := [d1, d2, d3, d4] }
  | _ => none }
def shapeBoundsRow : OpenClaim := { program := "ytgnjconhbloocaa", sum := "d3e3b25f370b31970962611e9a36e786328b91d27663dfed97afe1808a86a9ab", func := "armplan/armplanlaw10.ShapeBounds", spec := "shapeBounds", apart := false }
def ShapeBoundsSaid : Prop := shapeBoundsRow.holds Try.pinned (OpenSpec.ofChange shapeBoundsSpec)

/-- ITS FALSE NEIGHBOUR: 'it returns false'. Refute it at one input. -/
def shapeBoundsWrong : ChangeSpec := { name := "shapeBounds", fn := fun _ => fun
  | [d1, d2, d3, d4] => { results := [.lit (.bool false)], args := [d1, d2, d3, d4] }
  | _ => none }
def ShapeBoundsWrongFalsely : Prop := shapeBoundsRow.holds Try.pinned (OpenSpec.ofChange shapeBoundsWrong)

/-- 'armplanlaw10.ShapePlaces': WHATEVER THE INPUT: true; the input reads as it did. -/
def shapePlacesSpec : ChangeSpec := { name := "shapePlaces", fn := fun _ => fun
  | [d1, d2, d3, d4] => { results := [.lit (.bool true)], args := [d1, d2, d3, d4] }
  | _ => none }
def shapePlacesRow : OpenClaim := { program := "ytgnjconhbloocaa", sum := "d3e3b25f370b31970962611e9a36e786328b91d27663dfed97afe1808a86a9ab", func := "armplan/armplanlaw10.ShapePlaces", spec := "shapePlaces", unfollowed := true, recurses := true, apart := false }
def ShapePlacesSaid : Prop := shapePlacesRow.holds Try.pinned (OpenSpec.ofChange shapePlacesSpec)

/-- ITS FALSE NEIGHBOUR: 'it returns false'. Refute it at one input. -/
def shapePlacesWrong : ChangeSpec := { name := "shapePlaces", fn := fun _ => fun
  | [d1, d2, d3, d4] => { results := [.lit (.bool false)], args := [d1, d2, d3, d4] }
  | _ => none }
def ShapePlacesWrongFalsely : Prop := shapePlacesRow.holds Try.pinned (OpenSpec.ofChange shapePlacesWrong)

/-- 'armplanlaw10.ShapeMonotone': WHATEVER THE INPUT: true; the input reads as it did. -/
def shapeMonotoneSpec : ChangeSpec := { name := "shapeMonotone", fn := fun _ => fun
  | [d1, d2, d3] => { results := [.lit (.bool true)], args := [d1, d2, d3] }
  | _ => none }
def shapeMonotoneRow : OpenClaim := { program := "ytgnjconhbloocaa", sum := "d3e3b25f370b31970962611e9a36e786328b91d27663dfed97afe1808a86a9ab", func := "armplan/armplanlaw10.ShapeMonotone", spec := "shapeMonotone", unfollowed := true, recurses := true, apart := false }
def ShapeMonotoneSaid : Prop := shapeMonotoneRow.holds Try.pinned (OpenSpec.ofChange shapeMonotoneSpec)

/-- ITS FALSE NEIGHBOUR: 'it returns false'. Refute it at one input. -/
def shapeMonotoneWrong : ChangeSpec := { name := "shapeMonotone", fn := fun _ => fun
  | [d1, d2, d3] => { results := [.lit (.bool false)], args := [d1, d2, d3] }
  | _ => none }
def ShapeMonotoneWrongFalsely : Prop := shapeMonotoneRow.holds Try.pinned (OpenSpec.ofChange shapeMonotoneWrong)

/- THE SECOND FORM. 'bulk': how many values and letters a reading holds, each counted each time it is reached (what is shared counts as often as it is met; a slice's spare places count too). A statement '..UptoSaid' is the law's where the arguments, and the package variables that the reading takes, are together of bulk at most 1048576: NARROWER than '..Said'. Prove '..Said' where nothing that the law and all that it calls make is longer than what came in: it says more and counts as full. Else prove '..UptoSaid'. A law counts once. -/
mutual
def uptoBulk {H : Type} : DataW H → Nat
  | .lit (.string bytes) => bytes.length + 1
  | .lit _ => 1
  | .nil => 1
  | .ptr d => uptoBulk d + 1
  | .slice elems spare => uptoBulkAll elems + uptoBulkAll spare + 1
  | .agg parts => uptoBulkAll parts + 1
  | .iface _ d => uptoBulk d + 1
  | .map entries => uptoBulkEntries entries + 1
  | .held _ => 1
def uptoBulkAll {H : Type} : List (DataW H) → Nat
  | [] => 0
  | d :: r => uptoBulk d + uptoBulkAll r
def uptoBulkEntries {H : Type} : List (Lit × DataW H) → Nat
  | [] => 0
  | x :: r => uptoBulkEntry x + uptoBulkEntries r
def uptoBulkEntry {H : Type} : Lit × DataW H → Nat
  | (.string bytes, d) => bytes.length + uptoBulk d + 1
  | (_, d) => uptoBulk d + 1
 end
def uptoSmall : (H : Type) → List (DataW H) → Bool := fun _ ds => decide (uptoBulkAll ds ≤ 1048576)
def OpenSpec.upto (s : _root_.Go.ChangeSpec) : _root_.Go.OpenSpec := { _root_.Go.OpenSpec.ofChange s with cond := some uptoSmall }

/-- 'armplanlaw10.ShapeCombines', WHERE WHAT IT READS IS OF BULK AT MOST 1048576: true; the input reads as it did. -/
def shapeCombinesUptoRow : OpenClaim := { program := "ytgnjconhbloocaa", sum := "d3e3b25f370b31970962611e9a36e786328b91d27663dfed97afe1808a86a9ab", func := "armplan/armplanlaw10.ShapeCombines", spec := "shapeCombines", apart := false, narrowed := true }
def ShapeCombinesUptoSaid : Prop := shapeCombinesUptoRow.holds Try.pinned (OpenSpec.upto shapeCombinesSpec)

/-- 'armplanlaw10.ShapeCombineWithin', WHERE WHAT IT READS IS OF BULK AT MOST 1048576: true; the input reads as it did. -/
def shapeCombineWithinUptoRow : OpenClaim := { program := "ytgnjconhbloocaa", sum := "d3e3b25f370b31970962611e9a36e786328b91d27663dfed97afe1808a86a9ab", func := "armplan/armplanlaw10.ShapeCombineWithin", spec := "shapeCombineWithin", apart := false, narrowed := true }
def ShapeCombineWithinUptoSaid : Prop := shapeCombineWithinUptoRow.holds Try.pinned (OpenSpec.upto shapeCombineWithinSpec)

/-- 'armplanlaw10.ShapeCombineScales', WHERE WHAT IT READS IS OF BULK AT MOST 1048576: true; the input reads as it did. -/
def shapeCombineScalesUptoRow : OpenClaim := { program := "ytgnjconhbloocaa", sum := "d3e3b25f370b31970962611e9a36e786328b91d27663dfed97afe1808a86a9ab", func := "armplan/armplanlaw10.ShapeCombineScales", spec := "shapeCombineScales", apart := false, narrowed := true }
def ShapeCombineScalesUptoSaid : Prop := shapeCombineScalesUptoRow.holds Try.pinned (OpenSpec.upto shapeCombineScalesSpec)

/-- 'armplanlaw10.ShapeBoundHolds', WHERE WHAT IT READS IS OF BULK AT MOST 1048576: true; the input reads as it did. -/
def shapeBoundHoldsUptoRow : OpenClaim := { program := "ytgnjconhbloocaa", sum := "d3e3b25f370b31970962611e9a36e786328b91d27663dfed97afe1808a86a9ab", func := "armplan/armplanlaw10.ShapeBoundHolds", spec := "shapeBoundHolds", apart := false, narrowed := true }
def ShapeBoundHoldsUptoSaid : Prop := shapeBoundHoldsUptoRow.holds Try.pinned (OpenSpec.upto shapeBoundHoldsSpec)

/-- 'armplanlaw10.ShapeBounds', WHERE WHAT IT READS IS OF BULK AT MOST 1048576: true; the input reads as it did. -/
def shapeBoundsUptoRow : OpenClaim := { program := "ytgnjconhbloocaa", sum := "d3e3b25f370b31970962611e9a36e786328b91d27663dfed97afe1808a86a9ab", func := "armplan/armplanlaw10.ShapeBounds", spec := "shapeBounds", apart := false, narrowed := true }
def ShapeBoundsUptoSaid : Prop := shapeBoundsUptoRow.holds Try.pinned (OpenSpec.upto shapeBoundsSpec)

/-- 'armplanlaw10.ShapePlaces', WHERE WHAT IT READS IS OF BULK AT MOST 1048576: true; the input reads as it did. -/
def shapePlacesUptoRow : OpenClaim := { program := "ytgnjconhbloocaa", sum := "d3e3b25f370b31970962611e9a36e786328b91d27663dfed97afe1808a86a9ab", func := "armplan/armplanlaw10.ShapePlaces", spec := "shapePlaces", unfollowed := true, recurses := true, apart := false, narrowed := true }
def ShapePlacesUptoSaid : Prop := shapePlacesUptoRow.holds Try.pinned (OpenSpec.upto shapePlacesSpec)

/-- 'armplanlaw10.ShapeMonotone', WHERE WHAT IT READS IS OF BULK AT MOST 1048576: true; the input reads as it did. -/
def shapeMonotoneUptoRow : OpenClaim := { program := "ytgnjconhbloocaa", sum := "d3e3b25f370b31970962611e9a36e786328b91d27663dfed97afe1808a86a9ab", func := "armplan/armplanlaw10.ShapeMonotone", spec := "shapeMonotone", unfollowed := true, recurses := true, apart := false, narrowed := true }
def ShapeMonotoneUptoSaid : Prop := shapeMonotoneUptoRow.holds Try.pinned (OpenSpec.upto shapeMonotoneSpec)

end Rows
end Go.Proofs.Ytgnjconhbloocaa
