/-
  No cell of these rows narrows 'for every input' (looked for: loops, veiled, ifaces, maps, wideKeys, modest, calm, conditions, laid).
  DERIVED. THE GIVEN ROWS OF THIS SEAT. 8 by the template 'for every input the law returns true; each argument reads behind the call as it read before'; 0 by the template 'total and deterministic' (their statements: YtpembaahjokmjaaTotals.lean).
  GIVEN WITH THE SEED: the statements are not yours to turn. If you find one false, say at which input.
  Laid BY PROGRAM, IN A SANDBOX (cutbox-rows.mjs): the forced cells as the released guide's own fill.sh prints them over the translation b408e21d44869b5b… (all of the seat's roots in one cut). By AI agents, Wed Nov 11 2026. No macro, syntax, notation, axiom, sorry.
-/
import Derived.Test.YtpembaahjokmjaaChecked
import GoSem.Claim
import GoSem.ClaimJoined
import GoSem.ClaimMapViews
import Derived.JoinedTies
import Derived.KernelRfl
namespace Go.Proofs.Ytpembaahjokmjaa
/- THE CELL 'sum', in the pinned program and in every row, IS THE sha256 OF THE DUMP (.gsa) THAT YtpembaahjokmjaaProg.lean LOADS. Nothing in Lean hashes anything: it is a label: what it is worth is what the hold of that sum in a sandbox is worth. -/
noncomputable def Try.pinned : Pinned := { name := "ytpembaahjokmjaa", sum := "b408e21d44869b5b60cb81e9792f54fd2911f6965301ee309c3f06e8062c7a90", checked := Try.checked }
namespace Rows
def none {H : Type} : Left H := { results := [], args := [] }

/-- 'armplanlaw2.IntervalSums': WHATEVER THE INPUT: true; the input reads as it did. -/
def intervalSumsSpec : ChangeSpec := { name := "intervalSums", fn := fun _ => fun
  | [d1, d2, d3, d4, d5, d6, d7] => { results := [.lit (.bool true)], args := [d1, d2, d3, d4, d5, d6, d7] }
  | _ => none }
def intervalSumsRow : OpenClaim := { program := "ytpembaahjokmjaa", sum := "b408e21d44869b5b60cb81e9792f54fd2911f6965301ee309c3f06e8062c7a90", func := "armplan/armplanlaw2.IntervalSums", spec := "intervalSums", apart := false }
def IntervalSumsSaid : Prop := intervalSumsRow.holds Try.pinned (OpenSpec.ofChange intervalSumsSpec)

/-- ITS FALSE NEIGHBOUR: 'it returns false'. Refute it at one input. -/
def intervalSumsWrong : ChangeSpec := { name := "intervalSums", fn := fun _ => fun
  | [d1, d2, d3, d4, d5, d6, d7] => { results := [.lit (.bool false)], args := [d1, d2, d3, d4, d5, d6, d7] }
  | _ => none }
def IntervalSumsWrongFalsely : Prop := intervalSumsRow.holds Try.pinned (OpenSpec.ofChange intervalSumsWrong)

/-- 'armplanlaw2.IntervalMeets': WHATEVER THE INPUT: true; the input reads as it did. -/
def intervalMeetsSpec : ChangeSpec := { name := "intervalMeets", fn := fun _ => fun
  | [d1, d2, d3, d4, d5] => { results := [.lit (.bool true)], args := [d1, d2, d3, d4, d5] }
  | _ => none }
def intervalMeetsRow : OpenClaim := { program := "ytpembaahjokmjaa", sum := "b408e21d44869b5b60cb81e9792f54fd2911f6965301ee309c3f06e8062c7a90", func := "armplan/armplanlaw2.IntervalMeets", spec := "intervalMeets", apart := false }
def IntervalMeetsSaid : Prop := intervalMeetsRow.holds Try.pinned (OpenSpec.ofChange intervalMeetsSpec)

/-- ITS FALSE NEIGHBOUR: 'it returns false'. Refute it at one input. -/
def intervalMeetsWrong : ChangeSpec := { name := "intervalMeets", fn := fun _ => fun
  | [d1, d2, d3, d4, d5] => { results := [.lit (.bool false)], args := [d1, d2, d3, d4, d5] }
  | _ => none }
def IntervalMeetsWrongFalsely : Prop := intervalMeetsRow.holds Try.pinned (OpenSpec.ofChange intervalMeetsWrong)

/-- 'armplanlaw2.IntervalEncloses': WHATEVER THE INPUT: true; the input reads as it did. -/
def intervalEnclosesSpec : ChangeSpec := { name := "intervalEncloses", fn := fun _ => fun
  | [d1, d2, d3, d4, d5, d6] => { results := [.lit (.bool true)], args := [d1, d2, d3, d4, d5, d6] }
  | _ => none }
def intervalEnclosesRow : OpenClaim := { program := "ytpembaahjokmjaa", sum := "b408e21d44869b5b60cb81e9792f54fd2911f6965301ee309c3f06e8062c7a90", func := "armplan/armplanlaw2.IntervalEncloses", spec := "intervalEncloses", apart := false }
def IntervalEnclosesSaid : Prop := intervalEnclosesRow.holds Try.pinned (OpenSpec.ofChange intervalEnclosesSpec)

/-- ITS FALSE NEIGHBOUR: 'it returns false'. Refute it at one input. -/
def intervalEnclosesWrong : ChangeSpec := { name := "intervalEncloses", fn := fun _ => fun
  | [d1, d2, d3, d4, d5, d6] => { results := [.lit (.bool false)], args := [d1, d2, d3, d4, d5, d6] }
  | _ => none }
def IntervalEnclosesWrongFalsely : Prop := intervalEnclosesRow.holds Try.pinned (OpenSpec.ofChange intervalEnclosesWrong)

/-- 'armplanlaw2.IntervalSets': WHATEVER THE INPUT: true; the input reads as it did. -/
def intervalSetsSpec : ChangeSpec := { name := "intervalSets", fn := fun _ => fun
  | [d1, d2, d3, d4, d5, d6, d7] => { results := [.lit (.bool true)], args := [d1, d2, d3, d4, d5, d6, d7] }
  | _ => none }
def intervalSetsRow : OpenClaim := { program := "ytpembaahjokmjaa", sum := "b408e21d44869b5b60cb81e9792f54fd2911f6965301ee309c3f06e8062c7a90", func := "armplan/armplanlaw2.IntervalSets", spec := "intervalSets", apart := false }
def IntervalSetsSaid : Prop := intervalSetsRow.holds Try.pinned (OpenSpec.ofChange intervalSetsSpec)

/-- ITS FALSE NEIGHBOUR: 'it returns false'. Refute it at one input. -/
def intervalSetsWrong : ChangeSpec := { name := "intervalSets", fn := fun _ => fun
  | [d1, d2, d3, d4, d5, d6, d7] => { results := [.lit (.bool false)], args := [d1, d2, d3, d4, d5, d6, d7] }
  | _ => none }
def IntervalSetsWrongFalsely : Prop := intervalSetsRow.holds Try.pinned (OpenSpec.ofChange intervalSetsWrong)

/-- 'armplanlaw2.IntervalUnits': WHATEVER THE INPUT: true; the input reads as it did. -/
def intervalUnitsSpec : ChangeSpec := { name := "intervalUnits", fn := fun _ => fun
  | [d1, d2] => { results := [.lit (.bool true)], args := [d1, d2] }
  | _ => none }
def intervalUnitsRow : OpenClaim := { program := "ytpembaahjokmjaa", sum := "b408e21d44869b5b60cb81e9792f54fd2911f6965301ee309c3f06e8062c7a90", func := "armplan/armplanlaw2.IntervalUnits", spec := "intervalUnits", apart := false }
def IntervalUnitsSaid : Prop := intervalUnitsRow.holds Try.pinned (OpenSpec.ofChange intervalUnitsSpec)

/-- ITS FALSE NEIGHBOUR: 'it returns false'. Refute it at one input. -/
def intervalUnitsWrong : ChangeSpec := { name := "intervalUnits", fn := fun _ => fun
  | [d1, d2] => { results := [.lit (.bool false)], args := [d1, d2] }
  | _ => none }
def IntervalUnitsWrongFalsely : Prop := intervalUnitsRow.holds Try.pinned (OpenSpec.ofChange intervalUnitsWrong)

/-- 'armplanlaw2.IntervalRootSquares': WHATEVER THE INPUT: true; the input reads as it did. -/
def intervalRootSquaresSpec : ChangeSpec := { name := "intervalRootSquares", fn := fun _ => fun
  | [d1, d2] => { results := [.lit (.bool true)], args := [d1, d2] }
  | _ => none }
def intervalRootSquaresRow : OpenClaim := { program := "ytpembaahjokmjaa", sum := "b408e21d44869b5b60cb81e9792f54fd2911f6965301ee309c3f06e8062c7a90", func := "armplan/armplanlaw2.IntervalRootSquares", spec := "intervalRootSquares", apart := false }
def IntervalRootSquaresSaid : Prop := intervalRootSquaresRow.holds Try.pinned (OpenSpec.ofChange intervalRootSquaresSpec)

/-- ITS FALSE NEIGHBOUR: 'it returns false'. Refute it at one input. -/
def intervalRootSquaresWrong : ChangeSpec := { name := "intervalRootSquares", fn := fun _ => fun
  | [d1, d2] => { results := [.lit (.bool false)], args := [d1, d2] }
  | _ => none }
def IntervalRootSquaresWrongFalsely : Prop := intervalRootSquaresRow.holds Try.pinned (OpenSpec.ofChange intervalRootSquaresWrong)

/-- 'armplanlaw2.IntervalProducts': WHATEVER THE INPUT: true; the input reads as it did. -/
def intervalProductsSpec : ChangeSpec := { name := "intervalProducts", fn := fun _ => fun
  | [d1, d2, d3, d4, d5, d6, d7] => { results := [.lit (.bool true)], args := [d1, d2, d3, d4, d5, d6, d7] }
  | _ => none }
def intervalProductsRow : OpenClaim := { program := "ytpembaahjokmjaa", sum := "b408e21d44869b5b60cb81e9792f54fd2911f6965301ee309c3f06e8062c7a90", func := "armplan/armplanlaw2.IntervalProducts", spec := "intervalProducts", apart := false }
def IntervalProductsSaid : Prop := intervalProductsRow.holds Try.pinned (OpenSpec.ofChange intervalProductsSpec)

/-- ITS FALSE NEIGHBOUR: 'it returns false'. Refute it at one input. -/
def intervalProductsWrong : ChangeSpec := { name := "intervalProducts", fn := fun _ => fun
  | [d1, d2, d3, d4, d5, d6, d7] => { results := [.lit (.bool false)], args := [d1, d2, d3, d4, d5, d6, d7] }
  | _ => none }
def IntervalProductsWrongFalsely : Prop := intervalProductsRow.holds Try.pinned (OpenSpec.ofChange intervalProductsWrong)

/-- 'armplanlaw2.IntervalMonotone': WHATEVER THE INPUT: true; the input reads as it did. -/
def intervalMonotoneSpec : ChangeSpec := { name := "intervalMonotone", fn := fun _ => fun
  | [d1, d2, d3, d4, d5, d6, d7] => { results := [.lit (.bool true)], args := [d1, d2, d3, d4, d5, d6, d7] }
  | _ => none }
def intervalMonotoneRow : OpenClaim := { program := "ytpembaahjokmjaa", sum := "b408e21d44869b5b60cb81e9792f54fd2911f6965301ee309c3f06e8062c7a90", func := "armplan/armplanlaw2.IntervalMonotone", spec := "intervalMonotone", apart := false }
def IntervalMonotoneSaid : Prop := intervalMonotoneRow.holds Try.pinned (OpenSpec.ofChange intervalMonotoneSpec)

/-- ITS FALSE NEIGHBOUR: 'it returns false'. Refute it at one input. -/
def intervalMonotoneWrong : ChangeSpec := { name := "intervalMonotone", fn := fun _ => fun
  | [d1, d2, d3, d4, d5, d6, d7] => { results := [.lit (.bool false)], args := [d1, d2, d3, d4, d5, d6, d7] }
  | _ => none }
def IntervalMonotoneWrongFalsely : Prop := intervalMonotoneRow.holds Try.pinned (OpenSpec.ofChange intervalMonotoneWrong)

/- THE SECOND FORM. 'bulk': how many values and letters a reading holds, each counted each time it is reached (what is shared counts as often as it is met; a slice's spare places count too). A statement '..UptoSaid' is the law's where the arguments, and the package variables that the reading takes, are together of bulk at most 1048576: NARROWER than '..Said'. Prove '..Said' where nothing that the law and all that it calls make is longer than what came in: it says more and counts as full. Else prove '..UptoSaid'. A law counts once. -/
mutual
def uptoBulk {H : Type} : DataW H → Nat
  | .lit (.string bytes) => bytes.length + 1
  | .lit _ => 1
  | .nil => 1
  | .ptr d => uptoBulk d + 1
  | .slice elems spare => uptoBulkAll elems + uptoBulkAll spare + 1
  | .agg parts => uptoBulkAll parts + 1
  | .iface _ d => uptoBulk d + 1
  | .map entries => uptoBulkEntries entries + 1
  | .held _ => 1
def uptoBulkAll {H : Type} : List (DataW H) → Nat
  | [] => 0
  | d :: r => uptoBulk d + uptoBulkAll r
def uptoBulkEntries {H : Type} : List (Lit × DataW H) → Nat
  | [] => 0
  | x :: r => uptoBulkEntry x + uptoBulkEntries r
def uptoBulkEntry {H : Type} : Lit × DataW H → Nat
  | (.string bytes, d) => bytes.length + uptoBulk d + 1
  | (_, d) => uptoBulk d + 1
 end
def uptoSmall : (H : Type) → List (DataW H) → Bool := fun _ ds => decide (uptoBulkAll ds ≤ 1048576)
def OpenSpec.upto (s : _root_.Go.ChangeSpec) : _root_.Go.OpenSpec := { _root_.Go.OpenSpec.ofChange s with cond := some uptoSmall }

/-- 'armplanlaw2.IntervalSums', WHERE WHAT IT READS IS OF BULK AT MOST 1048576: true; the input reads as it did. -/
def intervalSumsUptoRow : OpenClaim := { program := "ytpembaahjokmjaa", sum := "b408e21d44869b5b60cb81e9792f54fd2911f6965301ee309c3f06e8062c7a90", func := "armplan/armplanlaw2.IntervalSums", spec := "intervalSums", apart := false, narrowed := true }
def IntervalSumsUptoSaid : Prop := intervalSumsUptoRow.holds Try.pinned (OpenSpec.upto intervalSumsSpec)

/-- 'armplanlaw2.IntervalMeets', WHERE WHAT IT READS IS OF BULK AT MOST 1048576: true; the input reads as it did. -/
def intervalMeetsUptoRow : OpenClaim := { program := "ytpembaahjokmjaa", sum := "b408e21d44869b5b60cb81e9792f54fd2911f6965301ee309c3f06e8062c7a90", func := "armplan/armplanlaw2.IntervalMeets", spec := "intervalMeets", apart := false, narrowed := true }
def IntervalMeetsUptoSaid : Prop := intervalMeetsUptoRow.holds Try.pinned (OpenSpec.upto intervalMeetsSpec)

/-- 'armplanlaw2.IntervalEncloses', WHERE WHAT IT READS IS OF BULK AT MOST 1048576: true; the input reads as it did. -/
def intervalEnclosesUptoRow : OpenClaim := { program := "ytpembaahjokmjaa", sum := "b408e21d44869b5b60cb81e9792f54fd2911f6965301ee309c3f06e8062c7a90", func := "armplan/armplanlaw2.IntervalEncloses", spec := "intervalEncloses", apart := false, narrowed := true }
def IntervalEnclosesUptoSaid : Prop := intervalEnclosesUptoRow.holds Try.pinned (OpenSpec.upto intervalEnclosesSpec)

/-- 'armplanlaw2.IntervalSets', WHERE WHAT IT READS IS OF BULK AT MOST 1048576: true; the input reads as it did. -/
def intervalSetsUptoRow : OpenClaim := { program := "ytpembaahjokmjaa", sum := "b408e21d44869b5b60cb81e9792f54fd2911f6965301ee309c3f06e8062c7a90", func := "armplan/armplanlaw2.IntervalSets", spec := "intervalSets", apart := false, narrowed := true }
def IntervalSetsUptoSaid : Prop := intervalSetsUptoRow.holds Try.pinned (OpenSpec.upto intervalSetsSpec)

/-- 'armplanlaw2.IntervalUnits', WHERE WHAT IT READS IS OF BULK AT MOST 1048576: true; the input reads as it did. -/
def intervalUnitsUptoRow : OpenClaim := { program := "ytpembaahjokmjaa", sum := "b408e21d44869b5b60cb81e9792f54fd2911f6965301ee309c3f06e8062c7a90", func := "armplan/armplanlaw2.IntervalUnits", spec := "intervalUnits", apart := false, narrowed := true }
def IntervalUnitsUptoSaid : Prop := intervalUnitsUptoRow.holds Try.pinned (OpenSpec.upto intervalUnitsSpec)

/-- 'armplanlaw2.IntervalRootSquares', WHERE WHAT IT READS IS OF BULK AT MOST 1048576: true; the input reads as it did. -/
def intervalRootSquaresUptoRow : OpenClaim := { program := "ytpembaahjokmjaa", sum := "b408e21d44869b5b60cb81e9792f54fd2911f6965301ee309c3f06e8062c7a90", func := "armplan/armplanlaw2.IntervalRootSquares", spec := "intervalRootSquares", apart := false, narrowed := true }
def IntervalRootSquaresUptoSaid : Prop := intervalRootSquaresUptoRow.holds Try.pinned (OpenSpec.upto intervalRootSquaresSpec)

/-- 'armplanlaw2.IntervalProducts', WHERE WHAT IT READS IS OF BULK AT MOST 1048576: true; the input reads as it did. -/
def intervalProductsUptoRow : OpenClaim := { program := "ytpembaahjokmjaa", sum := "b408e21d44869b5b60cb81e9792f54fd2911f6965301ee309c3f06e8062c7a90", func := "armplan/armplanlaw2.IntervalProducts", spec := "intervalProducts", apart := false, narrowed := true }
def IntervalProductsUptoSaid : Prop := intervalProductsUptoRow.holds Try.pinned (OpenSpec.upto intervalProductsSpec)

/-- 'armplanlaw2.IntervalMonotone', WHERE WHAT IT READS IS OF BULK AT MOST 1048576: true; the input reads as it did. -/
def intervalMonotoneUptoRow : OpenClaim := { program := "ytpembaahjokmjaa", sum := "b408e21d44869b5b60cb81e9792f54fd2911f6965301ee309c3f06e8062c7a90", func := "armplan/armplanlaw2.IntervalMonotone", spec := "intervalMonotone", apart := false, narrowed := true }
def IntervalMonotoneUptoSaid : Prop := intervalMonotoneUptoRow.holds Try.pinned (OpenSpec.upto intervalMonotoneSpec)

end Rows
end Go.Proofs.Ytpembaahjokmjaa
