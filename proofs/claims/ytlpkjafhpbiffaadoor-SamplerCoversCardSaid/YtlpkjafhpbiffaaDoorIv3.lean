/- Contracts of package interval, third part: intersection, scaling, squares, roots, products. -/
import Derived.Test.YtlpkjafhpbiffaaDoorIv2
import Derived.Test.YtlpkjafhpbiffaaDoorRoot
import Derived.Deep.RegionHeld3
namespace Go.Proofs.YtlpkjafhpbiffaaDoor
open Go.RowKit







theorem qsame {P : Program} {f : FuncId} {args : Array Value} {w : World} {n : Nat} {v : Value}
    (h : Calls P f args (w.drewN n) fun e w' => e = .returned v ∧ w.drewN n = w') : Calls P f args (w.drewN n) fun e w'' => e = .returned v ∧ ∃ m, w'' = w.drewN m :=
  h.mono fun _ _ ⟨he, hm⟩ => ⟨he, n, hm.symm⟩









end Go.Proofs.YtlpkjafhpbiffaaDoor
