/- Contracts of package interval, third part: intersection, scaling, squares, roots, products. -/
import Derived.Test.YtgnjconhbloocaaIv2
import Derived.Deep.RegionHeld3
namespace Go.Proofs.Ytgnjconhbloocaa
open Go.RowKit





theorem scaled_any (l h : Int) (w : World) (h0 : -9223372036854775808 ≤ h) (h1 : h ≤ 9223372036854775807) :
    Calls Try.prog 94 #[.int .i64 l, .int .i64 h] w fun e w' => e = .returned (.agg #[.int .i64 (Fx.clamp (l / 65536)), .int .i64 (Fx.clamp (Fx.ce h 65536))]) ∧ Below w.heap.size w w' := by
  go_enter Try.func94, Try.ntmps94
  go_wp2_with fail
  refine (sdown16 _ _).mono ?_
  rintro e w' ⟨rfl, rfl⟩
  go_wp2_with fail
  refine (sup16 _ _ h0 h1).mono ?_
  rintro e w' ⟨rfl, rfl⟩
  go_wp2_with fail
  refine (limited_any _ _ _).mono ?_
  rintro e w1 ⟨rfl, hb1⟩
  obtain ⟨hc1, hf1⟩ := bcell hb1
  have hz1 := hb1.size
  try simp at hz1
  have hz1a : w.heap.size < w1.heap.size := by omega
  go_wp2_with fail
  exact bodyPost_ret (v := .agg #[.int .i64 (Fx.clamp (l / 65536)), .int .i64 (Fx.clamp (Fx.ce h 65536))]) (by simp [results, Try.results94, go_sem, *]) rfl ⟨rfl, (by repeat (first | exact Below.refl _ _ | refine Below.setCell ?_ (by first | (simp; done) | (simp; omega) | omega) _ | refine Below.alloc ?_ (by first | (simp; done) | (simp; omega) | omega) _ | refine below_drewN ?_ _ | refine Below.trans ?_ (Below.mono ‹Below _ _ _› (by first | (simp; done) | (simp; omega) | omega))))⟩

theorem qsame {P : Program} {f : FuncId} {args : Array Value} {w : World} {n : Nat} {v : Value}
    (h : Calls P f args (w.drewN n) fun e w' => e = .returned v ∧ w.drewN n = w') : Calls P f args (w.drewN n) fun e w'' => e = .returned v ∧ ∃ m, w'' = w.drewN m :=
  h.mono fun _ _ ⟨he, hm⟩ => ⟨he, n, hm.symm⟩









end Go.Proofs.Ytgnjconhbloocaa
