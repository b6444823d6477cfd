/- The sanity check and the comparisons of the laws on package interval return true. -/
import Derived.Test.YtpembaahjokmjaaIv5
import Derived.Test.YtpembaahjokmjaaMk
import Derived.Test.YtpembaahjokmjaaIvLaws
import Derived.Deep.RegionHeld3
import Derived.Deep.DeepCutAuto
namespace Go.Proofs.Ytpembaahjokmjaa
open Go.RowKit

theorem i64_bd {a : Int} (h : (Lit.int .i64 a).wf = true) : -9223372036854775808 ≤ a ∧ a ≤ 9223372036854775807 := by
  simpa [Lit.wf, IntKind.min, IntKind.max, IntKind.signed, IntKind.bits] using h

@[go_sem] theorem run_field0 (x z : Int) (w : World) : (Instr.field 23 (.agg #[.int .i64 x, .int .i64 z]) 0).run Try.prog w = .ok (.int .i64 x) w := by kernel_rfl
@[go_sem] theorem run_field1 (x z : Int) (w : World) : (Instr.field 23 (.agg #[.int .i64 x, .int .i64 z]) 1).run Try.prog w = .ok (.int .i64 z) w := by kernel_rfl

/-- Two boxes of the call's own hold the two intervals, and nothing that was there has changed. -/
def Box2 (w : World) (a b c d : Int) (w' : World) : Prop := w'.cell? ⟨w.heap.size, 0, none⟩ = some (.int .i64 a) ∧ w'.cell? ⟨w.heap.size, 1, none⟩ = some (.int .i64 b) ∧ w'.cell? ⟨w.heap.size + 1, 0, none⟩ = some (.int .i64 c) ∧ w'.cell? ⟨w.heap.size + 1, 1, none⟩ = some (.int .i64 d) ∧ w.heap.size + 2 ≤ w'.heap.size ∧ Below w.heap.size w w'

theorem Box2.start (w : World) (a b c d : Int) : Box2 w a b c d ((w.alloc (.cells #[.int .i64 a, .int .i64 b] 23)).alloc (.cells #[.int .i64 c, .int .i64 d] 23)) := by
  unfold Box2
  exact ⟨by simp, by simp, by simp, by simp, by simp, (by repeat (first | exact Below.refl _ _ | refine Below.setCell ?_ (by first | (simp; done) | (simp; omega) | omega) _ | refine Below.alloc ?_ (by first | (simp; done) | (simp; omega) | omega) _ | refine below_drewN ?_ _ | refine Below.trans ?_ (Below.mono ‹Below _ _ _› (by first | (simp; done) | (simp; omega) | omega))))⟩

theorem Box2.step {w w1 w2 : World} {a b c d : Int} (h : Box2 w a b c d w1) (hb : Below w1.heap.size w1 w2) : Box2 w a b c d w2 := by
  obtain ⟨h1, h2, h3, h4, h5, h6⟩ := h
  have hs := hb.size
  exact ⟨(hb.cell (by simp; omega)).trans h1, (hb.cell (by simp; omega)).trans h2, (hb.cell (by simp; omega)).trans h3, (hb.cell (by simp; omega)).trans h4, by omega, h6.trans (hb.mono (by omega))⟩

theorem Box2.drewN {w w1 : World} {a b c d : Int} (h : Box2 w a b c d w1) (n : Nat) : Box2 w a b c d (w1.drewN n) := by
  obtain ⟨h1, h2, h3, h4, h5, h6⟩ := h
  exact ⟨h1, h2, h3, h4, h5, below_drewN h6 n⟩

theorem Box2.drew {w w1 : World} {a b c d : Int} (h : Box2 w a b c d w1) : Box2 w a b c d w1.drew := h.drewN 1

theorem awake_any (w : World) :
    Calls Try.prog 12 #[] w fun e w' => e = .returned (.bool true) ∧ Below w.heap.size w w' := by
  have e1 : Fx.mulLo (-3) 5 65536 131072 = -6 := by decide
  have e2 : Fx.mulHi (-3) 5 65536 131072 = 10 := by decide
  have e3 : Fx.addLo (Fx.clamp 2) (Fx.clamp 2) (Fx.clamp 3) (Fx.clamp 3) = Fx.clamp 5 := by decide
  have e4 : Fx.addHi (Fx.clamp 2) (Fx.clamp 2) (Fx.clamp 3) (Fx.clamp 3) = Fx.clamp 5 := by decide
  go_enter Try.func12, Try.ntmps12
  go_wp2_with fail
  refine (mul_any _ _ _ _ _).mono ?_
  rintro e w1 ⟨rfl, hb1⟩
  go_wp2_with fail
  refine (of_any _ _).mono ?_
  rintro e w2 ⟨rfl, hb2⟩
  go_wp2_with fail
  refine (of_any _ _).mono ?_
  rintro e w3 ⟨rfl, hb3⟩
  go_wp2_with fail
  refine (add_any _ _ _ _ _).mono ?_
  rintro e w4 ⟨rfl, hb4⟩
  go_wp2_with fail
  refine (of_any _ _).mono ?_
  rintro e w5 ⟨rfl, hb5⟩
  go_wp2_with fail
  go_ret
  have hz1 := hb1.size
  have hz2 := hb2.size
  have hz3 := hb3.size
  have hz4 := hb4.size
  exact ⟨rfl, (by repeat (first | exact Below.refl _ _ | refine Below.setCell ?_ (by first | (simp; done) | (simp; omega) | omega) _ | refine Below.alloc ?_ (by first | (simp; done) | (simp; omega) | omega) _ | refine below_drewN ?_ _ | refine Below.trans ?_ (Below.mono ‹Below _ _ _› (by first | (simp; done) | (simp; omega) | omega))))⟩

/-- A box of two integers at a block. -/
def Holds (w : World) (b : Nat) (x y : Int) : Prop := w.cell? ⟨b, 0, none⟩ = some (.int .i64 x) ∧ w.cell? ⟨b, 1, none⟩ = some (.int .i64 y) ∧ b < w.heap.size

theorem Holds.step {w1 w2 : World} {b : Nat} {x y : Int} (h : Holds w1 b x y) (hb : Below w1.heap.size w1 w2) : Holds w2 b x y := by
  obtain ⟨h1, h2, h3⟩ := h
  have hs := hb.size
  exact ⟨(hb.cell (by simpa using h3)).trans h1, (hb.cell (by simpa using h3)).trans h2, by omega⟩

theorem Holds.alloc {w : World} {b : Nat} {x y : Int} (h : Holds w b x y) (o : Obj) : Holds (w.alloc o) b x y :=
  h.step (Below.alloc (Below.refl _ _) (Nat.le_refl _) o)

theorem Holds.new (w : World) (x y : Int) (t : TypeId) : Holds (w.alloc (.cells #[.int .i64 x, .int .i64 y] t)) w.heap.size x y := by
  unfold Holds; exact ⟨by simp, by simp, by simp⟩

theorem Holds.new' (w : World) (x y : Int) (t : TypeId) (o : Obj) : Holds ((w.alloc o).alloc (.cells #[.int .i64 x, .int .i64 y] t)) (w.heap.size + 1) x y := by
  have h := Holds.new (w.alloc o) x y t
  simpa using h

theorem Holds.drewN {w : World} {b : Nat} {x y : Int} (h : Holds w b x y) (n : Nat) : Holds (w.drewN n) b x y := h

theorem Holds.setCell {w : World} {b : Nat} {x y : Int} (h : Holds w b x y) (a : Addr) (v : Value) (ha : b ≠ a.block) : Holds (w.setCell a v) b x y := by
  obtain ⟨h1, h2, h3⟩ := h
  refine ⟨?_, ?_, by simpa using h3⟩
  · rw [World.cell?_setCell_far w a ⟨b, 0, none⟩ v (fun e => ha e.symm)]; exact h1
  · rw [World.cell?_setCell_far w a ⟨b, 1, none⟩ v (fun e => ha e.symm)]; exact h2

theorem blt {W w1 : World} (hb : Below W.heap.size W w1) : ∀ b, b < W.heap.size → b < w1.heap.size := fun _ h => Nat.lt_of_lt_of_le h hb.size

theorem ble {W w1 : World} (hb : Below W.heap.size W w1) : ∀ b, b < W.heap.size → b ≤ w1.heap.size := fun b h => Nat.le_of_lt (blt hb b h)

theorem below_step {w w1 w2 : World} (h : Below w.heap.size w w1) (hb : Below w1.heap.size w1 w2) : Below w.heap.size w w2 := h.trans (hb.mono h.size)

theorem below_alloc {w w1 : World} (h : Below w.heap.size w w1) (o : Obj) : Below w.heap.size w (w1.alloc o) := h.alloc h.size o

/-- 1 boxes hold their intervals, and nothing that was there has changed. -/
def Keep1 (w : World) (b1 : Nat) (x1 y1 : Int) (w' : World) : Prop := w'.cell? ⟨b1, 0, none⟩ = some (.int .i64 x1) ∧ w'.cell? ⟨b1, 1, none⟩ = some (.int .i64 y1) ∧ b1 < w'.heap.size ∧ Below w.heap.size w w'

theorem Keep1.of {w w' : World} {b1 : Nat} {x1 y1 : Int} (t1 : Holds w' b1 x1 y1) (hB : Below w.heap.size w w') : Keep1 w b1 x1 y1 w' :=
  ⟨t1.1, t1.2.1, t1.2.2, hB⟩

theorem Keep1.step {w w1 w2 : World} {b1 : Nat} {x1 y1 : Int} (h : Keep1 w b1 x1 y1 w1) (hb : Below w1.heap.size w1 w2) : Keep1 w b1 x1 y1 w2 := by
  obtain ⟨c1, d1, s1, hB⟩ := h
  exact Keep1.of (Holds.step ⟨c1, d1, s1⟩ hb) (below_step hB hb)

theorem Keep1.drewN {w w1 : World} {b1 : Nat} {x1 y1 : Int} (h : Keep1 w b1 x1 y1 w1) (k : Nat) : Keep1 w b1 x1 y1 (w1.drewN k) := h.step (below_drewN (Below.refl _ _) k)

theorem Keep1.alloc {w w1 : World} {b1 : Nat} {x1 y1 : Int} (h : Keep1 w b1 x1 y1 w1) (o : Obj) : Keep1 w b1 x1 y1 (w1.alloc o) := h.step (Below.alloc (Below.refl _ _) (Nat.le_refl _) o)

theorem Keep1.setCell {w w1 : World} {b1 : Nat} {x1 y1 : Int} (h : Keep1 w b1 x1 y1 w1) (a : Addr) (v : Value) (ha : w.heap.size ≤ a.block) (n1 : b1 ≠ a.block) : Keep1 w b1 x1 y1 (w1.setCell a v) := by
  obtain ⟨c1, d1, s1, hB⟩ := h
  exact Keep1.of (Holds.setCell ⟨c1, d1, s1⟩ a v n1) (hB.setCell ha v)

theorem Keep1.drew {w w1 : World} {b1 : Nat} {x1 y1 : Int} (h : Keep1 w b1 x1 y1 w1) : Keep1 w b1 x1 y1 w1.drew := h.drewN 1

/-- 2 boxes hold their intervals, and nothing that was there has changed. -/
def Keep2 (w : World) (b1 : Nat) (x1 y1 : Int) (b2 : Nat) (x2 y2 : Int) (w' : World) : Prop := w'.cell? ⟨b1, 0, none⟩ = some (.int .i64 x1) ∧ w'.cell? ⟨b1, 1, none⟩ = some (.int .i64 y1) ∧ w'.cell? ⟨b2, 0, none⟩ = some (.int .i64 x2) ∧ w'.cell? ⟨b2, 1, none⟩ = some (.int .i64 y2) ∧ b1 < w'.heap.size ∧ b2 < w'.heap.size ∧ Below w.heap.size w w'

theorem Keep2.of {w w' : World} {b1 : Nat} {x1 y1 : Int} {b2 : Nat} {x2 y2 : Int} (t1 : Holds w' b1 x1 y1) (t2 : Holds w' b2 x2 y2) (hB : Below w.heap.size w w') : Keep2 w b1 x1 y1 b2 x2 y2 w' :=
  ⟨t1.1, t1.2.1, t2.1, t2.2.1, t1.2.2, t2.2.2, hB⟩

theorem Keep2.step {w w1 w2 : World} {b1 : Nat} {x1 y1 : Int} {b2 : Nat} {x2 y2 : Int} (h : Keep2 w b1 x1 y1 b2 x2 y2 w1) (hb : Below w1.heap.size w1 w2) : Keep2 w b1 x1 y1 b2 x2 y2 w2 := by
  obtain ⟨c1, d1, c2, d2, s1, s2, hB⟩ := h
  exact Keep2.of (Holds.step ⟨c1, d1, s1⟩ hb) (Holds.step ⟨c2, d2, s2⟩ hb) (below_step hB hb)

theorem Keep2.drewN {w w1 : World} {b1 : Nat} {x1 y1 : Int} {b2 : Nat} {x2 y2 : Int} (h : Keep2 w b1 x1 y1 b2 x2 y2 w1) (k : Nat) : Keep2 w b1 x1 y1 b2 x2 y2 (w1.drewN k) := h.step (below_drewN (Below.refl _ _) k)

theorem Keep2.alloc {w w1 : World} {b1 : Nat} {x1 y1 : Int} {b2 : Nat} {x2 y2 : Int} (h : Keep2 w b1 x1 y1 b2 x2 y2 w1) (o : Obj) : Keep2 w b1 x1 y1 b2 x2 y2 (w1.alloc o) := h.step (Below.alloc (Below.refl _ _) (Nat.le_refl _) o)

theorem Keep2.setCell {w w1 : World} {b1 : Nat} {x1 y1 : Int} {b2 : Nat} {x2 y2 : Int} (h : Keep2 w b1 x1 y1 b2 x2 y2 w1) (a : Addr) (v : Value) (ha : w.heap.size ≤ a.block) (n1 : b1 ≠ a.block) (n2 : b2 ≠ a.block) : Keep2 w b1 x1 y1 b2 x2 y2 (w1.setCell a v) := by
  obtain ⟨c1, d1, c2, d2, s1, s2, hB⟩ := h
  exact Keep2.of (Holds.setCell ⟨c1, d1, s1⟩ a v n1) (Holds.setCell ⟨c2, d2, s2⟩ a v n2) (hB.setCell ha v)

theorem Keep2.drew {w w1 : World} {b1 : Nat} {x1 y1 : Int} {b2 : Nat} {x2 y2 : Int} (h : Keep2 w b1 x1 y1 b2 x2 y2 w1) : Keep2 w b1 x1 y1 b2 x2 y2 w1.drew := h.drewN 1

/-- 3 boxes hold their intervals, and nothing that was there has changed. -/
def Keep3 (w : World) (b1 : Nat) (x1 y1 : Int) (b2 : Nat) (x2 y2 : Int) (b3 : Nat) (x3 y3 : Int) (w' : World) : Prop := w'.cell? ⟨b1, 0, none⟩ = some (.int .i64 x1) ∧ w'.cell? ⟨b1, 1, none⟩ = some (.int .i64 y1) ∧ w'.cell? ⟨b2, 0, none⟩ = some (.int .i64 x2) ∧ w'.cell? ⟨b2, 1, none⟩ = some (.int .i64 y2) ∧ w'.cell? ⟨b3, 0, none⟩ = some (.int .i64 x3) ∧ w'.cell? ⟨b3, 1, none⟩ = some (.int .i64 y3) ∧ b1 < w'.heap.size ∧ b2 < w'.heap.size ∧ b3 < w'.heap.size ∧ Below w.heap.size w w'

theorem Keep3.of {w w' : World} {b1 : Nat} {x1 y1 : Int} {b2 : Nat} {x2 y2 : Int} {b3 : Nat} {x3 y3 : Int} (t1 : Holds w' b1 x1 y1) (t2 : Holds w' b2 x2 y2) (t3 : Holds w' b3 x3 y3) (hB : Below w.heap.size w w') : Keep3 w b1 x1 y1 b2 x2 y2 b3 x3 y3 w' :=
  ⟨t1.1, t1.2.1, t2.1, t2.2.1, t3.1, t3.2.1, t1.2.2, t2.2.2, t3.2.2, hB⟩

theorem Keep3.step {w w1 w2 : World} {b1 : Nat} {x1 y1 : Int} {b2 : Nat} {x2 y2 : Int} {b3 : Nat} {x3 y3 : Int} (h : Keep3 w b1 x1 y1 b2 x2 y2 b3 x3 y3 w1) (hb : Below w1.heap.size w1 w2) : Keep3 w b1 x1 y1 b2 x2 y2 b3 x3 y3 w2 := by
  obtain ⟨c1, d1, c2, d2, c3, d3, s1, s2, s3, hB⟩ := h
  exact Keep3.of (Holds.step ⟨c1, d1, s1⟩ hb) (Holds.step ⟨c2, d2, s2⟩ hb) (Holds.step ⟨c3, d3, s3⟩ hb) (below_step hB hb)

theorem Keep3.drewN {w w1 : World} {b1 : Nat} {x1 y1 : Int} {b2 : Nat} {x2 y2 : Int} {b3 : Nat} {x3 y3 : Int} (h : Keep3 w b1 x1 y1 b2 x2 y2 b3 x3 y3 w1) (k : Nat) : Keep3 w b1 x1 y1 b2 x2 y2 b3 x3 y3 (w1.drewN k) := h.step (below_drewN (Below.refl _ _) k)

theorem Keep3.alloc {w w1 : World} {b1 : Nat} {x1 y1 : Int} {b2 : Nat} {x2 y2 : Int} {b3 : Nat} {x3 y3 : Int} (h : Keep3 w b1 x1 y1 b2 x2 y2 b3 x3 y3 w1) (o : Obj) : Keep3 w b1 x1 y1 b2 x2 y2 b3 x3 y3 (w1.alloc o) := h.step (Below.alloc (Below.refl _ _) (Nat.le_refl _) o)

theorem Keep3.setCell {w w1 : World} {b1 : Nat} {x1 y1 : Int} {b2 : Nat} {x2 y2 : Int} {b3 : Nat} {x3 y3 : Int} (h : Keep3 w b1 x1 y1 b2 x2 y2 b3 x3 y3 w1) (a : Addr) (v : Value) (ha : w.heap.size ≤ a.block) (n1 : b1 ≠ a.block) (n2 : b2 ≠ a.block) (n3 : b3 ≠ a.block) : Keep3 w b1 x1 y1 b2 x2 y2 b3 x3 y3 (w1.setCell a v) := by
  obtain ⟨c1, d1, c2, d2, c3, d3, s1, s2, s3, hB⟩ := h
  exact Keep3.of (Holds.setCell ⟨c1, d1, s1⟩ a v n1) (Holds.setCell ⟨c2, d2, s2⟩ a v n2) (Holds.setCell ⟨c3, d3, s3⟩ a v n3) (hB.setCell ha v)

theorem Keep3.drew {w w1 : World} {b1 : Nat} {x1 y1 : Int} {b2 : Nat} {x2 y2 : Int} {b3 : Nat} {x3 y3 : Int} (h : Keep3 w b1 x1 y1 b2 x2 y2 b3 x3 y3 w1) : Keep3 w b1 x1 y1 b2 x2 y2 b3 x3 y3 w1.drew := h.drewN 1

/-- 4 boxes hold their intervals, and nothing that was there has changed. -/
def Keep4 (w : World) (b1 : Nat) (x1 y1 : Int) (b2 : Nat) (x2 y2 : Int) (b3 : Nat) (x3 y3 : Int) (b4 : Nat) (x4 y4 : Int) (w' : World) : Prop := w'.cell? ⟨b1, 0, none⟩ = some (.int .i64 x1) ∧ w'.cell? ⟨b1, 1, none⟩ = some (.int .i64 y1) ∧ w'.cell? ⟨b2, 0, none⟩ = some (.int .i64 x2) ∧ w'.cell? ⟨b2, 1, none⟩ = some (.int .i64 y2) ∧ w'.cell? ⟨b3, 0, none⟩ = some (.int .i64 x3) ∧ w'.cell? ⟨b3, 1, none⟩ = some (.int .i64 y3) ∧ w'.cell? ⟨b4, 0, none⟩ = some (.int .i64 x4) ∧ w'.cell? ⟨b4, 1, none⟩ = some (.int .i64 y4) ∧ b1 < w'.heap.size ∧ b2 < w'.heap.size ∧ b3 < w'.heap.size ∧ b4 < w'.heap.size ∧ Below w.heap.size w w'

theorem Keep4.of {w w' : World} {b1 : Nat} {x1 y1 : Int} {b2 : Nat} {x2 y2 : Int} {b3 : Nat} {x3 y3 : Int} {b4 : Nat} {x4 y4 : Int} (t1 : Holds w' b1 x1 y1) (t2 : Holds w' b2 x2 y2) (t3 : Holds w' b3 x3 y3) (t4 : Holds w' b4 x4 y4) (hB : Below w.heap.size w w') : Keep4 w b1 x1 y1 b2 x2 y2 b3 x3 y3 b4 x4 y4 w' :=
  ⟨t1.1, t1.2.1, t2.1, t2.2.1, t3.1, t3.2.1, t4.1, t4.2.1, t1.2.2, t2.2.2, t3.2.2, t4.2.2, hB⟩

theorem Keep4.step {w w1 w2 : World} {b1 : Nat} {x1 y1 : Int} {b2 : Nat} {x2 y2 : Int} {b3 : Nat} {x3 y3 : Int} {b4 : Nat} {x4 y4 : Int} (h : Keep4 w b1 x1 y1 b2 x2 y2 b3 x3 y3 b4 x4 y4 w1) (hb : Below w1.heap.size w1 w2) : Keep4 w b1 x1 y1 b2 x2 y2 b3 x3 y3 b4 x4 y4 w2 := by
  obtain ⟨c1, d1, c2, d2, c3, d3, c4, d4, s1, s2, s3, s4, hB⟩ := h
  exact Keep4.of (Holds.step ⟨c1, d1, s1⟩ hb) (Holds.step ⟨c2, d2, s2⟩ hb) (Holds.step ⟨c3, d3, s3⟩ hb) (Holds.step ⟨c4, d4, s4⟩ hb) (below_step hB hb)

theorem Keep4.drewN {w w1 : World} {b1 : Nat} {x1 y1 : Int} {b2 : Nat} {x2 y2 : Int} {b3 : Nat} {x3 y3 : Int} {b4 : Nat} {x4 y4 : Int} (h : Keep4 w b1 x1 y1 b2 x2 y2 b3 x3 y3 b4 x4 y4 w1) (k : Nat) : Keep4 w b1 x1 y1 b2 x2 y2 b3 x3 y3 b4 x4 y4 (w1.drewN k) := h.step (below_drewN (Below.refl _ _) k)

theorem Keep4.alloc {w w1 : World} {b1 : Nat} {x1 y1 : Int} {b2 : Nat} {x2 y2 : Int} {b3 : Nat} {x3 y3 : Int} {b4 : Nat} {x4 y4 : Int} (h : Keep4 w b1 x1 y1 b2 x2 y2 b3 x3 y3 b4 x4 y4 w1) (o : Obj) : Keep4 w b1 x1 y1 b2 x2 y2 b3 x3 y3 b4 x4 y4 (w1.alloc o) := h.step (Below.alloc (Below.refl _ _) (Nat.le_refl _) o)

theorem Keep4.setCell {w w1 : World} {b1 : Nat} {x1 y1 : Int} {b2 : Nat} {x2 y2 : Int} {b3 : Nat} {x3 y3 : Int} {b4 : Nat} {x4 y4 : Int} (h : Keep4 w b1 x1 y1 b2 x2 y2 b3 x3 y3 b4 x4 y4 w1) (a : Addr) (v : Value) (ha : w.heap.size ≤ a.block) (n1 : b1 ≠ a.block) (n2 : b2 ≠ a.block) (n3 : b3 ≠ a.block) (n4 : b4 ≠ a.block) : Keep4 w b1 x1 y1 b2 x2 y2 b3 x3 y3 b4 x4 y4 (w1.setCell a v) := by
  obtain ⟨c1, d1, c2, d2, c3, d3, c4, d4, s1, s2, s3, s4, hB⟩ := h
  exact Keep4.of (Holds.setCell ⟨c1, d1, s1⟩ a v n1) (Holds.setCell ⟨c2, d2, s2⟩ a v n2) (Holds.setCell ⟨c3, d3, s3⟩ a v n3) (Holds.setCell ⟨c4, d4, s4⟩ a v n4) (hB.setCell ha v)

theorem Keep4.drew {w w1 : World} {b1 : Nat} {x1 y1 : Int} {b2 : Nat} {x2 y2 : Int} {b3 : Nat} {x3 y3 : Int} {b4 : Nat} {x4 y4 : Int} (h : Keep4 w b1 x1 y1 b2 x2 y2 b3 x3 y3 b4 x4 y4 w1) : Keep4 w b1 x1 y1 b2 x2 y2 b3 x3 y3 b4 x4 y4 w1.drew := h.drewN 1

theorem sums_any (a b c d : Int) (w : World) :
    Calls Try.prog 13 #[.agg #[.int .i64 a, .int .i64 b], .agg #[.int .i64 c, .int .i64 d]] w fun e w' => e = .returned (.bool true) ∧ Below w.heap.size w w' := by
  go_enter Try.func13, Try.ntmps13
  go_wp2_with fail
  have hB := Box2.start w a b c d
  go_region_held3 (fun w' => w'.cell? ⟨w.heap.size, 0, none⟩ = some (.int .i64 a) ∧ w'.cell? ⟨w.heap.size, 1, none⟩ = some (.int .i64 b) ∧ w'.cell? ⟨w.heap.size + 1, 0, none⟩ = some (.int .i64 c) ∧ w'.cell? ⟨w.heap.size + 1, 1, none⟩ = some (.int .i64 d) ∧ w.heap.size + 2 ≤ w'.heap.size ∧ Below w.heap.size w w') (first | exact Box2.step (by assumption) (by assumption) | exact Box2.start _ _ _ _ _ | exact Box2.drewN (by assumption) _ | exact Box2.drew (by assumption)) (first | (go_at_call 16; refine (valid_any _ _ _).mono ?_; rintro e w' ⟨rfl, hb⟩) | (go_at_call 36; refine (rvalid_any _ _ _).mono ?_; rintro e w' ⟨rfl, hb⟩) | (go_at_call 24; refine (add_any _ _ _ _ _).mono ?_; rintro e w' ⟨rfl, hb⟩) | (go_at_call 37; refine (radd_any _ _ _ _ _).mono ?_; rintro e w' ⟨rfl, hb⟩) | (go_at_call 25; refine (sub_any _ _ _ _ _).mono ?_; rintro e w' ⟨rfl, hb⟩) | (go_at_call 38; refine (rsub_any _ _ _ _ _).mono ?_; rintro e w' ⟨rfl, hb⟩) | (go_at_call 30; refine (neg_any _ _ _).mono ?_; rintro e w' ⟨rfl, hb⟩) | (go_at_call 39; refine (rneg_any _ _ _).mono ?_; rintro e w' ⟨rfl, hb⟩))
  go_wp2_with fail
  go_ret
  rename_i hH
  exact ⟨rfl, hH.2.2.2.2.2⟩

theorem products_any (a b c d x : Int) (w : World) :
    Calls Try.prog 34 #[.agg #[.int .i64 a, .int .i64 b], .agg #[.int .i64 c, .int .i64 d], .int .i64 x] w fun e w' => e = .returned (.bool true) ∧ Below w.heap.size w w' := by
  go_enter Try.func34, Try.ntmps34
  go_wp2_with fail
  have hB := Box2.start w a b c d
  go_region_held3 (fun w' => w'.cell? ⟨w.heap.size, 0, none⟩ = some (.int .i64 a) ∧ w'.cell? ⟨w.heap.size, 1, none⟩ = some (.int .i64 b) ∧ w'.cell? ⟨w.heap.size + 1, 0, none⟩ = some (.int .i64 c) ∧ w'.cell? ⟨w.heap.size + 1, 1, none⟩ = some (.int .i64 d) ∧ w.heap.size + 2 ≤ w'.heap.size ∧ Below w.heap.size w w') (first | exact Box2.step (by assumption) (by assumption) | exact Box2.start _ _ _ _ _ | exact Box2.drewN (by assumption) _ | exact Box2.drew (by assumption)) (first | (go_at_call 26; refine (mul_any _ _ _ _ _).mono ?_; rintro e w' ⟨rfl, hb⟩) | (go_at_call 56; refine (rmul_any _ _ _ _ _).mono ?_; rintro e w' ⟨rfl, hb⟩) | (go_at_call 32; refine (scale_any _ _ _ _).mono ?_; rintro e w' ⟨rfl, hb⟩) | (go_at_call 57; refine (rscale_any _ _ _ _).mono ?_; rintro e w' ⟨rfl, hb⟩) | (go_at_call 29; refine (square_any _ _ _).mono ?_; rintro e w' ⟨rfl, hb⟩) | (go_at_call 58; refine (rsquare_any _ _ _).mono ?_; rintro e w' ⟨rfl, hb⟩) | (go_at_call 33; refine (sqrt_any _ _ _).mono ?_; rintro e w' ⟨rfl, hb⟩) | (go_at_call 59; refine (rsqrt_any _ _ _).mono ?_; rintro e w' ⟨rfl, hb⟩))
  go_wp2_with fail
  go_ret
  rename_i hH
  exact ⟨rfl, hH.2.2.2.2.2⟩

theorem holds_any (l h x : Int) (w : World) (hx : Fx.holdsB l h x = true) :
    Calls Try.prog 23 #[.agg #[.int .i64 l, .int .i64 h], .int .i64 x] w fun e w' => e = .returned (.bool true) ∧ Below w.heap.size w w' := by
  unfold Fx.holdsB at hx
  by_cases c0 : x < -2147483648
  · clear hx
    go_enter Try.func23, Try.ntmps23
    go_wp2
    go_ret
    exact ⟨rfl, (Below.refl _ _).alloc (Nat.le_refl _) _⟩
  · by_cases c1 : 2147483648 < x
    · clear hx
      go_enter Try.func23, Try.ntmps23
      go_wp2
      go_ret
      exact ⟨rfl, (Below.refl _ _).alloc (Nat.le_refl _) _⟩
    · have c2 : l ≤ x := by simp at hx; omega
      have c3 : x ≤ h := by simp at hx; omega
      have d2 : decide (l ≤ x) = true := by simpa using c2
      have d3 : decide (x ≤ h) = true := by simpa using c3
      clear hx
      go_enter Try.func23, Try.ntmps23
      go_wp2
      go_ret
      exact ⟨rfl, (Below.refl _ _).alloc (Nat.le_refl _) _⟩
end Go.Proofs.Ytpembaahjokmjaa
