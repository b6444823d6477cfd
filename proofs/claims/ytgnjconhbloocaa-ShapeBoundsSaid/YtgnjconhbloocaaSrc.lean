/- The makers' source of numbers: what it holds, and what Next, Signed and From do. -/
import Derived.Test.YtgnjconhbloocaaMk
import Derived.Test.YtgnjconhbloocaaMem
import Derived.Test.YtgnjconhbloocaaIntRow
import Derived.Outline
import Derived.StillTailTactics
namespace Go.Proofs.Ytgnjconhbloocaa
open Go.RowKit
set_option linter.unusedVariables false

/-- Block g holds a source of numbers whose list lies below block B; g itself does not. -/
def Src (w : World) (B g : Nat) : Prop :=
  B ≤ g ∧ ∃ (a : Option Addr) (xs : List Int) (c pos : Nat), Whole w g 87 #[.slice a xs.length c, .int .i64 pos] ∧ pos ≤ xs.length ∧ xs.length ≤ 9223372036854775807 ∧
    (0 < xs.length → ∃ b o, a = some ⟨b, o, none⟩ ∧ b < B ∧ ∀ i : Nat, i < xs.length → w.cell? ⟨b, o + i, none⟩ = some (.int .i64 (xs.getD i 0)))

/-- A number from 0 to k - 1 is returned; only the source's block, and what is new, has changed. -/
def Drawn (B g : Nat) (lo hi : Int) (w : World) (e : Ending) (w' : World) : Prop := ∃ v : Int, lo ≤ v ∧ v < hi ∧ e = .returned (.int .i64 v) ∧ Src w' B g ∧ w.grownBy w' (some g)

theorem grown_refl (w : World) (row : Option Nat) : w.grownBy w row := ⟨rfl, rfl, rfl, Nat.le_refl _, fun _ _ _ => rfl⟩
theorem grown_drewN {a w : World} {row : Option Nat} (h : a.grownBy w row) (n : Nat) : a.grownBy (w.drewN n) row := ⟨h.os, h.tape, h.output, h.size, h.block⟩
theorem grown_drew {a w : World} {row : Option Nat} (h : a.grownBy w row) : a.grownBy w.drew row := ⟨h.os, h.tape, h.output, h.size, h.block⟩
theorem grown_alloc {a w : World} {row : Option Nat} (h : a.grownBy w row) (o : Obj) : a.grownBy (w.alloc o) row :=
  ⟨h.os, h.tape, h.output, Nat.le_trans h.size (by simp), fun i hi hne => (Below.heap_alloc w o i (Nat.lt_of_lt_of_le hi h.size)).trans (h.block i hi hne)⟩
theorem grown_trans {a b c : World} {row : Option Nat} (h : a.grownBy b row) (k : b.grownBy c row) : a.grownBy c row :=
  ⟨k.os.trans h.os, k.tape.trans h.tape, k.output.trans h.output, Nat.le_trans h.size k.size, fun i hi hne => (k.block i (Nat.lt_of_lt_of_le hi h.size) hne).trans (h.block i hi hne)⟩
theorem grown_set {a w : World} {g : Nat} (h : a.grownBy w (some g)) {p : Addr} (hp : p.block = g ∨ a.heap.size ≤ p.block) (u : Value) : a.grownBy (w.setCell p u) (some g) :=
  ⟨h.os, h.tape, h.output, by simpa [World.setCell] using h.size, fun i hi hne => (Below.heap_setCell w p u i (by
    rintro rfl
    rcases hp with hp | hp
    · exact hne (by rw [hp])
    · omega)).trans (h.block i hi hne)⟩
theorem grown_below {a w : World} (h : Below a.heap.size a w) (row : Option Nat) : a.grownBy w row := ⟨h.os, h.tape, h.output, h.size, fun i hi _ => h.block i hi⟩
/-- What changes one block of the call's own alone changes nothing below. -/
theorem below_grown {B g : Nat} {a b c : World} (h : Below B a b) (hB : B ≤ a.heap.size) (hg : B ≤ g) (k : b.grownBy c (some g)) : Below B a c :=
  h.grown k (Nat.le_trans hB h.size) (fun r hr => by injection hr with hr; omega)

theorem Src.lt {w : World} {B g : Nat} (h : Src w B g) : g < w.heap.size := by
  obtain ⟨_, a, xs, c, pos, hW, _⟩ := h
  exact hW.lt

theorem Src.le {w : World} {B g : Nat} (h : Src w B g) : B ≤ w.heap.size := by have := h.lt; have := h.1; omega

/-- A source stays one behind whatever leaves its block and all below B alone. -/
theorem Src.keep {w w' : World} {B g : Nat} (h : Src w B g) (hg : w'.heap[g]? = w.heap[g]?) (hb : Below B w w') : Src w' B g := by
  obtain ⟨h0, a, xs, c, pos, hW, h1, h2, h3⟩ := h
  exact ⟨h0, a, xs, c, pos, hg.trans hW, h1, h2, fun hp => by
    obtain ⟨b, o, ha, hbB, hc⟩ := h3 hp
    exact ⟨b, o, ha, hbB, fun i hi => (hb.cell (p := ⟨b, o + i, none⟩) hbB).trans (hc i hi)⟩⟩

theorem Src.ext {w w' : World} {B g : Nat} (h : Src w B g) (hb : Below w.heap.size w w') : Src w' B g :=
  h.keep (hb.block g h.lt) (hb.mono h.le)
theorem Src.alloc {w : World} {B g : Nat} (h : Src w B g) (o : Obj) : Src (w.alloc o) B g := h.ext (ext_alloc (ext_refl _) _)
theorem Src.drewN {w : World} {B g : Nat} (h : Src w B g) (n : Nat) : Src (w.drewN n) B g := h.ext (ext_drewN (ext_refl _) _)
/-- Behind an append onto a row of the call's own. -/
theorem Src.grown {w w' : World} {B g : Nat} {row : Option Nat} (h : Src w B g) (hg : w.grownBy w' row) (hne : some g ≠ row) (hr : ∀ k, row = some k → B ≤ k) : Src w' B g :=
  h.keep (hg.block g h.lt hne) ((Below.refl _ _).grown hg h.le hr)

set_option maxHeartbeats 1000000 in
theorem next_any (B g : Nat) (k : Int) (w : World) (hs : Src w B g) (hk : 0 < k) (hk1 : k ≤ 9223372036854775807) :
    Calls Try.prog 26 #[.pointer (some ⟨g, 0, none⟩), .int .i64 k] w (Drawn B g 0 k w) := by
  obtain ⟨h0, a, xs, c, pos, hW, h1, h2, h3⟩ := hs
  have c0 : _ = some (Value.slice a xs.length c) := hW.cell 0
  have c1 : _ = some (Value.int .i64 pos) := hW.cell 1
  have f1 := hW.frozen 1
  have HW := Lib.hid hW
  by_cases hp : pos < xs.length
  · obtain ⟨b, o, rfl, hbB, hc⟩ := h3 (by omega)
    have hx := hc pos hp
    have hd : decide ((xs.length : Int) ≤ (pos : Int)) = false := by simp; omega
    have HC := Lib.hid hc
    clear h3 hc hW
    go_enter Try.func26, Try.ntmps26
    go_wp2_with fail
    go_quiet (fail)
    go_wp2_with fail
    have hW2 : Whole ((w.drewN nq).setCell ⟨g, 1, none⟩ (.int .i64 (↑pos + 1))) g 87 #[.slice (some ⟨b, o, none⟩) xs.length c, .int .i64 (↑pos + 1)] := (HW.out.drewN nq).store 1 (.int .i64 (↑pos + 1))
    have hG2 : w.grownBy ((w.drewN nq).setCell ⟨g, 1, none⟩ (.int .i64 (↑pos + 1))) (some g) := grown_set (grown_drewN (grown_refl _ _) _) (.inl rfl) _
    generalize (w.drewN nq).setCell ⟨g, 1, none⟩ (.int .i64 (↑pos + 1)) = w2 at *
    have hbg : some b ≠ some g := fun e => by injection e with e; omega
    have hbw : b < w.heap.size := World.block_lt_of_cell? w _ hx
    have hx2 := (hG2.cell_far ⟨b, o + pos, none⟩ hbw hbg).trans hx
    have HC2 : Hid (∀ i : Nat, i < xs.length → w2.cell? ⟨b, o + i, none⟩ = some (.int .i64 (xs.getD i 0))) := Lib.hid fun i hi => (hG2.cell_far ⟨b, o + i, none⟩ hbw hbg).trans (HC.out i hi)
    have d0 : _ = some (Value.slice (some ⟨b, o, none⟩) xs.length c) := hW2.cell 0
    have d1 : _ = some (Value.int .i64 (↑pos + 1)) := hW2.cell 1
    have HW2 := Lib.hid hW2
    have HG2 := Lib.hid hG2
    have v0 := Int.emod_nonneg (xs.getD pos 0) (show k ≠ 0 by omega)
    have v1 := Int.emod_lt_of_pos (xs.getD pos 0) hk
    generalize xs.getD pos 0 = x at *
    clear hW2 hG2 hx HC HW c0 c1 f1 hbg
    have e1 : IntKind.i64.wrap ((pos : Int) + 1 - 1) = pos := by rw [IntKind.wrap_i64]; omega
    have e2 : (0 : Int) ≤ (pos : Int) := by omega
    have e3 : (pos : Int) < (xs.length : Int) := by omega
    go_quiet ((go_at_call 17; exact qsame (round_any _ _ _ hk hk1)))
    clear e1
    go_wp2_with fail
    go_ret
    exact ⟨x % k, v0, v1, rfl, ⟨h0, some ⟨b, o, none⟩, xs, c, pos + 1, HW2.out.drewN _, by omega, h2, fun _ => ⟨b, o, rfl, hbB, HC2.out⟩⟩, grown_drewN HG2.out _⟩
  · have hd : decide ((xs.length : Int) ≤ (pos : Int)) = true := by simp; omega
    have H3 := Lib.hid h3
    clear h3 hW
    go_enter Try.func26, Try.ntmps26
    go_wp2_with fail
    go_quiet (fail)
    go_wp2_with fail
    go_ret
    exact ⟨0, by omega, hk, rfl, ⟨h0, a, xs, c, pos, HW.out.drewN _, h1, h2, H3.out⟩, grown_drewN (grown_refl _ _) _⟩

theorem signed_any (B g : Nat) (k : Int) (w : World) (hs : Src w B g) (hk : 0 ≤ k) (hk1 : k ≤ 4611686018427387903) :
    Calls Try.prog 29 #[.pointer (some ⟨g, 0, none⟩), .int .i64 k] w (Drawn B g (-k) (k + 1) w) := by
  have HS := Lib.hid hs; clear hs
  go_enter Try.func29, Try.ntmps29
  go_wp2_with fail
  refine (next_any B g _ _ HS.out (by omega) (by omega)).mono ?_
  rintro e w' ⟨v, v0, v1, rfl, hs', hg⟩
  have HS' := Lib.hid hs'
  clear hs'
  go_wp2_with fail
  go_ret
  exact ⟨v - k, by omega, by omega, rfl, HS'.out, hg⟩

/-- A new source is returned: the block next behind what was there. -/
theorem from_any (v : Value) (xs : List Int) (w : World) (h : IntSl w v xs) :
    Calls Try.prog 22 #[v] w fun e w' => e = .returned (.pointer (some ⟨w.heap.size, 0, none⟩)) ∧ Src w' w.heap.size w.heap.size ∧ Below w.heap.size w w' := by
  obtain ⟨a, c, rfl, hl, h⟩ := h
  go_enter Try.func22, Try.ntmps22
  go_wp2
  go_ret
  refine ⟨rfl, ⟨Nat.le_refl _, a, xs, c, 0, Whole.new _ _ _, Nat.zero_le _, hl, fun hp => ?_⟩, ext_alloc (ext_refl _) _⟩
  obtain ⟨b, o, ha, hb, hc⟩ := h hp
  exact ⟨b, o, ha, hb, fun i hi => ((ext_alloc (ext_refl w) _).cell (p := ⟨b, o + i, none⟩) hb).trans (hc i hi)⟩
end Go.Proofs.Ytgnjconhbloocaa
