/- The makers' source of numbers: what it holds, and what Next, Signed and From do. Slices of vectors of intervals; whether a list of points is placed. Placed points that the makers make. Contract of the maker of placed points. Weights that the makers make, and their sum. Whether a list of points is placed, by the reference. Contract of shape.Combine. Plain laws of weighted sums of points that the makers make. Equality of vectors of intervals, and of vectors. A point as a vector of intervals. Contract of the maker that chooses points within placed points. Contracts of shape.least and shape.Bound. -/
import Derived.Test.YtgnjconhbloocaaBunM1
import Derived.Outline
import Derived.StillTailTactics
import Derived.Deep.AppendLies
import Derived.Deep.RegionHeld3
import Derived.RegionTactic
import Derived.BigRegion
import Derived.Deep.Light
import Derived.ChangeKeysEq
import Derived.Deep.MidRow
namespace Go.Proofs.Ytgnjconhbloocaa
open Go.RowKit
set_option linter.unusedVariables false

/-- Block g holds a source of numbers whose list lies below block B; g itself does not. -/
def Src (w : World) (B g : Nat) : Prop :=
  B ≤ g ∧ ∃ (a : Option Addr) (xs : List Int) (c pos : Nat), Whole w g 87 #[.slice a xs.length c, .int .i64 pos] ∧ pos ≤ xs.length ∧ xs.length ≤ 9223372036854775807 ∧
    (0 < xs.length → ∃ b o, a = some ⟨b, o, none⟩ ∧ b < B ∧ ∀ i : Nat, i < xs.length → w.cell? ⟨b, o + i, none⟩ = some (.int .i64 (xs.getD i 0)))

/-- A number from 0 to k - 1 is returned; only the source's block, and what is new, has changed. -/
def Drawn (B g : Nat) (lo hi : Int) (w : World) (e : Ending) (w' : World) : Prop := ∃ v : Int, lo ≤ v ∧ v < hi ∧ e = .returned (.int .i64 v) ∧ Src w' B g ∧ w.grownBy w' (some g)

theorem grown_refl (w : World) (row : Option Nat) : w.grownBy w row := ⟨rfl, rfl, rfl, Nat.le_refl _, fun _ _ _ => rfl⟩
theorem grown_drewN {a w : World} {row : Option Nat} (h : a.grownBy w row) (n : Nat) : a.grownBy (w.drewN n) row := ⟨h.os, h.tape, h.output, h.size, h.block⟩
theorem grown_drew {a w : World} {row : Option Nat} (h : a.grownBy w row) : a.grownBy w.drew row := ⟨h.os, h.tape, h.output, h.size, h.block⟩
theorem grown_alloc {a w : World} {row : Option Nat} (h : a.grownBy w row) (o : Obj) : a.grownBy (w.alloc o) row :=
  ⟨h.os, h.tape, h.output, Nat.le_trans h.size (by simp), fun i hi hne => (Below.heap_alloc w o i (Nat.lt_of_lt_of_le hi h.size)).trans (h.block i hi hne)⟩
theorem grown_trans {a b c : World} {row : Option Nat} (h : a.grownBy b row) (k : b.grownBy c row) : a.grownBy c row :=
  ⟨k.os.trans h.os, k.tape.trans h.tape, k.output.trans h.output, Nat.le_trans h.size k.size, fun i hi hne => (k.block i (Nat.lt_of_lt_of_le hi h.size) hne).trans (h.block i hi hne)⟩
theorem grown_set {a w : World} {g : Nat} (h : a.grownBy w (some g)) {p : Addr} (hp : p.block = g ∨ a.heap.size ≤ p.block) (u : Value) : a.grownBy (w.setCell p u) (some g) :=
  ⟨h.os, h.tape, h.output, by simpa [World.setCell] using h.size, fun i hi hne => (Below.heap_setCell w p u i (by
    rintro rfl
    rcases hp with hp | hp
    · exact hne (by rw [hp])
    · omega)).trans (h.block i hi hne)⟩
theorem grown_below {a w : World} (h : Below a.heap.size a w) (row : Option Nat) : a.grownBy w row := ⟨h.os, h.tape, h.output, h.size, fun i hi _ => h.block i hi⟩
/-- What changes one block of the call's own alone changes nothing below. -/
theorem below_grown {B g : Nat} {a b c : World} (h : Below B a b) (hB : B ≤ a.heap.size) (hg : B ≤ g) (k : b.grownBy c (some g)) : Below B a c :=
  h.grown k (Nat.le_trans hB h.size) (fun r hr => by injection hr with hr; omega)

theorem Src.lt {w : World} {B g : Nat} (h : Src w B g) : g < w.heap.size := by
  obtain ⟨_, a, xs, c, pos, hW, _⟩ := h
  exact hW.lt

theorem Src.le {w : World} {B g : Nat} (h : Src w B g) : B ≤ w.heap.size := by have := h.lt; have := h.1; omega

/-- A source stays one behind whatever leaves its block and all below B alone. -/
theorem Src.keep {w w' : World} {B g : Nat} (h : Src w B g) (hg : w'.heap[g]? = w.heap[g]?) (hb : Below B w w') : Src w' B g := by
  obtain ⟨h0, a, xs, c, pos, hW, h1, h2, h3⟩ := h
  exact ⟨h0, a, xs, c, pos, hg.trans hW, h1, h2, fun hp => by
    obtain ⟨b, o, ha, hbB, hc⟩ := h3 hp
    exact ⟨b, o, ha, hbB, fun i hi => (hb.cell (p := ⟨b, o + i, none⟩) hbB).trans (hc i hi)⟩⟩

theorem Src.ext {w w' : World} {B g : Nat} (h : Src w B g) (hb : Below w.heap.size w w') : Src w' B g :=
  h.keep (hb.block g h.lt) (hb.mono h.le)
theorem Src.alloc {w : World} {B g : Nat} (h : Src w B g) (o : Obj) : Src (w.alloc o) B g := h.ext (ext_alloc (ext_refl _) _)
theorem Src.drewN {w : World} {B g : Nat} (h : Src w B g) (n : Nat) : Src (w.drewN n) B g := h.ext (ext_drewN (ext_refl _) _)
/-- Behind an append onto a row of the call's own. -/
theorem Src.grown {w w' : World} {B g : Nat} {row : Option Nat} (h : Src w B g) (hg : w.grownBy w' row) (hne : some g ≠ row) (hr : ∀ k, row = some k → B ≤ k) : Src w' B g :=
  h.keep (hg.block g h.lt hne) ((Below.refl _ _).grown hg h.le hr)

set_option maxHeartbeats 1000000 in
theorem next_any (B g : Nat) (k : Int) (w : World) (hs : Src w B g) (hk : 0 < k) (hk1 : k ≤ 9223372036854775807) :
    Calls Try.prog 26 #[.pointer (some ⟨g, 0, none⟩), .int .i64 k] w (Drawn B g 0 k w) := by
  obtain ⟨h0, a, xs, c, pos, hW, h1, h2, h3⟩ := hs
  have c0 : _ = some (Value.slice a xs.length c) := hW.cell 0
  have c1 : _ = some (Value.int .i64 pos) := hW.cell 1
  have f1 := hW.frozen 1
  have HW := Lib.hid hW
  by_cases hp : pos < xs.length
  · obtain ⟨b, o, rfl, hbB, hc⟩ := h3 (by omega)
    have hx := hc pos hp
    have hd : decide ((xs.length : Int) ≤ (pos : Int)) = false := by simp; omega
    have HC := Lib.hid hc
    clear h3 hc hW
    go_enter Try.func26, Try.ntmps26
    go_wp2_with fail
    go_quiet (fail)
    go_wp2_with fail
    have hW2 : Whole ((w.drewN nq).setCell ⟨g, 1, none⟩ (.int .i64 (↑pos + 1))) g 87 #[.slice (some ⟨b, o, none⟩) xs.length c, .int .i64 (↑pos + 1)] := (HW.out.drewN nq).store 1 (.int .i64 (↑pos + 1))
    have hG2 : w.grownBy ((w.drewN nq).setCell ⟨g, 1, none⟩ (.int .i64 (↑pos + 1))) (some g) := grown_set (grown_drewN (grown_refl _ _) _) (.inl rfl) _
    generalize (w.drewN nq).setCell ⟨g, 1, none⟩ (.int .i64 (↑pos + 1)) = w2 at *
    have hbg : some b ≠ some g := fun e => by injection e with e; omega
    have hbw : b < w.heap.size := World.block_lt_of_cell? w _ hx
    have hx2 := (hG2.cell_far ⟨b, o + pos, none⟩ hbw hbg).trans hx
    have HC2 : Hid (∀ i : Nat, i < xs.length → w2.cell? ⟨b, o + i, none⟩ = some (.int .i64 (xs.getD i 0))) := Lib.hid fun i hi => (hG2.cell_far ⟨b, o + i, none⟩ hbw hbg).trans (HC.out i hi)
    have d0 : _ = some (Value.slice (some ⟨b, o, none⟩) xs.length c) := hW2.cell 0
    have d1 : _ = some (Value.int .i64 (↑pos + 1)) := hW2.cell 1
    have HW2 := Lib.hid hW2
    have HG2 := Lib.hid hG2
    have v0 := Int.emod_nonneg (xs.getD pos 0) (show k ≠ 0 by omega)
    have v1 := Int.emod_lt_of_pos (xs.getD pos 0) hk
    generalize xs.getD pos 0 = x at *
    clear hW2 hG2 hx HC HW c0 c1 f1 hbg
    have e1 : IntKind.i64.wrap ((pos : Int) + 1 - 1) = pos := by rw [IntKind.wrap_i64]; omega
    have e2 : (0 : Int) ≤ (pos : Int) := by omega
    have e3 : (pos : Int) < (xs.length : Int) := by omega
    go_quiet ((go_at_call 17; exact qsame (round_any _ _ _ hk hk1)))
    clear e1
    go_wp2_with fail
    go_ret
    exact ⟨x % k, v0, v1, rfl, ⟨h0, some ⟨b, o, none⟩, xs, c, pos + 1, HW2.out.drewN _, by omega, h2, fun _ => ⟨b, o, rfl, hbB, HC2.out⟩⟩, grown_drewN HG2.out _⟩
  · have hd : decide ((xs.length : Int) ≤ (pos : Int)) = true := by simp; omega
    have H3 := Lib.hid h3
    clear h3 hW
    go_enter Try.func26, Try.ntmps26
    go_wp2_with fail
    go_quiet (fail)
    go_wp2_with fail
    go_ret
    exact ⟨0, by omega, hk, rfl, ⟨h0, a, xs, c, pos, HW.out.drewN _, h1, h2, H3.out⟩, grown_drewN (grown_refl _ _) _⟩

theorem signed_any (B g : Nat) (k : Int) (w : World) (hs : Src w B g) (hk : 0 ≤ k) (hk1 : k ≤ 4611686018427387903) :
    Calls Try.prog 29 #[.pointer (some ⟨g, 0, none⟩), .int .i64 k] w (Drawn B g (-k) (k + 1) w) := by
  have HS := Lib.hid hs; clear hs
  go_enter Try.func29, Try.ntmps29
  go_wp2_with fail
  refine (next_any B g _ _ HS.out (by omega) (by omega)).mono ?_
  rintro e w' ⟨v, v0, v1, rfl, hs', hg⟩
  have HS' := Lib.hid hs'
  clear hs'
  go_wp2_with fail
  go_ret
  exact ⟨v - k, by omega, by omega, rfl, HS'.out, hg⟩

/-- A new source is returned: the block next behind what was there. -/
theorem from_any (v : Value) (xs : List Int) (w : World) (h : IntSl w v xs) :
    Calls Try.prog 22 #[v] w fun e w' => e = .returned (.pointer (some ⟨w.heap.size, 0, none⟩)) ∧ Src w' w.heap.size w.heap.size ∧ Below w.heap.size w w' := by
  obtain ⟨a, c, rfl, hl, h⟩ := h
  go_enter Try.func22, Try.ntmps22
  go_wp2
  go_ret
  refine ⟨rfl, ⟨Nat.le_refl _, a, xs, c, 0, Whole.new _ _ _, Nat.zero_le _, hl, fun hp => ?_⟩, ext_alloc (ext_refl _) _⟩
  obtain ⟨b, o, ha, hb, hc⟩ := h hp
  exact ⟨b, o, ha, hb, fun i hi => ((ext_alloc (ext_refl w) _).cell (p := ⟨b, o + i, none⟩) hb).trans (hc i hi)⟩
end Go.Proofs.Ytgnjconhbloocaa

namespace Go.Proofs.Ytgnjconhbloocaa
open Go.RowKit
set_option linter.unusedVariables false

/-- The cells of block b from o on hold the vectors of L. -/
def VAt (w : World) (b o : Nat) (L : List Fx.V3) : Prop :=
  b < w.heap.size ∧ ∀ i : Nat, i < L.length → ∀ j : Nat, j < 6 → w.cell? ⟨b, o + i * 6 + j, none⟩ = (L.getD i Fx.V3.zero).cells[j]?

/-- The slice value v reads as the list L of vectors. -/
def VSl (w : World) (v : Value) (L : List Fx.V3) : Prop :=
  ∃ (a : Option Addr) (c : Nat), v = .slice a L.length c ∧ L.length ≤ 9223372036854775807 ∧ (0 < L.length → ∃ b o, a = some ⟨b, o, none⟩ ∧ VAt w b o L)

theorem VAt.ext {w w' : World} {b o : Nat} {L : List Fx.V3} (h : VAt w b o L) (hb : Below w.heap.size w w') : VAt w' b o L :=
  ⟨Nat.lt_of_lt_of_le h.1 hb.size, fun i hi j hj => (hb.cell (p := ⟨b, _, none⟩) h.1).trans (h.2 i hi j hj)⟩
theorem VSl.ext {w w' : World} {v : Value} {L : List Fx.V3} (h : VSl w v L) (hb : Below w.heap.size w w') : VSl w' v L := by
  obtain ⟨a, c, hv, hl, h⟩ := h
  exact ⟨a, c, hv, hl, fun h0 => by obtain ⟨b, o, ha, hI⟩ := h h0; exact ⟨b, o, ha, hI.ext hb⟩⟩

theorem VAt.at_ {w : World} {b o : Nat} {L : List Fx.V3} (h : VAt w b o L) (i : Nat) (hi : i < L.length) :
    w.cell? ⟨b, o + i * 6, none⟩ = some (.int .i64 (L.getD i Fx.V3.zero).a) ∧ w.cell? ⟨b, o + i * 6 + 1, none⟩ = some (.int .i64 (L.getD i Fx.V3.zero).b) ∧ w.cell? ⟨b, o + i * 6 + 2, none⟩ = some (.int .i64 (L.getD i Fx.V3.zero).c) ∧
    w.cell? ⟨b, o + i * 6 + 3, none⟩ = some (.int .i64 (L.getD i Fx.V3.zero).d) ∧ w.cell? ⟨b, o + i * 6 + 4, none⟩ = some (.int .i64 (L.getD i Fx.V3.zero).e) ∧ w.cell? ⟨b, o + i * 6 + 5, none⟩ = some (.int .i64 (L.getD i Fx.V3.zero).f) :=
  ⟨h.2 i hi 0 (by omega), h.2 i hi 1 (by omega), h.2 i hi 2 (by omega), h.2 i hi 3 (by omega), h.2 i hi 4 (by omega), h.2 i hi 5 (by omega)⟩

theorem VAt.part {w : World} {b o : Nat} {L : List Fx.V3} (h : VAt w b o L) (i : Nat) (hi : i < L.length) : ∀ j : Nat, j < 3 →
    w.cell? ⟨b, o + i * 6 + j * 2, none⟩ = some (.int .i64 ((L.getD i Fx.V3.zero).lo j)) ∧ w.cell? ⟨b, o + i * 6 + j * 2 + 1, none⟩ = some (.int .i64 ((L.getD i Fx.V3.zero).hi j))
  | 0, _ => ⟨h.2 i hi 0 (by omega), h.2 i hi 1 (by omega)⟩
  | 1, _ => ⟨h.2 i hi 2 (by omega), h.2 i hi 3 (by omega)⟩
  | 2, _ => ⟨h.2 i hi 4 (by omega), h.2 i hi 5 (by omega)⟩

theorem idx3 (v : Fx.V3) : ∀ (j : Nat) (_ : j < 3) (w : World), (Instr.index 34 (.agg #[.int .i64 v.a, .int .i64 v.b, .int .i64 v.c, .int .i64 v.d, .int .i64 v.e, .int .i64 v.f]) (.int .i64 (j : Int))).run Try.prog w = .ok (.agg #[.int .i64 (v.lo j), .int .i64 (v.hi j)]) w
  | 0, _, w => by kernel_rfl
  | 1, _, w => by kernel_rfl
  | 2, _, w => by kernel_rfl
  | n + 3, h, _ => absurd h (by omega)

set_option maxHeartbeats 1000000 in
theorem placed_any (v : Value) (L : List Fx.V3) (w : World) (hI : VSl w v L) :
    Calls Try.prog 32 #[v] w fun e w' => e = .returned (.bool (Fx.placedB L)) ∧ Below w.heap.size w w' := by
  obtain ⟨a, c, rfl, hl, hI⟩ := hI
  by_cases h1 : (L.length : Int) < 1
  · have HB : Fx.placedB L = false := Fx.placedB_short L (by omega)
    rw [HB]; clear HB hI
    go_enter Try.func32, Try.ntmps32
    go_wp2
    go_ret
    exact ⟨rfl, (by repeat (first | assumption | exact ext_refl _ | refine ext_alloc ?_ _ | refine ext_drewN ?_ _ | refine ext_drew ?_ | refine ext_set ?_ (by first | (simp; done) | (simp; omega) | omega) _ | refine ext_trans ?_ ‹Below _ _ _›))⟩
  · by_cases h2 : (8 : Int) < L.length
    · have HB : Fx.placedB L = false := Fx.placedB_long L (by omega)
      rw [HB]; clear HB hI
      have hd : decide ((8 : Int) < (L.length : Int)) = true := by simp; omega
      go_enter Try.func32, Try.ntmps32
      go_wp2
      go_ret
      exact ⟨rfl, (by repeat (first | assumption | exact ext_refl _ | refine ext_alloc ?_ _ | refine ext_drewN ?_ _ | refine ext_drew ?_ | refine ext_set ?_ (by first | (simp; done) | (simp; omega) | omega) _ | refine ext_trans ?_ ‹Below _ _ _›))⟩
    · obtain ⟨b, o, rfl, hJ⟩ := hI (by omega)
      clear hI
      have hd : decide ((8 : Int) < (L.length : Int)) = false := by simp; omega
      have HB : Fx.placedB L = Fx.allR L := Fx.placedB_eq L (by omega) (by omega)
      rw [HB]; clear HB
      go_enter Try.func32, Try.ntmps32
      go_wp2
      go_loopw [17] (fun iv wr => ∃ k : Nat, k ≤ L.length ∧ iv = .int .i64 k ∧ Hid (Fx.allR (L.take k) = true) ∧ Below w.heap.size w wr) (fun iv _ => L.length - (intOf iv).toNat)
      case atStart => exact ⟨0, Nat.zero_le _, rfl, Lib.hid (by simp [Fx.allR]), Below.refl _ _⟩
      case round =>
        obtain ⟨k, hk, rfl, hA, hb⟩ := hrel
        by_cases hlt : k < L.length
        · obtain ⟨c0, c1, c2, c3, c4, c5⟩ := (hJ.ext hb).at_ k hlt
          have HN := Lib.hid (Fx.allR_next L k hlt hA.out)
          have HS := Lib.hid (Fx.allR_stop L k hlt)
          generalize L.getD k Fx.V3.zero = x at *
          go_wp2_with fail
          obtain ⟨wo, rfl⟩ : ∃ wo : World, wo = wr := ⟨_, rfl⟩
          have hbo : Below w.heap.size w (wo.alloc (.cells #[.int .i64 x.a, .int .i64 x.b, .int .i64 x.c, .int .i64 x.d, .int .i64 x.e, .int .i64 x.f] 34)) := ext_alloc hb _
          clear c0 c1 c2 c3 c4 c5 hb
          go_loopw [22] (fun jv wr => ∃ j : Nat, j ≤ 3 ∧ jv = .int .i64 j ∧ Hid (∀ i : Nat, i < j → Fx.near (x.lo i) (x.hi i) = true) ∧ Below w.heap.size w wr) (fun jv _ => 3 - (intOf jv).toNat)
          case atStart => exact ⟨0, by omega, rfl, Lib.hid (fun i hi => absurd hi (by omega)), hbo⟩
          case round =>
            obtain ⟨j, hj, rfl, hR, hbj⟩ := hrel
            clear hbo
            by_cases hj3 : j < 3
            · have hix := fun w => idx3 x j hj3 w
              by_cases hn : Fx.near (x.lo j) (x.hi j) = true
              · have hn' := Fx.near_true.1 hn
                have HR := Lib.hid (show ∀ i : Nat, i < j + 1 → Fx.near (x.lo i) (x.hi i) = true from fun i hi => by
                  by_cases e : i = j
                  · rw [e]; exact hn
                  · exact hR.out i (by omega))
                clear hn
                generalize x.lo j = lo at *
                generalize x.hi j = hi at *
                have d1 : decide (lo < -268435456) = false := by simp; omega
                have d2 : decide (hi < lo) = false := by simp; omega
                have d3 : decide (268435456 < hi) = false := by simp; omega
                go_wp2_with fail
                go_roundw
                case rel => exact ⟨j + 1, by omega, by go_num, HR, (by repeat (first | assumption | exact ext_refl _ | refine ext_alloc ?_ _ | refine ext_drewN ?_ _ | refine ext_drew ?_ | refine ext_set ?_ (by first | (simp; done) | (simp; omega) | omega) _ | refine ext_trans ?_ ‹Below _ _ _›))⟩
                case measure => simp [intOf]; omega
              · have hn : Fx.near (x.lo j) (x.hi j) = false := by simpa using hn
                have HF := Lib.hid (HS.out (Fx.reachB_not x j hj3 hn))
                have hn' := Fx.near_false.1 hn
                clear hn
                generalize x.lo j = lo at *
                generalize x.hi j = hi at *
                by_cases d1 : lo < -268435456
                · have d1' : decide (lo < -268435456) = true := by simp; omega
                  clear hn'
                  go_wp2_with fail
                  go_ret
                  exact ⟨ret_bool HF.out.symm, (by repeat (first | assumption | exact ext_refl _ | refine ext_alloc ?_ _ | refine ext_drewN ?_ _ | refine ext_drew ?_ | refine ext_set ?_ (by first | (simp; done) | (simp; omega) | omega) _ | refine ext_trans ?_ ‹Below _ _ _›))⟩
                · have d1' : decide (lo < -268435456) = false := by simp; omega
                  by_cases d2 : hi < lo
                  · have d2' : decide (hi < lo) = true := by simp; omega
                    clear hn'
                    go_wp2_with fail
                    go_ret
                    exact ⟨ret_bool HF.out.symm, (by repeat (first | assumption | exact ext_refl _ | refine ext_alloc ?_ _ | refine ext_drewN ?_ _ | refine ext_drew ?_ | refine ext_set ?_ (by first | (simp; done) | (simp; omega) | omega) _ | refine ext_trans ?_ ‹Below _ _ _›))⟩
                  · have d2' : decide (hi < lo) = false := by simp; omega
                    have d3' : decide (268435456 < hi) = true := by simp; omega
                    clear hn'
                    go_wp2_with fail
                    go_ret
                    exact ⟨ret_bool HF.out.symm, (by repeat (first | assumption | exact ext_refl _ | refine ext_alloc ?_ _ | refine ext_drewN ?_ _ | refine ext_drew ?_ | refine ext_set ?_ (by first | (simp; done) | (simp; omega) | omega) _ | refine ext_trans ?_ ‹Below _ _ _›))⟩
            · obtain rfl : j = 3 := by omega
              have HA := Lib.hid (HN.out (Fx.reachB_of x hR.out))
              go_wp2_with fail
              go_roundw
              case rel => exact ⟨k + 1, by omega, by go_num, HA, hbj⟩
              case measure => simp [intOf]; omega
        · have HA := Lib.hid (Fx.allR_end L k (by omega) hA.out)
          go_wp2_with fail
          go_ret
          exact ⟨ret_bool HA.out.symm, hb⟩

set_option maxHeartbeats 1000000 in
theorem reached_any (x : Fx.V3) (w : World) :
    Calls Try.prog 51 #[.agg #[.int .i64 x.a, .int .i64 x.b, .int .i64 x.c, .int .i64 x.d, .int .i64 x.e, .int .i64 x.f]] w fun e w' => e = .returned (.bool (Fx.reachB x)) ∧ Below w.heap.size w w' := by
  go_enter Try.func51, Try.ntmps51
  go_wp2_with fail
  have hW0 := Whole.new w 34 #[.int .i64 x.a, .int .i64 x.b, .int .i64 x.c, .int .i64 x.d, .int .i64 x.e, .int .i64 x.f]
  go_loopw [3] (fun jv wr => ∃ j : Nat, j ≤ 3 ∧ jv = .int .i64 j ∧ Hid (∀ i : Nat, i < j → Fx.near (x.lo i) (x.hi i) = true) ∧ Whole wr w.heap.size 34 #[.int .i64 x.a, .int .i64 x.b, .int .i64 x.c, .int .i64 x.d, .int .i64 x.e, .int .i64 x.f] ∧ Below w.heap.size w wr) (fun jv _ => 3 - (intOf jv).toNat)
  case atStart => exact ⟨0, by omega, rfl, Lib.hid (fun i hi => absurd hi (by omega)), hW0, ext_alloc (ext_refl _) _⟩
  case round =>
    obtain ⟨j, hj, rfl, hR, hW, hb⟩ := hrel
    clear hW0
    by_cases hj3 : j < 3
    · have c0 : wr.cell? ⟨w.heap.size, j * 2, none⟩ = some (.int .i64 (x.lo j)) := by
        rw [hW.cell]
        match j, hj3 with
        | 0, _ => rfl
        | 1, _ => rfl
        | 2, _ => rfl
      have c1 : wr.cell? ⟨w.heap.size, j * 2 + 1, none⟩ = some (.int .i64 (x.hi j)) := by
        rw [hW.cell]
        match j, hj3 with
        | 0, _ => rfl
        | 1, _ => rfl
        | 2, _ => rfl
      have HW := Lib.hid hW; clear hW
      have k0 : (0 : Int) ≤ (j : Int) := by omega
      have k1 : (j : Int) < 3 := by omega
      by_cases hn : Fx.near (x.lo j) (x.hi j) = true
      · have hn' := Fx.near_true.1 hn
        have HR := Lib.hid (show ∀ i : Nat, i < j + 1 → Fx.near (x.lo i) (x.hi i) = true from fun i hi => by
          by_cases e : i = j
          · rw [e]; exact hn
          · exact hR.out i (by omega))
        clear hn
        generalize x.lo j = lo at *
        generalize x.hi j = hi at *
        have d1 : decide (lo < -268435456) = false := by simp; omega
        have d2 : decide (hi < lo) = false := by simp; omega
        have d3 : decide (268435456 < hi) = false := by simp; omega
        go_wp2_with fail
        go_quiet (fail)
        go_wp2_with fail
        go_roundw
        case rel => exact ⟨j + 1, by omega, by go_num, HR, HW.out.drewN _, ext_drewN hb _⟩
        case measure => simp [intOf]; omega
      · have hn : Fx.near (x.lo j) (x.hi j) = false := by simpa using hn
        have HF := Lib.hid (Fx.reachB_not x j hj3 hn)
        have hn' := Fx.near_false.1 hn
        clear hn
        generalize x.lo j = lo at *
        generalize x.hi j = hi at *
        by_cases d1 : lo < -268435456
        · have d1' : decide (lo < -268435456) = true := by simp; omega
          clear hn'
          go_wp2_with fail
          go_quiet (fail)
          go_wp2_with fail
          go_ret
          exact ⟨ret_bool HF.out.symm, ext_drewN hb _⟩
        · have d1' : decide (lo < -268435456) = false := by simp; omega
          by_cases d2 : hi < lo
          · have d2' : decide (hi < lo) = true := by simp; omega
            clear hn'
            go_wp2_with fail
            go_quiet (fail)
            go_wp2_with fail
            go_ret
            exact ⟨ret_bool HF.out.symm, ext_drewN hb _⟩
          · have d2' : decide (hi < lo) = false := by simp; omega
            have d3' : decide (268435456 < hi) = true := by simp; omega
            clear hn'
            go_wp2_with fail
            go_quiet (fail)
            go_wp2_with fail
            go_ret
            exact ⟨ret_bool HF.out.symm, ext_drewN hb _⟩
    · obtain rfl : j = 3 := by omega
      have HA := Lib.hid (Fx.reachB_of x hR.out)
      clear hW
      go_wp2_with fail
      go_ret
      exact ⟨ret_bool HA.out.symm, hb⟩
end Go.Proofs.Ytgnjconhbloocaa

namespace Go.Proofs.Ytgnjconhbloocaa
open Go.RowKit
set_option linter.unusedVariables false

theorem info_ivec : (Try.prog.info? 34).map (fun i => (i.zero, i.size, i.bytes)) = some (some (.agg #[.int .i64 0, .int .i64 0, .int .i64 0, .int .i64 0, .int .i64 0, .int .i64 0]), 6, 48) := by kernel_rfl

/-- The cells of a list of vectors. -/
def vCells (L : List Fx.V3) : List Value := L.flatMap Fx.V3.cells
theorem vCells_len (L : List Fx.V3) : (vCells L).length = L.length * 6 := by
  induction L with
  | nil => rfl
  | cons a L ih => simp only [vCells, List.flatMap_cons, List.length_append, List.length_cons, Fx.V3.cells, List.length_nil] at *; omega
theorem vCells_snoc (L : List Fx.V3) (x : Fx.V3) : vCells (L ++ [x]) = vCells L ++ x.cells := by simp [vCells]
theorem vCells_get : ∀ (L : List Fx.V3) (i : Nat), i < L.length → ∀ j : Nat, j < 6 → (vCells L)[i * 6 + j]? = (L.getD i Fx.V3.zero).cells[j]?
  | [], i, h, _, _ => absurd h (by simp)
  | a :: L, 0, _, j, hj => by
    have e : vCells (a :: L) = a.cells ++ vCells L := by simp [vCells]
    have h6 : a.cells.length = 6 := rfl
    rw [e, Nat.zero_mul, Nat.zero_add, List.getElem?_append_left (by omega)]; rfl
  | a :: L, i + 1, h, j, hj => by
    have ih := vCells_get L i (by simpa using h) j hj
    have e : vCells (a :: L) = a.cells ++ vCells L := by simp [vCells]
    have h6 : a.cells.length = 6 := rfl
    rw [e, List.getElem?_append_right (by omega), h6, show (i + 1) * 6 + j - 6 = i * 6 + j by omega, ih]; rfl

theorem VSl.of_owns {w : World} {base : Nat} {e : TypeId} {v : Value} {L : List Fx.V3} (h : w.ownsRow base e 6 v L.length (vCells L)) (hn : L.length ≤ 9223372036854775807) : VSl w v L := by
  have hl := h.lt
  have h' := h
  obtain ⟨h0, h⟩ := h
  rcases h with ⟨rfl, h⟩ | ⟨g, cap, cur, rfl, hg, hh, h⟩
  · refine ⟨none, 0, by rw [h], hn, fun hp => absurd hp (by omega)⟩
  · refine ⟨some ⟨g, 0, none⟩, cap, rfl, hn, fun hp => ⟨g, 0, rfl, (hl g rfl).2, fun i hi j hj => ?_⟩⟩
    rw [Nat.zero_add, h'.cellAt (i * 6 + j) (by omega)]
    exact vCells_get L i hi j hj

/-- What a region with draws from the source keeps: a cell of another block, the source, and all but the source's block. -/
theorem held_next {w0 w w' : World} {B g gc k : Nat} {x : Value} (hne : some gc ≠ some g) (hlt : gc < w0.heap.size) (h : w.cell? ⟨gc, k, none⟩ = some x ∧ Src w B g ∧ w0.grownBy w (some g)) (hs : Src w' B g) (hg : w.grownBy w' (some g)) :
    w'.cell? ⟨gc, k, none⟩ = some x ∧ Src w' B g ∧ w0.grownBy w' (some g) :=
  ⟨(hg.cell_far ⟨gc, k, none⟩ (Nat.lt_of_lt_of_le hlt h.2.2.size) hne).trans h.1, hs, grown_trans h.2.2 hg⟩
theorem held_drew {w0 w : World} {B g gc k : Nat} {x : Value} (h : w.cell? ⟨gc, k, none⟩ = some x ∧ Src w B g ∧ w0.grownBy w (some g)) :
    w.drew.cell? ⟨gc, k, none⟩ = some x ∧ Src w.drew B g ∧ w0.grownBy w.drew (some g) := ⟨h.1, h.2.1.ext (ext_drew (ext_refl _)), grown_drew h.2.2⟩
theorem signed_held {w0 w : World} {B g gc k : Nat} {x : Value} (n : Int) (hn : 0 ≤ n) (hn1 : n ≤ 4611686018427387903) (h : w.cell? ⟨gc, k, none⟩ = some x ∧ Src w B g ∧ w0.grownBy w (some g)) :
    Calls Try.prog 29 #[.pointer (some ⟨g, 0, none⟩), .int .i64 n] w (Drawn B g (-n) (n + 1) w) := signed_any B g n w h.2.1 hn hn1

/-- The intervals that were made so far are in order. -/
def Made (W : Int) (x : Fx.V3) (j : Nat) : Prop := ∀ i : Nat, i < j → -400000 ≤ x.lo i ∧ x.lo i ≤ x.hi i ∧ x.hi i ≤ x.lo i + W ∧ x.lo i ≤ 400000
def setV (x : Fx.V3) (l h : Int) : Nat → Fx.V3
  | 0 => { x with a := l, b := h }
  | 1 => { x with c := l, d := h }
  | _ => { x with e := l, f := h }
theorem setV_arr (x : Fx.V3) (l h : Int) : ∀ j : Nat, j < 3 → (x.arr.setIfInBounds (j * 2) (.int .i64 l)).setIfInBounds (j * 2 + 1) (.int .i64 h) = (setV x l h j).arr
  | 0, _ => rfl
  | 1, _ => rfl
  | 2, _ => rfl
theorem setV_made {W : Int} {x : Fx.V3} {l h : Int} {j : Nat} (hj : j < 3) (hm : Made W x j) (hl : -400000 ≤ l ∧ l ≤ h ∧ h ≤ l + W ∧ l ≤ 400000) : Made W (setV x l h j) (j + 1) := by
  intro i hi
  match j, hj, i, hi with
  | 0, _, 0, _ => exact hl
  | 1, _, 0, _ => exact hm 0 (by omega)
  | 1, _, 1, _ => exact hl
  | 2, _, 0, _ => exact hm 0 (by omega)
  | 2, _, 1, _ => exact hm 1 (by omega)
  | 2, _, 2, _ => exact hl

/-- A list of placed points is returned. -/
def GivesPts (W : Int) (w : World) (e : Ending) (w' : World) : Prop :=
  ∃ (v : Value) (L : List Fx.V3), e = .returned v ∧ 1 ≤ L.length ∧ L.length ≤ 5 ∧ (∀ x ∈ L, Made W x 3) ∧ w'.ownsRow w.heap.size 34 6 v L.length (vCells L) ∧ Below w.heap.size w w'
end Go.Proofs.Ytgnjconhbloocaa

namespace Go.Proofs.Ytgnjconhbloocaa
open Go.RowKit
set_option linter.unusedVariables false

theorem owns_away {w w' : World} {base g : Nat} {e : TypeId} {size : Nat} {v : Value} {n : Nat} {xs : List Value} (h : w.ownsRow base e size v n xs) (hg : w.grownBy w' (some g)) (hlt : g < base) : w'.ownsRow base e size v n xs := by
  refine h.kept hg ?_
  by_cases hv : v.ownBlock = none
  · exact .inl hv
  · exact .inr fun e => by have := (h.lt g e).1; omega
theorem owns_base {w : World} {base base' : Nat} {e : TypeId} {size : Nat} {v : Value} {n : Nat} {xs : List Value} (h : w.ownsRow base e size v n xs) (hb : base' ≤ base) : w.ownsRow base' e size v n xs := by
  obtain ⟨h0, h1⟩ := h
  refine ⟨h0, ?_⟩
  rcases h1 with h1 | ⟨g, cap, cur, e1, e2, e3⟩
  · exact .inl h1
  · exact .inr ⟨g, cap, cur, e1, Nat.le_trans hb e2, e3⟩
theorem Whole.away {w w' : World} {g r : Nat} {t : TypeId} {cs : Array Value} (h : Whole w g t cs) (hg : w.grownBy w' (some r)) (hne : g ≠ r) : Whole w' g t cs := h.grown hg (fun e => hne (by injection e))

/-- Three numbers, by their place. -/
def pick3 (a b c : Int) : Nat → Int
  | 0 => a
  | 1 => b
  | _ => c
theorem pick3_cell (a b c : Int) : ∀ j : Nat, j < 3 → (#[Value.int .i64 a, .int .i64 b, .int .i64 c])[j]? = some (.int .i64 (pick3 a b c j))
  | 0, _ => rfl
  | 1, _ => rfl
  | 2, _ => rfl
theorem pick3_bd {a b c B : Int} (ha : -B ≤ a ∧ a ≤ B) (hb : -B ≤ b ∧ b ≤ B) (hc : -B ≤ c ∧ c ≤ B) : ∀ j : Nat, -B ≤ pick3 a b c j ∧ pick3 a b c j ≤ B
  | 0 => ha
  | 1 => hb
  | n + 2 => hc

theorem arr_cell (x : Fx.V3) : ∀ j : Nat, j < 3 → x.arr[j * 2]? = some (.int .i64 (x.lo j)) ∧ x.arr[j * 2 + 1]? = some (.int .i64 (x.hi j))
  | 0, _ => ⟨rfl, rfl⟩
  | 1, _ => ⟨rfl, rfl⟩
  | 2, _ => ⟨rfl, rfl⟩
theorem owns_set {w : World} {base : Nat} {e : TypeId} {size : Nat} {v : Value} {n : Nat} {xs : List Value} (h : w.ownsRow base e size v n xs) {p : Addr} (hne : some p.block ≠ v.ownBlock) (u : Value) : (w.setCell p u).ownsRow base e size v n xs :=
  h.kept (grown_set (grown_refl w (some p.block)) (.inl rfl) u) (.inr fun e => hne e.symm)
theorem Src.set {w : World} {B g : Nat} (h : Src w B g) {p : Addr} (hne : g ≠ p.block) (hB : B ≤ p.block) (u : Value) : Src (w.setCell p u) B g :=
  h.keep (Below.heap_setCell w p u g hne) ((Below.refl _ _).setCell hB u)

set_option maxRecDepth 100000 in
set_option maxHeartbeats 2000000 in
theorem points_any (v : Value) (xs : List Int) (W : Int) (w : World) (h : IntSl w v xs) (hW0 : 0 ≤ W) (hW1 : W ≤ 5000) :
    Calls Try.prog 10 #[v, .int .i64 W] w (GivesPts W w) := by
  have H := Lib.hid h
  obtain ⟨a, c, rfl, _, _⟩ := h
  obtain ⟨i0, hi, hz0, hz1, hz2⟩ := info_parts info_ivec
  go_enter Try.func10, Try.ntmps10
  go_wp2_with fail
  refine (from_any _ xs _ H.out).mono ?_
  rintro e w1 ⟨rfl, hs1, hb1⟩
  clear H
  go_wp2_with fail
  refine (signed_any w.heap.size w.heap.size _ _ hs1 (by omega) (by omega)).mono ?_
  rintro e w2 ⟨a0, a1, a2, rfl, hs2, hg2⟩
  go_wp2_with fail
  refine (signed_any w.heap.size w.heap.size _ _ hs2 (by omega) (by omega)).mono ?_
  rintro e w3 ⟨b0, b1, b2, rfl, hs3, hg3⟩
  go_wp2_with fail
  refine (signed_any w.heap.size w.heap.size _ _ hs3 (by omega) (by omega)).mono ?_
  rintro e w4 ⟨c0, c1, c2, rfl, hs4, hg4⟩
  have hB4 : Below w.heap.size w w4 := below_grown (below_grown (below_grown hb1 (Nat.le_refl _) (Nat.le_refl _) hg2) (Nat.le_refl _) (Nat.le_refl _) hg3) (Nat.le_refl _) (Nat.le_refl _) hg4
  have hg4w := hs4.lt
  clear hs1 hs2 hs3 hb1 hg2 hg3 hg4
  go_wp2_with fail
  have hs5 := hs4.alloc (.cells #[.int .i64 (a0 * 32768), .int .i64 (b0 * 32768), .int .i64 (c0 * 32768)] 66)
  have hC5 := Whole.new w4 66 #[.int .i64 (a0 * 32768), .int .i64 (b0 * 32768), .int .i64 (c0 * 32768)]
  have hB5 := ext_alloc hB4 (.cells #[.int .i64 (a0 * 32768), .int .i64 (b0 * 32768), .int .i64 (c0 * 32768)] 66)
  have hz4 := hB4.size
  have cb := pick3_bd (B := 196608) (show -196608 ≤ a0 * 32768 ∧ a0 * 32768 ≤ 196608 by omega) (show -196608 ≤ b0 * 32768 ∧ b0 * 32768 ≤ 196608 by omega) (show -196608 ≤ c0 * 32768 ∧ c0 * 32768 ≤ 196608 by omega)
  have cc := pick3_cell (a0 * 32768) (b0 * 32768) (c0 * 32768)
  have CB := Lib.hid cb
  have CC := Lib.hid cc
  clear cb cc hs4 hB4
  generalize hc5 : (#[Value.int .i64 (a0 * 32768), .int .i64 (b0 * 32768), .int .i64 (c0 * 32768)] : Array Value) = carr at *
  generalize pick3 (a0 * 32768) (b0 * 32768) (c0 * 32768) = ck at *
  clear hc5 a1 a2 b1 b2 c1 c2
  generalize w4.alloc (.cells carr 66) = w5 at *
  generalize w4.heap.size = gc at *
  have hgc : w.heap.size < gc := hg4w
  refine (next_any w.heap.size w.heap.size _ _ hs5 (by omega) (by omega)).mono ?_
  rintro e w6 ⟨n, n0, n1, rfl, hs6, hg6⟩
  have hC6 := hC5.away hg6 (by omega)
  have hB6 := below_grown hB5 (Nat.le_refl _) (Nat.le_refl _) hg6
  clear hs5 hC5 hB5 hg6 hg4w hz4
  have HS6 := Lib.hid hs6
  have HC6 := Lib.hid hC6
  clear hs6 hC6
  go_wp2_with fail
  go_loopw [7, 8] (fun ov nv wr => ∃ (L : List Fx.V3) (j : Nat), L.length + j = (1 + n).toNat ∧ nv = .int .i64 j ∧ Hid (∀ x ∈ L, Made W x 3) ∧ wr.ownsRow (gc + 1) 34 6 ov L.length (vCells L) ∧ Src wr w.heap.size w.heap.size ∧ Whole wr gc 66 carr ∧ Below w.heap.size w wr) (fun _ nv _ => (intOf nv).toNat)
  case atStart => exact ⟨[], (1 + n).toNat, by simp, by go_num, Lib.hid (by simp), World.ownsRow_nil _ _ _ _, HS6.out, HC6.out, hB6⟩
  case round =>
    obtain ⟨L, m, hlm, rfl, hM, hown, hs, hC, hb⟩ := hrel
    clear HS6 HC6 hB6
    by_cases hm : 0 < m
    · have hL4 : L.length ≤ 4 := by omega
      go_wp2_with fail
      obtain ⟨wo, rfl⟩ : ∃ wo : World, wo = wr := ⟨_, rfl⟩
      have hgcw := hC.lt
      have hown0 := hown.alloc (.cells Fx.V3.zero.arr 34)
      have hs0 := hs.alloc (.cells Fx.V3.zero.arr 34)
      have hC0 := hC.alloc (.cells Fx.V3.zero.arr 34)
      have hV0 := Whole.new wo 34 Fx.V3.zero.arr
      have hb0 := ext_alloc hb (.cells Fx.V3.zero.arr 34)
      have hnov : ∀ {ov : Value}, wo.ownsRow (gc + 1) 34 6 ov L.length (vCells L) → some wo.heap.size ≠ ov.ownBlock := fun ho e => by have := (ho.lt _ e.symm).2; omega
      have hne0 := hnov hown
      clear hown hs hC hb hnov
      go_loopw [10] (fun jv wr => ∃ (j : Nat) (x : Fx.V3), j ≤ 3 ∧ jv = .int .i64 j ∧ Hid (Made W x j) ∧ Whole wr wo.heap.size 34 x.arr ∧ wr.ownsRow (gc + 1) 34 6 u7 L.length (vCells L) ∧ Src wr w.heap.size w.heap.size ∧ Whole wr gc 66 carr ∧ Below w.heap.size w wr) (fun jv _ => 3 - (intOf jv).toNat)
      case atStart => exact ⟨0, _, by omega, rfl, Lib.hid (fun i hi => absurd hi (by omega)), hV0, hown0, hs0, hC0, hb0⟩
      case round =>
        obtain ⟨j, x, hj, rfl, hMd, hV, hown, hs, hC, hbj⟩ := hrel
        clear hV0 hown0 hs0 hC0 hb0
        have hbz := hbj.size
        by_cases hj3 : j < 3
        · have cj := (hC.cell j).trans (CC.out j hj3)
          have cbj := CB.out j
          have hgw : gc < wr.heap.size := hC.lt
          have hvw : wo.heap.size < wr.heap.size := hV.lt
          have hneg : some gc ≠ some w.heap.size := fun e => by injection e with e; omega
          have hS : wr.cell? ⟨gc, j, none⟩ = some (.int .i64 (ck j)) ∧ Src wr w.heap.size w.heap.size ∧ wr.grownBy wr (some w.heap.size) := ⟨cj, hs, grown_refl _ _⟩
          have HV := Lib.hid hV; have HO := Lib.hid hown; have HC := Lib.hid hC
          clear hV hown hs hC cj
          generalize ck j = cj at *
          have k0 : (0 : Int) ≤ (j : Int) := by omega
          have k1 : (j : Int) < 3 := by omega
          go_wp2_with fail
          go_region_held3 (fun w' => w'.cell? ⟨gc, j, none⟩ = some (.int .i64 cj) ∧ Src w' w.heap.size w.heap.size ∧ wr.grownBy w' (some w.heap.size))
            (first | exact held_drew hS | exact held_next hneg hgw (by assumption) hs9 hg9 | exact held_next hneg hgw (by assumption) hs8 hg8)
            (first
              | (go_at_call_of 29 (Value.int IntKind.i64 4); refine (signed_held 4 (by omega) (by omega) (by assumption)).mono ?_; rintro e w8 ⟨p, p0, p1, rfl, hs8, hg8⟩)
              | (go_at_call_of 29 (Value.int IntKind.i64 9); refine (signed_held 9 (by omega) (by omega) (by assumption)).mono ?_; rintro e w9 ⟨q, q0, q1, rfl, hs9, hg9⟩))
          have hH : w9.cell? ⟨gc, j, none⟩ = some (.int .i64 cj) ∧ Src w9 w.heap.size w.heap.size ∧ wr.grownBy w9 (some w.heap.size) := by assumption
          have ew : IntKind.i64.wrap (IntKind.i64.wrap (cj + IntKind.i64.wrap (p * 32768)) + q) = cj + p * 32768 + q := by
            simp only [IntKind.wrap_i64]; omega
          have hx0 : -400000 ≤ cj + p * 32768 + q := by omega
          have hx1 : cj + p * 32768 + q ≤ 400000 := by omega
          rw [ew]
          clear ew
          generalize cj + p * 32768 + q = X at *
          have hV9 := HV.out.away hH.2.2 (by omega)
          have hC9 := HC.out.away hH.2.2 (by omega)
          have hO9 := owns_away HO.out hH.2.2 (by omega)
          have hB9 := below_grown hbj (Nat.le_refl _) (Nat.le_refl _) hH.2.2
          have hs9' := hH.2.1
          have HV9 := Lib.hid hV9; have HO9 := Lib.hid hO9; have HC9 := Lib.hid hC9; have HS9 := Lib.hid hs9'
          clear hV9 hC9 hO9 hs9' hH HV HO HC hS hs8 hg8 hs9 hg9 hbj
          rename_i hHeld
          clear hHeld
          go_wp2_with fail
          refine (next_any w.heap.size w.heap.size _ _ HS9.out (by omega) (by omega)).mono ?_
          rintro e w10 ⟨r, r0, r1, rfl, hs10, hg10⟩
          have hV10 := HV9.out.away hg10 (by omega)
          have hC10 := HC9.out.away hg10 (by omega)
          have hO10 := owns_away HO9.out hg10 (by omega)
          have hB10 := below_grown hB9 (Nat.le_refl _) (Nat.le_refl _) hg10
          obtain ⟨g0, g1⟩ := arr_cell x j hj3
          have t0 := (hV10.cell (j * 2)).trans g0
          have t1 := (hV10.cell (j * 2 + 1)).trans g1
          have f0 := hV10.frozen (j * 2)
          have f1 := hV10.frozen (j * 2 + 1)
          have hVn := (hV10.store (j * 2) (.int .i64 X)).store (j * 2 + 1) (.int .i64 (X + r))
          rw [setV_arr x X (X + r) j hj3] at hVn
          have hgv : w.heap.size ≤ wo.heap.size := by omega
          have HVn := Lib.hid hVn
          have HCn := Lib.hid ((hC10.far (p := ⟨wo.heap.size, j * 2, none⟩) (show gc ≠ wo.heap.size by omega) (.int .i64 X)).far (p := ⟨wo.heap.size, j * 2 + 1, none⟩) (show gc ≠ wo.heap.size by omega) (.int .i64 (X + r)))
          have HOn := Lib.hid (owns_set (owns_set hO10 (p := ⟨wo.heap.size, j * 2, none⟩) hne0 (.int .i64 X)) (p := ⟨wo.heap.size, j * 2 + 1, none⟩) hne0 (.int .i64 (X + r)))
          have HSn := Lib.hid ((hs10.set (p := ⟨wo.heap.size, j * 2, none⟩) (show w.heap.size ≠ wo.heap.size by omega) hgv (.int .i64 X)).set (p := ⟨wo.heap.size, j * 2 + 1, none⟩) (show w.heap.size ≠ wo.heap.size by omega) hgv (.int .i64 (X + r)))
          have HBn := Lib.hid (ext_set (ext_set hB10 (p := ⟨wo.heap.size, j * 2, none⟩) hgv (.int .i64 X)) (p := ⟨wo.heap.size, j * 2 + 1, none⟩) hgv (.int .i64 (X + r)))
          have HMn := Lib.hid (setV_made hj3 hMd.out (show -400000 ≤ X ∧ X ≤ X + r ∧ X + r ≤ X + W ∧ X ≤ 400000 by omega))
          clear hVn hV10 hC10 hO10 hs10 hg10 hB10 HV9 HO9 HC9 HS9 hB9 g0 g1
          generalize x.lo j = xl at *
          generalize x.hi j = xh at *
          go_wp2_with fail
          go_roundw
          case rel => exact ⟨j + 1, _, by omega, by go_num, HMn, HVn.out, HOn.out, HSn.out, HCn.out, HBn.out⟩
          case measure => simp [intOf]; omega
        · obtain rfl : j = 3 := by omega
          have t0 : _ = some (Value.int .i64 x.a) := hV.cell 0
          have t1 : _ = some (Value.int .i64 x.b) := hV.cell 1
          have t2 : _ = some (Value.int .i64 x.c) := hV.cell 2
          have t3 : _ = some (Value.int .i64 x.d) := hV.cell 3
          have t4 : _ = some (Value.int .i64 x.e) := hV.cell 4
          have t5 : _ = some (Value.int .i64 x.f) := hV.cell 5
          have hvw : wo.heap.size < wr.heap.size := hV.lt
          have HC := Lib.hid hC; have HS := Lib.hid hs
          have hgw := hC.lt
          clear hV hC hs
          go_wp2_with (at_builtin; refine wpList_append_lies _ rfl _ _ _ rfl (gc + 1) 34 i0 _ 6 48 Try.underlying22 hi hz0 hz1 hz2 rfl (by omega) _ L.length (vCells L) rfl (hown.alloc _) ⟨wr.heap.size, 0, none⟩ 1 1 x.cells rfl rfl (World.news_of_block (cs := #[.int .i64 x.a, .int .i64 x.b, .int .i64 x.c, .int .i64 x.d, .int .i64 x.e, .int .i64 x.f]) (t := 34) (fr := (0, 0)) (heap_alloc_new wr _)) (by simp [Fx.V3.cells, Value.oneCell']) (by omega) (by unfold maxLen; omega) (by omega) (by simp; omega) (wr.heap.size + 1) (by simp) ?_; intro g' cap w11 hown11 hgrow hat hlt11)
          have hb11 : Below w.heap.size w w11 := (ext_alloc hbj _).grown hgrow (by simp; omega) (fun k e => by have := (hown.lt k e).1; omega)
          have hs11 := (HS.out.alloc (.cells #[.int .i64 x.a, .int .i64 x.b, .int .i64 x.c, .int .i64 x.d, .int .i64 x.e, .int .i64 x.f] 34)).grown hgrow (fun e => by have := (hown.lt _ e.symm).1; omega) (fun k e => by have := (hown.lt k e).1; omega)
          have hC11 := (HC.out.alloc (.cells #[.int .i64 x.a, .int .i64 x.b, .int .i64 x.c, .int .i64 x.d, .int .i64 x.e, .int .i64 x.f] 34)).grown hgrow (fun e => by have := (hown.lt _ e.symm).1; omega)
          have hnext : w11.ownsRow (gc + 1) 34 6 (.slice (some ⟨g', 0, none⟩) (L.length + 1) cap) (L ++ [x]).length (vCells (L ++ [x])) := by
            rw [vCells_snoc, List.length_append]; exact hown11
          have HMx : Hid (∀ y ∈ L ++ [x], Made W y 3) := Lib.hid (fun y hy => by
            rcases List.mem_append.1 hy with hy | hy
            · exact hM.out y hy
            · rw [List.mem_singleton.1 hy]; exact hMd.out)
          have HL := Lib.hid (show (L ++ [x]).length + (m - 1) = (1 + n).toNat by simp; omega)
          have HN := Lib.hid hnext; have HS11 := Lib.hid hs11; have HC11 := Lib.hid hC11
          clear hnext hs11 hC11 hown11 hgrow hat hlt11 HC HS t0 t1 t2 t3 t4 t5
          go_wp2_with fail
          go_roundw
          case rel => exact ⟨_, m - 1, HL.out, by go_num, HMx, HN.out, HS11.out, HC11.out, hb11⟩
          case measure => simp [intOf]; omega
    · obtain rfl : m = 0 := by omega
      have hl1 : 1 ≤ L.length := by omega
      have hl5 : L.length ≤ 5 := by omega
      have HO := Lib.hid (owns_base hown (show w.heap.size ≤ gc + 1 by omega))
      have HM := Lib.hid hM.out
      clear hown hC hs
      go_wp2_with fail
      go_ret
      exact ⟨_, L, rfl, hl1, hl5, HM.out, HO.out, hb⟩
end Go.Proofs.Ytgnjconhbloocaa

namespace Go.Proofs.Ytgnjconhbloocaa
open Go.RowKit
set_option linter.unusedVariables false

theorem info_int64' : (Try.prog.info? 2).map (fun i => (i.zero, i.size, i.bytes)) = some (some (.int .i64 0), 1, 8) := by kernel_rfl

def iCells (ws : List Int) : List Value := ws.map (.int .i64)
theorem iCells_len (ws : List Int) : (iCells ws).length = ws.length := by simp [iCells]
theorem iCells_snoc (ws : List Int) (x : Int) : iCells (ws ++ [x]) = iCells ws ++ [.int .i64 x] := by simp [iCells]
theorem iCells_get (ws : List Int) (i : Nat) (h : i < ws.length) : (iCells ws)[i]? = some (.int .i64 (ws.getD i 0)) := by simp [iCells, List.getD_eq_getElem?_getD, h]
theorem iCells_set (ws : List Int) (i : Nat) (x : Int) : (iCells ws).set i (.int .i64 x) = iCells (ws.set i x) := by simp [iCells, List.map_set]

theorem IntSl.of_rows {w : World} {base : Nat} {e : TypeId} {v : Value} {ws : List Int} (h : w.ownsRow base e 1 v ws.length (iCells ws)) (hn : ws.length ≤ 9223372036854775807) : IntSl w v ws := by
  have hl := h.lt
  have h' := h
  obtain ⟨h0, h⟩ := h
  rcases h with ⟨rfl, h⟩ | ⟨g, cap, cur, rfl, hg, hh, h⟩
  · refine ⟨none, 0, by rw [h], hn, fun hp => absurd hp (by omega)⟩
  · refine ⟨some ⟨g, 0, none⟩, cap, rfl, hn, fun hp => ⟨g, 0, rfl, (hl g rfl).2, fun i hi => ?_⟩⟩
    rw [Nat.zero_add, h'.cellAt i (by omega)]
    exact iCells_get ws i hi

/-- Weights from 0 to 9 that are not all 0 are returned. -/
def GivesWts (n : Nat) (w : World) (e : Ending) (w' : World) : Prop :=
  ∃ (v : Value) (ws : List Int), e = .returned v ∧ ws.length = n ∧ (∀ k : Nat, k < n → 0 ≤ ws.getD k 0 ∧ ws.getD k 0 ≤ 9) ∧ (∃ k : Nat, k < n ∧ 1 ≤ ws.getD k 0) ∧ w'.ownsRow w.heap.size 2 1 v ws.length (iCells ws) ∧ Below w.heap.size w w'

theorem ownsRow_form' {w : World} {base size n : Nat} {e : TypeId} {v : Value} {xs : List Value} (h : w.ownsRow base e size v n xs) (hn : 0 < n) : ∃ g cap, v = .slice (some ⟨g, 0, none⟩) n cap := by
  rcases h.2 with ⟨_, h⟩ | ⟨g, cap, _, rfl, _⟩
  · omega
  · exact ⟨g, cap, rfl⟩

theorem set_getD (ws : List Int) (i k : Nat) (x : Int) (hi : i < ws.length) : (ws.set i x).getD k 0 = if i = k then x else ws.getD k 0 := by
  simp only [List.getD_eq_getElem?_getD, List.getElem?_set]
  by_cases h : i = k
  · subst h; simp [hi]
  · simp [h]

theorem snoc_all {P : Int → Prop} {ws : List Int} {x : Int} (h : ∀ k : Nat, k < ws.length → P (ws.getD k 0)) (hx : P x) : ∀ k : Nat, k < (ws ++ [x]).length → P ((ws ++ [x]).getD k 0) := by
  intro k hk
  simp only [List.length_append, List.length_cons, List.length_nil] at hk
  by_cases e : k < ws.length
  · have := h k e
    simp only [List.getD_eq_getElem?_getD, List.getElem?_append_left e] at this ⊢
    exact this
  · obtain rfl : k = ws.length := by omega
    simpa [List.getD_eq_getElem?_getD] using hx

set_option maxRecDepth 100000 in
set_option maxHeartbeats 2000000 in
theorem weights_any (n : Nat) (v : Value) (xs : List Int) (w : World) (h : IntSl w v xs) (hn0 : 1 ≤ n) (hn1 : n ≤ 5) :
    Calls Try.prog 11 #[.int .i64 n, v] w (GivesWts n w) := by
  have H := Lib.hid h
  obtain ⟨a, c, rfl, _, _⟩ := h
  obtain ⟨i0, hi, hz0, hz1, hz2⟩ := info_parts info_int64'
  go_enter Try.func11, Try.ntmps11
  go_wp2_with fail
  refine (from_any _ xs _ H.out).mono ?_
  rintro e w1 ⟨rfl, hs1, hb1⟩
  clear H
  have HS1 := Lib.hid hs1
  clear hs1
  go_wp2_with fail
  go_loopw [6, 7] (fun ov jv wr => ∃ (ws : List Int), ws.length ≤ n ∧ jv = .int .i64 ws.length ∧ Hid (∀ k : Nat, k < ws.length → 0 ≤ ws.getD k 0 ∧ ws.getD k 0 ≤ 8) ∧ wr.ownsRow (w.heap.size + 1) 2 1 ov ws.length (iCells ws) ∧ Src wr w.heap.size w.heap.size ∧ Below w.heap.size w wr) (fun _ jv _ => n - (intOf jv).toNat)
  case atStart => exact ⟨[], by simp, by go_num, Lib.hid (by simp), World.ownsRow_nil _ _ _ _, HS1.out, hb1⟩
  case round =>
    obtain ⟨ws, hl, rfl, hA, hown, hs, hb⟩ := hrel
    clear HS1 hb1
    by_cases hlt : ws.length < n
    · have hd : decide ((ws.length : Int) < (n : Int)) = true := by simp; omega
      go_wp2_with fail
      refine (next_any w.heap.size w.heap.size _ _ hs (by omega) (by omega)).mono ?_
      rintro e w2 ⟨x, x0, x1, rfl, hs2, hg2⟩
      have hown2 := owns_away hown hg2 (by omega)
      have hB2 := below_grown hb (Nat.le_refl _) (Nat.le_refl _) hg2
      have hsz := hs2.lt
      clear hs hg2 hown hb
      go_wp2_with (at_builtin; refine wpList_append_lies _ rfl _ _ _ rfl (w.heap.size + 1) 2 i0 _ 1 8 Try.underlying23 hi hz0 hz1 hz2 rfl (by omega) _ ws.length (iCells ws) rfl (hown2.alloc _) ⟨w2.heap.size, 0, none⟩ 1 1 [.int .i64 x] rfl rfl (World.news_of_block (cs := #[.int .i64 x]) (t := 2) (fr := (0, 0)) (heap_alloc_new w2 _)) (by simp [Value.oneCell']) (by omega) (by unfold maxLen; omega) (by omega) (by simp; omega) (w2.heap.size + 1) (by simp) ?_; intro g' cap w5 hown5 hgrow hat hlt5)
      have hs5 := (hs2.alloc (.cells #[.int .i64 x] 2)).grown hgrow (fun e => by have := (hown2.lt _ e.symm).1; omega) (fun k e => by have := (hown2.lt k e).1; omega)
      have hb5 : Below w.heap.size w w5 := (ext_alloc hB2 _).grown hgrow (by simp; omega) (fun k e => by have := (hown2.lt k e).1; omega)
      have hnext : w5.ownsRow (w.heap.size + 1) 2 1 (.slice (some ⟨g', 0, none⟩) (ws.length + 1) cap) (ws ++ [x]).length (iCells (ws ++ [x])) := by
        rw [iCells_snoc, List.length_append]; exact hown5
      have HAx : Hid (∀ k : Nat, k < (ws ++ [x]).length → 0 ≤ (ws ++ [x]).getD k 0 ∧ (ws ++ [x]).getD k 0 ≤ 8) := Lib.hid (snoc_all (P := fun y => 0 ≤ y ∧ y ≤ 8) hA.out (by omega))
      clear hown5 hgrow hat hlt5 hs2 hB2 hown2
      go_wp2_with fail
      go_roundw
      case rel => exact ⟨ws ++ [x], by rw [List.length_append]; exact hlt, by simp, HAx, hnext, hs5, hb5⟩
      case measure => simp [intOf]; omega
    · obtain rfl : n = ws.length := by omega
      obtain ⟨g, cap, rfl⟩ := ownsRow_form' hown (by omega)
      have hd0 : decide (0 < ws.length) = true := by simp; omega
      have hp0 : 0 < ws.length := by omega
      have HA := Lib.hid hA.out
      go_wp2_with fail
      refine (next_any w.heap.size w.heap.size _ _ hs (by omega) (by omega)).mono ?_
      rintro e w2 ⟨x, x0, x1, rfl, hs2, hg2⟩
      obtain ⟨k, rfl⟩ : ∃ k : Nat, x = k := ⟨x.toNat, by omega⟩
      have hk : k < ws.length := by omega
      have hown2 := owns_away hown hg2 (by omega)
      have hB2 := below_grown hb (Nat.le_refl _) (Nat.le_refl _) hg2
      have hgl := hown2.lt g rfl
      have ck : w2.cell? ⟨g, k, none⟩ = some (.int .i64 (ws.getD k 0)) := (hown2.cellAt k (by omega)).trans (iCells_get ws k hk)
      have fk := hown2.frozenAt k
      have hbd := HA.out k hk
      have hst := (hown2.stored k (.int .i64 (ws.getD k 0 + 1))).1
      rw [iCells_set] at hst
      have hst' : (w2.setCell ⟨g, k, none⟩ (.int .i64 (ws.getD k 0 + 1))).ownsRow w.heap.size 2 1 (.slice (some ⟨g, 0, none⟩) ws.length cap) (ws.set k (ws.getD k 0 + 1)).length (iCells (ws.set k (ws.getD k 0 + 1))) := by
        rw [List.length_set]; exact owns_base hst (by omega)
      have hset := set_getD ws k
      have H1 := Lib.hid (show ∀ j : Nat, j < ws.length → 0 ≤ (ws.set k (ws.getD k 0 + 1)).getD j 0 ∧ (ws.set k (ws.getD k 0 + 1)).getD j 0 ≤ 9 from fun j hj => by
        rw [set_getD ws k j _ hk]
        have := HA.out j hj
        split <;> omega)
      have H2 := Lib.hid (show ∃ j : Nat, j < ws.length ∧ 1 ≤ (ws.set k (ws.getD k 0 + 1)).getD j 0 from ⟨k, hk, by rw [set_getD ws k k _ hk, if_pos rfl]; omega⟩)
      have H3 := Lib.hid hst'
      have H4 := Lib.hid (ext_set hB2 (p := ⟨g, k, none⟩) (show w.heap.size ≤ g by omega) (.int .i64 (ws.getD k 0 + 1)))
      clear hst hst' hset hA hs hs2 hg2 hown hown2
      generalize ws.getD k 0 = y at *
      go_wp2_with fail
      go_ret
      exact ⟨_, _, rfl, List.length_set .., H1.out, H2.out, H3.out, H4.out⟩
end Go.Proofs.Ytgnjconhbloocaa

namespace Go.Proofs.Ytgnjconhbloocaa
open Go.RowKit
set_option linter.unusedVariables false

theorem reached_yes (x : Fx.V3) (w : World) (h : Fx.reachB x = true) :
    Calls Try.prog 51 #[.agg #[.int .i64 x.a, .int .i64 x.b, .int .i64 x.c, .int .i64 x.d, .int .i64 x.e, .int .i64 x.f]] w fun e w' => e = .returned (.bool true) ∧ Below w.heap.size w w' := by
  rw [← h]; exact reached_any x w
theorem reached_no (x : Fx.V3) (w : World) (h : Fx.reachB x = false) :
    Calls Try.prog 51 #[.agg #[.int .i64 x.a, .int .i64 x.b, .int .i64 x.c, .int .i64 x.d, .int .i64 x.e, .int .i64 x.f]] w fun e w' => e = .returned (.bool false) ∧ Below w.heap.size w w' := by
  rw [← h]; exact reached_any x w

theorem placed_not {L : List Fx.V3} (h : Fx.allR L = false) : Fx.placedB L = false := by unfold Fx.placedB; rw [h]; simp

set_option maxHeartbeats 1000000 in
theorem rplaced_any (v : Value) (L : List Fx.V3) (w : World) (hI : VSl w v L) :
    Calls Try.prog 35 #[v] w fun e w' => e = .returned (.bool (Fx.placedB L)) ∧ Below w.heap.size w w' := by
  obtain ⟨a, c, rfl, hl, hI⟩ := hI
  go_enter Try.func35, Try.ntmps35
  have HI := Lib.hid hI; clear hI
  go_wp2_with fail
  go_loopw [3] (fun iv wr => ∃ k : Nat, k ≤ L.length ∧ k ≤ 9 ∧ iv = .int .i64 k ∧ Hid (Fx.allR (L.take k) = true) ∧ Below w.heap.size w wr) (fun iv _ => 9 - (intOf iv).toNat)
  case atStart => exact ⟨0, Nat.zero_le _, by omega, rfl, Lib.hid (by simp [Fx.allR]), Below.refl _ _⟩
  case round =>
    obtain ⟨k, hk, hk9, rfl, hA, hb⟩ := hrel
    by_cases hlt : k < L.length
    · by_cases hk8 : k ≤ 8
      · obtain ⟨b, o, hab, hJ⟩ := HI.out (by omega)
        subst hab
        obtain ⟨c0, c1, c2, c3, c4, c5⟩ := (hJ.ext hb).at_ k hlt
        have HN := Lib.hid (Fx.allR_next L k hlt hA.out)
        have HS := Lib.hid (Fx.allR_stop L k hlt)
        clear hJ
        generalize L.getD k Fx.V3.zero = x at *
        have d1 : decide ((k : Int) ≤ 8) = true := by simp; omega
        by_cases hr : Fx.reachB x = true
        · have HR := Lib.hid hr
          have HN' := Lib.hid (HN.out hr)
          clear hr
          go_wp2_with (go_at_call 51; refine (reached_yes x _ HR.out).mono ?_; rintro e w1 ⟨rfl, hb1⟩)
          go_roundw
          case rel => exact ⟨k + 1, by omega, by omega, by go_num, HN', ext_trans hb hb1⟩
          case measure => simp [intOf]; omega
        · have hr : Fx.reachB x = false := by simpa using hr
          have HR := Lib.hid hr
          have HF := Lib.hid (placed_not (HS.out hr))
          clear hr
          go_wp2_with (go_at_call 51; refine (reached_no x _ HR.out).mono ?_; rintro e w1 ⟨rfl, hb1⟩)
          go_ret
          exact ⟨ret_bool HF.out.symm, ext_trans hb hb1⟩
      · have d1 : decide ((k : Int) ≤ 8) = false := by simp; omega
        have d2 : decide ((L.length : Int) ≤ 8) = false := by simp; omega
        have d3 : decide ((1 : Int) ≤ (L.length : Int)) = true := by simp; omega
        have HF := Lib.hid (Fx.placedB_long L (by omega))
        go_wp2_with fail
        go_ret
        exact ⟨ret_bool HF.out.symm, hb⟩
    · have HA := Lib.hid (Fx.allR_end L k (by omega) hA.out)
      by_cases h1 : L.length < 1
      · have d3 : decide ((1 : Int) ≤ (L.length : Int)) = false := by simp; omega
        have HF := Lib.hid (Fx.placedB_short L h1)
        go_wp2_with fail
        go_ret
        exact ⟨ret_bool HF.out.symm, hb⟩
      · have d3 : decide ((1 : Int) ≤ (L.length : Int)) = true := by simp; omega
        by_cases h8 : L.length ≤ 8
        · have d4 : decide ((L.length : Int) ≤ 8) = true := by simp; omega
          have HF := Lib.hid ((Fx.placedB_eq L (by omega) h8).trans HA.out)
          go_wp2_with fail
          go_ret
          exact ⟨ret_bool HF.out.symm, hb⟩
        · have d4 : decide ((L.length : Int) ≤ 8) = false := by simp; omega
          have HF := Lib.hid (Fx.placedB_long L (by omega))
          go_wp2_with fail
          go_ret
          exact ⟨ret_bool HF.out.symm, hb⟩

theorem placed_yes (v : Value) (L : List Fx.V3) (w : World) (hI : VSl w v L) (h : Fx.placedB L = true) :
    Calls Try.prog 32 #[v] w fun e w' => e = .returned (.bool true) ∧ Below w.heap.size w w' := by
  rw [← h]; exact placed_any v L w hI
theorem placed_no (v : Value) (L : List Fx.V3) (w : World) (hI : VSl w v L) (h : Fx.placedB L = false) :
    Calls Try.prog 32 #[v] w fun e w' => e = .returned (.bool false) ∧ Below w.heap.size w w' := by
  rw [← h]; exact placed_any v L w hI
theorem rplaced_yes (v : Value) (L : List Fx.V3) (w : World) (hI : VSl w v L) (h : Fx.placedB L = true) :
    Calls Try.prog 35 #[v] w fun e w' => e = .returned (.bool true) ∧ Below w.heap.size w w' := by
  rw [← h]; exact rplaced_any v L w hI
theorem rplaced_no (v : Value) (L : List Fx.V3) (w : World) (hI : VSl w v L) (h : Fx.placedB L = false) :
    Calls Try.prog 35 #[v] w fun e w' => e = .returned (.bool false) ∧ Below w.heap.size w w' := by
  rw [← h]; exact rplaced_any v L w hI
end Go.Proofs.Ytgnjconhbloocaa

namespace Go.Proofs.Ytgnjconhbloocaa
open Go.RowKit
set_option linter.unusedVariables false

/-- What Combine returns. -/
def combRet (L : List Fx.V3) (ws : List Int) : Value :=
  .tuple #[.agg #[.int .i64 (Fx.combV L ws).a, .int .i64 (Fx.combV L ws).b, .int .i64 (Fx.combV L ws).c, .int .i64 (Fx.combV L ws).d, .int .i64 (Fx.combV L ws).e, .int .i64 (Fx.combV L ws).f], .int .i64 (Fx.combT L ws), .bool (Fx.combOk L ws)]

theorem combRet_no {L : List Fx.V3} {ws : List Int} (h : Fx.combOk L ws = false) :
    combRet L ws = .tuple #[.agg #[.int .i64 0, .int .i64 0, .int .i64 0, .int .i64 0, .int .i64 0, .int .i64 0], .int .i64 0, .bool false] := by
  unfold combRet Fx.combV Fx.combT
  rw [h]; rfl

theorem combOk_1 {L : List Fx.V3} {ws : List Int} (h : Fx.placedB L = false) : Fx.combOk L ws = false := by unfold Fx.combOk; rw [h]; rfl
theorem combOk_2 {L : List Fx.V3} {ws : List Int} (h : ws.length ≠ L.length) : Fx.combOk L ws = false := by unfold Fx.combOk; simp [h]
theorem combOk_3 {L : List Fx.V3} {ws : List Int} (h : Fx.okW ws = false) : Fx.combOk L ws = false := by unfold Fx.combOk; rw [h]; simp

/-- A vector stored over another one. -/
def set6 (w : World) (g : Nat) (x : Fx.V3) : World :=
  (((((w.setCell ⟨g, 0, none⟩ (.int .i64 x.a)).setCell ⟨g, 1, none⟩ (.int .i64 x.b)).setCell ⟨g, 2, none⟩ (.int .i64 x.c)).setCell ⟨g, 3, none⟩ (.int .i64 x.d)).setCell ⟨g, 4, none⟩ (.int .i64 x.e)).setCell ⟨g, 5, none⟩ (.int .i64 x.f)
theorem set6_whole {w : World} {g : Nat} {t : TypeId} {v : Fx.V3} (x : Fx.V3) (h : Whole w g t v.arr) : Whole (set6 w g x) g t x.arr :=
  (((((h.store 0 (.int .i64 x.a)).store 1 (.int .i64 x.b)).store 2 (.int .i64 x.c)).store 3 (.int .i64 x.d)).store 4 (.int .i64 x.e)).store 5 (.int .i64 x.f)
theorem set6_ext {a w : World} {g : Nat} (x : Fx.V3) (h : Below a.heap.size a w) (hg : a.heap.size ≤ g) : Below a.heap.size a (set6 w g x) :=
  ext_set (ext_set (ext_set (ext_set (ext_set (ext_set h (p := ⟨g, 0, none⟩) hg _) (p := ⟨g, 1, none⟩) hg _) (p := ⟨g, 2, none⟩) hg _) (p := ⟨g, 3, none⟩) hg _) (p := ⟨g, 4, none⟩) hg _) (p := ⟨g, 5, none⟩) hg _

theorem ret_comb {tmps : Array Value} {w : World} {g : Nat} {x : Fx.V3} {t : Int} {ok : Bool} (hW : Whole w g 34 x.arr) (h4 : tmps.getD 4 undef = .pointer (some ⟨g, 0, none⟩)) (h5 : tmps.getD 5 undef = .int .i64 t) (h6 : tmps.getD 6 undef = .bool ok) :
    (results Try.f14 tmps).run Try.prog w = .ok (.tuple #[.agg #[.int .i64 x.a, .int .i64 x.b, .int .i64 x.c, .int .i64 x.d, .int .i64 x.e, .int .i64 x.f], .int .i64 t, .bool ok]) w := by
  have c0 : _ = some (Value.int .i64 x.a) := hW.cell 0
  have c1 : _ = some (Value.int .i64 x.b) := hW.cell 1
  have c2 : _ = some (Value.int .i64 x.c) := hW.cell 2
  have c3 : _ = some (Value.int .i64 x.d) := hW.cell 3
  have c4 : _ = some (Value.int .i64 x.e) := hW.cell 4
  have c5 : _ = some (Value.int .i64 x.f) := hW.cell 5
  clear hW
  have h4' : tmps[4]?.getD undef = .pointer (some ⟨g, 0, none⟩) := by simpa using h4
  have h5' : tmps[5]?.getD undef = .int .i64 t := by simpa using h5
  have h6' : tmps[6]?.getD undef = .bool ok := by simpa using h6
  simp [results, Try.results14, go_sem, h4', h5', h6', c0, c1, c2, c3, c4, c5]

set_option maxRecDepth 100000 in
set_option maxHeartbeats 2000000 in
theorem combine_any (v u : Value) (L : List Fx.V3) (ws : List Int) (w : World) (hI : VSl w v L) (hU : IntSl w u ws) :
    Calls Try.prog 14 #[v, u] w fun e w' => e = .returned (combRet L ws) ∧ Below w.heap.size w w' := by
  have HI := Lib.hid hI
  have HU := Lib.hid hU
  obtain ⟨a, c, rfl, hl, hI'⟩ := hI
  obtain ⟨a2, c2, rfl, hl2, hU'⟩ := hU
  have H1 := Lib.hid hI'
  have H2 := Lib.hid hU'
  clear hI' hU'
  by_cases hp : Fx.placedB L = true
  · have HP := Lib.hid hp
    have hlen := Fx.placedB_len hp
    clear hp
    by_cases hn : ws.length = L.length
    · have HN := Lib.hid hn
      rw [hn]
      have hn1 : ws.length ≤ L.length := by omega
      have hn2 : L.length ≤ ws.length := by omega
      clear hn
      obtain ⟨b, o, hab, hJ⟩ := H1.out (by omega)
      obtain ⟨b2, o2, hab2, hK⟩ := H2.out (by omega)
      subst hab hab2
      have HJ := Lib.hid hJ
      have HK := Lib.hid hK
      clear hJ hK H1 H2
      go_enter Try.func14, Try.ntmps14
      go_wp2_with (go_at_call 32; refine (placed_yes _ L _ (HI.out.ext (ext_alloc (ext_refl _) _)) HP.out).mono ?_; rintro e w1 ⟨rfl, hb1⟩)
      have hZ0 : Whole (w1.alloc (.cells Fx.V3.zero.arr 34)) w.heap.size 34 Fx.V3.zero.arr := ((Whole.new w _ _).ext hb1).alloc _
      have hS0 : Whole (w1.alloc (.cells Fx.V3.zero.arr 34)) w1.heap.size 34 Fx.V3.zero.arr := Whole.new w1 _ _
      have hB0 : Below w.heap.size w (w1.alloc (.cells Fx.V3.zero.arr 34)) := ext_alloc (ext_trans (ext_alloc (ext_refl _) _) hb1) _
      have hgg : w.heap.size < w1.heap.size := by have := hb1.size; simp at this; omega
      clear hb1
      go_loopw [8, 26] (fun tv iv wr => ∃ k : Nat, k ≤ L.length ∧ iv = .int .i64 k ∧ tv = .int .i64 (Fx.tot ws k) ∧ Hid (∀ i : Nat, i < k → 0 ≤ ws.getD i 0 ∧ ws.getD i 0 ≤ 65536) ∧ Whole wr w1.heap.size 34 (Fx.comb L ws k).arr ∧ Whole wr w.heap.size 34 Fx.V3.zero.arr ∧ Below w.heap.size w wr) (fun _ iv _ => L.length - (intOf iv).toNat)
      case atStart => exact ⟨0, Nat.zero_le _, rfl, rfl, Lib.hid (fun i hi => absurd hi (by omega)), hS0, hZ0, hB0⟩
      case round =>
        obtain ⟨k, hk, rfl, rfl, hR, hS, hZ, hb⟩ := hrel
        clear hS0 hZ0 hB0
        have tb := Fx.tot_bd ws k hR.out
        by_cases hlt : k < L.length
        · obtain ⟨c0, c1, c2, c3, c4, c5⟩ := (HJ.out.ext hb).at_ k hlt
          have cw := (HK.out.ext hb).2 k (by omega)
          have hx := Fx.reach_within (Fx.allR_at (Fx.placedB_all HP.out) k hlt)
          have hs := Fx.comb_bd L ws k hR.out (fun i hi => Fx.allR_at (Fx.placedB_all HP.out) i (by omega))
          have HC : Hid (Fx.comb L ws (k + 1) = (Fx.comb L ws k).addw (ws.getD k 0) (L.getD k Fx.V3.zero)) := Lib.hid rfl
          have HT : Hid (Fx.tot ws (k + 1) = Fx.tot ws k + ws.getD k 0) := Lib.hid rfl
          have HX := Lib.hid hx; have HSB := Lib.hid hs
          clear hx hs
          have z0 : _ = some (Value.int .i64 0) := hZ.cell 0
          have z1 : _ = some (Value.int .i64 0) := hZ.cell 1
          have z2 : _ = some (Value.int .i64 0) := hZ.cell 2
          have z3 : _ = some (Value.int .i64 0) := hZ.cell 3
          have z4 : _ = some (Value.int .i64 0) := hZ.cell 4
          have z5 : _ = some (Value.int .i64 0) := hZ.cell 5
          have y0 := hZ.frozen 0
          have y1 := hZ.frozen 1
          have y2 := hZ.frozen 2
          have y3 := hZ.frozen 3
          have y4 := hZ.frozen 4
          have y5 := hZ.frozen 5
          have HZ := Lib.hid hZ; have HSW := Lib.hid hS
          clear hZ hS
          by_cases hw : 0 ≤ ws.getD k 0 ∧ ws.getD k 0 ≤ 65536
          · have mb := fun y hy => Fx.wmul_bd (ws.getD k 0) y 268435456 hw.1 hw.2 (by omega) hy
            have HR' := Lib.hid (show ∀ i : Nat, i < k + 1 → 0 ≤ ws.getD i 0 ∧ ws.getD i 0 ≤ 65536 from fun i hi => by
              by_cases e : i = k
              · rw [e]; exact hw
              · exact hR.out i (by omega))
            have MB := Lib.hid mb
            clear mb
            have hk8 : k < 8 := by omega
            generalize ws.getD k 0 = wt at *
            generalize L.getD k Fx.V3.zero = x at *
            have d1 : decide (wt < 0) = false := by simp; omega
            have d2 : decide (65536 < wt) = false := by simp; omega
            clear z0 z1 z2 z3 z4 z5 y0 y1 y2 y3 y4 y5
            go_wp2_with fail
            clear c0 c1 c2 c3 c4 c5 cw
            obtain ⟨wo, rfl⟩ : ∃ wo : World, wo = wr := ⟨_, rfl⟩
            go_loopw [45] (fun jv wr => ∃ j : Nat, j ≤ 3 ∧ jv = .int .i64 j ∧ Whole wr w1.heap.size 34 (Fx.mixV (Fx.comb L ws k) wt x j).arr ∧ Whole wr w.heap.size 34 Fx.V3.zero.arr ∧ Below w.heap.size w wr) (fun jv _ => 3 - (intOf jv).toNat)
            case atStart => exact ⟨0, by omega, rfl, HSW.out, HZ.out, hb⟩
            case round =>
              obtain ⟨j, hj, rfl, hS, hZ, hbj⟩ := hrel
              by_cases hj3 : j < 3
              · have hix := fun w => idx3 x j hj3 w
                have sl := Fx.within_lo HSB.out j
                have sh := Fx.within_hi HSB.out j
                have pl := MB.out _ (Fx.within_lo HX.out j)
                have ph := MB.out _ (Fx.within_hi HX.out j)
                obtain ⟨g0, g1⟩ := Fx.mixV_lo (Fx.comb L ws k) wt x j hj3
                have G0 := Lib.hid g0
                have G1 := Lib.hid g1
                have HHf := Lib.hid (fun u => Fx.mixV_half (Fx.comb L ws k) wt x u j hj3)
                have HNx := Lib.hid (Fx.mixV_next (Fx.comb L ws k) wt x j hj3)
                have hsz := hS.lt
                have HS' := Lib.hid hS
                have HZ' := Lib.hid hZ
                clear hS hZ g0 g1
                generalize (Fx.comb L ws k).lo j = s0 at *
                generalize (Fx.comb L ws k).hi j = s1 at *
                generalize x.lo j = x0 at *
                generalize x.hi j = x1 at *
                have k0 : (0 : Int) ≤ (j : Int) := by omega
                have k1 : (j : Int) < 3 := by omega
                go_wp2_with fail
                have hA := Whole.new wr 32 #[.int .i64 x0, .int .i64 x1]
                have HS2 := Lib.hid (HS'.out.alloc (.cells #[.int .i64 x0, .int .i64 x1] 32))
                have HZ2 := Lib.hid (HZ'.out.alloc (.cells #[.int .i64 x0, .int .i64 x1] 32))
                have hb2 := ext_alloc hbj (.cells #[.int .i64 x0, .int .i64 x1] 32)
                have hne : w1.heap.size ≠ wr.heap.size := by omega
                have hne2 : w.heap.size ≠ w1.heap.size := by omega
                generalize wr.alloc (.cells #[.int .i64 x0, .int .i64 x1] 32) = w2 at *
                generalize wr.heap.size = gx at *
                clear HS' HZ' hbj
                have c0 := (HS2.out.cell (j * 2)).trans G0.out
                have c1 := (HS2.out.cell (j * 2 + 1)).trans G1.out
                have f0 := HS2.out.frozen (j * 2)
                have f1 := HS2.out.frozen (j * 2 + 1)
                have a0 : _ = some (Value.int .i64 x0) := hA.cell 0
                have a1 : _ = some (Value.int .i64 x1) := hA.cell 1
                have HA2 := Lib.hid hA
                clear hA
                have e1 : IntKind.i64.wrap (wt * x0) = wt * x0 := by rw [IntKind.wrap_i64]; omega
                have e2 : IntKind.i64.wrap (s0 + wt * x0) = s0 + wt * x0 := by rw [IntKind.wrap_i64]; omega
                go_region
                all_goals clear e1 e2
                all_goals go_wp2_with fail
                have hS3 := (HS2.out.store (j * 2) (.int .i64 (s0 + wt * x0))).drew
                have hZ3 := (HZ2.out.far (p := ⟨w1.heap.size, j * 2, none⟩) hne2 (.int .i64 (s0 + wt * x0))).drew
                have hA3 := (HA2.out.far (p := ⟨w1.heap.size, j * 2, none⟩) (Ne.symm hne) (.int .i64 (s0 + wt * x0))).drew
                have hb3 : Below w.heap.size w (w2.setCell ⟨w1.heap.size, j * 2, none⟩ (.int .i64 (s0 + wt * x0))).drew := ext_drew (ext_set hb2 (p := ⟨w1.heap.size, j * 2, none⟩) (Nat.le_of_lt hgg) _)
                generalize (w2.setCell ⟨w1.heap.size, j * 2, none⟩ (.int .i64 (s0 + wt * x0))).drew = w3 at *
                have c1' := (hS3.cell (j * 2 + 1)).trans (HHf.out _)
                have f1' := hS3.frozen (j * 2 + 1)
                have a1' : _ = some (Value.int .i64 x1) := hA3.cell 1
                have HS3 := Lib.hid hS3
                have HZ3 := Lib.hid hZ3
                clear hS3 hZ3 hA3 HS2 HZ2 HA2 HHf c0 c1 f0 f1 a0 a1 hb2 G0 G1
                have e1 : IntKind.i64.wrap (wt * x1) = wt * x1 := by rw [IntKind.wrap_i64]; omega
                have e2 : IntKind.i64.wrap (s1 + wt * x1) = s1 + wt * x1 := by rw [IntKind.wrap_i64]; omega
                go_region
                clear e1 e2
                have hS4 := (HS3.out.store (j * 2 + 1) (.int .i64 (s1 + wt * x1))).drew
                rw [HNx.out] at hS4
                have HS4 := Lib.hid hS4
                have HZ4 := Lib.hid (HZ3.out.far (p := ⟨w1.heap.size, j * 2 + 1, none⟩) hne2 (.int .i64 (s1 + wt * x1))).drew
                have hb4 : Below w.heap.size w (w3.setCell ⟨w1.heap.size, j * 2 + 1, none⟩ (.int .i64 (s1 + wt * x1))).drew := ext_drew (ext_set hb3 (p := ⟨w1.heap.size, j * 2 + 1, none⟩) (Nat.le_of_lt hgg) _)
                clear hS4 HS3 HZ3
                go_wp2_with fail
                go_roundw
                case rel => exact ⟨j + 1, by omega, by go_num, HS4.out, HZ4.out, hb4⟩
                case measure => simp [intOf]; omega
              · obtain rfl : j = 3 := by omega
                rw [Fx.mixV_three, ← HC.out] at hS
                have HS' := Lib.hid hS
                have HZ' := Lib.hid hZ
                clear hS hZ
                go_wp2_with fail
                go_roundw
                case rel => exact ⟨k + 1, by omega, by go_num, by rw [HT.out], HR', HS'.out, HZ'.out, hbj⟩
                case measure => simp [intOf]; omega
          · have HF := Lib.hid (combRet_no (combOk_3 (L := L) (Fx.okW_stop ws k (by omega) hw)))
            generalize ws.getD k 0 = wt at *
            generalize L.getD k Fx.V3.zero = x at *
            by_cases hw0 : wt < 0
            · have d1 : decide (wt < 0) = true := by simp; omega
              clear hw
              go_wp2_with fail
              exact bodyPost_ret (ret_comb (x := Fx.V3.zero) (set6_whole Fx.V3.zero HZ.out) rfl rfl rfl) rfl ⟨by rw [HF.out]; rfl, set6_ext Fx.V3.zero hb (Nat.le_refl _)⟩
            · have d1 : decide (wt < 0) = false := by simp; omega
              have d2 : decide (65536 < wt) = true := by simp; omega
              clear hw
              go_wp2_with fail
              exact bodyPost_ret (ret_comb (x := Fx.V3.zero) (set6_whole Fx.V3.zero HZ.out) rfl rfl rfl) rfl ⟨by rw [HF.out]; rfl, set6_ext Fx.V3.zero hb (Nat.le_refl _)⟩
        · obtain rfl : k = L.length := by omega
          have z0 : _ = some (Value.int .i64 0) := hZ.cell 0
          have z1 : _ = some (Value.int .i64 0) := hZ.cell 1
          have z2 : _ = some (Value.int .i64 0) := hZ.cell 2
          have z3 : _ = some (Value.int .i64 0) := hZ.cell 3
          have z4 : _ = some (Value.int .i64 0) := hZ.cell 4
          have z5 : _ = some (Value.int .i64 0) := hZ.cell 5
          have y0 := hZ.frozen 0
          have y1 := hZ.frozen 1
          have y2 := hZ.frozen 2
          have y3 := hZ.frozen 3
          have y4 := hZ.frozen 4
          have y5 := hZ.frozen 5
          have HZ := Lib.hid hZ
          clear hZ
          by_cases ht : 1 ≤ Fx.tot ws L.length ∧ Fx.tot ws L.length ≤ 65536
          · have hok : Fx.combOk L ws = true := by
              unfold Fx.combOk
              have h1 := HP.out
              have h2 := HN.out
              rw [h1, Fx.okW_yes ws (fun i hi => hR.out i (by omega)) (by rw [h2]; exact ht)]
              simp [h2]
            have HF : Hid (combRet L ws = .tuple #[.agg #[.int .i64 (Fx.comb L ws L.length).a, .int .i64 (Fx.comb L ws L.length).b, .int .i64 (Fx.comb L ws L.length).c, .int .i64 (Fx.comb L ws L.length).d, .int .i64 (Fx.comb L ws L.length).e, .int .i64 (Fx.comb L ws L.length).f], .int .i64 (Fx.tot ws L.length), .bool true]) := Lib.hid (by unfold combRet Fx.combV Fx.combT; rw [hok]; rfl)
            clear hok
            generalize Fx.comb L ws L.length = x at *
            have s0 : _ = some (Value.int .i64 x.a) := hS.cell 0
            have s1 : _ = some (Value.int .i64 x.b) := hS.cell 1
            have s2 : _ = some (Value.int .i64 x.c) := hS.cell 2
            have s3 : _ = some (Value.int .i64 x.d) := hS.cell 3
            have s4 : _ = some (Value.int .i64 x.e) := hS.cell 4
            have s5 : _ = some (Value.int .i64 x.f) := hS.cell 5
            clear hS
            have d1 : decide (Fx.tot ws L.length < 1) = false := by simp; omega
            have d2 : decide (65536 < Fx.tot ws L.length) = false := by simp; omega
            go_wp2_with fail
            exact bodyPost_ret (ret_comb (x := x) (set6_whole x HZ.out) rfl rfl rfl) rfl ⟨by rw [HF.out], set6_ext x hb (Nat.le_refl _)⟩
          · have hno : Fx.okW ws = false := Fx.okW_not ws (by have h2 := HN.out; rw [h2]; exact ht)
            have HF := Lib.hid (combRet_no (combOk_3 (L := L) hno))
            clear hno hS
            by_cases h1 : Fx.tot ws L.length < 1
            · have d1 : decide (Fx.tot ws L.length < 1) = true := by simp; omega
              clear ht
              go_wp2_with fail
              exact bodyPost_ret (ret_comb (x := Fx.V3.zero) (set6_whole Fx.V3.zero HZ.out) rfl rfl rfl) rfl ⟨by rw [HF.out]; rfl, set6_ext Fx.V3.zero hb (Nat.le_refl _)⟩
            · have d1 : decide (Fx.tot ws L.length < 1) = false := by simp; omega
              have d2 : decide (65536 < Fx.tot ws L.length) = true := by simp; omega
              clear ht
              go_wp2_with fail
              exact bodyPost_ret (ret_comb (x := Fx.V3.zero) (set6_whole Fx.V3.zero HZ.out) rfl rfl rfl) rfl ⟨by rw [HF.out]; rfl, set6_ext Fx.V3.zero hb (Nat.le_refl _)⟩
    · have HF := Lib.hid (combRet_no (combOk_2 (L := L) hn))
      have d1 : ((ws.length : Int) != (L.length : Int)) = true := by simp; omega
      have d2 : ¬ ws.length = L.length := hn
      clear hn H1 H2
      go_enter Try.func14, Try.ntmps14
      go_wp2_with fail
      refine (placed_yes _ L _ (HI.out.ext (ext_alloc (ext_refl _) _)) HP.out).mono ?_
      rintro e w1 ⟨rfl, hb1⟩
      have hZ := (Whole.new w 34 Fx.V3.zero.arr).ext hb1
      have z0 : _ = some (Value.int .i64 0) := hZ.cell 0
      have z1 : _ = some (Value.int .i64 0) := hZ.cell 1
      have z2 : _ = some (Value.int .i64 0) := hZ.cell 2
      have z3 : _ = some (Value.int .i64 0) := hZ.cell 3
      have z4 : _ = some (Value.int .i64 0) := hZ.cell 4
      have z5 : _ = some (Value.int .i64 0) := hZ.cell 5
      have y0 := hZ.frozen 0
      have y1 := hZ.frozen 1
      have y2 := hZ.frozen 2
      have y3 := hZ.frozen 3
      have y4 := hZ.frozen 4
      have y5 := hZ.frozen 5
      have HZ := Lib.hid hZ
      have hB1 : Below w.heap.size w w1 := ext_trans (ext_alloc (ext_refl _) _) hb1
      clear hZ hb1
      go_wp2_with fail
      exact bodyPost_ret (ret_comb (x := Fx.V3.zero) (set6_whole Fx.V3.zero HZ.out) rfl rfl rfl) rfl ⟨by rw [HF.out]; rfl, set6_ext Fx.V3.zero hB1 (Nat.le_refl _)⟩
  · have hp : Fx.placedB L = false := by simpa using hp
    have HP := Lib.hid hp
    have HF := Lib.hid (combRet_no (combOk_1 (ws := ws) hp))
    clear hp H1 H2
    go_enter Try.func14, Try.ntmps14
    go_wp2_with fail
    refine (placed_no _ L _ (HI.out.ext (ext_alloc (ext_refl _) _)) HP.out).mono ?_
    rintro e w1 ⟨rfl, hb1⟩
    have hZ := (Whole.new w 34 Fx.V3.zero.arr).ext hb1
    have z0 : _ = some (Value.int .i64 0) := hZ.cell 0
    have z1 : _ = some (Value.int .i64 0) := hZ.cell 1
    have z2 : _ = some (Value.int .i64 0) := hZ.cell 2
    have z3 : _ = some (Value.int .i64 0) := hZ.cell 3
    have z4 : _ = some (Value.int .i64 0) := hZ.cell 4
    have z5 : _ = some (Value.int .i64 0) := hZ.cell 5
    have y0 := hZ.frozen 0
    have y1 := hZ.frozen 1
    have y2 := hZ.frozen 2
    have y3 := hZ.frozen 3
    have y4 := hZ.frozen 4
    have y5 := hZ.frozen 5
    have HZ := Lib.hid hZ
    have hB1 : Below w.heap.size w w1 := ext_trans (ext_alloc (ext_refl _) _) hb1
    clear hZ hb1
    go_wp2_with fail
    exact bodyPost_ret (ret_comb (x := Fx.V3.zero) (set6_whole Fx.V3.zero HZ.out) rfl rfl rfl) rfl ⟨by rw [HF.out]; rfl, set6_ext Fx.V3.zero hB1 (Nat.le_refl _)⟩
end Go.Proofs.Ytgnjconhbloocaa

namespace Go.Proofs.Ytgnjconhbloocaa
open Go.RowKit
set_option linter.unusedVariables false

theorem made_reach {W : Int} {x : Fx.V3} (h : Made W x 3) (hW : W ≤ 5000) : Fx.reachB x = true := by
  refine Fx.reachB_of x fun j hj => ?_
  have := h j hj
  rw [Fx.near_true]
  omega

theorem allR_of {L : List Fx.V3} (h : ∀ x ∈ L, Fx.reachB x = true) : Fx.allR L = true := by
  unfold Fx.allR
  rw [List.all_eq_true]
  exact h

theorem placed_made {W : Int} {L : List Fx.V3} (h1 : 1 ≤ L.length) (h5 : L.length ≤ 5) (h : ∀ x ∈ L, Made W x 3) (hW : W ≤ 5000) : Fx.placedB L = true := by
  rw [Fx.placedB_eq L h1 (by omega)]
  exact allR_of fun x hx => made_reach (h x hx) hW

theorem tot_pos (ws : List Int) (n k : Nat) (h : ∀ i : Nat, i < n → 0 ≤ ws.getD i 0) (hk : k < n) (h1 : 1 ≤ ws.getD k 0) : 1 ≤ Fx.tot ws n := by
  have h2 := Fx.tot_mono ws n h (n - (k + 1)) (k + 1) (by omega)
  have h3 := Fx.tot_mono ws n h k 0 (by omega)
  rw [show k + 1 + (n - (k + 1)) = n by omega] at h2
  rw [Nat.zero_add] at h3
  have e : Fx.tot ws (k + 1) = Fx.tot ws k + ws.getD k 0 := rfl
  have e0 : Fx.tot ws 0 = 0 := rfl
  omega
theorem tot_le (ws : List Int) (B : Int) : ∀ (n : Nat), (∀ i : Nat, i < n → ws.getD i 0 ≤ B) → Fx.tot ws n ≤ n * B
  | 0, _ => by simp [Fx.tot]
  | n + 1, h => by
    have h1 := tot_le ws B n (fun i hi => h i (by omega))
    have h2 := h n (by omega)
    have e : Fx.tot ws (n + 1) = Fx.tot ws n + ws.getD n 0 := rfl
    have e2 : ((n + 1 : Nat) : Int) * B = n * B + B := by rw [Int.natCast_add, Int.add_mul]; simp
    omega

theorem okW_small {ws : List Int} {B : Int} (hB : B ≤ 2304) (hl : ws.length ≤ 5) (hb : ∀ k : Nat, k < ws.length → 0 ≤ ws.getD k 0 ∧ ws.getD k 0 ≤ B) (hp : ∃ k : Nat, k < ws.length ∧ 1 ≤ ws.getD k 0) : Fx.okW ws = true := by
  obtain ⟨k, hk, hk1⟩ := hp
  have h1 := tot_pos ws ws.length k (fun i hi => (hb i hi).1) hk hk1
  have h2 := tot_le ws B ws.length (fun i hi => (hb i hi).2)
  refine Fx.okW_yes ws (fun i hi => by have := hb i hi; omega) ⟨h1, ?_⟩
  have hB0 : 0 ≤ B := by have := hb k hk; omega
  have : (ws.length : Int) * B ≤ 5 * B := Int.mul_le_mul_of_nonneg_right (by omega) hB0
  omega

theorem combOk_yes {L : List Fx.V3} {ws : List Int} (h1 : Fx.placedB L = true) (h2 : ws.length = L.length) (h3 : Fx.okW ws = true) : Fx.combOk L ws = true := by
  unfold Fx.combOk; rw [h1, h3]; simp [h2]

/-- What Combine returns for arguments in order. -/
def combYes (x : Fx.V3) (t : Int) : Value := .tuple #[.agg #[.int .i64 x.a, .int .i64 x.b, .int .i64 x.c, .int .i64 x.d, .int .i64 x.e, .int .i64 x.f], .int .i64 t, .bool true]
theorem combRet_yes {L : List Fx.V3} {ws : List Int} (h : Fx.combOk L ws = true) : combRet L ws = combYes (Fx.comb L ws L.length) (Fx.tot ws L.length) := by
  unfold combRet Fx.combV Fx.combT combYes
  rw [h]; rfl

theorem addw_lo (s v : Fx.V3) (w : Int) (j : Nat) : (s.addw w v).lo j = s.lo j + w * v.lo j := by
  match j with
  | 0 => rfl
  | 1 => rfl
  | n + 2 => rfl
theorem addw_hi (s v : Fx.V3) (w : Int) (j : Nat) : (s.addw w v).hi j = s.hi j + w * v.hi j := by
  match j with
  | 0 => rfl
  | 1 => rfl
  | n + 2 => rfl
theorem zero_lo (j : Nat) : Fx.V3.zero.lo j = 0 := by
  match j with
  | 0 => rfl
  | 1 => rfl
  | n + 2 => rfl
theorem zero_hi (j : Nat) : Fx.V3.zero.hi j = 0 := by
  match j with
  | 0 => rfl
  | 1 => rfl
  | n + 2 => rfl

/-- The first j intervals of y are numbers of those of x. -/
def Took (x y : Fx.V3) (j : Nat) : Prop := ∀ i : Nat, i < j → y.lo i = y.hi i ∧ x.lo i ≤ y.lo i ∧ y.hi i ≤ x.hi i

theorem comb_within (L M : List Fx.V3) (ws : List Int) : ∀ (n : Nat), (∀ i : Nat, i < n → 0 ≤ ws.getD i 0) → (∀ i : Nat, i < n → Took (L.getD i Fx.V3.zero) (M.getD i Fx.V3.zero) 3) → Took (Fx.comb L ws n) (Fx.comb M ws n) 3
  | 0, _, _ => fun i hi => by simp [Fx.comb, zero_lo, zero_hi]
  | n + 1, h, ht => by
    have h1 := comb_within L M ws n (fun i hi => h i (by omega)) (fun i hi => ht i (by omega))
    intro i hi
    have h2 := h1 i hi
    have h3 := ht n (by omega) i hi
    have h4 := h n (by omega)
    show ((Fx.comb M ws n).addw (ws.getD n 0) (M.getD n Fx.V3.zero)).lo i = ((Fx.comb M ws n).addw (ws.getD n 0) (M.getD n Fx.V3.zero)).hi i ∧ ((Fx.comb L ws n).addw (ws.getD n 0) (L.getD n Fx.V3.zero)).lo i ≤ ((Fx.comb M ws n).addw (ws.getD n 0) (M.getD n Fx.V3.zero)).lo i ∧ ((Fx.comb M ws n).addw (ws.getD n 0) (M.getD n Fx.V3.zero)).hi i ≤ ((Fx.comb L ws n).addw (ws.getD n 0) (L.getD n Fx.V3.zero)).hi i
    simp only [addw_lo, addw_hi]
    have m1 := Int.mul_le_mul_of_nonneg_left h3.2.1 h4
    have m2 := Int.mul_le_mul_of_nonneg_left h3.2.2 h4
    rw [h3.1] at m1 ⊢
    obtain ⟨q1, q2, q3⟩ := h2
    refine ⟨by omega, by omega, by omega⟩

theorem reach_took {x y : Fx.V3} (hx : Fx.reachB x = true) (h : Took x y 3) : Fx.reachB y = true := by
  refine Fx.reachB_of y fun j hj => ?_
  have h1 := h j hj
  have h2 := Fx.near_true.1 (Fx.reachB_at hx j hj)
  rw [Fx.near_true]
  omega

theorem comb_scale (L : List Fx.V3) (ws : List Int) (f : Int) : ∀ (n : Nat), n ≤ ws.length → Fx.tot (ws.map (f * ·)) n = f * Fx.tot ws n ∧ ∀ j : Nat, (Fx.comb L (ws.map (f * ·)) n).lo j = f * (Fx.comb L ws n).lo j ∧ (Fx.comb L (ws.map (f * ·)) n).hi j = f * (Fx.comb L ws n).hi j
  | 0, _ => ⟨by simp [Fx.tot], fun j => by simp [Fx.comb, zero_lo, zero_hi]⟩
  | n + 1, hn => by
    obtain ⟨h1, h2⟩ := comb_scale L ws f n (by omega)
    have e : (ws.map (f * ·)).getD n 0 = f * ws.getD n 0 := by
      simp only [List.getD_eq_getElem?_getD, List.getElem?_map, List.getElem?_eq_getElem (show n < ws.length by omega)]; rfl
    refine ⟨?_, fun j => ?_⟩
    · show Fx.tot (ws.map (f * ·)) n + (ws.map (f * ·)).getD n 0 = f * (Fx.tot ws n + ws.getD n 0)
      rw [h1, e, Int.mul_add]
    · show ((Fx.comb L (ws.map (f * ·)) n).addw ((ws.map (f * ·)).getD n 0) (L.getD n Fx.V3.zero)).lo j = f * ((Fx.comb L ws n).addw (ws.getD n 0) (L.getD n Fx.V3.zero)).lo j ∧ ((Fx.comb L (ws.map (f * ·)) n).addw ((ws.map (f * ·)).getD n 0) (L.getD n Fx.V3.zero)).hi j = f * ((Fx.comb L ws n).addw (ws.getD n 0) (L.getD n Fx.V3.zero)).hi j
      simp only [addw_lo, addw_hi, (h2 j).1, (h2 j).2, e, Int.mul_add, Int.mul_assoc]
      exact ⟨trivial, trivial⟩

/-- The two sums of the law on chosen points. -/
theorem chosen_sums {L M : List Fx.V3} {ws : List Int} {W : Int} (hW : W ≤ 5000) (h1 : 1 ≤ L.length) (h5 : L.length ≤ 5) (hL : ∀ x ∈ L, Made W x 3) (hM : M.length = L.length) (ht : ∀ i : Nat, i < L.length → Took (L.getD i Fx.V3.zero) (M.getD i Fx.V3.zero) 3)
    (hw : ws.length = L.length) (hb : ∀ k : Nat, k < L.length → 0 ≤ ws.getD k 0 ∧ ws.getD k 0 ≤ 9) (hp : ∃ k : Nat, k < L.length ∧ 1 ≤ ws.getD k 0) :
    ∃ x y : Fx.V3, combRet M ws = combYes x (Fx.tot ws ws.length) ∧ combRet L ws = combYes y (Fx.tot ws ws.length) ∧ Took y x 3 := by
  have hok : Fx.okW ws = true := okW_small (B := 9) (by omega) (by omega) (by rw [hw]; exact hb) (by rw [hw]; exact hp)
  have hpl := placed_made h1 h5 hL hW
  have hR := Fx.placedB_all hpl
  have hpm : Fx.placedB M = true := by
    rw [Fx.placedB_eq M (by omega) (by omega)]
    refine allR_of fun x hx => ?_
    obtain ⟨k, hk, rfl⟩ := List.mem_iff_getElem.1 hx
    have := reach_took (Fx.allR_at hR k (by omega)) (ht k (by omega))
    rw [List.getD_eq_getElem?_getD, List.getElem?_eq_getElem hk] at this
    exact this
  have o1 := combOk_yes hpl hw hok
  have o2 := combOk_yes hpm (by omega) hok
  refine ⟨_, _, combRet_yes o2 |>.trans (by rw [hM, hw]), combRet_yes o1 |>.trans (by rw [hw]), ?_⟩
  exact comb_within L M ws L.length (fun i hi => (hb i hi).1) ht

/-- The two sums of the law on multiplied weights. -/
theorem scaled_sums {L : List Fx.V3} {ws : List Int} {W f : Int} (hf0 : 1 ≤ f) (hf1 : f ≤ 256) (hW : W ≤ 5000) (h1 : 1 ≤ L.length) (h5 : L.length ≤ 5) (hL : ∀ x ∈ L, Made W x 3)
    (hw : ws.length = L.length) (hb : ∀ k : Nat, k < L.length → 0 ≤ ws.getD k 0 ∧ ws.getD k 0 ≤ 9) (hp : ∃ k : Nat, k < L.length ∧ 1 ≤ ws.getD k 0) :
    ∃ (x y : Fx.V3) (t : Int), combRet L ws = combYes x t ∧ combRet L (ws.map (f * ·)) = combYes y (f * t) ∧ (0 ≤ t ∧ t ≤ 45) ∧ x.within 87960930222080 ∧ ∀ j : Nat, y.lo j = f * x.lo j ∧ y.hi j = f * x.hi j := by
  have hok : Fx.okW ws = true := okW_small (B := 9) (by omega) (by omega) (by rw [hw]; exact hb) (by rw [hw]; exact hp)
  have hpl := placed_made h1 h5 hL hW
  have e : ∀ n : Nat, n < ws.length → (ws.map (f * ·)).getD n 0 = f * ws.getD n 0 := fun n hn => by
    simp only [List.getD_eq_getElem?_getD, List.getElem?_map, List.getElem?_eq_getElem hn]; rfl
  have hok2 : Fx.okW (ws.map (f * ·)) = true := okW_small (B := 2304) (by omega) (by simp; omega) (by
    intro k hk
    rw [List.length_map] at hk
    rw [e k hk]
    have h := hb k (by omega)
    have m1 := Int.mul_nonneg (show (0 : Int) ≤ f by omega) h.1
    have m2 := Int.mul_le_mul_of_nonneg_left h.2 (show (0 : Int) ≤ f by omega)
    omega) (by
    obtain ⟨k, hk, hk1⟩ := hp
    refine ⟨k, by rw [List.length_map]; omega, ?_⟩
    rw [e k (by omega)]
    have m2 := Int.mul_le_mul_of_nonneg_left hk1 (show (0 : Int) ≤ f by omega)
    omega)
  have o1 := combOk_yes hpl hw hok
  have o2 := combOk_yes hpl (show (ws.map (f * ·)).length = L.length by simp [hw]) hok2
  obtain ⟨s1, s2⟩ := comb_scale L ws f L.length (by omega)
  have hbd := Fx.comb_bd L ws L.length (fun i hi => by have := hb i hi; omega) (fun i hi => Fx.allR_at (Fx.placedB_all hpl) i hi)
  have hwt : Fx.V3.within (Fx.comb L ws L.length) 87960930222080 := by
    generalize Fx.comb L ws L.length = s at *
    unfold Fx.V3.within at *
    omega
  have t0 := tot_le ws 9 L.length (fun i hi => (hb i hi).2)
  have t1 := Fx.tot_mono ws L.length (fun i hi => (hb i hi).1) L.length 0 (by omega)
  have t2 : Fx.tot ws 0 = 0 := rfl
  rw [Nat.zero_add] at t1
  refine ⟨_, _, _, combRet_yes o1, (combRet_yes o2).trans (by rw [s1]), ⟨by omega, by omega⟩, hwt, s2⟩
end Go.Proofs.Ytgnjconhbloocaa

namespace Go.Proofs.Ytgnjconhbloocaa
open Go.RowKit
set_option linter.unusedVariables false

theorem info_iv' : (Try.prog.info? 32).map (fun i => (i.zero, i.size, i.bytes)) = some (some (.agg #[.int .i64 0, .int .i64 0]), 2, 16) := by kernel_rfl
theorem cells_iv : Try.prog.cellsOf 32 = 2 := by kernel_rfl

theorem eq_iv (d : Nat) (a b : Int) (w : World) : (Op.equalIn (d + 2) 32 (.agg #[.int .i64 a, .int .i64 b]) (.agg #[.int .i64 a, .int .i64 b])).run Try.prog w = .ok true w := by
  simp [go_sem]

@[go_sem] theorem eq_ivec (a b c d e f : Int) (w : World) : (Op.equalIn 10000 34 (.agg #[.int .i64 a, .int .i64 b, .int .i64 c, .int .i64 d, .int .i64 e, .int .i64 f]) (.agg #[.int .i64 a, .int .i64 b, .int .i64 c, .int .i64 d, .int .i64 e, .int .i64 f])).run Try.prog w = .ok true w := by
  obtain ⟨i0, hi, _⟩ := info_parts info_iv'
  have p0 : (part 32 #[.int .i64 a, .int .i64 b, .int .i64 c, .int .i64 d, .int .i64 e, .int .i64 f] (0 * 2)).run Try.prog w = .ok (.agg #[.int .i64 a, .int .i64 b]) w := by kernel_rfl
  have p1 : (part 32 #[.int .i64 a, .int .i64 b, .int .i64 c, .int .i64 d, .int .i64 e, .int .i64 f] (1 * 2)).run Try.prog w = .ok (.agg #[.int .i64 c, .int .i64 d]) w := by kernel_rfl
  have p2 : (part 32 #[.int .i64 a, .int .i64 b, .int .i64 c, .int .i64 d, .int .i64 e, .int .i64 f] (2 * 2)).run Try.prog w = .ok (.agg #[.int .i64 e, .int .i64 f]) w := by kernel_rfl
  rw [run_equalIn_array w 9999 _ _ Try.underlying34 hi, cells_iv, show List.range 3 = [0, 1, 2] from rfl]
  simp only [Op.eqItems, Sem.run_bind, p0, p1, p2, eq_iv 9997, Result.andThen_ok, Bool.not_true, Bool.false_eq_true, if_false, Sem.run_pure]
end Go.Proofs.Ytgnjconhbloocaa

namespace Go.Proofs.Ytgnjconhbloocaa
open Go.RowKit
set_option linter.unusedVariables false

/-- The vector of intervals of a point. -/
def Fx.ofV (a b c : Int) : Fx.V3 := ⟨Fx.clamp a, Fx.clamp a, Fx.clamp b, Fx.clamp b, Fx.clamp c, Fx.clamp c⟩

/-- What stays while a point is made: the three numbers. -/
abbrev KeepP (w : World) (g1 : Nat) (a b c : Int) (w' : World) : Prop :=
  w'.cell? ⟨w.heap.size, 0, none⟩ = some (.int .i64 a) ∧ w'.cell? ⟨w.heap.size, 1, none⟩ = some (.int .i64 b) ∧ w'.cell? ⟨w.heap.size, 2, none⟩ = some (.int .i64 c) ∧ g1 < w'.heap.size ∧ w.heap.size < w'.heap.size ∧ Below w.heap.size w w'
theorem KeepP.step {w : World} {g1 : Nat} {a b c : Int} {w1 w2 : World} (h : KeepP w g1 a b c w1) (hb : Below w1.heap.size w1 w2) : KeepP w g1 a b c w2 := by
  obtain ⟨h0, h1, h2, h3, h3', h4⟩ := h
  have := hb.size
  exact ⟨(hb.cell (p := ⟨w.heap.size, 0, none⟩) (show w.heap.size < _ by omega)).trans h0, (hb.cell (p := ⟨w.heap.size, 1, none⟩) (show w.heap.size < _ by omega)).trans h1, (hb.cell (p := ⟨w.heap.size, 2, none⟩) (show w.heap.size < _ by omega)).trans h2, by omega, by omega, h4.trans (hb.mono (by omega))⟩
theorem arr_one (x : Fx.V3) : (x.arr.all fun v => v.oneCell') = true := by simp [Fx.V3.arr, Value.oneCell']
theorem there6 {w : World} {g : Nat} {t : TypeId} {x : Fx.V3} (h : Whole w g t x.arr) : w.there g 0 6 := fun j hj => by
  rw [Nat.zero_add]
  refine ⟨?_, h.frozen j⟩
  rw [h.cell j]
  match j, hj with
  | 0, _ => rfl
  | 1, _ => rfl
  | 2, _ => rfl
  | 3, _ => rfl
  | 4, _ => rfl
  | 5, _ => rfl
theorem cell_far6 {w : World} {g h i : Nat} (x : Fx.V3) (hne : h ≠ g) : (set6 w g x).cell? ⟨h, i, none⟩ = w.cell? ⟨h, i, none⟩ := by
  have e : (set6 w g x).heap[h]? = w.heap[h]? := by
    unfold set6
    rw [Below.heap_setCell _ _ _ _ hne, Below.heap_setCell _ _ _ _ hne, Below.heap_setCell _ _ _ _ hne, Below.heap_setCell _ _ _ _ hne, Below.heap_setCell _ _ _ _ hne, Below.heap_setCell _ _ _ _ hne]
  simp only [World.cell?, e]
theorem KeepP.set {w : World} {g1 : Nat} {a b c : Int} {w1 : World} (h : KeepP w g1 a b c w1) (hg : w.heap.size < g1) (x : Fx.V3) : KeepP w g1 a b c ((((((w1.setCell ⟨g1, 0, none⟩ (.int .i64 x.a)).setCell ⟨g1, 1, none⟩ (.int .i64 x.b)).setCell ⟨g1, 2, none⟩ (.int .i64 x.c)).setCell ⟨g1, 3, none⟩ (.int .i64 x.d)).setCell ⟨g1, 4, none⟩ (.int .i64 x.e)).setCell ⟨g1, 5, none⟩ (.int .i64 x.f)) := by
  obtain ⟨h0, h1, h2, h3, h3', h4⟩ := h
  show KeepP w g1 a b c (set6 w1 (g1) x)
  exact ⟨(cell_far6 x (by omega)).trans h0, (cell_far6 x (by omega)).trans h1, (cell_far6 x (by omega)).trans h2, by simpa [set6, World.setCell] using h3, by simpa [set6, World.setCell] using h3', set6_ext x h4 (by omega)⟩

theorem ret_cell2 {tmps : Array Value} {w : World} {g : Nat} {x : Fx.V3} (hW : Whole w g 34 x.arr) (h2 : tmps.getD 2 undef = .pointer (some ⟨g, 0, none⟩)) :
    (results Try.f31 tmps).run Try.prog w = .ok (.agg x.arr) w := by
  have c0 : _ = some (Value.int .i64 x.a) := hW.cell 0
  have c1 : _ = some (Value.int .i64 x.b) := hW.cell 1
  have c2 : _ = some (Value.int .i64 x.c) := hW.cell 2
  have c3 : _ = some (Value.int .i64 x.d) := hW.cell 3
  have c4 : _ = some (Value.int .i64 x.e) := hW.cell 4
  have c5 : _ = some (Value.int .i64 x.f) := hW.cell 5
  clear hW
  have h2' : tmps[2]?.getD undef = .pointer (some ⟨g, 0, none⟩) := by simpa using h2
  simp [results, Try.results31, go_sem, h2', c0, c1, c2, c3, c4, c5, Fx.V3.arr]

set_option maxRecDepth 100000 in
set_option maxHeartbeats 1000000 in
theorem rpoint_any (a b c : Int) (w : World) :
    Calls Try.prog 31 #[.agg #[.int .i64 a, .int .i64 b, .int .i64 c]] w fun e w' => e = .returned (.agg (Fx.ofV a b c).arr) ∧ Below w.heap.size w w' := by
  go_enter Try.func31, Try.ntmps31
  go_wp2_with fail
  generalize hw0 : ((w.alloc (Obj.cells #[.int .i64 a, .int .i64 b, .int .i64 c] 66)).alloc (Obj.cells #[.int .i64 0, .int .i64 0, .int .i64 0, .int .i64 0, .int .i64 0, .int .i64 0] 34)) = w0
  have hK : KeepP w (w.heap.size + 1) a b c w0 := by
    rw [← hw0]
    have h1 := (Whole.new w 66 #[.int .i64 a, .int .i64 b, .int .i64 c]).alloc (Obj.cells #[.int .i64 0, .int .i64 0, .int .i64 0, .int .i64 0, .int .i64 0, .int .i64 0] 34)
    exact ⟨h1.cell 0, h1.cell 1, h1.cell 2, by simp, by simp; omega, (by repeat (first | assumption | exact ext_refl _ | refine ext_alloc ?_ _ | refine ext_drewN ?_ _ | refine ext_drew ?_ | refine ext_set ?_ (by first | (simp; done) | (simp; omega) | omega) _ | refine ext_trans ?_ ‹Below _ _ _›))⟩
  have hT : Whole w0 (w.heap.size + 1) 34 Fx.V3.zero.arr := by
    rw [← hw0]
    have h1 := Whole.new (w.alloc (Obj.cells #[.int .i64 a, .int .i64 b, .int .i64 c] 66)) 34 Fx.V3.zero.arr
    rw [World.size_alloc] at h1
    exact h1
  clear hw0
  obtain ⟨g1, hg1⟩ : ∃ g1, g1 = w.heap.size + 1 := ⟨_, rfl⟩
  have hg : w.heap.size < g1 := by omega
  rw [← hg1] at hK hT ⊢
  clear hg1
  have HT := Lib.hid hT
  clear hT
  refine wp_region_noPanic ?_
  refine wp_region_held_drew (S := (fun w' => w'.cell? ⟨w.heap.size, 0, none⟩ = some (.int .i64 a) ∧ w'.cell? ⟨w.heap.size, 1, none⟩ = some (.int .i64 b) ∧ w'.cell? ⟨w.heap.size, 2, none⟩ = some (.int .i64 c) ∧ g1 < w'.heap.size ∧ w.heap.size < w'.heap.size ∧ Below w.heap.size w w')) (by kernel_rfl) ?_ (fun hHeld => ?_)
  · exact hK.step (ext_drew (ext_refl _))
  refine wpAnyH_take (i := 0) (v := ?_) (by simp only [List.getElem?_toArray, List.getElem?_cons_succ, List.getElem?_cons_zero]; rfl) (by kernel_rfl) (by kernel_rfl) (by kernel_rfl) (fun _ _ _ h => h) (Or.inl ⟨by rfl, ?_⟩) (by assumption) ?_
  rotate_left
  · intro w hSw; (try dsimp only at hSw); go_simp; first | done | with_reducible rfl
  try simp only [Act.put, List.setIfInBounds_toArray, List.set_cons_zero, List.set_cons_succ]
  refine wpAnyH_take (i := 1) (v := ?_) (by simp only [List.getElem?_toArray, List.getElem?_cons_succ, List.getElem?_cons_zero]; rfl) (by kernel_rfl) (by kernel_rfl) (by kernel_rfl) (fun _ _ _ h => h) (Or.inl ⟨by rfl, ?_⟩) (by assumption) ?_
  rotate_left
  · intro w hSw; (try dsimp only at hSw); go_simp; first | done | with_reducible rfl
  try simp only [Act.put, List.setIfInBounds_toArray, List.set_cons_zero, List.set_cons_succ]
  refine wpAnyH_take (i := 3) (v := ?_) (by simp only [List.getElem?_toArray, List.getElem?_cons_succ, List.getElem?_cons_zero]; rfl) (by kernel_rfl) (by kernel_rfl) (by kernel_rfl) (fun _ _ _ h => h) (Or.inl ⟨by rfl, ?_⟩) (by assumption) ?_
  rotate_left
  · intro w hSw; (try dsimp only at hSw); go_simp; first | done | with_reducible rfl
  try simp only [Act.put, List.setIfInBounds_toArray, List.set_cons_zero, List.set_cons_succ]
  refine wpAnyH_take (i := 4) (v := ?_) (by simp only [List.getElem?_toArray, List.getElem?_cons_succ, List.getElem?_cons_zero]; rfl) (by kernel_rfl) (by kernel_rfl) (by kernel_rfl) (fun _ _ _ h => h) (Or.inl ⟨by rfl, ?_⟩) (by assumption) ?_
  rotate_left
  · intro w hSw; (try dsimp only at hSw); go_simp; first | done | with_reducible rfl
  try simp only [Act.put, List.setIfInBounds_toArray, List.set_cons_zero, List.set_cons_succ]
  refine wpAnyH_take (i := 6) (v := ?_) (by simp only [List.getElem?_toArray, List.getElem?_cons_succ, List.getElem?_cons_zero]; rfl) (by kernel_rfl) (by kernel_rfl) (by kernel_rfl) (fun _ _ _ h => h) (Or.inl ⟨by rfl, ?_⟩) (by assumption) ?_
  rotate_left
  · intro w hSw; (try dsimp only at hSw); go_simp; first | done | with_reducible rfl
  try simp only [Act.put, List.setIfInBounds_toArray, List.set_cons_zero, List.set_cons_succ]
  refine wpAnyH_take (i := 7) (v := ?_) (by simp only [List.getElem?_toArray, List.getElem?_cons_succ, List.getElem?_cons_zero]; rfl) (by kernel_rfl) (by kernel_rfl) (by kernel_rfl) (fun _ _ _ h => h) (Or.inl ⟨by rfl, ?_⟩) (by assumption) ?_
  rotate_left
  · intro w hSw; (try dsimp only at hSw); go_simp; first | done | with_reducible rfl
  try simp only [Act.put, List.setIfInBounds_toArray, List.set_cons_zero, List.set_cons_succ]
  refine wpAnyH_ready (rs := [2]) (by kernel_rfl) (by simp) ?_
  refine AllReadyH.cons (by simp only [List.getElem?_toArray, List.getElem?_cons_succ, List.getElem?_cons_zero]; rfl) (fun K hK => ?_) AllReadyH.nil
  go_simp
  refine (rof_any _ _).mono ?_
  rintro e w1 ⟨rfl, hb1⟩
  go_wp2_with fail
  refine hK.out _ _ ?_ (fun hHeld => ?_)
  · exact KeepP.step hHeld hb1
  clear hK K
  try simp only [Act.put, List.setIfInBounds_toArray, List.set_cons_zero, List.set_cons_succ]
  refine wpAnyH_ready (rs := [5]) (by kernel_rfl) (by simp) ?_
  refine AllReadyH.cons (by simp only [List.getElem?_toArray, List.getElem?_cons_succ, List.getElem?_cons_zero]; rfl) (fun K hK => ?_) AllReadyH.nil
  go_simp
  refine (rof_any _ _).mono ?_
  rintro e w2 ⟨rfl, hb2⟩
  go_wp2_with fail
  refine hK.out _ _ ?_ (fun hHeld => ?_)
  · exact KeepP.step hHeld hb2
  clear hK K
  try simp only [Act.put, List.setIfInBounds_toArray, List.set_cons_zero, List.set_cons_succ]
  refine wpAnyH_ready (rs := [8]) (by kernel_rfl) (by simp) ?_
  refine AllReadyH.cons (by simp only [List.getElem?_toArray, List.getElem?_cons_succ, List.getElem?_cons_zero]; rfl) (fun K hK => ?_) AllReadyH.nil
  go_simp
  refine (rof_any _ _).mono ?_
  rintro e w3 ⟨rfl, hb3⟩
  go_wp2_with fail
  refine hK.out _ _ ?_ (fun hHeld => ?_)
  · exact KeepP.step hHeld hb3
  clear hK K
  try simp only [Act.put, List.setIfInBounds_toArray, List.set_cons_zero, List.set_cons_succ]
  refine wpAnyH_take (i := 9) (v := ?_) (by simp only [List.getElem?_toArray, List.getElem?_cons_succ, List.getElem?_cons_zero]; rfl) (by kernel_rfl) (by kernel_rfl) (by kernel_rfl) (fun _ _ _ h => h) (Or.inl ⟨by rfl, ?_⟩) (by assumption) ?_
  rotate_left
  · intro w hSw; (try dsimp only at hSw); go_simp; first | done | with_reducible rfl
  try simp only [Act.put, List.setIfInBounds_toArray, List.set_cons_zero, List.set_cons_succ]
  refine wpAnyH_ready (rs := [10]) (by kernel_rfl) (by simp) ?_
  refine AllReadyH.cons (by simp only [List.getElem?_toArray, List.getElem?_cons_succ, List.getElem?_cons_zero]; rfl) (fun K hK => ?_) AllReadyH.nil
  rw [if_pos (by rfl)]
  have hT3 := ((HT.out.drew.ext hb1).ext hb2).ext hb3
  refine wp_store_mid _ _ _ rfl g1 0 (Fx.ofV a b c).arr rfl rfl (there6 hT3) (by kernel_rfl) (arr_one _) ?_
  refine hK.out _ _ ?_ (fun hHeld => ?_)
  · exact KeepP.set hHeld hg (Fx.ofV a b c)
  clear hK K
  try simp only [Act.put, List.setIfInBounds_toArray, List.set_cons_zero, List.set_cons_succ]
  refine wpAnyH_done (by kernel_rfl) ?_ _
  refine NoPanic.normal ?_
  have hW4 : Whole (w3.setCells g1 0 (Fx.ofV a b c).arr.toList) g1 34 (Fx.ofV a b c).arr := set6_whole (Fx.ofV a b c) hT3
  obtain ⟨-, -, -, -, -, hB4⟩ := hHeld
  generalize w3.setCells g1 0 (Fx.ofV a b c).arr.toList = w4 at *
  clear hb3 hT3
  go_wp2_with fail
  exact bodyPost_ret (ret_cell2 hW4 rfl) rfl ⟨rfl, hB4⟩
end Go.Proofs.Ytgnjconhbloocaa

namespace Go.Proofs.Ytgnjconhbloocaa
open Go.RowKit
set_option linter.unusedVariables false

/-- A number of the interval from a to b is returned, as an interval. -/
def OneOf (a b : Int) (w : World) (e : Ending) (w' : World) : Prop := ∃ x : Int, a ≤ x ∧ x ≤ b ∧ e = .returned (.agg #[.int .i64 x, .int .i64 x]) ∧ Below w.heap.size w w'

theorem part0_any (a b m : Int) (w : World) (hv : Fx.vb a b = true) :
    Calls Try.prog 25 #[.agg #[.int .i64 a, .int .i64 b], .int .i64 m, .int .i64 0] w (OneOf a b w) := by
  obtain ⟨u0, u1, u2⟩ := Fx.vb_true.1 hv
  clear hv
  have s0 := Int.emod_nonneg m (show (b - a + 1 : Int) ≠ 0 by omega)
  have s1 := Int.emod_lt_of_pos m (show (0 : Int) < b - a + 1 by omega)
  go_enter Try.func25, Try.ntmps25
  go_wp2_with fail
  go_quiet ((go_at_call 17; exact qsame (round_any _ _ _ (by omega) (by omega))))
  have hb1 := below_drewN (Below.refl ((w.alloc (.cells #[.int .i64 a, .int .i64 b] 32)).alloc (.cells #[.int .i64 0, .int .i64 0] 32)).heap.size ((w.alloc (.cells #[.int .i64 a, .int .i64 b] 32)).alloc (.cells #[.int .i64 0, .int .i64 0] 32))) nq
  generalize ((w.alloc (.cells #[.int .i64 a, .int .i64 b] 32)).alloc (.cells #[.int .i64 0, .int .i64 0] 32)).drewN nq = w1 at *
  obtain ⟨hc1, hf1⟩ := bcell hb1
  have hz1 := hb1.size
  try simp at hz1
  have hz1b : w.heap.size + 1 < w1.heap.size := by omega
  have hz1a : w.heap.size < w1.heap.size := by omega
  go_wp2_with fail
  exact bodyPost_ret (v := .agg #[.int .i64 (a + m % (b - a + 1)), .int .i64 (a + m % (b - a + 1))]) (by simp [results, Try.results25, go_sem, *]) rfl ⟨_, by omega, by omega, rfl, (by repeat (first | exact Below.refl _ _ | refine Below.setCell ?_ (by first | (simp; done) | (simp; omega) | omega) _ | refine Below.alloc ?_ (by first | (simp; done) | (simp; omega) | omega) _ | refine below_drewN ?_ _ | refine Below.trans ?_ (Below.mono ‹Below _ _ _› (by first | (simp; done) | (simp; omega) | omega))))⟩

theorem setV_took {x y : Fx.V3} {q : Int} {j : Nat} (hj : j < 3) (hm : Took x y j) (hq : x.lo j ≤ q ∧ q ≤ x.hi j) : Took x (setV y q q j) (j + 1) := by
  intro i hi
  match j, hj, i, hi with
  | 0, _, 0, _ => exact ⟨rfl, hq⟩
  | 1, _, 0, _ => exact hm 0 (by omega)
  | 1, _, 1, _ => exact ⟨rfl, hq⟩
  | 2, _, 0, _ => exact hm 0 (by omega)
  | 2, _, 1, _ => exact hm 1 (by omega)
  | 2, _, 2, _ => exact ⟨rfl, hq⟩

/-- Points within the points of L are returned. -/
def GivesChosen (L : List Fx.V3) (w : World) (e : Ending) (w' : World) : Prop :=
  ∃ (v : Value) (M : List Fx.V3), e = .returned v ∧ M.length = L.length ∧ (∀ i : Nat, i < L.length → Took (L.getD i Fx.V3.zero) (M.getD i Fx.V3.zero) 3) ∧ w'.ownsRow w.heap.size 34 6 v M.length (vCells M) ∧ Below w.heap.size w w'

theorem there_of {w : World} {g : Nat} {t : TypeId} {cs : Array Value} (h : Whole w g t cs) (o n : Nat) (hn : o + n ≤ cs.size) : w.there g o n := fun j hj => by
  refine ⟨?_, h.frozen _⟩
  rw [h.cell, Array.getElem?_eq_getElem (show o + j < cs.size by omega)]
  rfl

set_option maxRecDepth 100000 in
set_option maxHeartbeats 2000000 in
theorem chosen_any (v u : Value) (L : List Fx.V3) (xs : List Int) (w : World) (hI : VSl w v L) (hU : IntSl w u xs) (hl : L.length ≤ 5) (hR : Fx.allR L = true) :
    Calls Try.prog 15 #[v, u] w (GivesChosen L w) := by
  have HU := Lib.hid hU
  obtain ⟨a, c, rfl, _, h0⟩ := hI
  obtain ⟨a2, c2, rfl, _, _⟩ := hU
  have H0 := Lib.hid h0
  have HR := Lib.hid hR
  clear h0 hR
  obtain ⟨i0, hi, hz0, hz1, hz2⟩ := info_parts info_ivec
  go_enter Try.func15, Try.ntmps15
  go_wp2_with fail
  refine (from_any _ xs _ HU.out).mono ?_
  rintro e w1 ⟨rfl, hs1, hb1⟩
  clear HU
  have HS1 := Lib.hid hs1
  clear hs1
  go_wp2_with fail
  go_loopw [6, 7] (fun ov jv wr => ∃ (M : List Fx.V3), M.length ≤ L.length ∧ jv = .int .i64 M.length ∧ Hid (∀ i : Nat, i < M.length → Took (L.getD i Fx.V3.zero) (M.getD i Fx.V3.zero) 3) ∧ wr.ownsRow (w.heap.size + 1) 34 6 ov M.length (vCells M) ∧ Src wr w.heap.size w.heap.size ∧ Below w.heap.size w wr) (fun _ jv _ => L.length - (intOf jv).toNat)
  case atStart => exact ⟨[], by simp, by go_num, Lib.hid (fun i hi => absurd hi (by simp)), World.ownsRow_nil _ _ _ _, HS1.out, hb1⟩
  case round =>
    obtain ⟨M, hml, rfl, hT, hown, hs, hb⟩ := hrel
    clear HS1 hb1
    by_cases hlt : M.length < L.length
    · obtain ⟨b, o, rfl, hJ⟩ := H0.out (by omega)
      have HJ := Lib.hid hJ
      have hbw := hJ.1
      clear hJ
      have hxr := Fx.allR_at HR.out M.length hlt
      have HXR := Lib.hid hxr
      clear hxr
      have hd : decide ((M.length : Int) < (L.length : Int)) = true := by simp; omega
      have hm4 : M.length ≤ 4 := by omega
      go_wp2_with fail
      obtain ⟨wo, rfl⟩ : ∃ wo : World, wo = wr := ⟨_, rfl⟩
      have hswo := hs.lt
      have hown0 := hown.alloc (.cells Fx.V3.zero.arr 34)
      have hs0 := hs.alloc (.cells Fx.V3.zero.arr 34)
      have hV0 := Whole.new wo 34 Fx.V3.zero.arr
      have hb0 := ext_alloc hb (.cells Fx.V3.zero.arr 34)
      have hnov : ∀ {ov : Value}, wo.ownsRow (w.heap.size + 1) 34 6 ov M.length (vCells M) → some wo.heap.size ≠ ov.ownBlock := fun ho e => by have := (ho.lt _ e.symm).2; omega
      have hne0 := hnov hown
      clear hown hs hb hnov
      go_loopw [9] (fun jv wr => ∃ (j : Nat) (y : Fx.V3), j ≤ 3 ∧ jv = .int .i64 j ∧ Hid (Took (L.getD M.length Fx.V3.zero) y j) ∧ Whole wr wo.heap.size 34 y.arr ∧ wr.ownsRow (w.heap.size + 1) 34 6 u6 M.length (vCells M) ∧ Src wr w.heap.size w.heap.size ∧ Below w.heap.size w wr) (fun jv _ => 3 - (intOf jv).toNat)
      case atStart => exact ⟨0, _, by omega, rfl, Lib.hid (fun i hi => absurd hi (by omega)), hV0, hown0, hs0, hb0⟩
      case round =>
        obtain ⟨j, y, hj, rfl, hTk, hV, hown, hs, hbj⟩ := hrel
        clear hV0 hown0 hs0 hb0
        by_cases hj3 : j < 3
        · obtain ⟨cl, ch⟩ := (HJ.out.ext hbj).part M.length hlt j hj3
          have hvb := Fx.near_true.1 (Fx.reachB_at HXR.out j hj3)
          have HNx := Lib.hid (fun q => setV_took (q := q) hj3 hTk.out)
          generalize L.getD M.length Fx.V3.zero = x at *
          generalize hlo : x.lo j = lo at *
          generalize hhi : x.hi j = hi at *
          have HLo := Lib.hid hlo; have HHi := Lib.hid hhi
          clear hlo hhi
          have HCl := Lib.hid cl; have HCh := Lib.hid ch
          clear cl ch
          have HV := Lib.hid hV; have HO := Lib.hid hown; have HS := Lib.hid hs
          clear hV hown hs
          have k0 : (0 : Int) ≤ (j : Int) := by omega
          have k1 : (j : Int) < 3 := by omega
          have k2 : (0 : Int) ≤ (M.length : Int) := by omega
          have k3 : (M.length : Int) < (L.length : Int) := by omega
          go_wp2_with fail
          refine wp_region_noPanic ?_
          refine wp_region_held_drew (S := (fun w' => w'.cell? ⟨b, o + M.length * 6 + j * 2, none⟩ = some (.int .i64 lo) ∧ w'.cell? ⟨b, o + M.length * 6 + j * 2 + 1, none⟩ = some (.int .i64 hi))) (by kernel_rfl) ?_ (fun hHeld => ?_)
          · exact ⟨HCl.out, HCh.out⟩
          refine wpAnyH_take (i := 0) (v := ?_) (by simp only [List.getElem?_toArray, List.getElem?_cons_succ, List.getElem?_cons_zero]; rfl) (by kernel_rfl) (by kernel_rfl) (by kernel_rfl) (fun _ _ _ h => h) (Or.inl ⟨by rfl, ?_⟩) (by assumption) ?_
          rotate_left
          · intro w hSw; (try dsimp only at hSw); go_simp; first | done | with_reducible rfl
          try simp only [Act.put, List.setIfInBounds_toArray, List.set_cons_zero, List.set_cons_succ]
          refine wpAnyH_take (i := 1) (v := ?_) (by simp only [List.getElem?_toArray, List.getElem?_cons_succ, List.getElem?_cons_zero]; rfl) (by kernel_rfl) (by kernel_rfl) (by kernel_rfl) (fun _ _ _ h => h) (Or.inl ⟨by rfl, ?_⟩) (by assumption) ?_
          rotate_left
          · intro w hSw; (try dsimp only at hSw); go_simp; first | done | with_reducible rfl
          try simp only [Act.put, List.setIfInBounds_toArray, List.set_cons_zero, List.set_cons_succ]
          refine wpAnyH_take (i := 2) (v := ?_) (by simp only [List.getElem?_toArray, List.getElem?_cons_succ, List.getElem?_cons_zero]; rfl) (by kernel_rfl) (by kernel_rfl) (by kernel_rfl) (fun _ _ _ h => h) (Or.inl ⟨by rfl, ?_⟩) (by assumption) ?_
          rotate_left
          · intro w hSw; (try dsimp only at hSw); go_simp; first | done | with_reducible rfl
          try simp only [Act.put, List.setIfInBounds_toArray, List.set_cons_zero, List.set_cons_succ]
          refine wpAnyH_take (i := 3) (v := ?_) (by simp only [List.getElem?_toArray, List.getElem?_cons_succ, List.getElem?_cons_zero]; rfl) (by kernel_rfl) (by kernel_rfl) (by kernel_rfl) (fun _ _ _ h => h) (Or.inl ⟨by rfl, ?_⟩) (by assumption) ?_
          rotate_left
          · intro w hSw; (try dsimp only at hSw); go_simp; first | done | with_reducible rfl
          try simp only [Act.put, List.setIfInBounds_toArray, List.set_cons_zero, List.set_cons_succ]
          refine wpAnyH_take (i := 4) (v := ?_) (by simp only [List.getElem?_toArray, List.getElem?_cons_succ, List.getElem?_cons_zero]; rfl) (by kernel_rfl) (by kernel_rfl) (by kernel_rfl) (fun _ _ _ h => h) (Or.inl ⟨by rfl, ?_⟩) (by assumption) ?_
          rotate_left
          · intro w hSw; (try dsimp only at hSw); go_simp; first | done | with_reducible rfl
          try simp only [Act.put, List.setIfInBounds_toArray, List.set_cons_zero, List.set_cons_succ]
          refine wpAnyH_take (i := 5) (v := ?_) (by simp only [List.getElem?_toArray, List.getElem?_cons_succ, List.getElem?_cons_zero]; rfl) (by kernel_rfl) (by kernel_rfl) (by kernel_rfl) (fun _ _ _ h => h) (Or.inl ⟨by rfl, ?_⟩) (by assumption) ?_
          rotate_left
          · intro w hSw; (try dsimp only at hSw); go_simp; first | done | with_reducible rfl
          try simp only [Act.put, List.setIfInBounds_toArray, List.set_cons_zero, List.set_cons_succ]
          refine wpAnyH_take (i := 6) (v := ?_) (by simp only [List.getElem?_toArray, List.getElem?_cons_succ, List.getElem?_cons_zero]; rfl) (by kernel_rfl) (by kernel_rfl) (by kernel_rfl) (fun _ _ _ h => h) (Or.inl ⟨by rfl, ?_⟩) (by assumption) ?_
          rotate_left
          · intro w hSw; (try dsimp only at hSw); go_simp; first | done | with_reducible rfl
          try simp only [Act.put, List.setIfInBounds_toArray, List.set_cons_zero, List.set_cons_succ]
          refine wpAnyH_take (i := 7) (v := ?_) (by simp only [List.getElem?_toArray, List.getElem?_cons_succ, List.getElem?_cons_zero]; rfl) (by kernel_rfl) (by kernel_rfl) (by kernel_rfl) (fun _ _ _ h => h) (Or.inl ⟨by rfl, ?_⟩) (by assumption) ?_
          rotate_left
          · intro w hSw; (try dsimp only at hSw); go_simp; first | done | with_reducible rfl
          try simp only [Act.put, List.setIfInBounds_toArray, List.set_cons_zero, List.set_cons_succ]
          refine wpAnyH_ready (rs := [8]) (by kernel_rfl) (by simp) ?_
          refine AllReadyH.cons (by simp only [List.getElem?_toArray, List.getElem?_cons_succ, List.getElem?_cons_zero]; rfl) (fun K hK => ?_) AllReadyH.nil
          go_simp
          refine (next_any w.heap.size w.heap.size _ _ (HS.out.ext (ext_drew (ext_refl _))) (by omega) (by omega)).mono ?_
          rintro e w2 ⟨r, r0, r1, rfl, hs2, hg2⟩
          have hne : some b ≠ some w.heap.size := fun e => by injection e; omega
          have hwr : w.heap.size < wr.heap.size := HS.out.lt
          have hgv : wo.heap.size ≠ w.heap.size := by omega
          have hvw : wo.heap.size < wr.heap.size := HV.out.lt
          have hV2 : Whole w2 wo.heap.size 34 y.arr := HV.out.drew.away hg2 hgv
          have hO2 := owns_away (owns_ext HO.out (ext_drew (ext_refl _))) hg2 (by omega)
          have hB2 : Below w.heap.size w w2 := below_grown (ext_drew hbj) (Nat.le_refl _) (Nat.le_refl _) hg2
          have HS2 := Lib.hid hs2; have HV2 := Lib.hid hV2; have HO2 := Lib.hid hO2
          clear hs2 hV2 hO2
          go_wp2_with fail
          refine hK.out _ _ ?_ (fun hHeld => ?_)
          · exact ⟨(hg2.cell_far ⟨b, _, none⟩ (show b < wr.heap.size by omega) hne).trans HCl.out, (hg2.cell_far ⟨b, _, none⟩ (show b < wr.heap.size by omega) hne).trans HCh.out⟩
          clear hK K hg2 HS HV HO hbj
          try simp only [Act.put, List.setIfInBounds_toArray, List.set_cons_zero, List.set_cons_succ]
          refine wpAnyH_ready (rs := [9]) (by kernel_rfl) (by simp) ?_
          refine AllReadyH.cons (by simp only [List.getElem?_toArray, List.getElem?_cons_succ, List.getElem?_cons_zero]; rfl) (fun K hK => ?_) AllReadyH.nil
          go_simp
          refine (part0_any lo hi r _ (by rw [Fx.vb_true]; omega)).mono ?_
          rintro e w3 ⟨q, q0, q1, rfl, hb3⟩
          have hw2 := HS2.out.lt
          have HS3 := Lib.hid (HS2.out.ext hb3); have HV3 := Lib.hid (HV2.out.ext hb3); have HO3 := Lib.hid (owns_ext HO2.out hb3)
          have hB3 := ext_trans hB2 hb3
          go_wp2_with fail
          refine hK.out _ _ ?_ (fun hHeld => ?_)
          · exact ⟨(hb3.cell (p := ⟨b, _, none⟩) (show b < w2.heap.size by omega)).trans hHeld.1, (hb3.cell (p := ⟨b, _, none⟩) (show b < w2.heap.size by omega)).trans hHeld.2⟩
          clear hK K hb3 HS2 HV2 HO2 hB2 hw2
          try simp only [Act.put, List.setIfInBounds_toArray, List.set_cons_zero, List.set_cons_succ]
          refine wpAnyH_take (i := 10) (v := ?_) (by simp only [List.getElem?_toArray, List.getElem?_cons_succ, List.getElem?_cons_zero]; rfl) (by kernel_rfl) (by kernel_rfl) (by kernel_rfl) (fun _ _ _ h => h) (Or.inl ⟨by rfl, ?_⟩) (by assumption) ?_
          rotate_left
          · intro w hSw; (try dsimp only at hSw); go_simp; first | done | with_reducible rfl
          try simp only [Act.put, List.setIfInBounds_toArray, List.set_cons_zero, List.set_cons_succ]
          refine wpAnyH_ready (rs := [11]) (by kernel_rfl) (by simp) ?_
          refine AllReadyH.cons (by simp only [List.getElem?_toArray, List.getElem?_cons_succ, List.getElem?_cons_zero]; rfl) (fun K hK => ?_) AllReadyH.nil
          rw [if_pos (by rfl)]
          refine wp_store_mid _ _ _ rfl wo.heap.size (j * 2) #[.int .i64 q, .int .i64 q] rfl rfl (there_of HV3.out _ _ (by simp [Fx.V3.arr]; omega)) (by kernel_rfl) (by simp [Value.oneCell']) ?_
          have hgw : w.heap.size ≤ wo.heap.size := by omega
          have hVn : Whole (w3.setCells wo.heap.size (j * 2) [.int .i64 q, .int .i64 q]) wo.heap.size 34 (setV y q q j).arr := by
            have h := (HV3.out.store (j * 2) (.int .i64 q)).store (j * 2 + 1) (.int .i64 q)
            rw [setV_arr y q q j hj3] at h
            exact h
          have hOn : (w3.setCells wo.heap.size (j * 2) [.int .i64 q, .int .i64 q]).ownsRow (w.heap.size + 1) 34 6 u6 M.length (vCells M) :=
            owns_set (owns_set HO3.out (p := ⟨wo.heap.size, j * 2, none⟩) hne0 (.int .i64 q)) (p := ⟨wo.heap.size, j * 2 + 1, none⟩) hne0 (.int .i64 q)
          have hSn : Src (w3.setCells wo.heap.size (j * 2) [.int .i64 q, .int .i64 q]) w.heap.size w.heap.size :=
            (HS3.out.set (p := ⟨wo.heap.size, j * 2, none⟩) (Ne.symm hgv) hgw (.int .i64 q)).set (p := ⟨wo.heap.size, j * 2 + 1, none⟩) (Ne.symm hgv) hgw (.int .i64 q)
          have hBn : Below w.heap.size w (w3.setCells wo.heap.size (j * 2) [.int .i64 q, .int .i64 q]) :=
            ext_set (ext_set hB3 (p := ⟨wo.heap.size, j * 2, none⟩) hgw (.int .i64 q)) (p := ⟨wo.heap.size, j * 2 + 1, none⟩) hgw (.int .i64 q)
          have HTn := Lib.hid (HNx.out q ⟨q0, q1⟩)
          have hKp : (w3.setCells wo.heap.size (j * 2) [.int .i64 q, .int .i64 q]).cell? ⟨b, o + M.length * 6 + j * 2, none⟩ = some (.int .i64 lo) ∧ (w3.setCells wo.heap.size (j * 2) [.int .i64 q, .int .i64 q]).cell? ⟨b, o + M.length * 6 + j * 2 + 1, none⟩ = some (.int .i64 hi) := by
            have e : (w3.setCells wo.heap.size (j * 2) [.int .i64 q, .int .i64 q]).heap[b]? = w3.heap[b]? := by
              show (((w3.setCell ⟨wo.heap.size, j * 2, none⟩ _).setCell ⟨wo.heap.size, j * 2 + 1, none⟩ _)).heap[b]? = _
              rw [Below.heap_setCell _ _ _ _ (show b ≠ wo.heap.size by omega), Below.heap_setCell _ _ _ _ (show b ≠ wo.heap.size by omega)]
            simp only [World.cell?, e]
            exact hHeld
          refine hK.out _ _ ?_ (fun hHeld => ?_)
          · exact hKp
          clear hK K hKp
          try simp only [Act.put, List.setIfInBounds_toArray, List.set_cons_zero, List.set_cons_succ]
          refine wpAnyH_done (by kernel_rfl) ?_ _
          refine NoPanic.normal ?_
          clear hHeld
          generalize w3.setCells wo.heap.size (j * 2) [.int .i64 q, .int .i64 q] = w4 at *
          have HV4 := Lib.hid hVn; have HO4 := Lib.hid hOn; have HS4 := Lib.hid hSn
          clear hVn hOn hSn HV3 HO3 HS3 hB3
          go_wp2_with fail
          go_roundw
          case rel => exact ⟨j + 1, _, by omega, by go_num, HTn, HV4.out, HO4.out, HS4.out, hBn⟩
          case measure => simp [intOf]; omega
        · obtain rfl : j = 3 := by omega
          have t0 : _ = some (Value.int .i64 y.a) := hV.cell 0
          have t1 : _ = some (Value.int .i64 y.b) := hV.cell 1
          have t2 : _ = some (Value.int .i64 y.c) := hV.cell 2
          have t3 : _ = some (Value.int .i64 y.d) := hV.cell 3
          have t4 : _ = some (Value.int .i64 y.e) := hV.cell 4
          have t5 : _ = some (Value.int .i64 y.f) := hV.cell 5
          have hvw : wo.heap.size < wr.heap.size := hV.lt
          have HS := Lib.hid hs
          clear hV hs
          go_wp2_with (at_builtin; refine wpList_append_lies _ rfl _ _ _ rfl (w.heap.size + 1) 34 i0 _ 6 48 Try.underlying22 hi hz0 hz1 hz2 rfl (by omega) _ M.length (vCells M) rfl (hown.alloc _) ⟨wr.heap.size, 0, none⟩ 1 1 y.cells rfl rfl (World.news_of_block (cs := #[.int .i64 y.a, .int .i64 y.b, .int .i64 y.c, .int .i64 y.d, .int .i64 y.e, .int .i64 y.f]) (t := 34) (fr := (0, 0)) (heap_alloc_new wr _)) (by simp [Fx.V3.cells, Value.oneCell']) (by omega) (by unfold maxLen; omega) (by omega) (by simp; omega) (wr.heap.size + 1) (by simp) ?_; intro g' cap w11 hown11 hgrow hat hlt11)
          have hb11 : Below w.heap.size w w11 := (ext_alloc hbj _).grown hgrow (by simp; omega) (fun k e => by have := (hown.lt k e).1; omega)
          have hs11 := (HS.out.alloc (.cells #[.int .i64 y.a, .int .i64 y.b, .int .i64 y.c, .int .i64 y.d, .int .i64 y.e, .int .i64 y.f] 34)).grown hgrow (fun e => by have := (hown.lt _ e.symm).1; omega) (fun k e => by have := (hown.lt k e).1; omega)
          have hnext : w11.ownsRow (w.heap.size + 1) 34 6 (.slice (some ⟨g', 0, none⟩) (M.length + 1) cap) (M ++ [y]).length (vCells (M ++ [y])) := by
            rw [vCells_snoc, List.length_append]; exact hown11
          have HTx : Hid (∀ i : Nat, i < (M ++ [y]).length → Took (L.getD i Fx.V3.zero) ((M ++ [y]).getD i Fx.V3.zero) 3) := Lib.hid (fun i hi => by
            rw [List.length_append, List.length_singleton] at hi
            by_cases e : i < M.length
            · have := hT.out i e
              simp only [List.getD_eq_getElem?_getD, List.getElem?_append_left e] at this ⊢
              exact this
            · obtain rfl : i = M.length := by omega
              have := hTk.out
              simp only [List.getD_eq_getElem?_getD, List.getElem?_concat_length] at this ⊢
              exact this)
          have HN := Lib.hid hnext; have HS11 := Lib.hid hs11
          clear hnext hs11 hown11 hgrow hat hlt11 HS t0 t1 t2 t3 t4 t5
          go_wp2_with fail
          go_roundw
          case rel => exact ⟨_, by rw [List.length_append]; exact hlt, by simp, HTx, HN.out, HS11.out, hb11⟩
          case measure => simp [intOf]; omega
    · have hd : decide ((M.length : Int) < (L.length : Int)) = false := by simp; omega
      have HO := Lib.hid (owns_base hown (show w.heap.size ≤ w.heap.size + 1 by omega))
      have hml' : M.length = L.length := by omega
      have HL := Lib.hid hml'
      clear hown hs hml'
      go_wp2_with fail
      go_ret
      exact ⟨_, M, rfl, HL.out, by rw [← HL.out]; exact hT.out, HO.out, hb⟩
end Go.Proofs.Ytgnjconhbloocaa

namespace Go.Proofs.Ytgnjconhbloocaa
open Go.RowKit
set_option linter.unusedVariables false

set_option maxRecDepth 100000 in
set_option maxHeartbeats 1000000 in
theorem least_any (x : Int) (v : Value) (ys : List Int) (w : World) (h : IntSl w v ys) :
    Calls Try.prog 34 #[.int .i64 x, v] w fun e w' => e = .returned (.int .i64 (Fx.lst x ys ys.length)) ∧ w = w' := by
  obtain ⟨a, c, rfl, hl, h⟩ := h
  have H := Lib.hid h
  clear h
  go_enter Try.func34, Try.ntmps34
  go_wp2_with fail
  go_loopw [5, 11] (fun sv jv wr => ∃ k : Nat, k ≤ ys.length ∧ jv = .int .i64 k ∧ sv = .int .i64 (Fx.lst x ys k) ∧ wr = w) (fun _ jv _ => ys.length - (intOf jv).toNat)
  case atStart => exact ⟨0, by omega, by go_num, rfl, rfl⟩
  case round =>
    obtain ⟨k, hk, rfl, rfl, rfl⟩ := hrel
    by_cases hlt : k < ys.length
    · obtain ⟨b, o, rfl, hb, hc⟩ := H.out (by omega)
      have ck := hc k hlt
      have et : Fx.lst x ys (k + 1) = min (Fx.lst x ys k) (ys.getD k 0) := rfl
      have hd : decide ((k : Int) < (ys.length : Int)) = true := by simp; omega
      have HE := Lib.hid et
      have k0 : (0 : Int) ≤ (k : Int) := by omega
      have k1 : (k : Int) < (ys.length : Int) := by omega
      clear hc et
      generalize ys.getD k 0 = y at *
      generalize Fx.lst x ys k = t at *
      go_wp2_with fail
      go_roundw
      case rel => exact ⟨k + 1, by omega, by go_num, by rw [HE.out], trivial⟩
      case measure => simp [intOf]; omega
    · obtain rfl : k = ys.length := by omega
      go_wp2_with fail
      go_ret
      exact ⟨rfl, rfl⟩
theorem ret_bound {tmps : Array Value} {w : World} {g : Nat} {x : Fx.V3} (hW : Whole w g 34 x.arr) (h2 : tmps.getD 4 undef = .pointer (some ⟨g, 0, none⟩)) :
    (results Try.f18 tmps).run Try.prog w = .ok (.agg x.arr) w := by
  have c0 : _ = some (Value.int .i64 x.a) := hW.cell 0
  have c1 : _ = some (Value.int .i64 x.b) := hW.cell 1
  have c2 : _ = some (Value.int .i64 x.c) := hW.cell 2
  have c3 : _ = some (Value.int .i64 x.d) := hW.cell 3
  have c4 : _ = some (Value.int .i64 x.e) := hW.cell 4
  have c5 : _ = some (Value.int .i64 x.f) := hW.cell 5
  clear hW
  have h2' : tmps[4]?.getD undef = .pointer (some ⟨g, 0, none⟩) := by simpa using h2
  simp [results, Try.results18, go_sem, h2', c0, c1, c2, c3, c4, c5, Fx.V3.arr]

/-- The cells of a block known whole, for the walk. -/
theorem Whole.six {w : World} {g : Nat} {t : TypeId} {x : Fx.V3} (h : Whole w g t x.arr) :
    (w.cell? ⟨g, 0, none⟩ = some (.int .i64 x.a) ∧ w.cell? ⟨g, 1, none⟩ = some (.int .i64 x.b) ∧ w.cell? ⟨g, 2, none⟩ = some (.int .i64 x.c) ∧ w.cell? ⟨g, 3, none⟩ = some (.int .i64 x.d) ∧ w.cell? ⟨g, 4, none⟩ = some (.int .i64 x.e) ∧ w.cell? ⟨g, 5, none⟩ = some (.int .i64 x.f)) ∧
    (w.frozen? ⟨g, 0, none⟩ = false ∧ w.frozen? ⟨g, 1, none⟩ = false ∧ w.frozen? ⟨g, 2, none⟩ = false ∧ w.frozen? ⟨g, 3, none⟩ = false ∧ w.frozen? ⟨g, 4, none⟩ = false ∧ w.frozen? ⟨g, 5, none⟩ = false) :=
  ⟨⟨h.cell 0, h.cell 1, h.cell 2, h.cell 3, h.cell 4, h.cell 5⟩, ⟨h.frozen 0, h.frozen 1, h.frozen 2, h.frozen 3, h.frozen 4, h.frozen 5⟩⟩

set_option maxRecDepth 100000 in
set_option maxHeartbeats 2000000 in
theorem bound_no (v : Value) (L : List Fx.V3) (r : Int) (w : World) (hI : VSl w v L) (hno : Fx.boundOk L r = false) :
    Calls Try.prog 18 #[v, .int .i64 r] w fun e w' => e = .returned (.agg (Fx.boundV L r).arr) ∧ Below w.heap.size w w' := by
  rw [Fx.boundV_no hno]
  have HI := Lib.hid hI
  obtain ⟨a, c, rfl, hl, hI'⟩ := hI
  clear hI'
  by_cases hp : Fx.placedB L = true
  · have HP := Lib.hid hp
    have hr : ¬ (0 ≤ r ∧ r ≤ 1048576) := fun h => by rw [Fx.boundOk_yes hp h] at hno; cases hno
    clear hp hno
    by_cases h0 : r < 0
    · have d0 : decide (r < 0) = true := by simp; omega
      clear hr
      go_enter Try.func18, Try.ntmps18
      go_wp2_with fail
      refine (placed_yes _ L _ (HI.out.ext (ext_alloc (ext_alloc (ext_refl _) _) _)) HP.out).mono ?_
      rintro e w1 ⟨rfl, hb1⟩
      have hZ := ((Whole.new w 34 Fx.V3.zero.arr).alloc (.cells Fx.V3.zero.arr 34)).ext hb1
      have hY := (Whole.new (w.alloc (.cells Fx.V3.zero.arr 34)) 34 Fx.V3.zero.arr).ext hb1
      rw [World.size_alloc] at hY
      have hB1 : Below w.heap.size w w1 := ext_trans (ext_alloc (ext_alloc (ext_refl _) _) _) hb1
      obtain ⟨⟨z0, z1, z2, z3, z4, z5⟩, ⟨y0, y1, y2, y3, y4, y5⟩⟩ := hZ.six
      obtain ⟨⟨s0, s1, s2, s3, s4, s5⟩, _⟩ := hY.six
      simp only [Fx.V3.zero] at z0 z1 z2 z3 z4 z5 s0 s1 s2 s3 s4 s5
      have HZ := Lib.hid hZ
      clear hZ hb1 hY
      go_wp2_with fail
      exact bodyPost_ret (ret_bound (x := Fx.V3.zero) (set6_whole Fx.V3.zero HZ.out) rfl) rfl ⟨rfl, set6_ext Fx.V3.zero hB1 (Nat.le_refl _)⟩
    · have d0 : decide (r < 0) = false := by simp; omega
      have d1 : decide (1048576 < r) = true := by simp; omega
      clear hr
      go_enter Try.func18, Try.ntmps18
      go_wp2_with fail
      refine (placed_yes _ L _ (HI.out.ext (ext_alloc (ext_alloc (ext_refl _) _) _)) HP.out).mono ?_
      rintro e w1 ⟨rfl, hb1⟩
      have hZ := ((Whole.new w 34 Fx.V3.zero.arr).alloc (.cells Fx.V3.zero.arr 34)).ext hb1
      have hY := (Whole.new (w.alloc (.cells Fx.V3.zero.arr 34)) 34 Fx.V3.zero.arr).ext hb1
      rw [World.size_alloc] at hY
      have hB1 : Below w.heap.size w w1 := ext_trans (ext_alloc (ext_alloc (ext_refl _) _) _) hb1
      obtain ⟨⟨z0, z1, z2, z3, z4, z5⟩, ⟨y0, y1, y2, y3, y4, y5⟩⟩ := hZ.six
      obtain ⟨⟨s0, s1, s2, s3, s4, s5⟩, _⟩ := hY.six
      simp only [Fx.V3.zero] at z0 z1 z2 z3 z4 z5 s0 s1 s2 s3 s4 s5
      have HZ := Lib.hid hZ
      clear hZ hb1 hY
      go_wp2_with fail
      exact bodyPost_ret (ret_bound (x := Fx.V3.zero) (set6_whole Fx.V3.zero HZ.out) rfl) rfl ⟨rfl, set6_ext Fx.V3.zero hB1 (Nat.le_refl _)⟩
  · have hp : Fx.placedB L = false := by simpa using hp
    have HP := Lib.hid hp
    clear hp hno
    go_enter Try.func18, Try.ntmps18
    go_wp2_with fail
    refine (placed_no _ L _ (HI.out.ext (ext_alloc (ext_alloc (ext_refl _) _) _)) HP.out).mono ?_
    rintro e w1 ⟨rfl, hb1⟩
    have hZ := ((Whole.new w 34 Fx.V3.zero.arr).alloc (.cells Fx.V3.zero.arr 34)).ext hb1
    have hY := (Whole.new (w.alloc (.cells Fx.V3.zero.arr 34)) 34 Fx.V3.zero.arr).ext hb1
    rw [World.size_alloc] at hY
    have hB1 : Below w.heap.size w w1 := ext_trans (ext_alloc (ext_alloc (ext_refl _) _) _) hb1
    obtain ⟨⟨z0, z1, z2, z3, z4, z5⟩, ⟨y0, y1, y2, y3, y4, y5⟩⟩ := hZ.six
    obtain ⟨⟨s0, s1, s2, s3, s4, s5⟩, _⟩ := hY.six
    simp only [Fx.V3.zero] at z0 z1 z2 z3 z4 z5 s0 s1 s2 s3 s4 s5
    have HZ := Lib.hid hZ
    clear hZ hb1 hY
    go_wp2_with fail
    exact bodyPost_ret (ret_bound (x := Fx.V3.zero) (set6_whole Fx.V3.zero HZ.out) rfl) rfl ⟨rfl, set6_ext Fx.V3.zero hB1 (Nat.le_refl _)⟩

end Go.Proofs.Ytgnjconhbloocaa
