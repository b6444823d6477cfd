/- A region that draws its order, loads cells, and stores into one of them at its end: a condition on the world that holds till that store. Words for memory: a block that is known whole, and what keeps it. Regions that draw their order, walked under one condition: what lay there at the region's beginning still does. Plain mathematics of the fixed-point numbers: clamping, shifting, quotients and roots of integers. No program in sight. Plain mathematics of intervals: what the functions on intervals compute. No program in sight. Plain mathematics of lists of intervals. No program in sight. Plain mathematics of placed points: what the functions on them compute. No program in sight. Plain mathematics of weighted sums of placed points. No program in sight. Plain mathematics of the box around placed points. No program in sight. Contracts of the functions of package fixed and of their references: what each call returns, and that it leaves the world alone. Contracts of the functions of package interval, of their references and of the makers of intervals: each returns what the plain function says, and changes nothing that was there. Contracts of package interval, second part: negation, membership, middle, width, intersection, scaling. Contracts of package interval, third part: intersection, scaling, squares, roots, products. Contracts of the makers of intervals: Round, Interval, Part. Plain mathematics of the sampler: what its functions compute. No program in sight. Slices of 64-bit integers: what such a slice reads as. -/
import Derived.WalkKit
import Derived.Deep.RegionHeld3
import Derived.Below
import Derived.Laws.OwnMore
import Derived.Deep.Draws
import Derived.Laws.Rows
import Derived.Lib.Hide
import Derived.Deep.MidRow
import Derived.Test.YtgnjconhbloocaaProg
import Derived.WalkSpells
import Derived.WalkLawsBesides
import Derived.Deep.QuietTactic
import Derived.BigQuiet
import Derived.StillTailTactics
import Derived.Laws.Bits64
import Derived.Laws.BitsAllLaws
import Derived.Deep.AppendLies
namespace Go.Proofs.Ytgnjconhbloocaa
open Go
set_option linter.unusedVariables false
section
variable {P : Program} {ops : Array Oper} {Q : Exit → Act → World → Prop} {md : Region.Mode} {S : World → Prop} {k : Nat}

/-- Whatever order is picked from here on; S holds behind every operation that is carried out till operation k comes up. -/
def wpAnyU (P : Program) (md : Region.Mode) (ops : Array Oper) (Q : Exit → Act → World → Prop) (S : World → Prop) (k : Nat) : Nat → Array Bool → Act → World → Prop
  | 0, listed, a, w => Region.ready md ops listed = [] ∧ Q .normal a w
  | fuel + 1, listed, a, w =>
    (Region.ready md ops listed = [] → Q .normal a w) ∧
    ∀ i ∈ Region.ready md ops listed, wpOp P ops Q i (fun a' w' => (i ≠ k → listed.getD k true = false → S w') ∧ wpAnyU P md ops Q S k fuel (listed.setIfInBounds i true) a' w') a w

theorem wpAny_of_until : ∀ (fuel : Nat) (listed : Array Bool) (a : Act) (w : World), wpAnyU P md ops Q S k fuel listed a w → wpAny P md ops Q fuel listed a w
  | 0, _, _, _, h => h
  | fuel + 1, _, _, _, h => ⟨h.1, fun i hi => wpOp_mono (fun a' w' h' => wpAny_of_until fuel _ a' w' h'.2) (h.2 i hi)⟩

theorem wpAnyU_first {i : Nat} {oi : Oper} {v : Value} (hi : ops[i]? = some oi) (hsel : ∀ (j : Nat) (o : Oper) cs b, ops[j]? = some o → o.op ≠ .select cs b)
    (hQ : ∀ c a w, Q (.panic c) (a.put oi.dst v) w → Q (.panic c) a w) (hik : i ≠ k) (hw : ∃ ok, ops[k]? = some ok ∧ ∃ e ∈ ok.after, Region.binds md e = true ∧ e.on = i) :
    ∀ (fuel : Nat) (listed : Array Bool) (a : Act) (w : World),
      (∀ j oj, ops[j]? = some oj → j ≠ i → listed.getD j true = false → (∀ e ∈ oj.after, Region.binds md e = true → e.on ≠ i) → oi.apart ops oj = true) →
      i ∈ Region.ready md ops listed → listed.getD k true = false → YieldsIf P ops S oi v a → S w →
      wpAnyU P md ops Q S k fuel (listed.setIfInBounds i true) (a.put oi.dst v) w → wpAnyU P md ops Q S k (fuel + 1) listed a w := by
  intro fuel
  induction fuel with
  | zero =>
    intro listed a w _ hr hk hy hS H
    refine ⟨fun h => (by rw [h] at hr; cases hr), fun j hj => ?_⟩
    by_cases hji : j = i
    · subst hji; exact hy.wpOp hi hS ⟨fun _ _ => hS, H⟩
    · have := ready_mono hj hji
      rw [H.1] at this
      cases this
  | succ fuel ih =>
    intro listed a w hfree hr hk hy hS H
    refine ⟨fun h => (by rw [h] at hr; cases hr), fun j hj => ?_⟩
    by_cases hji : j = i
    · subst hji; exact hy.wpOp hi hS ⟨fun _ _ => hS, H⟩
    · have h1 := H.2 j (ready_mono hj hji)
      obtain ⟨hjun, oj, hoj, hall⟩ := mem_ready.1 hj
      have hnot : ∀ e ∈ oj.after, Region.binds md e = true → e.on ≠ i := fun e he hb heq => by
        have h1 := hall e he hb
        have h0 := (mem_ready.1 hr).1
        rw [heq] at h1
        rcases Nat.lt_or_ge i listed.size with h' | h'
        · simp [h'] at h0 h1; rw [h0] at h1; cases h1
        · simp [Array.getElem?_eq_none h'] at h1
      have hjk : j ≠ k := fun e => by
        subst e
        obtain ⟨ok, hok, e', he', hb', hon'⟩ := hw
        rw [hoj] at hok
        injection hok with hok
        subst hok
        exact hnot e' he' hb' hon'
      have h2 := wpOp_putIf hoj (hfree j oj hoj hji hjun hnot) (fun cs b => hsel i oi cs b hi) (fun cs b => hsel j oj cs b hoj) hQ hy h1
      have hfree' : ∀ m om, ops[m]? = some om → m ≠ i → (listed.setIfInBounds j true).getD m true = false →
          (∀ e ∈ om.after, Region.binds md e = true → e.on ≠ i) → oi.apart ops om = true := fun m om hm hmi hun hno => by
        refine hfree m om hm hmi ?_ hno
        by_cases hjm : j = m
        · subst hjm; exact hjun
        · rw [getD_set_ne true hjm] at hun; exact hun
      have hkj : (listed.setIfInBounds j true).getD k true = false := by rw [getD_set_ne true hjk]; exact hk
      have hki : (listed.setIfInBounds i true).getD k true = false := by rw [getD_set_ne true hik]; exact hk
      refine wpOp_mono (fun a' w' h3 => ⟨fun _ _ => h3.2.1 hjk hki, ih (listed.setIfInBounds j true) a' w' hfree' (ready_mono hr (Ne.symm hji)) hkj h3.1 (h3.2.1 hjk hki) ?_⟩) h2
      rw [Array.setIfInBounds_comm _ _ hji]
      exact h3.2.2

/-- Whether operation k waits for operation i. -/
def waitsFor (md : Region.Mode) (ops : Array Oper) (k i : Nat) : Bool := match ops[k]? with | some o => o.after.any (fun e => Region.binds md e && e.on == i) && decide (i ≠ k) | none => false
theorem waitsFor_spec {i : Nat} (h : waitsFor md ops k i = true) : i ≠ k ∧ ∃ ok, ops[k]? = some ok ∧ ∃ e ∈ ok.after, Region.binds md e = true ∧ e.on = i := by
  unfold waitsFor at h
  split at h
  · rename_i o ho
    simp only [Bool.and_eq_true, decide_eq_true_eq] at h
    obtain ⟨h1, h2⟩ := h
    rw [Array.any_eq_true] at h1
    obtain ⟨m, hm, h3⟩ := h1
    simp only [Bool.and_eq_true, beq_iff_eq] at h3
    exact ⟨h2, o, ho, o.after[m], Array.getElem_mem hm, h3.1, h3.2⟩
  · cases h

theorem wpAnyU_take {i : Nat} {oi : Oper} {v : Value} {fuel : Nat} {listed : Array Bool} {a : Act} {w : World} (hi : ops[i]? = some oi)
    (hs : Region.noSelect ops = true) (hf : Region.free md ops listed i = true) (hr : (Region.ready md ops listed).contains i = true) (hwk : waitsFor md ops k i = true) (hk : listed.getD k true = false)
    (hQ : ∀ c a w, Q (.panic c) (a.put oi.dst v) w → Q (.panic c) a w) (hy : YieldsIf P ops S oi v a) (hS : S w)
    (h : wpAnyU P md ops Q S k fuel (listed.setIfInBounds i true) (a.put oi.dst v) w) : wpAnyU P md ops Q S k (fuel + 1) listed a w :=
  wpAnyU_first hi (Region.noSelect_spec hs) hQ (waitsFor_spec hwk).1 (waitsFor_spec hwk).2 fuel listed a w (Region.free_spec hi hf) (by simpa using hr) hk hy hS h

/-- Each of the operations rs comes up next. -/
def AllReadyU (P : Program) (md : Region.Mode) (ops : Array Oper) (Q : Exit → Act → World → Prop) (S : World → Prop) (k : Nat) (fuel : Nat) (listed : Array Bool) (a : Act) (w : World) (rs : List Nat) : Prop :=
  ∀ i ∈ rs, wpOp P ops Q i (fun a' w' => (i ≠ k → listed.getD k true = false → S w') ∧ wpAnyU P md ops Q S k fuel (listed.setIfInBounds i true) a' w') a w
theorem AllReadyU.nil {fuel : Nat} {listed : Array Bool} {a : Act} {w : World} : AllReadyU P md ops Q S k fuel listed a w [] := fun _ h => by cases h
theorem AllReadyU.cons {fuel : Nat} {listed : Array Bool} {a : Act} {w : World} {i : Nat} {o : Oper} {rs : List Nat} (ho : ops[i]? = some o)
    (h : ∀ K' : Act → World → Prop, Shut (∀ a w, S w → (S w → wpAnyU P md ops Q S k fuel (listed.setIfInBounds i true) a w) → K' a w) → if Region.wanted o (yielded ops a.tmps) = true then Oper.wp P o a w K' Q else K' (a.put o.dst undef) w)
    (hs : AllReadyU P md ops Q S k fuel listed a w rs) : AllReadyU P md ops Q S k fuel listed a w (i :: rs) := fun j hj => by
  rcases List.mem_cons.1 hj with rfl | hj
  · exact wpOp_step ho (fun K' hK => h K' (fun a w hS hW => hK a w ⟨fun _ _ => hS, hW hS⟩))
  · exact hs j hj
/-- The operation that ends the condition. -/
theorem AllReadyU.last {fuel : Nat} {listed : Array Bool} {a : Act} {w : World} {o : Oper} {rs : List Nat} (ho : ops[k]? = some o)
    (h : ∀ K' : Act → World → Prop, Shut (∀ a w, wpAnyU P md ops Q S k fuel (listed.setIfInBounds k true) a w → K' a w) → if Region.wanted o (yielded ops a.tmps) = true then Oper.wp P o a w K' Q else K' (a.put o.dst undef) w)
    (hs : AllReadyU P md ops Q S k fuel listed a w rs) : AllReadyU P md ops Q S k fuel listed a w (k :: rs) := fun j hj => by
  rcases List.mem_cons.1 hj with rfl | hj
  · exact wpOp_step ho (fun K' hK => h K' (fun a w hW => hK a w ⟨fun e => absurd rfl e, hW⟩))
  · exact hs j hj
/-- An operation behind the one that ended the condition. -/
theorem AllReadyU.past {fuel : Nat} {listed : Array Bool} {a : Act} {w : World} {i : Nat} {o : Oper} {rs : List Nat} (ho : ops[i]? = some o) (hk : listed.getD k true = true)
    (h : ∀ K' : Act → World → Prop, Shut (∀ a w, wpAnyU P md ops Q S k fuel (listed.setIfInBounds i true) a w → K' a w) → if Region.wanted o (yielded ops a.tmps) = true then Oper.wp P o a w K' Q else K' (a.put o.dst undef) w)
    (hs : AllReadyU P md ops Q S k fuel listed a w rs) : AllReadyU P md ops Q S k fuel listed a w (i :: rs) := fun j hj => by
  rcases List.mem_cons.1 hj with rfl | hj
  · exact wpOp_step ho (fun K' hK => h K' (fun a w hW => hK a w ⟨fun _ e => (by rw [hk] at e; cases e), hW⟩))
  · exact hs j hj
theorem wpAnyU_ready {rs : List Nat} {fuel : Nat} {listed : Array Bool} {a : Act} {w : World} (hr : Region.ready md ops listed = rs) (hne : rs ≠ [])
    (h : AllReadyU P md ops Q S k fuel listed a w rs) : wpAnyU P md ops Q S k (fuel + 1) listed a w := ⟨fun h0 => absurd (hr ▸ h0) hne, hr ▸ h⟩
theorem wpAnyU_done {listed : Array Bool} {a : Act} {w : World} (hr : Region.ready md ops listed = []) (h : Q .normal a w) :
    ∀ fuel, wpAnyU P md ops Q S k fuel listed a w
  | 0 => ⟨hr, h⟩
  | _ + 1 => ⟨fun _ => h, by rw [hr]; simp⟩
theorem wp_region_until_drew {id : Nat} {a : Act} {w : World} (hm : P.follows .mixedOrders = true) (hS : S w.drew)
    (h : S w.drew → wpAnyU P .any ops Q S k ops.size (Array.replicate ops.size false) a w.drew) : (Code.region id ops true).wp P Q a w :=
  wp_region_any hm (wpAny_of_until _ _ _ _ (h hS))
end
end Go.Proofs.Ytgnjconhbloocaa

namespace Go.Proofs.Ytgnjconhbloocaa
open Go.RowKit

/-- Block g is just the cells cs of element type t, and none of them is frozen. -/
def Whole (w : World) (g : Nat) (t : TypeId) (cs : Array Value) : Prop := w.heap[g]? = some (.cells cs t (0, 0))

section
variable {w w' : World} {g : Nat} {t : TypeId} {cs : Array Value}

theorem Whole.lt (h : Whole w g t cs) : g < w.heap.size := by
  by_cases hg : g < w.heap.size
  · exact hg
  · unfold Whole at h
    rw [Array.getElem?_eq_none (by omega)] at h
    cases h

theorem Whole.cell (h : Whole w g t cs) (i : Nat) : w.cell? ⟨g, i, none⟩ = cs[i]? := cell_of_row w g i cs t (0, 0) h

theorem Whole.frozen (h : Whole w g t cs) (i : Nat) : w.frozen? ⟨g, i, none⟩ = false := by
  unfold Whole at h
  simp [World.frozen?, h]

theorem Whole.new (w : World) (t : TypeId) (cs : Array Value) : Whole (w.alloc (.cells cs t)) w.heap.size t cs := heap_alloc_new w _

theorem Whole.drew (h : Whole w g t cs) : Whole w.drew g t cs := h

theorem Whole.drewN (h : Whole w g t cs) (n : Nat) : Whole (w.drewN n) g t cs := h

theorem Whole.alloc (h : Whole w g t cs) (o : Obj) : Whole (w.alloc o) g t cs := (Below.heap_alloc w o g h.lt).trans h

theorem Whole.store (h : Whole w g t cs) (i : Nat) (u : Value) : Whole (w.setCell ⟨g, i, none⟩ u) g t (cs.setIfInBounds i u) := by
  unfold Whole at h ⊢
  simp [World.setCell, Array.getElem?_modify, h]

theorem Whole.far (h : Whole w g t cs) {p : Addr} (hp : g ≠ p.block) (u : Value) : Whole (w.setCell p u) g t cs := (Below.heap_setCell w p u g hp).trans h

theorem Whole.below {B : Nat} (h : Whole w g t cs) (hb : Below B w w') (hg : g < B) : Whole w' g t cs := (hb.block g hg).trans h

theorem Whole.grown {row : Option Nat} (h : Whole w g t cs) (hg : w.grownBy w' row) (hne : some g ≠ row) : Whole w' g t cs := (hg.block g h.lt hne).trans h

theorem Whole.ext (h : Whole w g t cs) (hb : Below w.heap.size w w') : Whole w' g t cs := h.below hb h.lt

end

theorem ext_refl (w : World) : Below w.heap.size w w := Below.refl _ _
theorem ext_trans {a b c : World} (h : Below a.heap.size a b) (k : Below b.heap.size b c) : Below a.heap.size a c := h.trans (k.mono h.size)
theorem ext_trans' {B : Nat} {a b c : World} (h : Below B a b) (k : Below b.heap.size b c) (hB : B ≤ a.heap.size) : Below B a c := h.trans (k.mono (Nat.le_trans hB h.size))
theorem ext_alloc {a b : World} (h : Below a.heap.size a b) (o : Obj) : Below a.heap.size a (b.alloc o) := h.alloc h.size o
theorem ext_drew {a b : World} (h : Below a.heap.size a b) : Below a.heap.size a b.drew := ⟨h.os, h.tape, h.output, h.size, h.block⟩
theorem ext_drewN {a b : World} (h : Below a.heap.size a b) (n : Nat) : Below a.heap.size a (b.drewN n) := ⟨h.os, h.tape, h.output, h.size, h.block⟩
theorem ext_set {a b : World} (h : Below a.heap.size a b) {p : Addr} (hp : a.heap.size ≤ p.block) (u : Value) : Below a.heap.size a (b.setCell p u) := h.setCell hp u
end Go.Proofs.Ytgnjconhbloocaa

namespace Go.Proofs.Ytgnjconhbloocaa
open Go.RowKit
set_option linter.unusedVariables false

theorem Whole.range {w : World} {g : Nat} {t : TypeId} {cs : Array Value} (h : Whole w g t cs) (o : Nat) (vs : List Value) (hv : ∀ (j : Nat) (v : Value), vs[j]? = some v → cs[o + j]? = some v) : w.rangeAt g o vs := fun j v hj => by
  rw [h.cell]; exact hv j v hj
theorem Whole.all {w : World} {g : Nat} {t : TypeId} {cs : Array Value} (h : Whole w g t cs) : w.rangeAt g 0 cs.toList := h.range 0 _ (fun j v hj => by rw [Nat.zero_add]; simpa using hj)
theorem range_ext {w w' : World} {B g o : Nat} {vs : List Value} (h : w.rangeAt g o vs) (hb : Below B w w') (hg : g < B) : w'.rangeAt g o vs := fun j v hj => (hb.cell (p := ⟨g, o + j, none⟩) hg).trans (h j v hj)

theorem Whole.farN {g' : Nat} : ∀ (vs : List Value) {w : World} {g : Nat} {t : TypeId} {cs : Array Value} (_ : Whole w g t cs) (_ : g ≠ g') (o : Nat), Whole (w.setCells g' o vs) g t cs
  | [], _, _, _, _, h, _, _ => h
  | v :: vs, w, g, t, cs, h, hne, o => Whole.farN vs (w := w.setCell ⟨g', o, none⟩ v) (h.far (p := ⟨g', o, none⟩) hne v) hne (o + 1)
theorem ext_setN {g' : Nat} {a : World} : ∀ (vs : List Value) {b : World} (_ : Below a.heap.size a b) (_ : a.heap.size ≤ g') (o : Nat), Below a.heap.size a (b.setCells g' o vs)
  | [], _, h, _, _ => h
  | v :: vs, b, h, hg, o => ext_setN vs (b := b.setCell ⟨g', o, none⟩ v) (ext_set h (p := ⟨g', o, none⟩) hg v) hg (o + 1)
theorem Whole.store2 {w : World} {g : Nat} {t : TypeId} {cs cs' : Array Value} (h : Whole w g t cs) (o : Nat) (u v : Value) (he : (cs.setIfInBounds o u).setIfInBounds (o + 1) v = cs') : Whole (w.setCells g o [u, v]) g t cs' := by
  rw [← he]; exact (h.store o u).store (o + 1) v

/-- Two, three, four new blocks. -/
theorem blocks2 (w : World) (t1 t2 : TypeId) (c1 c2 : Array Value) : let W := (w.alloc (.cells c1 t1)).alloc (.cells c2 t2); Whole W w.heap.size t1 c1 ∧ Whole W (w.heap.size + 1) t2 c2 ∧ Below w.heap.size w W := by
  refine ⟨(Whole.new w _ _).alloc _, ?_, ext_alloc (ext_alloc (ext_refl _) _) _⟩
  have h := Whole.new (w.alloc (.cells c1 t1)) t2 c2
  simp only [World.size_alloc] at h
  exact h
theorem blocks3 (w : World) (t1 t2 t3 : TypeId) (c1 c2 c3 : Array Value) : let W := ((w.alloc (.cells c1 t1)).alloc (.cells c2 t2)).alloc (.cells c3 t3); Whole W w.heap.size t1 c1 ∧ Whole W (w.heap.size + 1) t2 c2 ∧ Whole W (w.heap.size + 1 + 1) t3 c3 ∧ Below w.heap.size w W := by
  obtain ⟨h1, h2, h3⟩ := blocks2 w t1 t2 c1 c2
  refine ⟨h1.alloc _, h2.alloc _, ?_, ext_alloc h3 _⟩
  have h := Whole.new ((w.alloc (.cells c1 t1)).alloc (.cells c2 t2)) t3 c3
  simp only [World.size_alloc] at h
  exact h
theorem blocks4 (w : World) (t1 t2 t3 t4 : TypeId) (c1 c2 c3 c4 : Array Value) : let W := (((w.alloc (.cells c1 t1)).alloc (.cells c2 t2)).alloc (.cells c3 t3)).alloc (.cells c4 t4); Whole W w.heap.size t1 c1 ∧ Whole W (w.heap.size + 1) t2 c2 ∧ Whole W (w.heap.size + 1 + 1) t3 c3 ∧ Whole W (w.heap.size + 1 + 1 + 1) t4 c4 ∧ Below w.heap.size w W := by
  obtain ⟨h1, h2, h3, h4⟩ := blocks3 w t1 t2 t3 c1 c2 c3
  refine ⟨h1.alloc _, h2.alloc _, h3.alloc _, ?_, ext_alloc h4 _⟩
  have h := Whole.new (((w.alloc (.cells c1 t1)).alloc (.cells c2 t2)).alloc (.cells c3 t3)) t4 c4
  simp only [World.size_alloc] at h
  exact h
/-- Six zeros. -/
abbrev zero6 : Array Value := #[.int .i64 0, .int .i64 0, .int .i64 0, .int .i64 0, .int .i64 0, .int .i64 0]

section
variable {P : Program} {ops : Array Oper}
/-- A load of what lay there yields it in every world that has grown out of that one. -/
theorem yields_load {w0 : World} {op : Oper} {a : Act} (hw : Region.wanted op (yielded ops a.tmps) = true) (ty : TypeId) (x : Operand) (ho : op.op = .load ty x)
    (b o : Nat) (hx : a.eval x = .pointer (some ⟨b, o, none⟩)) (cs : List Value) (d : TypeDesc) (hr : w0.rangeAt b o cs) (hb : b < w0.heap.size)
    (hu : P.underlying ty = some d) (hd : d.isRow = true) (hi : (P.info? ty).map (·.size) = some cs.length) : YieldsIf P ops (fun w' => Below w0.heap.size w0 w') op (.agg cs.toArray) a :=
  yieldsIf_load_mid hw ty x ho b o hx cs d (fun w' h => range_ext hr h hb) hu hd hi
end
end Go.Proofs.Ytgnjconhbloocaa

namespace Go.Proofs.Ytgnjconhbloocaa.Fx
open Go.RowKit

/-! ### Clamp -/
def clamp (a : Int) : Int := if a < -2147483648 then -2147483648 else if 2147483648 < a then 2147483648 else a

theorem clamp_bd (a : Int) : -2147483648 ≤ clamp a ∧ clamp a ≤ 2147483648 := by unfold clamp; split <;> (try split) <;> omega
theorem clamp_id (a : Int) (h0 : -2147483648 ≤ a) (h1 : a ≤ 2147483648) : clamp a = a := by unfold clamp; rw [if_neg (by omega), if_neg (by omega)]
theorem clamp_clamp (a : Int) : clamp (clamp a) = clamp a := clamp_id _ (clamp_bd a).1 (clamp_bd a).2
theorem clamp_mono (a b : Int) (h : a ≤ b) : clamp a ≤ clamp b := by unfold clamp; repeat' split <;> omega
theorem clamp_neg (a : Int) : clamp (-a) = -clamp a := by unfold clamp; repeat' split <;> omega
theorem clamp_nonneg (a : Int) (h : 0 ≤ a) : 0 ≤ clamp a := by unfold clamp; repeat' split <;> omega
theorem clamp_zero_iff (a : Int) : clamp a = 0 ↔ a = 0 := by unfold clamp; repeat' split <;> omega

/-! ### Products of bounded numbers -/
theorem mul_bd (B : Nat) (a b : Int) (A : Nat) (ha0 : -(A : Int) ≤ a) (ha1 : a ≤ A) (hb0 : -(B : Int) ≤ b) (hb1 : b ≤ B) : -((A * B : Nat) : Int) ≤ a * b ∧ a * b ≤ ((A * B : Nat) : Int) := by
  have h : (a * b).natAbs ≤ A * B := by
    rw [Int.natAbs_mul]
    exact Nat.mul_le_mul (by omega) (by omega)
  omega

/-- The product of two clamped numbers is at most 2^62. -/
theorem mul_clamp_bd (a b : Int) : -4611686018427387904 ≤ clamp a * clamp b ∧ clamp a * clamp b ≤ 4611686018427387904 := by
  have ha := clamp_bd a
  have hb := clamp_bd b
  have h := mul_bd 2147483648 (clamp a) (clamp b) 2147483648 (by omega) (by omega) (by omega) (by omega)
  omega

/-! ### Floor and ceiling -/
def ce (a b : Int) : Int := -((-a) / b)

theorem ce_eq (a b : Int) (hb : 0 < b) : ce a b = if a % b = 0 then a / b else a / b + 1 := by
  unfold ce
  have h1 := Int.mul_ediv_add_emod a b
  have h2 := Int.emod_nonneg a (Int.ne_of_gt hb)
  have h3 := Int.emod_lt_of_pos a hb
  split
  · rename_i h
    have : -a = b * (-(a / b)) := by rw [Int.mul_neg]; omega
    rw [this, Int.mul_ediv_cancel_left _ (Int.ne_of_gt hb)]
    omega
  · rename_i h
    have : -a = (b - a % b) + b * (-(a / b) - 1) := by
      rw [Int.mul_sub, Int.mul_neg]; omega
    rw [this, Int.add_mul_ediv_left _ _ (Int.ne_of_gt hb), Int.ediv_eq_zero_of_lt (by omega) (by omega)]
    omega

theorem fl_bd (a b : Int) (hb : 0 < b) (ha0 : -9223372036854775808 ≤ a) (ha1 : a ≤ 9223372036854775807) : -9223372036854775808 ≤ a / b ∧ a / b ≤ 9223372036854775807 := by
  constructor
  · rw [Int.le_ediv_iff_mul_le hb]
    have : (-9223372036854775808 : Int) * b ≤ -9223372036854775808 * 1 := Int.mul_le_mul_of_nonpos_left (by omega) (by omega)
    omega
  · by_cases h : 0 ≤ a
    · exact Int.le_trans (Int.ediv_le_self b h) ha1
    · have : a / b < 0 := Int.ediv_neg_of_neg_of_pos (by omega) hb
      omega

theorem ce_bd (a b : Int) (hb : 0 < b) (ha0 : -9223372036854775808 ≤ a) (ha1 : a ≤ 9223372036854775807) : -9223372036854775808 ≤ ce a b ∧ ce a b ≤ 9223372036854775807 := by
  unfold ce
  constructor
  · by_cases h : 0 ≤ -a
    · have := Int.ediv_le_self b h; omega
    · have : (-a) / b < 0 := Int.ediv_neg_of_neg_of_pos (by omega) hb
      omega
  · have h2 : (-9223372036854775807 : Int) ≤ (-a) / b := by
      rw [Int.le_ediv_iff_mul_le hb]
      have : (-9223372036854775807 : Int) * b ≤ -9223372036854775807 * 1 := Int.mul_le_mul_of_nonpos_left (by omega) (by omega)
      omega
    omega

/-- Go's quotient and remainder by a positive number, corrected downward, is the floor. -/
theorem tdiv_floor (a b : Int) (hb : 0 < b) : (if a.tmod b < 0 then a.tdiv b - 1 else a.tdiv b) = a / b := by
  by_cases ha : 0 ≤ a
  · rw [if_neg (by have := Int.tmod_nonneg b ha; omega), Int.tdiv_eq_ediv_of_nonneg ha]
  · have e := Int.mul_tdiv_add_tmod a b
    have h1 : a.tmod b ≤ 0 := by have := Int.tmod_nonneg (a := -a) b (by omega); rw [Int.neg_tmod] at this; omega
    have h2 : -b < a.tmod b := by have := Int.tmod_lt_of_pos (-a) hb; rw [Int.neg_tmod] at this; omega
    by_cases hz : a.tmod b < 0
    · rw [if_pos hz]
      have : a = (b + a.tmod b) + b * (a.tdiv b - 1) := by rw [Int.mul_sub]; omega
      have e2 : a / b = ((b + a.tmod b) + b * (a.tdiv b - 1)) / b := congrArg (· / b) this
      rw [e2, Int.add_mul_ediv_left _ _ (Int.ne_of_gt hb), Int.ediv_eq_zero_of_lt (by omega) (by omega)]
      omega
    · rw [if_neg hz]
      have : a = b * a.tdiv b := by omega
      have e2 : a / b = (b * a.tdiv b) / b := congrArg (· / b) this
      rw [e2, Int.mul_ediv_cancel_left _ (Int.ne_of_gt hb)]

/-- .. and corrected upward, the ceiling. -/
theorem tdiv_ceil (a b : Int) (hb : 0 < b) : (if 0 < a.tmod b then a.tdiv b + 1 else a.tdiv b) = ce a b := by
  have h := tdiv_floor (-a) b hb
  rw [Int.neg_tmod, Int.neg_tdiv] at h
  unfold ce
  rw [← h]
  by_cases hz : 0 < a.tmod b
  · rw [if_pos hz, if_pos (by omega)]; omega
  · rw [if_neg hz, if_neg (by omega)]; omega

theorem floor_way1 (a b : Int) (hb : 0 < b) (ha0 : -9223372036854775808 ≤ a) (ha1 : a ≤ 9223372036854775807) (h : a.tmod b < 0) : wrap64 (a.tdiv b - 1) = a / b := by
  have e := tdiv_floor a b hb
  rw [if_pos h] at e
  rw [e]; exact IntWalk.wrap64_in _ (fl_bd a b hb ha0 ha1)
theorem floor_way2 (a b : Int) (hb : 0 < b) (h : 0 ≤ a.tmod b) : a.tdiv b = a / b := by
  have e := tdiv_floor a b hb
  rw [if_neg (by omega)] at e
  exact e
theorem ceil_way1 (a b : Int) (hb : 0 < b) (ha0 : -9223372036854775808 ≤ a) (ha1 : a ≤ 9223372036854775807) (h : 0 < a.tmod b) : wrap64 (a.tdiv b + 1) = ce a b := by
  have e := tdiv_ceil a b hb
  rw [if_pos h] at e
  rw [e]; exact IntWalk.wrap64_in _ (ce_bd a b hb ha0 ha1)
theorem ceil_way2 (a b : Int) (hb : 0 < b) (h : a.tmod b ≤ 0) : a.tdiv b = ce a b := by
  have e := tdiv_ceil a b hb
  rw [if_neg (by omega)] at e
  exact e

/-! ### Shifts -/
theorem pow_pos (n : Nat) : (0 : Int) < 2 ^ n := Int.pow_pos (by omega)
def sup (a : Int) (n : Nat) : Int := ce a (2 ^ n)

theorem shl_back (a : Int) (n : Nat) (hn : n ≤ 64) (ha0 : -9223372036854775808 ≤ a) (ha1 : a ≤ 9223372036854775807) : wrap64 (a / 2 ^ n * 2 ^ n) = a ↔ a % 2 ^ n = 0 := by
  have hp := pow_pos n
  have h1 := Int.mul_ediv_add_emod a (2 ^ n)
  have h2 := Int.emod_nonneg a (Int.ne_of_gt hp)
  have h3 := Int.emod_lt_of_pos a hp
  rw [Int.mul_comm] at h1
  by_cases h64 : n = 64
  · subst h64
    unfold wrap64
    omega
  · have e : (9223372036854775808 : Int) = 2 ^ (63 - n) * 2 ^ n := by
      rw [← Int.pow_add, show 63 - n + n = 63 from by omega]; rfl
    have h4 : -(2 ^ (63 - n)) ≤ a / 2 ^ n := by
      rw [Int.le_ediv_iff_mul_le hp, Int.neg_mul, ← e]; omega
    have h5 : -(2 ^ (63 - n)) * 2 ^ n ≤ a / 2 ^ n * 2 ^ n := Int.mul_le_mul_of_nonneg_right h4 (by omega)
    rw [Int.neg_mul, ← e] at h5
    rw [IntWalk.wrap64_in _ ⟨h5, by omega⟩]
    omega

theorem ediv_ediv_nn (a b c : Int) (h : 0 ≤ b) : a / b / c = a / (b * c) := by
  rw [Int.ediv_ediv, if_neg (by omega), Int.sub_zero]

theorem div2_pow (a : Int) (n : Nat) : a / 2 ^ n / 2 = a / 2 ^ (n + 1) := by
  rw [ediv_ediv_nn _ _ _ (Int.le_of_lt (pow_pos n)), Int.pow_succ]

theorem ce2_pow (a : Int) (n : Nat) : ce (sup a n) 2 = sup a (n + 1) := by
  unfold sup ce
  rw [Int.neg_neg, div2_pow]

theorem sup_zero (a : Int) : sup a 0 = a := by simp [sup, ce]

theorem sdown_add (a : Int) (m n : Nat) : a / 2 ^ m / 2 ^ n = a / 2 ^ (m + n) := by
  rw [ediv_ediv_nn _ _ _ (Int.le_of_lt (pow_pos m)), Int.pow_add]

theorem sup_add (a : Int) (m n : Nat) : sup (sup a m) n = sup a (m + n) := by
  unfold sup ce
  rw [Int.neg_neg, sdown_add]

theorem big_shift (a : Int) (n : Nat) (hn : 64 ≤ n) (ha0 : -18446744073709551616 ≤ a) (ha1 : a < 18446744073709551616) : a / 2 ^ n = a / 2 ^ 64 := by
  have : a / 2 ^ n = a / 2 ^ 64 / 2 ^ (n - 64) := by rw [sdown_add, show 64 + (n - 64) = n from by omega]
  rw [this]
  have hp := pow_pos (n - 64)
  by_cases h : 0 ≤ a
  · rw [show a / 2 ^ 64 = 0 from by omega]; exact Int.zero_ediv _
  · rw [show a / 2 ^ 64 = -1 from by omega]
    rw [Int.ediv_eq_iff_of_pos hp]; omega

theorem cap_shift (a : Int) (n : Nat) (ha0 : -9223372036854775808 ≤ a) (ha1 : a ≤ 9223372036854775807) : a / 2 ^ min n 64 = a / 2 ^ n := by
  by_cases h : n ≤ 64
  · rw [Nat.min_eq_left h]
  · rw [Nat.min_eq_right (by omega), big_shift a n (by omega) (by omega) (by omega)]

theorem cap_sup (a : Int) (n : Nat) (ha0 : -9223372036854775808 ≤ a) (ha1 : a ≤ 9223372036854775807) : sup a (min n 64) = sup a n := by
  unfold sup ce
  by_cases h : n ≤ 64
  · rw [Nat.min_eq_left h]
  · rw [Nat.min_eq_right (by omega), big_shift (-a) n (by omega) (by omega) (by omega)]

theorem shr_bd (a : Int) (n : Nat) (ha0 : -9223372036854775808 ≤ a) (ha1 : a ≤ 9223372036854775807) : -9223372036854775808 ≤ a / 2 ^ n ∧ a / 2 ^ n ≤ 9223372036854775807 := fl_bd a _ (pow_pos n) ha0 ha1

theorem sup_eq (a : Int) (n : Nat) : sup a n = if a % 2 ^ n = 0 then a / 2 ^ n else a / 2 ^ n + 1 := ce_eq a _ (pow_pos n)

theorem sup_bd (a : Int) (n : Nat) (ha0 : -9223372036854775808 ≤ a) (ha1 : a ≤ 9223372036854775807) : -9223372036854775808 ≤ sup a n ∧ sup a n ≤ 9223372036854775807 := by
  by_cases hn : n = 0
  · subst hn; rw [sup_zero]; omega
  · have hp := pow_pos (n - 1)
    have e : (2 : Int) ^ n = 2 ^ (n - 1) * 2 := by rw [← Int.pow_succ, show (n - 1).succ = n from by omega]
    have h := shr_bd (a / 2) (n - 1) (by omega) (by omega)
    have h2 : a / 2 ^ n = a / 2 / 2 ^ (n - 1) := by
      rw [e, Int.mul_comm, ediv_ediv_nn _ _ _ (by omega)]
    have h3 : a / 2 ^ n < 9223372036854775807 := by
      rw [h2]
      by_cases h0 : 0 ≤ a / 2
      · have := Int.ediv_le_self (2 ^ (n - 1)) h0; omega
      · have := Int.ediv_neg_of_neg_of_pos (a := a / 2) (by omega) hp; omega
    rw [sup_eq]
    split <;> omega

theorem sup_way1 (a : Int) (n : Nat) (hn : n ≤ 64) (ha0 : -9223372036854775808 ≤ a) (ha1 : a ≤ 9223372036854775807) (h : (wrap64 (a / 2 ^ n * 2 ^ n) != a) = true) : wrap64 (a / 2 ^ n + 1) = sup a n := by
  have hz : ¬ a % 2 ^ n = 0 := fun hz => by have := (shl_back a n hn ha0 ha1).2 hz; simp [this] at h
  have e := sup_eq a n
  rw [if_neg hz] at e
  have hb := sup_bd a n ha0 ha1
  rw [← e, IntWalk.wrap64_in _ ⟨hb.1, hb.2⟩]

theorem sup_way2 (a : Int) (n : Nat) (hn : n ≤ 64) (ha0 : -9223372036854775808 ≤ a) (ha1 : a ≤ 9223372036854775807) (h : (wrap64 (a / 2 ^ n * 2 ^ n) != a) = false) : a / 2 ^ n = sup a n := by
  have hz : a % 2 ^ n = 0 := (shl_back a n hn ha0 ha1).1 (by simpa using h)
  rw [sup_eq, if_pos hz]

/-- The shifts as functions of Go's count. -/
def sd (a k : Int) : Int := a / 2 ^ min k.toNat 64
def su (a k : Int) : Int := sup a (min k.toNat 64)
theorem sd_bd (a k : Int) (ha0 : -9223372036854775808 ≤ a) (ha1 : a ≤ 9223372036854775807) : -9223372036854775808 ≤ sd a k ∧ sd a k ≤ 9223372036854775807 := shr_bd a _ ha0 ha1
theorem su_bd (a k : Int) (ha0 : -9223372036854775808 ≤ a) (ha1 : a ≤ 9223372036854775807) : -9223372036854775808 ≤ su a k ∧ su a k ≤ 9223372036854775807 := sup_bd a _ ha0 ha1
theorem sd_sd (a x y : Int) (ha0 : -9223372036854775808 ≤ a) (ha1 : a ≤ 9223372036854775807) (hx : 0 ≤ x) (hy : 0 ≤ y) : sd (sd a x) y = sd a (x + y) := by
  have hb := sd_bd a x ha0 ha1
  unfold sd at *
  rw [cap_shift _ y.toNat hb.1 hb.2, cap_shift a x.toNat ha0 ha1, cap_shift a (x + y).toNat ha0 ha1, sdown_add, show x.toNat + y.toNat = (x + y).toNat from by omega]
theorem su_su (a x y : Int) (ha0 : -9223372036854775808 ≤ a) (ha1 : a ≤ 9223372036854775807) (hx : 0 ≤ x) (hy : 0 ≤ y) : su (su a x) y = su a (x + y) := by
  have hb := su_bd a x ha0 ha1
  unfold su at *
  rw [cap_sup _ y.toNat hb.1 hb.2, cap_sup a x.toNat ha0 ha1, cap_sup a (x + y).toNat ha0 ha1, sup_add, show x.toNat + y.toNat = (x + y).toNat from by omega]

/-! ### Products and quotients -/
def mulDown (a b : Int) : Int := clamp a * clamp b / 65536
def mulUp (a b : Int) : Int := ce (clamp a * clamp b) 65536
theorem mulDown_bd (a b : Int) : -70368744177664 ≤ mulDown a b ∧ mulDown a b ≤ 70368744177664 := by have := mul_clamp_bd a b; unfold mulDown; omega
theorem mulUp_bd (a b : Int) : -70368744177664 ≤ mulUp a b ∧ mulUp a b ≤ 70368744177664 := by have := mul_clamp_bd a b; unfold mulUp ce; omega

/-- The quotient of the clamped numbers, rounded down; 0 for a divisor 0. -/
def divDown (a b : Int) : Int := if clamp b < 0 then (-(clamp a * 65536)) / (-clamp b) else clamp a * 65536 / clamp b
def divUp (a b : Int) : Int := if clamp b < 0 then ce (-(clamp a * 65536)) (-clamp b) else ce (clamp a * 65536) (clamp b)

theorem divDown_eq (a b : Int) : divDown a b = if clamp b < 0 then (-(clamp a * 65536)) / (-clamp b) else clamp a * 65536 / clamp b := rfl
theorem divUp_eq (a b : Int) : divUp a b = if clamp b < 0 then ce (-(clamp a * 65536)) (-clamp b) else ce (clamp a * 65536) (clamp b) := rfl

/-- Go's quotient, corrected where the signs differ and there is a rest. -/
theorem tdiv_down (x y : Int) (hy : y ≠ 0) : (if x.tmod y ≠ 0 ∧ ((x < 0 ∧ 0 ≤ y) ∨ (0 ≤ x ∧ y < 0)) then x.tdiv y - 1 else x.tdiv y) = if y < 0 then (-x) / (-y) else x / y := by
  by_cases hn : y < 0
  · rw [if_pos hn]
    have h := tdiv_floor (-x) (-y) (by omega)
    rw [Int.neg_tmod, Int.tmod_neg, Int.neg_tdiv, Int.tdiv_neg, Int.neg_neg] at h
    rw [← h]
    by_cases hx : 0 ≤ x
    · have := Int.tmod_nonneg y hx
      by_cases hz : x.tmod y = 0
      · rw [if_neg (by omega), if_neg (by omega)]
      · rw [if_pos (by omega), if_pos (by omega)]
    · have : x.tmod y ≤ 0 := by have := Int.tmod_nonneg (a := -x) y (by omega); rw [Int.neg_tmod] at this; omega
      rw [if_neg (by omega), if_neg (by omega)]
  · rw [if_neg hn]
    have h := tdiv_floor x y (by omega)
    rw [← h]
    by_cases hx : 0 ≤ x
    · have := Int.tmod_nonneg y hx
      rw [if_neg (by omega), if_neg (by omega)]
    · have : x.tmod y ≤ 0 := by have := Int.tmod_nonneg (a := -x) y (by omega); rw [Int.neg_tmod] at this; omega
      by_cases hz : x.tmod y = 0
      · rw [if_neg (by omega), if_neg (by omega)]
      · rw [if_pos (by omega), if_pos (by omega)]

theorem tdiv_up (x y : Int) (hy : y ≠ 0) : (if x.tmod y ≠ 0 ∧ ((x < 0 ∧ y < 0) ∨ (0 ≤ x ∧ 0 ≤ y)) then x.tdiv y + 1 else x.tdiv y) = if y < 0 then ce (-x) (-y) else ce x y := by
  by_cases hx0 : x = 0
  · subst hx0; simp [ce]
  have h := tdiv_down (-x) y hy
  rw [Int.neg_tmod, Int.neg_tdiv] at h
  have e : (if y < 0 then ce (-x) (-y) else ce x y) = -(if y < 0 then (- -x) / (-y) else (-x) / y) := by unfold ce; split <;> rfl
  rw [e, ← h]
  by_cases c : x.tmod y ≠ 0 ∧ ((x < 0 ∧ y < 0) ∨ (0 ≤ x ∧ 0 ≤ y))
  · rw [if_pos c, if_pos (by omega)]; omega
  · rw [if_neg c, if_neg (by omega)]; omega

theorem tdiv_bd (x y : Int) (hx0 : -140737488355328 ≤ x) (hx1 : x ≤ 140737488355328) : -140737488355328 ≤ x.tdiv y ∧ x.tdiv y ≤ 140737488355328 := by
  have h : (x.tdiv y).natAbs ≤ x.natAbs := by rw [Int.natAbs_tdiv]; exact Nat.div_le_self _ _
  omega

theorem divDown_bd (a b : Int) : -140737488355329 ≤ divDown a b ∧ divDown a b ≤ 140737488355328 := by
  have ha := clamp_bd a
  by_cases hb : clamp b = 0
  · unfold divDown; rw [hb]; simp
  · have h := tdiv_down (clamp a * 65536) (clamp b) hb
    have q := tdiv_bd (clamp a * 65536) (clamp b) (by omega) (by omega)
    unfold divDown
    rw [← h]
    split <;> omega

theorem divUp_bd (a b : Int) : -140737488355328 ≤ divUp a b ∧ divUp a b ≤ 140737488355329 := by
  have ha := clamp_bd a
  by_cases hb : clamp b = 0
  · unfold divUp; rw [hb]; simp [ce]
  · have h := tdiv_up (clamp a * 65536) (clamp b) hb
    have q := tdiv_bd (clamp a * 65536) (clamp b) (by omega) (by omega)
    unfold divUp
    rw [← h]
    split <;> omega

/-! ### Roots -/
def rootN : Nat → Nat
  | 0 => 0
  | n + 1 => if (rootN n + 1) * (rootN n + 1) ≤ n + 1 then rootN n + 1 else rootN n
/-- The greatest number whose square is at most n; 0 for a negative n. -/
def root (n : Int) : Int := rootN n.toNat

theorem rootN_spec (n : Nat) : rootN n * rootN n ≤ n ∧ n < (rootN n + 1) * (rootN n + 1) := by
  induction n with
  | zero => simp [rootN]
  | succ n ih =>
    rw [rootN]
    split
    · rename_i h
      refine ⟨h, ?_⟩
      have : (rootN n + 1 + 1) * (rootN n + 1 + 1) = (rootN n + 1) * (rootN n + 1) + 2 * (rootN n + 1) + 1 := by grind
      omega
    · omega

theorem root_spec (n : Int) (h : 0 ≤ n) : 0 ≤ root n ∧ root n * root n ≤ n ∧ n < (root n + 1) * (root n + 1) := by
  have hs := rootN_spec n.toNat
  unfold root
  refine ⟨by omega, ?_, ?_⟩
  · have : ((rootN n.toNat * rootN n.toNat : Nat) : Int) ≤ n := by omega
    simpa using this
  · have : n < (((rootN n.toNat + 1) * (rootN n.toNat + 1) : Nat) : Int) := by omega
    simpa using this

theorem root_neg (n : Int) (h : n ≤ 0) : root n = 0 := by unfold root; rw [show n.toNat = 0 from by omega]; rfl

theorem sq_lt {r s : Int} (hr : 0 ≤ r) (hs : 0 ≤ s) (h : r * r < s * s) : r < s := by
  by_cases c : r < s
  · exact c
  · have : s * s ≤ r * r := Int.mul_le_mul (by omega) (by omega) hs hr
    omega

theorem sq_mono {r s : Int} (hr : 0 ≤ r) (h : r ≤ s) : r * r ≤ s * s := Int.mul_le_mul h h hr (by omega)

theorem root_unique (n r : Int) (hr : 0 ≤ r) (h1 : r * r ≤ n) (h2 : n < (r + 1) * (r + 1)) : r = root n := by
  have h0 : 0 ≤ n := Int.le_trans (Int.mul_nonneg hr hr) h1
  obtain ⟨g0, g1, g2⟩ := root_spec n h0
  have a := sq_lt hr (by omega : 0 ≤ root n + 1) (by omega)
  have b := sq_lt g0 (by omega : 0 ≤ r + 1) (by omega)
  omega

theorem root_lt (n : Int) (B : Int) (hB : 0 ≤ B) (h : n < B * B) (h0 : 0 ≤ n) : root n < B := by
  obtain ⟨g0, g1, g2⟩ := root_spec n h0
  exact sq_lt g0 hB (by omega)

theorem root_bd (n : Int) (h : n ≤ 9223372036854775807) : 0 ≤ root n ∧ root n ≤ 3037000499 := by
  by_cases h0 : 0 ≤ n
  · have := root_lt n 3037000500 (by omega) (by omega) h0
    have := (root_spec n h0).1
    omega
  · rw [root_neg n (by omega)]; omega

def rootUp (n : Int) : Int := if root n * root n < n then root n + 1 else root n
theorem rootUp_bd (n : Int) (h : n ≤ 9223372036854775807) : 0 ≤ rootUp n ∧ rootUp n ≤ 3037000500 := by
  have := root_bd n h
  unfold rootUp; split <;> omega

theorem rootUp_neg (n : Int) (h : n ≤ 0) : rootUp n = 0 := by unfold rootUp; rw [root_neg n h, if_neg (by omega)]

theorem root_sq_bd (n : Int) (h : n ≤ 9223372036854775807) : 0 ≤ root n * root n ∧ root n * root n ≤ 9223372036854775807 := by
  by_cases h0 : 0 ≤ n
  · obtain ⟨g0, g1, g2⟩ := root_spec n h0
    exact ⟨Int.mul_nonneg g0 g0, by omega⟩
  · rw [root_neg n (by omega)]; omega

def sq (a : Int) : Int := max (clamp a) 0 * 65536
theorem sq_bd (a : Int) : 0 ≤ sq a ∧ sq a ≤ 140737488355328 := by have := clamp_bd a; unfold sq; omega
def sqrtDown (a : Int) : Int := root (sq a)
def sqrtUp (a : Int) : Int := rootUp (sq a)

/-! ### The program's loop for the root -/
/-- The state after some rounds: the root so far and the next step 2^e. -/
def RootAt (n R : Int) (e : Nat) : Prop := 0 ≤ R ∧ R * R ≤ n ∧ n < (R + 2 ^ e) * (R + 2 ^ e) ∧ R + 2 ^ e ≤ 4294967296

theorem pow_le_32 (e : Nat) (he : e ≤ 32) : (2 : Int) ^ e ≤ 4294967296 := by
  have : (4294967296 : Int) = 2 ^ e * 2 ^ (32 - e) := by rw [← Int.pow_add, show e + (32 - e) = 32 from by omega]; rfl
  rw [this]
  have h1 := pow_pos e
  have h2 := pow_pos (32 - e)
  have : (2 : Int) ^ e * 1 ≤ 2 ^ e * 2 ^ (32 - e) := Int.mul_le_mul_of_nonneg_left (by omega) (by omega)
  omega

theorem rootAt_start (n : Int) (e len : Nat) (h0 : 0 < n) (hl : n < 2 ^ len) (h1 : len ≤ 2 * e) (he : e ≤ 32) : RootAt n 0 e := by
  refine ⟨by omega, by omega, ?_, ?_⟩
  · have : (2 : Int) ^ len ≤ 2 ^ (2 * e) := by
      have hm := Nat.pow_le_pow_right (show 0 < 2 by omega) h1
      have : ((2 ^ len : Nat) : Int) ≤ ((2 ^ (2 * e) : Nat) : Int) := by omega
      simpa using this
    have e2 : (2 : Int) ^ (2 * e) = 2 ^ e * 2 ^ e := by rw [← Int.pow_add, show 2 * e = e + e from by omega]
    rw [e2] at this
    simp only [Int.zero_add]
    omega
  · have := pow_le_32 e he; omega

theorem rootAt_next (n R : Int) (e : Nat) (h : RootAt n R (e + 1)) : 1 ≤ R + 2 ^ e ∧ R + 2 ^ e < 4294967296 ∧ 0 ≤ (R + 2 ^ e) * (R + 2 ^ e) ∧ (R + 2 ^ e) * (R + 2 ^ e) < 18446744073709551616 ∧
    ((R + 2 ^ e) * (R + 2 ^ e) ≤ n → RootAt n (R + 2 ^ e) e) ∧ (n < (R + 2 ^ e) * (R + 2 ^ e) → RootAt n R e) := by
  obtain ⟨h0, h1, h2, h3⟩ := h
  have hp := pow_pos e
  have e1 : (2 : Int) ^ (e + 1) = 2 ^ e + 2 ^ e := by rw [Int.pow_succ]; omega
  rw [e1] at h2 h3
  have hlt : R + 2 ^ e < 4294967296 := by omega
  refine ⟨by omega, hlt, Int.mul_nonneg (by omega) (by omega), ?_, fun c => ⟨by omega, c, ?_, by omega⟩, fun c => ⟨h0, h1, c, by omega⟩⟩
  · have := sq_mono (r := R + 2 ^ e) (s := 4294967295) (by omega) (by omega)
    omega
  · rw [show R + 2 ^ e + 2 ^ e = R + (2 ^ e + 2 ^ e) from by omega]; exact h2

theorem rootAt_end (n R : Int) (h : RootAt n R 0) : R = root n := by
  obtain ⟨h0, h1, h2, _⟩ := h
  exact root_unique n R h0 h1 (by simpa using h2)

/-! ### The reference's loop for the root -/
def Between (n low high : Int) : Prop := 1 ≤ low ∧ low < high ∧ high ≤ 4294967296 ∧ low * low ≤ n ∧ n < high * high

theorem between_start (n : Int) (h0 : 1 ≤ n) (h1 : n ≤ 9223372036854775807) : Between n 1 4294967296 := ⟨by omega, by omega, by omega, by omega, by omega⟩
theorem between_low (n l h m : Int) (hb : Between n l h) (h1 : l < m) (h2 : m < h) (c : m ≤ n / m) : Between n m h := by
  obtain ⟨b0, b1, b2, b3, b4⟩ := hb
  exact ⟨by omega, by omega, by omega, (Int.le_ediv_iff_mul_le (by omega)).1 c, b4⟩
theorem between_high (n l h m : Int) (hb : Between n l h) (h1 : l < m) (h2 : m < h) (c : n / m < m) : Between n l m := by
  obtain ⟨b0, b1, b2, b3, b4⟩ := hb
  refine ⟨by omega, by omega, by omega, b3, ?_⟩
  exact (Int.ediv_lt_iff_lt_mul (by omega)).1 c
theorem between_end (n l h : Int) (hb : Between n l h) (c : h - l ≤ 1) : l = root n := by
  obtain ⟨b0, b1, b2, b3, b4⟩ := hb
  obtain rfl : h = l + 1 := by omega
  exact root_unique n l (by omega) b3 b4

/-! ### Laws of products and quotients -/
theorem ce_fl (P : Int) : (ce P 65536 - P / 65536 = 0 ↔ P % 65536 = 0) ∧ (ce P 65536 - P / 65536 = 1 ↔ ¬ P % 65536 = 0) := by unfold ce; omega
theorem tmod_zero (P : Int) (d : Int) : P.tmod d = 0 ↔ P % d = 0 := ⟨fun h => Int.emod_eq_zero_of_dvd (Int.dvd_of_tmod_eq_zero h), fun h => Int.tmod_eq_zero_of_dvd (Int.dvd_of_emod_eq_zero h)⟩

theorem mulDown_mono (a b c : Int) (hb : 0 ≤ b) (h : a ≤ c) : mulDown a b ≤ mulDown c b := by
  unfold mulDown
  have := Int.mul_le_mul_of_nonneg_right (clamp_mono a c h) (clamp_nonneg b hb)
  omega
theorem mulUp_mono (a b c : Int) (hb : 0 ≤ b) (h : a ≤ c) : mulUp b a ≤ mulUp b c := by
  unfold mulUp ce
  have := Int.mul_le_mul_of_nonneg_left (clamp_mono a c h) (clamp_nonneg b hb)
  omega
theorem mulUp_neg (a b : Int) : mulUp a b = -mulDown (-a) b := by
  unfold mulUp mulDown ce; rw [clamp_neg, Int.neg_mul]
theorem divUp_neg (a b : Int) : divUp a b = -divDown (-a) b := by
  unfold divUp divDown ce; rw [clamp_neg]
  split
  · rw [Int.neg_mul]
  · rw [Int.neg_mul]

theorem inverse (x y : Int) (hx : clamp x = x) (hy : clamp y = y) (h1 : 1 ≤ y) (hq : clamp (divDown x y) = divDown x y) : mulDown (divDown x y) y ≤ x ∧ x - mulDown (divDown x y) y ≤ y / 65536 + 1 := by
  have e : divDown x y = x * 65536 / y := by unfold divDown; rw [hx, hy, if_neg (by omega)]
  have m := Int.mul_ediv_add_emod (x * 65536) y
  have n1 := Int.emod_nonneg (x * 65536) (show y ≠ 0 by omega)
  have n2 := Int.emod_lt_of_pos (x * 65536) (show 0 < y by omega)
  have e2 : mulDown (divDown x y) y = y * (x * 65536 / y) / 65536 := by unfold mulDown; rw [hq, hy, e, Int.mul_comm]
  rw [e2]
  generalize y * (x * 65536 / y) = P at *
  omega

/-! ### Rounding into a range -/
theorem tmod_bd (n k : Int) (hk : 0 < k) : -k < n.tmod k ∧ n.tmod k < k := by
  refine ⟨?_, Int.tmod_lt_of_pos n hk⟩
  have := Int.tmod_lt_of_pos (-n) hk
  rw [Int.neg_tmod] at this; omega
theorem tmod_emod_neg (n k : Int) (hk : 0 < k) (h : n.tmod k < 0) : n.tmod k + k = n % k := by
  have e1 := Int.mul_tdiv_add_tmod n k
  have b := tmod_bd n k hk
  have : n % k = (n.tmod k + k) % k := by
    rw [Int.add_emod_right]
    have e2 : n = n.tmod k + k * n.tdiv k := by omega
    have e3 : n % k = (n.tmod k + k * n.tdiv k) % k := congrArg (· % k) e2
    rw [e3, Int.add_mul_emod_self_left]
  rw [this, Int.emod_eq_of_lt (by omega) (by omega)]
theorem tmod_emod_pos (n k : Int) (hk : 0 < k) (h : 0 ≤ n.tmod k) : n.tmod k = n % k := by
  have e1 := Int.mul_tdiv_add_tmod n k
  have b := tmod_bd n k hk
  have e2 : n = n.tmod k + k * n.tdiv k := by omega
  have e3 : n % k = (n.tmod k + k * n.tdiv k) % k := congrArg (· % k) e2
  rw [e3, Int.add_mul_emod_self_left, Int.emod_eq_of_lt h (by omega)]
theorem pow_bd (n m : Nat) (h : n ≤ m) : (1 : Int) ≤ 2 ^ n ∧ (2 : Int) ^ n ≤ 2 ^ m := by
  have h1 := pow_pos n
  have hm := Nat.pow_le_pow_right (show 0 < 2 by omega) h
  have : ((2 ^ n : Nat) : Int) ≤ ((2 ^ m : Nat) : Int) := by omega
  rw [Int.natCast_pow, Int.natCast_pow] at this
  exact ⟨by omega, this⟩

end Go.Proofs.Ytgnjconhbloocaa.Fx

namespace Go.Proofs.Ytgnjconhbloocaa.Fx

/-- Whether two numbers are the ends of a valid interval. -/
def vb (l h : Int) : Bool := decide (-2147483648 ≤ l ∧ l ≤ h ∧ h ≤ 2147483648)
theorem vb_true {l h : Int} : vb l h = true ↔ (-2147483648 ≤ l ∧ l ≤ h ∧ h ≤ 2147483648) := by unfold vb; simp
theorem vb_false {l h : Int} : vb l h = false ↔ ¬ (-2147483648 ≤ l ∧ l ≤ h ∧ h ≤ 2147483648) := by unfold vb; simp

def v2 (a b c d : Int) : Bool := vb a b && vb c d
theorem v2_true {a b c d : Int} : v2 a b c d = true ↔ vb a b = true ∧ vb c d = true := by unfold v2; simp

def addLo (a b c d : Int) : Int := if v2 a b c d then clamp (a + c) else 0
def addHi (a b c d : Int) : Int := if v2 a b c d then clamp (b + d) else 0
def subLo (a b c d : Int) : Int := if v2 a b c d then clamp (a - d) else 0
def subHi (a b c d : Int) : Int := if v2 a b c d then clamp (b - c) else 0
def hullLo (a b c d : Int) : Int := if v2 a b c d then min a c else 0
def hullHi (a b c d : Int) : Int := if v2 a b c d then max b d else 0
def min4 (p q r s : Int) : Int := min (min (min p q) r) s
def max4 (p q r s : Int) : Int := max (max (max p q) r) s
def mulLo (a b c d : Int) : Int := if v2 a b c d then clamp (min4 (a * c) (a * d) (b * c) (b * d) / 65536) else 0
def mulHi (a b c d : Int) : Int := if v2 a b c d then clamp (ce (max4 (a * c) (a * d) (b * c) (b * d)) 65536) else 0
def negLo (a b : Int) : Int := if vb a b then -b else 0
def negHi (a b : Int) : Int := if vb a b then -a else 0
def scaleLo (a b k : Int) : Int := if vb a b then clamp (min (a * clamp k) (b * clamp k)) else 0
def scaleHi (a b k : Int) : Int := if vb a b then clamp (max (a * clamp k) (b * clamp k)) else 0
def sqLeast (a b : Int) : Int := if a ≤ 0 ∧ 0 ≤ b then 0 else min (a * a) (b * b)
def squareLo (a b : Int) : Int := if vb a b then clamp (sqLeast a b / 65536) else 0
def squareHi (a b : Int) : Int := if vb a b then clamp (ce (max (a * a) (b * b)) 65536) else 0
def sqrtLo (a b : Int) : Int := if vb a b then sqrtDown a else 0
def sqrtHi (a b : Int) : Int := if vb a b then sqrtUp b else 0
def meetOk (a b c d : Int) : Bool := v2 a b c d && decide (max a c ≤ min b d)
def meetLo (a b c d : Int) : Int := if meetOk a b c d then max a c else 0
def meetHi (a b c d : Int) : Int := if meetOk a b c d then min b d else 0
def hasB (a b x : Int) : Bool := vb a b && decide (a ≤ x) && decide (x ≤ b)
def withinB (a b c d : Int) : Bool := v2 a b c d && decide (c ≤ a) && decide (b ≤ d)
def mid (a b : Int) : Int := if vb a b then (a + b) / 2 else 0
def width (a b : Int) : Int := if vb a b then b - a else 0

theorem ite_yes {c : Bool} (h : c = true) (x : Int) : x = (if c then x else 0) := by rw [h]; rfl
theorem ite_no {c : Bool} (h : c = false) (x : Int) : 0 = (if c then x else 0) := by rw [h]; rfl

/-- A product of two ends of valid intervals is at most 2^62. -/
theorem prod_bd (a c : Int) (a0 : -2147483648 ≤ a) (a1 : a ≤ 2147483648) (c0 : -2147483648 ≤ c) (c1 : c ≤ 2147483648) : -4611686018427387904 ≤ a * c ∧ a * c ≤ 4611686018427387904 := by
  have h := mul_bd 2147483648 a c 2147483648 (by omega) (by omega) (by omega) (by omega)
  omega

theorem min4_bd (p q r s : Int) (hp : -4611686018427387904 ≤ p ∧ p ≤ 4611686018427387904) (hq : -4611686018427387904 ≤ q ∧ q ≤ 4611686018427387904) (hr : -4611686018427387904 ≤ r ∧ r ≤ 4611686018427387904) (hs : -4611686018427387904 ≤ s ∧ s ≤ 4611686018427387904) : -4611686018427387904 ≤ min4 p q r s ∧ min4 p q r s ≤ 4611686018427387904 := by unfold min4; omega
theorem max4_bd (p q r s : Int) (hp : -4611686018427387904 ≤ p ∧ p ≤ 4611686018427387904) (hq : -4611686018427387904 ≤ q ∧ q ≤ 4611686018427387904) (hr : -4611686018427387904 ≤ r ∧ r ≤ 4611686018427387904) (hs : -4611686018427387904 ≤ s ∧ s ≤ 4611686018427387904) : -4611686018427387904 ≤ max4 p q r s ∧ max4 p q r s ≤ 4611686018427387904 := by unfold max4; omega

end Go.Proofs.Ytgnjconhbloocaa.Fx

namespace Go.Proofs.Ytgnjconhbloocaa.Fx

/-- Whether all pairs are valid intervals. -/
def allB (L : List (Int × Int)) : Bool := L.all fun p => vb p.1 p.2
/-- Whether a list is a box of 1 to 10 valid intervals. -/
def boxB (L : List (Int × Int)) : Bool := decide (1 ≤ L.length ∧ L.length ≤ 10) && allB L

theorem boxB_short (L : List (Int × Int)) (h : L.length < 1) : boxB L = false := by unfold boxB; simp; omega
theorem boxB_long (L : List (Int × Int)) (h : 10 < L.length) : boxB L = false := by unfold boxB; simp; omega
theorem boxB_eq (L : List (Int × Int)) (h : 1 ≤ L.length) (h1 : L.length ≤ 10) : boxB L = allB L := by unfold boxB; simp [h, h1]
theorem boxB_len {L : List (Int × Int)} (h : boxB L = true) : 1 ≤ L.length ∧ L.length ≤ 10 := by unfold boxB at h; simp at h; omega
theorem boxB_all {L : List (Int × Int)} (h : boxB L = true) : allB L = true := by unfold boxB at h; simp at h; exact h.2

theorem take_next (L : List (Int × Int)) (k : Nat) (hk : k < L.length) : L.take (k + 1) = L.take k ++ [L.getD k (0, 0)] := by
  rw [List.take_succ_eq_append_getElem hk, List.getD_eq_getElem?_getD, List.getElem?_eq_getElem hk]; rfl

theorem allB_next (L : List (Int × Int)) (k : Nat) (hk : k < L.length) (h : allB (L.take k) = true) (hv : vb (L.getD k (0, 0)).1 (L.getD k (0, 0)).2 = true) : allB (L.take (k + 1)) = true := by
  unfold allB at *
  rw [take_next L k hk, List.all_append, h]
  simp at hv ⊢
  exact hv

theorem allB_stop (L : List (Int × Int)) (k : Nat) (hk : k < L.length) (hv : vb (L.getD k (0, 0)).1 (L.getD k (0, 0)).2 = false) : allB L = false := by
  unfold allB
  rw [List.all_eq_false]
  refine ⟨L[k], List.getElem_mem hk, ?_⟩
  rw [List.getD_eq_getElem?_getD, List.getElem?_eq_getElem hk] at hv
  simpa using hv

theorem allB_end (L : List (Int × Int)) (k : Nat) (hk : L.length ≤ k) (h : allB (L.take k) = true) : allB L = true := by
  rwa [List.take_of_length_le hk] at h

end Go.Proofs.Ytgnjconhbloocaa.Fx

namespace Go.Proofs.Ytgnjconhbloocaa.Fx

/-- A vector of three intervals. -/
structure V3 where
  (a b c d e f : Int)
  deriving Inhabited

def V3.zero : V3 := ⟨0, 0, 0, 0, 0, 0⟩
/-- The cells of a vector. -/
def V3.cells (v : V3) : List Value := [.int .i64 v.a, .int .i64 v.b, .int .i64 v.c, .int .i64 v.d, .int .i64 v.e, .int .i64 v.f]
def V3.val (v : V3) : Value := .agg #[.int .i64 v.a, .int .i64 v.b, .int .i64 v.c, .int .i64 v.d, .int .i64 v.e, .int .i64 v.f]

/-- Whether an interval lies within the reach. -/
def near (l h : Int) : Bool := decide (-268435456 ≤ l ∧ l ≤ h ∧ h ≤ 268435456)
theorem near_true {l h : Int} : near l h = true ↔ (-268435456 ≤ l ∧ l ≤ h ∧ h ≤ 268435456) := by unfold near; simp
theorem near_false {l h : Int} : near l h = false ↔ ¬ (-268435456 ≤ l ∧ l ≤ h ∧ h ≤ 268435456) := by unfold near; simp
def reachB (v : V3) : Bool := near v.a v.b && near v.c v.d && near v.e v.f
def allR (L : List V3) : Bool := L.all reachB
def placedB (L : List V3) : Bool := decide (1 ≤ L.length ∧ L.length ≤ 8) && allR L

/-- The ends of interval j of a vector. -/
def V3.lo (v : V3) : Nat → Int
  | 0 => v.a
  | 1 => v.c
  | _ => v.e
def V3.hi (v : V3) : Nat → Int
  | 0 => v.b
  | 1 => v.d
  | _ => v.f
theorem reachB_of (v : V3) (h : ∀ j : Nat, j < 3 → near (v.lo j) (v.hi j) = true) : reachB v = true := by
  unfold reachB
  rw [show near v.a v.b = true from h 0 (by omega), show near v.c v.d = true from h 1 (by omega), show near v.e v.f = true from h 2 (by omega)]; rfl
theorem reachB_not (v : V3) (j : Nat) (hj : j < 3) (h : near (v.lo j) (v.hi j) = false) : reachB v = false := by
  unfold reachB
  match j, hj with
  | 0, _ => rw [show near v.a v.b = false from h]; rfl
  | 1, _ => rw [show near v.c v.d = false from h]; simp
  | 2, _ => rw [show near v.e v.f = false from h]; simp
theorem reachB_at {v : V3} (h : reachB v = true) (j : Nat) (hj : j < 3) : near (v.lo j) (v.hi j) = true := by
  unfold reachB at h
  simp only [Bool.and_eq_true] at h
  match j, hj with
  | 0, _ => exact h.1.1
  | 1, _ => exact h.1.2
  | 2, _ => exact h.2

theorem placedB_short (L : List V3) (h : L.length < 1) : placedB L = false := by unfold placedB; simp; omega
theorem placedB_long (L : List V3) (h : 8 < L.length) : placedB L = false := by unfold placedB; simp; omega
theorem placedB_eq (L : List V3) (h : 1 ≤ L.length) (h1 : L.length ≤ 8) : placedB L = allR L := by unfold placedB; simp [h, h1]
theorem placedB_len {L : List V3} (h : placedB L = true) : 1 ≤ L.length ∧ L.length ≤ 8 := by unfold placedB at h; simp at h; omega
theorem placedB_all {L : List V3} (h : placedB L = true) : allR L = true := by unfold placedB at h; simp at h; exact h.2

theorem takeV (L : List V3) (k : Nat) (hk : k < L.length) : L.take (k + 1) = L.take k ++ [L.getD k V3.zero] := by
  rw [List.take_succ_eq_append_getElem hk, List.getD_eq_getElem?_getD, List.getElem?_eq_getElem hk]; rfl
theorem allR_next (L : List V3) (k : Nat) (hk : k < L.length) (h : allR (L.take k) = true) (hv : reachB (L.getD k V3.zero) = true) : allR (L.take (k + 1)) = true := by
  unfold allR at *
  rw [takeV L k hk, List.all_append, h]
  simp at hv ⊢
  exact hv
theorem allR_stop (L : List V3) (k : Nat) (hk : k < L.length) (hv : reachB (L.getD k V3.zero) = false) : allR L = false := by
  unfold allR
  rw [List.all_eq_false]
  refine ⟨L[k], List.getElem_mem hk, ?_⟩
  rw [List.getD_eq_getElem?_getD, List.getElem?_eq_getElem hk] at hv
  simpa using hv
theorem allR_end (L : List V3) (k : Nat) (hk : L.length ≤ k) (h : allR (L.take k) = true) : allR L = true := by
  rwa [List.take_of_length_le hk] at h
theorem allR_at {L : List V3} (h : allR L = true) (k : Nat) (hk : k < L.length) : reachB (L.getD k V3.zero) = true := by
  unfold allR at h
  rw [List.all_eq_true] at h
  have := h L[k] (List.getElem_mem hk)
  rw [List.getD_eq_getElem?_getD, List.getElem?_eq_getElem hk]
  exact this

end Go.Proofs.Ytgnjconhbloocaa.Fx

namespace Go.Proofs.Ytgnjconhbloocaa.Fx

/-- The sum of the first k weights. -/
def tot (ws : List Int) : Nat → Int
  | 0 => 0
  | k + 1 => tot ws k + ws.getD k 0
/-- A vector with w times another one added. -/
def V3.addw (s : V3) (w : Int) (v : V3) : V3 := ⟨s.a + w * v.a, s.b + w * v.b, s.c + w * v.c, s.d + w * v.d, s.e + w * v.e, s.f + w * v.f⟩
/-- The weighted sum of the first k vectors. -/
def comb (L : List V3) (ws : List Int) : Nat → V3
  | 0 => V3.zero
  | k + 1 => (comb L ws k).addw (ws.getD k 0) (L.getD k V3.zero)
/-- Whether all weights and their sum are in order. -/
def okW (ws : List Int) : Bool := (ws.all fun x => decide (0 ≤ x ∧ x ≤ 65536)) && decide (1 ≤ tot ws ws.length ∧ tot ws ws.length ≤ 65536)
def combOk (L : List V3) (ws : List Int) : Bool := placedB L && decide (ws.length = L.length) && okW ws
def combV (L : List V3) (ws : List Int) : V3 := if combOk L ws then comb L ws L.length else V3.zero
def combT (L : List V3) (ws : List Int) : Int := if combOk L ws then tot ws L.length else 0

theorem okW_all {ws : List Int} (h : okW ws = true) (k : Nat) (hk : k < ws.length) : 0 ≤ ws.getD k 0 ∧ ws.getD k 0 ≤ 65536 := by
  unfold okW at h
  simp only [Bool.and_eq_true, List.all_eq_true, decide_eq_true_eq] at h
  have := h.1 ws[k] (List.getElem_mem hk)
  rw [List.getD_eq_getElem?_getD, List.getElem?_eq_getElem hk]
  exact this
theorem okW_tot {ws : List Int} (h : okW ws = true) : 1 ≤ tot ws ws.length ∧ tot ws ws.length ≤ 65536 := by
  unfold okW at h
  simp only [Bool.and_eq_true, decide_eq_true_eq] at h
  exact h.2
theorem okW_stop (ws : List Int) (k : Nat) (hk : k < ws.length) (h : ¬ (0 ≤ ws.getD k 0 ∧ ws.getD k 0 ≤ 65536)) : okW ws = false := by
  by_cases e : okW ws = true
  · exact absurd (okW_all e k hk) h
  · simpa using e
theorem okW_not (ws : List Int) (h : ¬ (1 ≤ tot ws ws.length ∧ tot ws ws.length ≤ 65536)) : okW ws = false := by
  by_cases e : okW ws = true
  · exact absurd (okW_tot e) h
  · simpa using e
theorem okW_yes (ws : List Int) (h : ∀ k : Nat, k < ws.length → 0 ≤ ws.getD k 0 ∧ ws.getD k 0 ≤ 65536) (ht : 1 ≤ tot ws ws.length ∧ tot ws ws.length ≤ 65536) : okW ws = true := by
  unfold okW
  simp only [Bool.and_eq_true, List.all_eq_true, decide_eq_true_eq]
  refine ⟨fun x hx => ?_, ht⟩
  obtain ⟨k, hk, rfl⟩ := List.mem_iff_getElem.1 hx
  have := h k hk
  rw [List.getD_eq_getElem?_getD, List.getElem?_eq_getElem hk] at this
  exact this

/-- The sums of weights that are not negative do not decrease. -/
theorem tot_mono (ws : List Int) (n : Nat) (h : ∀ k : Nat, k < n → 0 ≤ ws.getD k 0) : ∀ (d k : Nat), k + d ≤ n → tot ws k ≤ tot ws (k + d)
  | 0, k, _ => Int.le_refl _
  | d + 1, k, hk => by
    have h1 := tot_mono ws n h d k (by omega)
    have h2 := h (k + d) (by omega)
    show tot ws k ≤ tot ws (k + d) + ws.getD (k + d) 0
    omega
theorem tot_bd (ws : List Int) : ∀ (k : Nat), (∀ i : Nat, i < k → 0 ≤ ws.getD i 0 ∧ ws.getD i 0 ≤ 65536) → 0 ≤ tot ws k ∧ tot ws k ≤ 65536 * k
  | 0, _ => by simp [tot]
  | k + 1, h => by
    have h1 := tot_bd ws k (fun i hi => h i (by omega))
    have h2 := h k (by omega)
    show 0 ≤ tot ws k + ws.getD k 0 ∧ tot ws k + ws.getD k 0 ≤ 65536 * ((k + 1 : Nat) : Int)
    omega
/-- A weight that the reference refuses is refused by the sums too. -/
theorem okW_over (ws : List Int) (k : Nat) (hk : k < ws.length) (h : ws.getD k 0 < 0 ∨ 65536 - tot ws k < ws.getD k 0) : okW ws = false := by
  by_cases e : okW ws = true
  · exfalso
    have ha := fun i hi => okW_all e i hi
    have ht := okW_tot e
    rcases h with h | h
    · have := ha k hk; omega
    · have := tot_mono ws ws.length (fun i hi => (ha i hi).1) (ws.length - (k + 1)) (k + 1) (by omega)
      rw [show k + 1 + (ws.length - (k + 1)) = ws.length by omega] at this
      have e2 : tot ws (k + 1) = tot ws k + ws.getD k 0 := rfl
      omega
  · simpa using e

/-- All entries of a vector are within a bound. -/
def V3.within (v : V3) (B : Int) : Prop := (-B ≤ v.a ∧ v.a ≤ B) ∧ (-B ≤ v.b ∧ v.b ≤ B) ∧ (-B ≤ v.c ∧ v.c ≤ B) ∧ (-B ≤ v.d ∧ v.d ≤ B) ∧ (-B ≤ v.e ∧ v.e ≤ B) ∧ (-B ≤ v.f ∧ v.f ≤ B)
theorem within_lo {v : V3} {B : Int} (h : v.within B) (j : Nat) : -B ≤ v.lo j ∧ v.lo j ≤ B := by
  obtain ⟨h1, h2, h3, h4, h5, h6⟩ := h
  match j with
  | 0 => exact h1
  | 1 => exact h3
  | n + 2 => exact h5
theorem within_hi {v : V3} {B : Int} (h : v.within B) (j : Nat) : -B ≤ v.hi j ∧ v.hi j ≤ B := by
  obtain ⟨h1, h2, h3, h4, h5, h6⟩ := h
  match j with
  | 0 => exact h2
  | 1 => exact h4
  | n + 2 => exact h6
theorem reach_within {v : V3} (h : reachB v = true) : v.within 268435456 := by
  unfold reachB at h
  simp only [Bool.and_eq_true, near_true] at h
  unfold V3.within
  omega
theorem wmul_bd (w x B : Int) (hw0 : 0 ≤ w) (hw1 : w ≤ 65536) (hB : 0 ≤ B) (hx : -B ≤ x ∧ x ≤ B) : -(65536 * B) ≤ w * x ∧ w * x ≤ 65536 * B := by
  have h1 := Int.mul_le_mul_of_nonneg_left hx.1 hw0
  have h2 := Int.mul_le_mul_of_nonneg_left hx.2 hw0
  have h3 := Int.mul_le_mul_of_nonneg_right hw1 hB
  rw [Int.mul_neg] at h1
  omega
theorem comb_bd (L : List V3) (ws : List Int) : ∀ (k : Nat), (∀ i : Nat, i < k → 0 ≤ ws.getD i 0 ∧ ws.getD i 0 ≤ 65536) → (∀ i : Nat, i < k → reachB (L.getD i V3.zero) = true) → (comb L ws k).within (17592186044416 * k)
  | 0, _, _ => by simp [comb, V3.zero, V3.within]
  | k + 1, h, hr => by
    have h1 := comb_bd L ws k (fun i hi => h i (by omega)) (fun i hi => hr i (by omega))
    have h2 := h k (by omega)
    have h3 := reach_within (hr k (by omega))
    show ((comb L ws k).addw (ws.getD k 0) (L.getD k V3.zero)).within (17592186044416 * ((k + 1 : Nat) : Int))
    generalize comb L ws k = s at *
    generalize ws.getD k 0 = w at *
    generalize L.getD k V3.zero = v at *
    obtain ⟨a1, a2, a3, a4, a5, a6⟩ := h1
    obtain ⟨b1, b2, b3, b4, b5, b6⟩ := h3
    have m := fun x hx => wmul_bd w x 268435456 h2.1 h2.2 (by omega) hx
    have m1 := m _ b1; have m2 := m _ b2; have m3 := m _ b3; have m4 := m _ b4; have m5 := m _ b5; have m6 := m _ b6
    unfold V3.within V3.addw
    simp only
    omega

/-- The first j intervals of s with w times those of v added. -/
def mixV (s : V3) (w : Int) (v : V3) (j : Nat) : V3 :=
  ⟨if 0 < j then s.a + w * v.a else s.a, if 0 < j then s.b + w * v.b else s.b, if 1 < j then s.c + w * v.c else s.c, if 1 < j then s.d + w * v.d else s.d, if 2 < j then s.e + w * v.e else s.e, if 2 < j then s.f + w * v.f else s.f⟩
def V3.arr (v : V3) : Array Value := #[.int .i64 v.a, .int .i64 v.b, .int .i64 v.c, .int .i64 v.d, .int .i64 v.e, .int .i64 v.f]
theorem mixV_zero (s : V3) (w : Int) (v : V3) : mixV s w v 0 = s := rfl
theorem mixV_three (s : V3) (w : Int) (v : V3) : mixV s w v 3 = s.addw w v := rfl
theorem mixV_lo (s : V3) (w : Int) (v : V3) : ∀ j : Nat, j < 3 → (mixV s w v j).arr[j * 2]? = some (.int .i64 (s.lo j)) ∧ (mixV s w v j).arr[j * 2 + 1]? = some (.int .i64 (s.hi j))
  | 0, _ => ⟨rfl, rfl⟩
  | 1, _ => ⟨rfl, rfl⟩
  | 2, _ => ⟨rfl, rfl⟩
theorem mixV_half (s : V3) (w : Int) (v : V3) (u : Value) : ∀ j : Nat, j < 3 → ((mixV s w v j).arr.setIfInBounds (j * 2) u)[j * 2 + 1]? = some (.int .i64 (s.hi j))
  | 0, _ => rfl
  | 1, _ => rfl
  | 2, _ => rfl
theorem mixV_next (s : V3) (w : Int) (v : V3) : ∀ j : Nat, j < 3 → (((mixV s w v j).arr.setIfInBounds (j * 2) (.int .i64 (s.lo j + w * v.lo j))).setIfInBounds (j * 2 + 1) (.int .i64 (s.hi j + w * v.hi j))) = (mixV s w v (j + 1)).arr
  | 0, _ => rfl
  | 1, _ => rfl
  | 2, _ => rfl

end Go.Proofs.Ytgnjconhbloocaa.Fx

namespace Go.Proofs.Ytgnjconhbloocaa.Fx

/-- The least one of the lower ends j of the first k + 1 points, and the greatest one of the upper ends. -/
def mnL (L : List V3) (j : Nat) : Nat → Int
  | 0 => (L.getD 0 V3.zero).lo j
  | k + 1 => min (mnL L j k) ((L.getD (k + 1) V3.zero).lo j)
def mxL (L : List V3) (j : Nat) : Nat → Int
  | 0 => (L.getD 0 V3.zero).hi j
  | k + 1 => max (mxL L j k) ((L.getD (k + 1) V3.zero).hi j)
def boundOk (L : List V3) (r : Int) : Bool := placedB L && decide (0 ≤ r ∧ r ≤ 1048576)
/-- The vector of three pairs of ends. -/
def ofEnds (lo hi : Nat → Int) : V3 := ⟨lo 0, hi 0, lo 1, hi 1, lo 2, hi 2⟩
def boundV (L : List V3) (r : Int) : V3 := if boundOk L r then ofEnds (fun j => mnL L j (L.length - 1) - r) (fun j => mxL L j (L.length - 1) + r) else V3.zero

theorem boundOk_1 {L : List V3} {r : Int} (h : placedB L = false) : boundOk L r = false := by unfold boundOk; rw [h]; rfl
theorem boundOk_2 {L : List V3} {r : Int} (h : ¬ (0 ≤ r ∧ r ≤ 1048576)) : boundOk L r = false := by unfold boundOk; simp [h]
theorem boundOk_yes {L : List V3} {r : Int} (h : placedB L = true) (h2 : 0 ≤ r ∧ r ≤ 1048576) : boundOk L r = true := by unfold boundOk; simp [h, h2]
theorem boundV_no {L : List V3} {r : Int} (h : boundOk L r = false) : boundV L r = V3.zero := by unfold boundV; rw [h]; rfl
theorem boundV_yes {L : List V3} {r : Int} (h : boundOk L r = true) : boundV L r = ofEnds (fun j => mnL L j (L.length - 1) - r) (fun j => mxL L j (L.length - 1) + r) := by unfold boundV; rw [h]; rfl
theorem ofEnds_lo (lo hi : Nat → Int) : ∀ j : Nat, j < 3 → (ofEnds lo hi).lo j = lo j ∧ (ofEnds lo hi).hi j = hi j
  | 0, _ => ⟨rfl, rfl⟩
  | 1, _ => ⟨rfl, rfl⟩
  | 2, _ => ⟨rfl, rfl⟩

theorem mnL_bd (L : List V3) (j : Nat) (hj : j < 3) : ∀ (k : Nat), (∀ i : Nat, i ≤ k → reachB (L.getD i V3.zero) = true) → (-268435456 ≤ mnL L j k ∧ mnL L j k ≤ (L.getD 0 V3.zero).lo j) ∧ ((L.getD 0 V3.zero).hi j ≤ mxL L j k ∧ mxL L j k ≤ 268435456) ∧ (L.getD 0 V3.zero).lo j ≤ (L.getD 0 V3.zero).hi j
  | 0, h => by
    have := near_true.1 (reachB_at (h 0 (Nat.le_refl _)) j hj)
    simp only [mnL, mxL]
    omega
  | k + 1, h => by
    have h1 := mnL_bd L j hj k (fun i hi => h i (by omega))
    have h2 := near_true.1 (reachB_at (h (k + 1) (Nat.le_refl _)) j hj)
    simp only [mnL, mxL]
    omega

theorem mnL_le (L : List V3) (j : Nat) : ∀ (k i : Nat), i ≤ k → mnL L j k ≤ (L.getD i V3.zero).lo j ∧ (L.getD i V3.zero).hi j ≤ mxL L j k
  | 0, i, h => by obtain rfl : i = 0 := by omega
                  exact ⟨Int.le_refl _, Int.le_refl _⟩
  | k + 1, i, h => by
    simp only [mnL, mxL]
    by_cases e : i = k + 1
    · subst e; omega
    · have := mnL_le L j k i (by omega); omega
theorem mnL_at (L : List V3) (j : Nat) : ∀ (k : Nat), (∃ i : Nat, i ≤ k ∧ mnL L j k = (L.getD i V3.zero).lo j) ∧ (∃ i : Nat, i ≤ k ∧ mxL L j k = (L.getD i V3.zero).hi j)
  | 0 => ⟨⟨0, Nat.le_refl _, rfl⟩, ⟨0, Nat.le_refl _, rfl⟩⟩
  | k + 1 => by
    obtain ⟨⟨i, hi, ei⟩, ⟨m, hm, em⟩⟩ := mnL_at L j k
    simp only [mnL, mxL]
    constructor
    · by_cases c : mnL L j k ≤ (L.getD (k + 1) V3.zero).lo j
      · exact ⟨i, by omega, by omega⟩
      · exact ⟨k + 1, by omega, by omega⟩
    · by_cases c : (L.getD (k + 1) V3.zero).hi j ≤ mxL L j k
      · exact ⟨m, by omega, by omega⟩
      · exact ⟨k + 1, by omega, by omega⟩

/-- The least one of x and the first k numbers of a list. -/
def lst (x : Int) (ys : List Int) : Nat → Int
  | 0 => x
  | k + 1 => min (lst x ys k) (ys.getD k 0)
theorem lst_mn (L : List V3) (j : Nat) (ys : List Int) : ∀ (k : Nat), (∀ i : Nat, i < k → ys.getD i 0 = (L.getD (i + 1) V3.zero).lo j) → lst ((L.getD 0 V3.zero).lo j) ys k = mnL L j k
  | 0, _ => rfl
  | k + 1, h => by
    have h1 := lst_mn L j ys k (fun i hi => h i (by omega))
    simp only [lst, mnL]
    rw [h1, h k (by omega)]
theorem lst_mx (L : List V3) (j : Nat) (ys : List Int) : ∀ (k : Nat), (∀ i : Nat, i < k → ys.getD i 0 = -(L.getD (i + 1) V3.zero).hi j) → lst (-(L.getD 0 V3.zero).hi j) ys k = -mxL L j k
  | 0, _ => rfl
  | k + 1, h => by
    have h1 := lst_mx L j ys k (fun i hi => h i (by omega))
    simp only [lst, mxL]
    rw [h1, h k (by omega)]
    omega

/-- The cells of an array of eight numbers: the first i are those of f, the others are 0. -/
def cells8 (f : Nat → Int) (i : Nat) : Array Value :=
  #[.int .i64 (if 0 < i then f 0 else 0), .int .i64 (if 1 < i then f 1 else 0), .int .i64 (if 2 < i then f 2 else 0), .int .i64 (if 3 < i then f 3 else 0), .int .i64 (if 4 < i then f 4 else 0), .int .i64 (if 5 < i then f 5 else 0), .int .i64 (if 6 < i then f 6 else 0), .int .i64 (if 7 < i then f 7 else 0)]
theorem cells8_next (f : Nat → Int) : ∀ i : Nat, i < 8 → (cells8 f i).setIfInBounds i (.int .i64 (f i)) = cells8 f (i + 1)
  | 0, _ => rfl
  | 1, _ => rfl
  | 2, _ => rfl
  | 3, _ => rfl
  | 4, _ => rfl
  | 5, _ => rfl
  | 6, _ => rfl
  | 7, _ => rfl
theorem cells8_any (f : Nat → Int) (i : Nat) : ∀ m : Nat, m < 8 → (cells8 f i)[m]? = some (.int .i64 (if m < i then f m else 0))
  | 0, _ => rfl
  | 1, _ => rfl
  | 2, _ => rfl
  | 3, _ => rfl
  | 4, _ => rfl
  | 5, _ => rfl
  | 6, _ => rfl
  | 7, _ => rfl
theorem cells8_at (f : Nat → Int) (i m : Nat) (hi : i ≤ 8) (hm : m < i) : (cells8 f i)[m]? = some (.int .i64 (f m)) := by
  rw [cells8_any f i m (by omega), if_pos hm]

/-- Ends that are laid so far. -/
def endsTo (lo hi : Nat → Int) (j : Nat) : V3 := ⟨if 0 < j then lo 0 else 0, if 0 < j then hi 0 else 0, if 1 < j then lo 1 else 0, if 1 < j then hi 1 else 0, if 2 < j then lo 2 else 0, if 2 < j then hi 2 else 0⟩
theorem endsTo_zero (lo hi : Nat → Int) : endsTo lo hi 0 = V3.zero := rfl
theorem endsTo_three (lo hi : Nat → Int) : endsTo lo hi 3 = ofEnds lo hi := rfl
theorem endsTo_next (lo hi : Nat → Int) : ∀ j : Nat, j < 3 → (((endsTo lo hi j).arr.setIfInBounds (j * 2) (.int .i64 (lo j))).setIfInBounds (j * 2 + 1) (.int .i64 (hi j))) = (endsTo lo hi (j + 1)).arr
  | 0, _ => rfl
  | 1, _ => rfl
  | 2, _ => rfl
end Go.Proofs.Ytgnjconhbloocaa.Fx

namespace Go.Proofs.Ytgnjconhbloocaa
open Go.RowKit

/-- Go's min and max of integers, as Lean's own. -/
theorem ite_min (x y : Int) : (if y < x then y else x) = min x y := by omega
theorem ite_max (x y : Int) : (if x < y then y else x) = max x y := by omega

@[go_sem high] theorem run_min2m {P : Program} {w : World} (ts : Array TypeId) (t : TypeId) (k k' : IntKind) (x y : Int) : (Builtin.min_ ts t #[.int k x, .int k' y]).run P w = .ok (.int k (min x y)) w := by
  rw [run_min_int2, ite_min]

@[go_sem high] theorem run_max2m {P : Program} {w : World} (ts : Array TypeId) (t : TypeId) (k k' : IntKind) (x y : Int) : (Builtin.max_ ts t #[.int k x, .int k' y]).run P w = .ok (.int k (max x y)) w := by
  rw [run_max_int2]; show Result.ok (Value.int k (if x < y then y else x)) w = _; rw [ite_max]

theorem ret_int {k : IntKind} {a b : Int} (h : a = b) : Ending.returned (.int k a) = .returned (.int k b) := by rw [h]

theorem clamp_any (a : Int) (w : World) :
    Calls Try.prog 89 #[.int .i64 a] w fun e w' => e = .returned (.int .i64 (Fx.clamp a)) ∧ w = w' := by
  go_enter Try.func89, Try.ntmps89
  go_wp2
  all_goals go_ret
  all_goals refine ⟨ret_int ?_, rfl⟩
  all_goals (unfold Fx.clamp; repeat' split) <;> omega

theorem rclamp_any (a : Int) (w : World) :
    Calls Try.prog 67 #[.int .i64 a] w fun e w' => e = .returned (.int .i64 (Fx.clamp a)) ∧ w = w' := by
  go_enter Try.func67, Try.ntmps67
  go_wp2
  all_goals go_ret
  all_goals refine ⟨ret_int ?_, rfl⟩
  all_goals (unfold Fx.clamp; repeat' split) <;> omega

theorem sdown_any (a k : Int) (w : World) :
    Calls Try.prog 69 #[.int .i64 a, .int .i64 k] w fun e w' => e = .returned (.int .i64 (a / 2 ^ min k.toNat 64)) ∧ w = w' := by
  by_cases hk : k < 0
  · go_enter Try.func69, Try.ntmps69
    go_wp2
    go_ret
    refine ⟨ret_int ?_, rfl⟩
    rw [show k.toNat = 0 from by omega]; simp
  · go_enter Try.func69, Try.ntmps69
    go_wp2
    go_ret
    exact ⟨rfl, rfl⟩

theorem sup_any (a k : Int) (w : World) (h0 : -9223372036854775808 ≤ a) (h1 : a ≤ 9223372036854775807) :
    Calls Try.prog 97 #[.int .i64 a, .int .i64 k] w fun e w' => e = .returned (.int .i64 (Fx.sup a (min k.toNat 64))) ∧ w = w' := by
  by_cases hk : k < 0
  · go_enter Try.func97, Try.ntmps97
    go_wp2
    go_ret
    refine ⟨ret_int ?_, rfl⟩
    rw [show k.toNat = 0 from by omega]; exact (Fx.sup_zero a).symm
  · go_enter Try.func97, Try.ntmps97
    go_wp2
    · go_ret
      exact ⟨ret_int (Fx.sup_way1 a _ (Nat.min_le_right _ _) h0 h1 ‹_›), rfl⟩
    · go_ret
      exact ⟨ret_int (Fx.sup_way2 a _ (Nat.min_le_right _ _) h0 h1 ‹_›), rfl⟩

theorem sd_any (a k : Int) (w : World) :
    Calls Try.prog 69 #[.int .i64 a, .int .i64 k] w fun e w' => e = .returned (.int .i64 (Fx.sd a k)) ∧ w = w' := sdown_any a k w
theorem su_any (a k : Int) (w : World) (h0 : -9223372036854775808 ≤ a) (h1 : a ≤ 9223372036854775807) :
    Calls Try.prog 97 #[.int .i64 a, .int .i64 k] w fun e w' => e = .returned (.int .i64 (Fx.su a k)) ∧ w = w' := sup_any a k w h0 h1
theorem sdown16 (a : Int) (w : World) :
    Calls Try.prog 69 #[.int .i64 a, .int .i64 16] w fun e w' => e = .returned (.int .i64 (a / 65536)) ∧ w = w' := sdown_any a 16 w
theorem sup16 (a : Int) (w : World) (h0 : -9223372036854775808 ≤ a) (h1 : a ≤ 9223372036854775807) :
    Calls Try.prog 97 #[.int .i64 a, .int .i64 16] w fun e w' => e = .returned (.int .i64 (Fx.ce a 65536)) ∧ w = w' := sup_any a 16 w h0 h1





theorem floor_any (a b : Int) (w : World) (h0 : -9223372036854775808 ≤ a) (h1 : a ≤ 9223372036854775807) (hb : 0 < b) :
    Calls Try.prog 70 #[.int .i64 a, .int .i64 b] w fun e w' => e = .returned (.int .i64 (a / b)) ∧ w = w' := by
  go_enter Try.func70, Try.ntmps70
  go_wp2
  · go_ret
    exact ⟨ret_int (Fx.floor_way1 a b hb h0 h1 ‹_›), rfl⟩
  · go_ret
    exact ⟨ret_int (Fx.floor_way2 a b hb ‹_›), rfl⟩

theorem ceil_any (a b : Int) (w : World) (h0 : -9223372036854775808 ≤ a) (h1 : a ≤ 9223372036854775807) (hb : 0 < b) :
    Calls Try.prog 86 #[.int .i64 a, .int .i64 b] w fun e w' => e = .returned (.int .i64 (Fx.ce a b)) ∧ w = w' := by
  go_enter Try.func86, Try.ntmps86
  go_wp2
  · go_ret
    exact ⟨ret_int (Fx.ceil_way1 a b hb h0 h1 ‹_›), rfl⟩
  · go_ret
    exact ⟨ret_int (Fx.ceil_way2 a b hb ‹_›), rfl⟩







end Go.Proofs.Ytgnjconhbloocaa

namespace Go.Proofs.Ytgnjconhbloocaa
open Go.RowKit

theorem bcell {W w1 : World} (hb : Below W.heap.size W w1) : (∀ b o, b < W.heap.size → w1.cell? ⟨b, o, none⟩ = W.cell? ⟨b, o, none⟩) ∧ (∀ b o, b < W.heap.size → w1.frozen? ⟨b, o, none⟩ = W.frozen? ⟨b, o, none⟩) :=
  ⟨fun b o h => hb.cell (p := ⟨b, o, none⟩) h, fun b o h => hb.frozen (p := ⟨b, o, none⟩) h⟩

theorem ret_iv {a b c d : Int} (h1 : a = c) (h2 : b = d) : Ending.returned (.agg #[.int .i64 a, .int .i64 b]) = .returned (.agg #[.int .i64 c, .int .i64 d]) := by rw [h1, h2]

theorem ret_bool {a b : Bool} (h : a = b) : Ending.returned (.bool a) = .returned (.bool b) := by rw [h]

theorem valid_any (l h : Int) (w : World) :
    Calls Try.prog 68 #[.agg #[.int .i64 l, .int .i64 h]] w fun e w' => e = .returned (.bool (Fx.vb l h)) ∧ Below w.heap.size w w' := by
  by_cases c0 : -2147483648 ≤ l
  · by_cases c1 : l ≤ h
    · by_cases c2 : h ≤ 2147483648
      · have hd : decide (h ≤ 2147483648) = true := by simpa using c2
        go_enter Try.func68, Try.ntmps68
        go_wp2
        go_ret
        exact ⟨ret_bool (by unfold Fx.vb; simp; omega), (Below.refl _ _).alloc (Nat.le_refl _) _⟩
      · have hd : decide (h ≤ 2147483648) = false := by simpa using c2
        go_enter Try.func68, Try.ntmps68
        go_wp2
        go_ret
        exact ⟨ret_bool (by unfold Fx.vb; simp; omega), (Below.refl _ _).alloc (Nat.le_refl _) _⟩
    · have hd : decide (l ≤ h) = false := by simpa using c1
      go_enter Try.func68, Try.ntmps68
      go_wp2
      go_ret
      exact ⟨ret_bool (by unfold Fx.vb; simp; omega), (Below.refl _ _).alloc (Nat.le_refl _) _⟩
  · have hd : decide (-2147483648 ≤ l) = false := by simpa using c0
    go_enter Try.func68, Try.ntmps68
    go_wp2
    go_ret
    exact ⟨ret_bool (by unfold Fx.vb; simp; omega), (Below.refl _ _).alloc (Nat.le_refl _) _⟩

theorem valid_yes (l h : Int) (w : World) (hv : Fx.vb l h = true) :
    Calls Try.prog 68 #[.agg #[.int .i64 l, .int .i64 h]] w fun e w' => e = .returned (.bool true) ∧ Below w.heap.size w w' := by
  rw [← hv]; exact valid_any l h w

theorem valid_no (l h : Int) (w : World) (hv : Fx.vb l h = false) :
    Calls Try.prog 68 #[.agg #[.int .i64 l, .int .i64 h]] w fun e w' => e = .returned (.bool false) ∧ Below w.heap.size w w' := by
  rw [← hv]; exact valid_any l h w

theorem rvalid_any (l h : Int) (w : World) :
    Calls Try.prog 66 #[.agg #[.int .i64 l, .int .i64 h]] w fun e w' => e = .returned (.bool (Fx.vb l h)) ∧ Below w.heap.size w w' := by
  by_cases c0 : -2147483648 ≤ l
  · by_cases c1 : l ≤ h
    · by_cases c2 : h ≤ 2147483648
      · have hd : decide (h ≤ 2147483648) = true := by simpa using c2
        go_enter Try.func66, Try.ntmps66
        go_wp2
        go_ret
        exact ⟨ret_bool (by unfold Fx.vb; simp; omega), (Below.refl _ _).alloc (Nat.le_refl _) _⟩
      · have hd : decide (h ≤ 2147483648) = false := by simpa using c2
        go_enter Try.func66, Try.ntmps66
        go_wp2
        go_ret
        exact ⟨ret_bool (by unfold Fx.vb; simp; omega), (Below.refl _ _).alloc (Nat.le_refl _) _⟩
    · have hd : decide (l ≤ h) = false := by simpa using c1
      go_enter Try.func66, Try.ntmps66
      go_wp2
      go_ret
      exact ⟨ret_bool (by unfold Fx.vb; simp; omega), (Below.refl _ _).alloc (Nat.le_refl _) _⟩
  · have hd : decide (-2147483648 ≤ l) = false := by simpa using c0
    go_enter Try.func66, Try.ntmps66
    go_wp2
    go_ret
    exact ⟨ret_bool (by unfold Fx.vb; simp; omega), (Below.refl _ _).alloc (Nat.le_refl _) _⟩

theorem rvalid_yes (l h : Int) (w : World) (hv : Fx.vb l h = true) :
    Calls Try.prog 66 #[.agg #[.int .i64 l, .int .i64 h]] w fun e w' => e = .returned (.bool true) ∧ Below w.heap.size w w' := by
  rw [← hv]; exact rvalid_any l h w

theorem rvalid_no (l h : Int) (w : World) (hv : Fx.vb l h = false) :
    Calls Try.prog 66 #[.agg #[.int .i64 l, .int .i64 h]] w fun e w' => e = .returned (.bool false) ∧ Below w.heap.size w w' := by
  rw [← hv]; exact rvalid_any l h w

theorem valid2_yes (a b c d : Int) (w : World) (h1 : Fx.vb a b = true) (h2 : Fx.vb c d = true) :
    Calls Try.prog 93 #[.agg #[.int .i64 a, .int .i64 b], .agg #[.int .i64 c, .int .i64 d]] w fun e w' => e = .returned (.bool true) ∧ Below w.heap.size w w' := by
  have H1 := Lib.hid h1; have H2 := Lib.hid h2; clear h1 h2
  go_enter Try.func93, Try.ntmps93
  go_wp2_with fail
  refine (valid_yes _ _ _ H1.out).mono ?_
  rintro e w1 ⟨rfl, hb1⟩
  obtain ⟨hc1, hf1⟩ := bcell hb1
  have hz1 := hb1.size
  try simp at hz1
  have hz1b : w.heap.size + 1 < w1.heap.size := by omega
  have hz1a : w.heap.size < w1.heap.size := by omega
  go_wp2_with fail
  refine (valid_yes _ _ _ H2.out).mono ?_
  rintro e w2 ⟨rfl, hb2⟩
  obtain ⟨hc2, hf2⟩ := bcell hb2
  have hz2 := hb2.size
  try simp at hz2
  have hz2b : w.heap.size + 1 < w2.heap.size := by omega
  have hz2a : w.heap.size < w2.heap.size := by omega
  go_wp2_with fail
  go_ret
  exact ⟨rfl, (by repeat (first | exact Below.refl _ _ | refine Below.setCell ?_ (by first | (simp; done) | (simp; omega) | omega) _ | refine Below.alloc ?_ (by first | (simp; done) | (simp; omega) | omega) _ | refine below_drewN ?_ _ | refine Below.trans ?_ (Below.mono ‹Below _ _ _› (by first | (simp; done) | (simp; omega) | omega))))⟩

theorem valid2_no (a b c d : Int) (w : World) (h : (Fx.vb a b && Fx.vb c d) = false) :
    Calls Try.prog 93 #[.agg #[.int .i64 a, .int .i64 b], .agg #[.int .i64 c, .int .i64 d]] w fun e w' => e = .returned (.bool false) ∧ Below w.heap.size w w' := by
  by_cases h1 : Fx.vb a b = true
  · have h2 : Fx.vb c d = false := by rw [h1] at h; simpa using h
    have H1 := Lib.hid h1; have H2 := Lib.hid h2; clear h1 h2 h
    go_enter Try.func93, Try.ntmps93
    go_wp2_with fail
    refine (valid_yes _ _ _ H1.out).mono ?_
    rintro e w1 ⟨rfl, hb1⟩
    obtain ⟨hc1, hf1⟩ := bcell hb1
    have hz1 := hb1.size
    try simp at hz1
    have hz1b : w.heap.size + 1 < w1.heap.size := by omega
    have hz1a : w.heap.size < w1.heap.size := by omega
    go_wp2_with fail
    refine (valid_no _ _ _ H2.out).mono ?_
    rintro e w2 ⟨rfl, hb2⟩
    obtain ⟨hc2, hf2⟩ := bcell hb2
    have hz2 := hb2.size
    try simp at hz2
    have hz2b : w.heap.size + 1 < w2.heap.size := by omega
    have hz2a : w.heap.size < w2.heap.size := by omega
    go_wp2_with fail
    go_ret
    exact ⟨rfl, (by repeat (first | exact Below.refl _ _ | refine Below.setCell ?_ (by first | (simp; done) | (simp; omega) | omega) _ | refine Below.alloc ?_ (by first | (simp; done) | (simp; omega) | omega) _ | refine below_drewN ?_ _ | refine Below.trans ?_ (Below.mono ‹Below _ _ _› (by first | (simp; done) | (simp; omega) | omega))))⟩
  · have H1 := Lib.hid (show Fx.vb a b = false by simpa using h1); clear h1 h
    go_enter Try.func93, Try.ntmps93
    go_wp2_with fail
    refine (valid_no _ _ _ H1.out).mono ?_
    rintro e w1 ⟨rfl, hb1⟩
    obtain ⟨hc1, hf1⟩ := bcell hb1
    have hz1 := hb1.size
    try simp at hz1
    have hz1b : w.heap.size + 1 < w1.heap.size := by omega
    have hz1a : w.heap.size < w1.heap.size := by omega
    go_wp2_with fail
    go_ret
    exact ⟨rfl, (by repeat (first | exact Below.refl _ _ | refine Below.setCell ?_ (by first | (simp; done) | (simp; omega) | omega) _ | refine Below.alloc ?_ (by first | (simp; done) | (simp; omega) | omega) _ | refine below_drewN ?_ _ | refine Below.trans ?_ (Below.mono ‹Below _ _ _› (by first | (simp; done) | (simp; omega) | omega))))⟩

theorem limited_any (l h : Int) (w : World) :
    Calls Try.prog 80 #[.int .i64 l, .int .i64 h] w fun e w' => e = .returned (.agg #[.int .i64 (Fx.clamp l), .int .i64 (Fx.clamp h)]) ∧ Below w.heap.size w w' := by
  go_enter Try.func80, Try.ntmps80
  go_wp2_with fail
  refine (clamp_any _ _).mono ?_
  rintro e w' ⟨rfl, rfl⟩
  go_wp2_with fail
  refine (clamp_any _ _).mono ?_
  rintro e w' ⟨rfl, rfl⟩
  go_wp2_with fail
  exact bodyPost_ret (v := .agg #[.int .i64 (Fx.clamp l), .int .i64 (Fx.clamp h)]) (by simp [results, Try.results80, go_sem, *]) rfl ⟨rfl, (by repeat (first | exact Below.refl _ _ | refine Below.setCell ?_ (by first | (simp; done) | (simp; omega) | omega) _ | refine Below.alloc ?_ (by first | (simp; done) | (simp; omega) | omega) _ | refine below_drewN ?_ _ | refine Below.trans ?_ (Below.mono ‹Below _ _ _› (by first | (simp; done) | (simp; omega) | omega))))⟩

theorem rlimited_any (l h : Int) (w : World) :
    Calls Try.prog 85 #[.int .i64 l, .int .i64 h] w fun e w' => e = .returned (.agg #[.int .i64 (Fx.clamp l), .int .i64 (Fx.clamp h)]) ∧ Below w.heap.size w w' := by
  go_enter Try.func85, Try.ntmps85
  go_wp2_with fail
  refine (rclamp_any _ _).mono ?_
  rintro e w' ⟨rfl, rfl⟩
  go_wp2_with fail
  refine (rclamp_any _ _).mono ?_
  rintro e w' ⟨rfl, rfl⟩
  go_wp2_with fail
  exact bodyPost_ret (v := .agg #[.int .i64 (Fx.clamp l), .int .i64 (Fx.clamp h)]) (by simp [results, Try.results85, go_sem, *]) rfl ⟨rfl, (by repeat (first | exact Below.refl _ _ | refine Below.setCell ?_ (by first | (simp; done) | (simp; omega) | omega) _ | refine Below.alloc ?_ (by first | (simp; done) | (simp; omega) | omega) _ | refine below_drewN ?_ _ | refine Below.trans ?_ (Below.mono ‹Below _ _ _› (by first | (simp; done) | (simp; omega) | omega))))⟩

theorem of_any (x : Int) (w : World) :
    Calls Try.prog 65 #[.int .i64 x] w fun e w' => e = .returned (.agg #[.int .i64 (Fx.clamp x), .int .i64 (Fx.clamp x)]) ∧ Below w.heap.size w w' := by
  go_enter Try.func65, Try.ntmps65
  go_wp2_with fail
  refine (limited_any _ _ _).mono ?_
  rintro e w1 ⟨rfl, hb1⟩
  obtain ⟨hc1, hf1⟩ := bcell hb1
  have hz1 := hb1.size
  try simp at hz1
  have hz1a : w.heap.size < w1.heap.size := by omega
  go_wp2_with fail
  exact bodyPost_ret (v := .agg #[.int .i64 (Fx.clamp x), .int .i64 (Fx.clamp x)]) (by simp [results, Try.results65, go_sem, *]) rfl ⟨rfl, (by repeat (first | exact Below.refl _ _ | refine Below.setCell ?_ (by first | (simp; done) | (simp; omega) | omega) _ | refine Below.alloc ?_ (by first | (simp; done) | (simp; omega) | omega) _ | refine below_drewN ?_ _ | refine Below.trans ?_ (Below.mono ‹Below _ _ _› (by first | (simp; done) | (simp; omega) | omega))))⟩

theorem rof_any (x : Int) (w : World) :
    Calls Try.prog 50 #[.int .i64 x] w fun e w' => e = .returned (.agg #[.int .i64 (Fx.clamp x), .int .i64 (Fx.clamp x)]) ∧ Below w.heap.size w w' := by
  go_enter Try.func50, Try.ntmps50
  go_wp2_with fail
  refine (rclamp_any _ _).mono ?_
  rintro e w' ⟨rfl, rfl⟩
  go_wp2_with fail
  refine (rclamp_any _ _).mono ?_
  rintro e w' ⟨rfl, rfl⟩
  go_wp2_with fail
  exact bodyPost_ret (v := .agg #[.int .i64 (Fx.clamp x), .int .i64 (Fx.clamp x)]) (by simp [results, Try.results50, go_sem, *]) rfl ⟨rfl, (by repeat (first | exact Below.refl _ _ | refine Below.setCell ?_ (by first | (simp; done) | (simp; omega) | omega) _ | refine Below.alloc ?_ (by first | (simp; done) | (simp; omega) | omega) _ | refine below_drewN ?_ _ | refine Below.trans ?_ (Below.mono ‹Below _ _ _› (by first | (simp; done) | (simp; omega) | omega))))⟩

theorem add_any (a b c d : Int) (w : World) :
    Calls Try.prog 87 #[.agg #[.int .i64 a, .int .i64 b], .agg #[.int .i64 c, .int .i64 d]] w fun e w' => e = .returned (.agg #[.int .i64 (Fx.addLo a b c d), .int .i64 (Fx.addHi a b c d)]) ∧ Below w.heap.size w w' := by
  by_cases h : Fx.v2 a b c d = true
  · have H := Lib.hid h; clear h
    obtain ⟨u0, u1, u2⟩ := Fx.vb_true.1 (Fx.v2_true.1 H.out).1
    obtain ⟨v0, v1, v2⟩ := Fx.vb_true.1 (Fx.v2_true.1 H.out).2
    go_enter Try.func87, Try.ntmps87
    go_wp2_with fail
    refine (valid2_yes _ _ _ _ _ (Fx.v2_true.1 H.out).1 (Fx.v2_true.1 H.out).2).mono ?_
    rintro e w1 ⟨rfl, hb1⟩
    obtain ⟨hc1, hf1⟩ := bcell hb1
    have hz1 := hb1.size
    try simp at hz1
    have hz1c : w.heap.size + 1 + 1 < w1.heap.size := by omega
    have hz1b : w.heap.size + 1 < w1.heap.size := by omega
    have hz1a : w.heap.size < w1.heap.size := by omega
    go_wp2_with fail
    refine (limited_any _ _ _).mono ?_
    rintro e w2 ⟨rfl, hb2⟩
    obtain ⟨hc2, hf2⟩ := bcell hb2
    have hz2 := hb2.size
    try simp at hz2
    have hz2c : w.heap.size + 1 + 1 < w2.heap.size := by omega
    have hz2b : w.heap.size + 1 < w2.heap.size := by omega
    have hz2a : w.heap.size < w2.heap.size := by omega
    go_wp2_with fail
    exact bodyPost_ret (v := .agg #[.int .i64 (Fx.clamp (a + c)), .int .i64 (Fx.clamp (b + d))]) (by simp [results, Try.results87, go_sem, *]) rfl ⟨ret_iv (Fx.ite_yes H.out _) (Fx.ite_yes H.out _), (by repeat (first | exact Below.refl _ _ | refine Below.setCell ?_ (by first | (simp; done) | (simp; omega) | omega) _ | refine Below.alloc ?_ (by first | (simp; done) | (simp; omega) | omega) _ | refine below_drewN ?_ _ | refine Below.trans ?_ (Below.mono ‹Below _ _ _› (by first | (simp; done) | (simp; omega) | omega))))⟩
  · have H := Lib.hid (show Fx.v2 a b c d = false by simpa using h); clear h
    go_enter Try.func87, Try.ntmps87
    go_wp2_with fail
    refine (valid2_no _ _ _ _ _ H.out).mono ?_
    rintro e w1 ⟨rfl, hb1⟩
    obtain ⟨hc1, hf1⟩ := bcell hb1
    have hz1 := hb1.size
    try simp at hz1
    have hz1c : w.heap.size + 1 + 1 < w1.heap.size := by omega
    have hz1b : w.heap.size + 1 < w1.heap.size := by omega
    have hz1a : w.heap.size < w1.heap.size := by omega
    go_wp2_with fail
    exact bodyPost_ret (v := .agg #[.int .i64 0, .int .i64 0]) (by simp [results, Try.results87, go_sem, *]) rfl ⟨(ret_iv (Fx.ite_no H.out _) (Fx.ite_no H.out _)), (by repeat (first | exact Below.refl _ _ | refine Below.setCell ?_ (by first | (simp; done) | (simp; omega) | omega) _ | refine Below.alloc ?_ (by first | (simp; done) | (simp; omega) | omega) _ | refine below_drewN ?_ _ | refine Below.trans ?_ (Below.mono ‹Below _ _ _› (by first | (simp; done) | (simp; omega) | omega))))⟩





theorem radd_any (a b c d : Int) (w : World) :
    Calls Try.prog 75 #[.agg #[.int .i64 a, .int .i64 b], .agg #[.int .i64 c, .int .i64 d]] w fun e w' => e = .returned (.agg #[.int .i64 (Fx.addLo a b c d), .int .i64 (Fx.addHi a b c d)]) ∧ Below w.heap.size w w' := by
  by_cases h : Fx.v2 a b c d = true
  · have H := Lib.hid h; clear h
    obtain ⟨u0, u1, u2⟩ := Fx.vb_true.1 (Fx.v2_true.1 H.out).1
    obtain ⟨v0, v1, v2⟩ := Fx.vb_true.1 (Fx.v2_true.1 H.out).2
    go_enter Try.func75, Try.ntmps75
    go_wp2_with fail
    refine (rvalid_yes _ _ _ (Fx.v2_true.1 H.out).1).mono ?_
    rintro e w1 ⟨rfl, hb1⟩
    obtain ⟨hc1, hf1⟩ := bcell hb1
    have hz1 := hb1.size
    try simp at hz1
    have hz1c : w.heap.size + 1 + 1 < w1.heap.size := by omega
    have hz1b : w.heap.size + 1 < w1.heap.size := by omega
    have hz1a : w.heap.size < w1.heap.size := by omega
    go_wp2_with fail
    refine (rvalid_yes _ _ _ (Fx.v2_true.1 H.out).2).mono ?_
    rintro e w2 ⟨rfl, hb2⟩
    obtain ⟨hc2, hf2⟩ := bcell hb2
    have hz2 := hb2.size
    try simp at hz2
    have hz2c : w.heap.size + 1 + 1 < w2.heap.size := by omega
    have hz2b : w.heap.size + 1 < w2.heap.size := by omega
    have hz2a : w.heap.size < w2.heap.size := by omega
    go_wp2_with fail
    refine (rlimited_any _ _ _).mono ?_
    rintro e w3 ⟨rfl, hb3⟩
    obtain ⟨hc3, hf3⟩ := bcell hb3
    have hz3 := hb3.size
    try simp at hz3
    have hz3c : w.heap.size + 1 + 1 < w3.heap.size := by omega
    have hz3b : w.heap.size + 1 < w3.heap.size := by omega
    have hz3a : w.heap.size < w3.heap.size := by omega
    go_wp2_with fail
    exact bodyPost_ret (v := .agg #[.int .i64 (Fx.clamp (a + c)), .int .i64 (Fx.clamp (b + d))]) (by simp [results, Try.results75, go_sem, *]) rfl ⟨ret_iv (Fx.ite_yes H.out _) (Fx.ite_yes H.out _), (by repeat (first | exact Below.refl _ _ | refine Below.setCell ?_ (by first | (simp; done) | (simp; omega) | omega) _ | refine Below.alloc ?_ (by first | (simp; done) | (simp; omega) | omega) _ | refine below_drewN ?_ _ | refine Below.trans ?_ (Below.mono ‹Below _ _ _› (by first | (simp; done) | (simp; omega) | omega))))⟩
  · have H := Lib.hid (show Fx.v2 a b c d = false by simpa using h); clear h
    by_cases h1 : Fx.vb a b = true
    · have H1 := Lib.hid h1
      have H2 := Lib.hid (show Fx.vb c d = false by have := H.out; unfold Fx.v2 at this; rw [h1] at this; simpa using this); clear h1
      go_enter Try.func75, Try.ntmps75
      go_wp2_with fail
      refine (rvalid_yes _ _ _ H1.out).mono ?_
      rintro e w1 ⟨rfl, hb1⟩
      obtain ⟨hc1, hf1⟩ := bcell hb1
      have hz1 := hb1.size
      try simp at hz1
      have hz1c : w.heap.size + 1 + 1 < w1.heap.size := by omega
      have hz1b : w.heap.size + 1 < w1.heap.size := by omega
      have hz1a : w.heap.size < w1.heap.size := by omega
      go_wp2_with fail
      refine (rvalid_no _ _ _ H2.out).mono ?_
      rintro e w2 ⟨rfl, hb2⟩
      obtain ⟨hc2, hf2⟩ := bcell hb2
      have hz2 := hb2.size
      try simp at hz2
      have hz2c : w.heap.size + 1 + 1 < w2.heap.size := by omega
      have hz2b : w.heap.size + 1 < w2.heap.size := by omega
      have hz2a : w.heap.size < w2.heap.size := by omega
      go_wp2_with fail
      exact bodyPost_ret (v := .agg #[.int .i64 0, .int .i64 0]) (by simp [results, Try.results75, go_sem, *]) rfl ⟨(ret_iv (Fx.ite_no H.out _) (Fx.ite_no H.out _)), (by repeat (first | exact Below.refl _ _ | refine Below.setCell ?_ (by first | (simp; done) | (simp; omega) | omega) _ | refine Below.alloc ?_ (by first | (simp; done) | (simp; omega) | omega) _ | refine below_drewN ?_ _ | refine Below.trans ?_ (Below.mono ‹Below _ _ _› (by first | (simp; done) | (simp; omega) | omega))))⟩
    · have H1 := Lib.hid (show Fx.vb a b = false by simpa using h1); clear h1
      go_enter Try.func75, Try.ntmps75
      go_wp2_with fail
      refine (rvalid_no _ _ _ H1.out).mono ?_
      rintro e w1 ⟨rfl, hb1⟩
      obtain ⟨hc1, hf1⟩ := bcell hb1
      have hz1 := hb1.size
      try simp at hz1
      have hz1c : w.heap.size + 1 + 1 < w1.heap.size := by omega
      have hz1b : w.heap.size + 1 < w1.heap.size := by omega
      have hz1a : w.heap.size < w1.heap.size := by omega
      go_wp2_with fail
      exact bodyPost_ret (v := .agg #[.int .i64 0, .int .i64 0]) (by simp [results, Try.results75, go_sem, *]) rfl ⟨(ret_iv (Fx.ite_no H.out _) (Fx.ite_no H.out _)), (by repeat (first | exact Below.refl _ _ | refine Below.setCell ?_ (by first | (simp; done) | (simp; omega) | omega) _ | refine Below.alloc ?_ (by first | (simp; done) | (simp; omega) | omega) _ | refine below_drewN ?_ _ | refine Below.trans ?_ (Below.mono ‹Below _ _ _› (by first | (simp; done) | (simp; omega) | omega))))⟩



theorem rhull_any (a b c d : Int) (w : World) :
    Calls Try.prog 52 #[.agg #[.int .i64 a, .int .i64 b], .agg #[.int .i64 c, .int .i64 d]] w fun e w' => e = .returned (.agg #[.int .i64 (Fx.hullLo a b c d), .int .i64 (Fx.hullHi a b c d)]) ∧ Below w.heap.size w w' := by
  by_cases h : Fx.v2 a b c d = true
  · have H := Lib.hid h; clear h
    obtain ⟨u0, u1, u2⟩ := Fx.vb_true.1 (Fx.v2_true.1 H.out).1
    obtain ⟨v0, v1, v2⟩ := Fx.vb_true.1 (Fx.v2_true.1 H.out).2
    go_enter Try.func52, Try.ntmps52
    go_wp2_with fail
    refine (rvalid_yes _ _ _ (Fx.v2_true.1 H.out).1).mono ?_
    rintro e w1 ⟨rfl, hb1⟩
    obtain ⟨hc1, hf1⟩ := bcell hb1
    have hz1 := hb1.size
    try simp at hz1
    have hz1c : w.heap.size + 1 + 1 < w1.heap.size := by omega
    have hz1b : w.heap.size + 1 < w1.heap.size := by omega
    have hz1a : w.heap.size < w1.heap.size := by omega
    go_wp2_with fail
    refine (rvalid_yes _ _ _ (Fx.v2_true.1 H.out).2).mono ?_
    rintro e w2 ⟨rfl, hb2⟩
    obtain ⟨hc2, hf2⟩ := bcell hb2
    have hz2 := hb2.size
    try simp at hz2
    have hz2c : w.heap.size + 1 + 1 < w2.heap.size := by omega
    have hz2b : w.heap.size + 1 < w2.heap.size := by omega
    have hz2a : w.heap.size < w2.heap.size := by omega
    go_wp2_with fail
    exact bodyPost_ret (v := .agg #[.int .i64 (min a c), .int .i64 (max b d)]) (by simp [results, Try.results52, go_sem, *]) rfl ⟨ret_iv (Fx.ite_yes H.out _) (Fx.ite_yes H.out _), (by repeat (first | exact Below.refl _ _ | refine Below.setCell ?_ (by first | (simp; done) | (simp; omega) | omega) _ | refine Below.alloc ?_ (by first | (simp; done) | (simp; omega) | omega) _ | refine below_drewN ?_ _ | refine Below.trans ?_ (Below.mono ‹Below _ _ _› (by first | (simp; done) | (simp; omega) | omega))))⟩
  · have H := Lib.hid (show Fx.v2 a b c d = false by simpa using h); clear h
    by_cases h1 : Fx.vb a b = true
    · have H1 := Lib.hid h1
      have H2 := Lib.hid (show Fx.vb c d = false by have := H.out; unfold Fx.v2 at this; rw [h1] at this; simpa using this); clear h1
      go_enter Try.func52, Try.ntmps52
      go_wp2_with fail
      refine (rvalid_yes _ _ _ H1.out).mono ?_
      rintro e w1 ⟨rfl, hb1⟩
      obtain ⟨hc1, hf1⟩ := bcell hb1
      have hz1 := hb1.size
      try simp at hz1
      have hz1c : w.heap.size + 1 + 1 < w1.heap.size := by omega
      have hz1b : w.heap.size + 1 < w1.heap.size := by omega
      have hz1a : w.heap.size < w1.heap.size := by omega
      go_wp2_with fail
      refine (rvalid_no _ _ _ H2.out).mono ?_
      rintro e w2 ⟨rfl, hb2⟩
      obtain ⟨hc2, hf2⟩ := bcell hb2
      have hz2 := hb2.size
      try simp at hz2
      have hz2c : w.heap.size + 1 + 1 < w2.heap.size := by omega
      have hz2b : w.heap.size + 1 < w2.heap.size := by omega
      have hz2a : w.heap.size < w2.heap.size := by omega
      go_wp2_with fail
      exact bodyPost_ret (v := .agg #[.int .i64 0, .int .i64 0]) (by simp [results, Try.results52, go_sem, *]) rfl ⟨(ret_iv (Fx.ite_no H.out _) (Fx.ite_no H.out _)), (by repeat (first | exact Below.refl _ _ | refine Below.setCell ?_ (by first | (simp; done) | (simp; omega) | omega) _ | refine Below.alloc ?_ (by first | (simp; done) | (simp; omega) | omega) _ | refine below_drewN ?_ _ | refine Below.trans ?_ (Below.mono ‹Below _ _ _› (by first | (simp; done) | (simp; omega) | omega))))⟩
    · have H1 := Lib.hid (show Fx.vb a b = false by simpa using h1); clear h1
      go_enter Try.func52, Try.ntmps52
      go_wp2_with fail
      refine (rvalid_no _ _ _ H1.out).mono ?_
      rintro e w1 ⟨rfl, hb1⟩
      obtain ⟨hc1, hf1⟩ := bcell hb1
      have hz1 := hb1.size
      try simp at hz1
      have hz1c : w.heap.size + 1 + 1 < w1.heap.size := by omega
      have hz1b : w.heap.size + 1 < w1.heap.size := by omega
      have hz1a : w.heap.size < w1.heap.size := by omega
      go_wp2_with fail
      exact bodyPost_ret (v := .agg #[.int .i64 0, .int .i64 0]) (by simp [results, Try.results52, go_sem, *]) rfl ⟨(ret_iv (Fx.ite_no H.out _) (Fx.ite_no H.out _)), (by repeat (first | exact Below.refl _ _ | refine Below.setCell ?_ (by first | (simp; done) | (simp; omega) | omega) _ | refine Below.alloc ?_ (by first | (simp; done) | (simp; omega) | omega) _ | refine below_drewN ?_ _ | refine Below.trans ?_ (Below.mono ‹Below _ _ _› (by first | (simp; done) | (simp; omega) | omega))))⟩

end Go.Proofs.Ytgnjconhbloocaa

namespace Go.Proofs.Ytgnjconhbloocaa
open Go.RowKit

theorem ret_ivb {a b c d : Int} {x y : Bool} (h1 : a = c) (h2 : b = d) (h3 : x = y) : Ending.returned (.tuple #[.agg #[.int .i64 a, .int .i64 b], .bool x]) = .returned (.tuple #[.agg #[.int .i64 c, .int .i64 d], .bool y]) := by rw [h1, h2, h3]



theorem rneg_any (a b : Int) (w : World) :
    Calls Try.prog 74 #[.agg #[.int .i64 a, .int .i64 b]] w fun e w' => e = .returned (.agg #[.int .i64 (Fx.negLo a b), .int .i64 (Fx.negHi a b)]) ∧ Below w.heap.size w w' := by
  by_cases h : Fx.vb a b = true
  · have H := Lib.hid h; clear h
    obtain ⟨u0, u1, u2⟩ := Fx.vb_true.1 H.out
    go_enter Try.func74, Try.ntmps74
    go_wp2_with fail
    refine (rvalid_yes _ _ _ H.out).mono ?_
    rintro e w1 ⟨rfl, hb1⟩
    obtain ⟨hc1, hf1⟩ := bcell hb1
    have hz1 := hb1.size
    try simp at hz1
    have hz1b : w.heap.size + 1 < w1.heap.size := by omega
    have hz1a : w.heap.size < w1.heap.size := by omega
    go_wp2_with fail
    exact bodyPost_ret (v := .agg #[.int .i64 (-b), .int .i64 (-a)]) (by simp [results, Try.results74, go_sem, *]) rfl ⟨ret_iv (Fx.ite_yes H.out _) (Fx.ite_yes H.out _), (by repeat (first | exact Below.refl _ _ | refine Below.setCell ?_ (by first | (simp; done) | (simp; omega) | omega) _ | refine Below.alloc ?_ (by first | (simp; done) | (simp; omega) | omega) _ | refine below_drewN ?_ _ | refine Below.trans ?_ (Below.mono ‹Below _ _ _› (by first | (simp; done) | (simp; omega) | omega))))⟩
  · have H := Lib.hid (show Fx.vb a b = false by simpa using h); clear h
    go_enter Try.func74, Try.ntmps74
    go_wp2_with fail
    refine (rvalid_no _ _ _ H.out).mono ?_
    rintro e w1 ⟨rfl, hb1⟩
    obtain ⟨hc1, hf1⟩ := bcell hb1
    have hz1 := hb1.size
    try simp at hz1
    have hz1b : w.heap.size + 1 < w1.heap.size := by omega
    have hz1a : w.heap.size < w1.heap.size := by omega
    go_wp2_with fail
    exact bodyPost_ret (v := .agg #[.int .i64 0, .int .i64 0]) (by simp [results, Try.results74, go_sem, *]) rfl ⟨ret_iv (Fx.ite_no H.out _) (Fx.ite_no H.out _), (by repeat (first | exact Below.refl _ _ | refine Below.setCell ?_ (by first | (simp; done) | (simp; omega) | omega) _ | refine Below.alloc ?_ (by first | (simp; done) | (simp; omega) | omega) _ | refine below_drewN ?_ _ | refine Below.trans ?_ (Below.mono ‹Below _ _ _› (by first | (simp; done) | (simp; omega) | omega))))⟩

theorem sdown1 (a : Int) (w : World) :
    Calls Try.prog 69 #[.int .i64 a, .int .i64 1] w fun e w' => e = .returned (.int .i64 (a / 2)) ∧ w = w' := sdown_any a 1 w

theorem mid_any (a b : Int) (w : World) :
    Calls Try.prog 53 #[.agg #[.int .i64 a, .int .i64 b]] w fun e w' => e = .returned (.int .i64 (Fx.mid a b)) ∧ Below w.heap.size w w' := by
  by_cases h : Fx.vb a b = true
  · have H := Lib.hid h; clear h
    obtain ⟨u0, u1, u2⟩ := Fx.vb_true.1 H.out
    go_enter Try.func53, Try.ntmps53
    go_wp2_with fail
    refine (valid_yes _ _ _ H.out).mono ?_
    rintro e w1 ⟨rfl, hb1⟩
    obtain ⟨hc1, hf1⟩ := bcell hb1
    have hz1 := hb1.size
    try simp at hz1
    have hz1a : w.heap.size < w1.heap.size := by omega
    go_wp2_with fail
    refine (sdown1 _ _).mono ?_
    rintro e w' ⟨rfl, rfl⟩
    go_wp2_with fail
    go_ret
    exact ⟨ret_int (Fx.ite_yes H.out _), (by repeat (first | exact Below.refl _ _ | refine Below.setCell ?_ (by first | (simp; done) | (simp; omega) | omega) _ | refine Below.alloc ?_ (by first | (simp; done) | (simp; omega) | omega) _ | refine below_drewN ?_ _ | refine Below.trans ?_ (Below.mono ‹Below _ _ _› (by first | (simp; done) | (simp; omega) | omega))))⟩
  · have H := Lib.hid (show Fx.vb a b = false by simpa using h); clear h
    go_enter Try.func53, Try.ntmps53
    go_wp2_with fail
    refine (valid_no _ _ _ H.out).mono ?_
    rintro e w1 ⟨rfl, hb1⟩
    obtain ⟨hc1, hf1⟩ := bcell hb1
    have hz1 := hb1.size
    try simp at hz1
    have hz1a : w.heap.size < w1.heap.size := by omega
    go_wp2_with fail
    go_ret
    exact ⟨ret_int (Fx.ite_no H.out _), (by repeat (first | exact Below.refl _ _ | refine Below.setCell ?_ (by first | (simp; done) | (simp; omega) | omega) _ | refine Below.alloc ?_ (by first | (simp; done) | (simp; omega) | omega) _ | refine below_drewN ?_ _ | refine Below.trans ?_ (Below.mono ‹Below _ _ _› (by first | (simp; done) | (simp; omega) | omega))))⟩

theorem rmid_any (a b : Int) (w : World) :
    Calls Try.prog 54 #[.agg #[.int .i64 a, .int .i64 b]] w fun e w' => e = .returned (.int .i64 (Fx.mid a b)) ∧ Below w.heap.size w w' := by
  by_cases h : Fx.vb a b = true
  · have H := Lib.hid h; clear h
    obtain ⟨u0, u1, u2⟩ := Fx.vb_true.1 H.out
    go_enter Try.func54, Try.ntmps54
    go_wp2_with fail
    refine (rvalid_yes _ _ _ H.out).mono ?_
    rintro e w1 ⟨rfl, hb1⟩
    obtain ⟨hc1, hf1⟩ := bcell hb1
    have hz1 := hb1.size
    try simp at hz1
    have hz1a : w.heap.size < w1.heap.size := by omega
    go_wp2_with fail
    refine (floor_any _ _ _ (by omega) (by omega) (by omega)).mono ?_
    rintro e w' ⟨rfl, rfl⟩
    go_wp2_with fail
    go_ret
    exact ⟨ret_int (Fx.ite_yes H.out _), (by repeat (first | exact Below.refl _ _ | refine Below.setCell ?_ (by first | (simp; done) | (simp; omega) | omega) _ | refine Below.alloc ?_ (by first | (simp; done) | (simp; omega) | omega) _ | refine below_drewN ?_ _ | refine Below.trans ?_ (Below.mono ‹Below _ _ _› (by first | (simp; done) | (simp; omega) | omega))))⟩
  · have H := Lib.hid (show Fx.vb a b = false by simpa using h); clear h
    go_enter Try.func54, Try.ntmps54
    go_wp2_with fail
    refine (rvalid_no _ _ _ H.out).mono ?_
    rintro e w1 ⟨rfl, hb1⟩
    obtain ⟨hc1, hf1⟩ := bcell hb1
    have hz1 := hb1.size
    try simp at hz1
    have hz1a : w.heap.size < w1.heap.size := by omega
    go_wp2_with fail
    go_ret
    exact ⟨ret_int (Fx.ite_no H.out _), (by repeat (first | exact Below.refl _ _ | refine Below.setCell ?_ (by first | (simp; done) | (simp; omega) | omega) _ | refine Below.alloc ?_ (by first | (simp; done) | (simp; omega) | omega) _ | refine below_drewN ?_ _ | refine Below.trans ?_ (Below.mono ‹Below _ _ _› (by first | (simp; done) | (simp; omega) | omega))))⟩











theorem rwithin_any (a b c d : Int) (w : World) :
    Calls Try.prog 49 #[.agg #[.int .i64 a, .int .i64 b], .agg #[.int .i64 c, .int .i64 d]] w fun e w' => e = .returned (.bool (Fx.withinB a b c d)) ∧ Below w.heap.size w w' := by
  by_cases h : Fx.v2 a b c d = true
  · have H := Lib.hid h; clear h
    by_cases c1 : c ≤ a
    · by_cases c2 : b ≤ d
      · have HR : Hid (Fx.withinB a b c d = true) := Lib.hid (by unfold Fx.withinB; rw [H.out]; simp; omega)
        have d0 : decide (c ≤ a) = true := by simp; omega
        have d1 : decide (b ≤ d) = true := by simp; omega
        go_enter Try.func49, Try.ntmps49
        go_wp2_with fail
        refine (rvalid_yes _ _ _ (Fx.v2_true.1 H.out).1).mono ?_
        rintro e w1 ⟨rfl, hb1⟩
        obtain ⟨hc1, hf1⟩ := bcell hb1
        have hz1 := hb1.size
        try simp at hz1
        have hz1b : w.heap.size + 1 < w1.heap.size := by omega
        have hz1a : w.heap.size < w1.heap.size := by omega
        go_wp2_with fail
        refine (rvalid_yes _ _ _ (Fx.v2_true.1 H.out).2).mono ?_
        rintro e w2 ⟨rfl, hb2⟩
        obtain ⟨hc2, hf2⟩ := bcell hb2
        have hz2 := hb2.size
        try simp at hz2
        have hz2b : w.heap.size + 1 < w2.heap.size := by omega
        have hz2a : w.heap.size < w2.heap.size := by omega
        go_wp2_with fail
        go_ret
        exact ⟨ret_bool HR.out.symm, (by repeat (first | exact Below.refl _ _ | refine Below.setCell ?_ (by first | (simp; done) | (simp; omega) | omega) _ | refine Below.alloc ?_ (by first | (simp; done) | (simp; omega) | omega) _ | refine below_drewN ?_ _ | refine Below.trans ?_ (Below.mono ‹Below _ _ _› (by first | (simp; done) | (simp; omega) | omega))))⟩
      · have HR : Hid (Fx.withinB a b c d = false) := Lib.hid (by unfold Fx.withinB; rw [H.out]; simp; omega)
        have d0 : decide (c ≤ a) = true := by simp; omega
        have d1 : decide (b ≤ d) = false := by simp; omega
        go_enter Try.func49, Try.ntmps49
        go_wp2_with fail
        refine (rvalid_yes _ _ _ (Fx.v2_true.1 H.out).1).mono ?_
        rintro e w1 ⟨rfl, hb1⟩
        obtain ⟨hc1, hf1⟩ := bcell hb1
        have hz1 := hb1.size
        try simp at hz1
        have hz1b : w.heap.size + 1 < w1.heap.size := by omega
        have hz1a : w.heap.size < w1.heap.size := by omega
        go_wp2_with fail
        refine (rvalid_yes _ _ _ (Fx.v2_true.1 H.out).2).mono ?_
        rintro e w2 ⟨rfl, hb2⟩
        obtain ⟨hc2, hf2⟩ := bcell hb2
        have hz2 := hb2.size
        try simp at hz2
        have hz2b : w.heap.size + 1 < w2.heap.size := by omega
        have hz2a : w.heap.size < w2.heap.size := by omega
        go_wp2_with fail
        go_ret
        exact ⟨ret_bool HR.out.symm, (by repeat (first | exact Below.refl _ _ | refine Below.setCell ?_ (by first | (simp; done) | (simp; omega) | omega) _ | refine Below.alloc ?_ (by first | (simp; done) | (simp; omega) | omega) _ | refine below_drewN ?_ _ | refine Below.trans ?_ (Below.mono ‹Below _ _ _› (by first | (simp; done) | (simp; omega) | omega))))⟩
    · have HR : Hid (Fx.withinB a b c d = false) := Lib.hid (by unfold Fx.withinB; rw [H.out]; simp; omega)
      have d0 : decide (c ≤ a) = false := by simp; omega
      go_enter Try.func49, Try.ntmps49
      go_wp2_with fail
      refine (rvalid_yes _ _ _ (Fx.v2_true.1 H.out).1).mono ?_
      rintro e w1 ⟨rfl, hb1⟩
      obtain ⟨hc1, hf1⟩ := bcell hb1
      have hz1 := hb1.size
      try simp at hz1
      have hz1b : w.heap.size + 1 < w1.heap.size := by omega
      have hz1a : w.heap.size < w1.heap.size := by omega
      go_wp2_with fail
      refine (rvalid_yes _ _ _ (Fx.v2_true.1 H.out).2).mono ?_
      rintro e w2 ⟨rfl, hb2⟩
      obtain ⟨hc2, hf2⟩ := bcell hb2
      have hz2 := hb2.size
      try simp at hz2
      have hz2b : w.heap.size + 1 < w2.heap.size := by omega
      have hz2a : w.heap.size < w2.heap.size := by omega
      go_wp2_with fail
      go_ret
      exact ⟨ret_bool HR.out.symm, (by repeat (first | exact Below.refl _ _ | refine Below.setCell ?_ (by first | (simp; done) | (simp; omega) | omega) _ | refine Below.alloc ?_ (by first | (simp; done) | (simp; omega) | omega) _ | refine below_drewN ?_ _ | refine Below.trans ?_ (Below.mono ‹Below _ _ _› (by first | (simp; done) | (simp; omega) | omega))))⟩
  · have H := Lib.hid (show Fx.v2 a b c d = false by simpa using h); clear h
    have HR : Hid (Fx.withinB a b c d = false) := Lib.hid (by unfold Fx.withinB; rw [H.out]; rfl)
    by_cases h1 : Fx.vb a b = true
    · have H1 := Lib.hid h1
      have H2 := Lib.hid (show Fx.vb c d = false by have := H.out; unfold Fx.v2 at this; rw [h1] at this; simpa using this); clear h1
      go_enter Try.func49, Try.ntmps49
      go_wp2_with fail
      refine (rvalid_yes _ _ _ H1.out).mono ?_
      rintro e w1 ⟨rfl, hb1⟩
      obtain ⟨hc1, hf1⟩ := bcell hb1
      have hz1 := hb1.size
      try simp at hz1
      have hz1b : w.heap.size + 1 < w1.heap.size := by omega
      have hz1a : w.heap.size < w1.heap.size := by omega
      go_wp2_with fail
      refine (rvalid_no _ _ _ H2.out).mono ?_
      rintro e w2 ⟨rfl, hb2⟩
      obtain ⟨hc2, hf2⟩ := bcell hb2
      have hz2 := hb2.size
      try simp at hz2
      have hz2b : w.heap.size + 1 < w2.heap.size := by omega
      have hz2a : w.heap.size < w2.heap.size := by omega
      go_wp2_with fail
      go_ret
      exact ⟨ret_bool HR.out.symm, (by repeat (first | exact Below.refl _ _ | refine Below.setCell ?_ (by first | (simp; done) | (simp; omega) | omega) _ | refine Below.alloc ?_ (by first | (simp; done) | (simp; omega) | omega) _ | refine below_drewN ?_ _ | refine Below.trans ?_ (Below.mono ‹Below _ _ _› (by first | (simp; done) | (simp; omega) | omega))))⟩
    · have H1 := Lib.hid (show Fx.vb a b = false by simpa using h1); clear h1
      go_enter Try.func49, Try.ntmps49
      go_wp2_with fail
      refine (rvalid_no _ _ _ H1.out).mono ?_
      rintro e w1 ⟨rfl, hb1⟩
      obtain ⟨hc1, hf1⟩ := bcell hb1
      have hz1 := hb1.size
      try simp at hz1
      have hz1b : w.heap.size + 1 < w1.heap.size := by omega
      have hz1a : w.heap.size < w1.heap.size := by omega
      go_wp2_with fail
      go_ret
      exact ⟨ret_bool HR.out.symm, (by repeat (first | exact Below.refl _ _ | refine Below.setCell ?_ (by first | (simp; done) | (simp; omega) | omega) _ | refine Below.alloc ?_ (by first | (simp; done) | (simp; omega) | omega) _ | refine below_drewN ?_ _ | refine Below.trans ?_ (Below.mono ‹Below _ _ _› (by first | (simp; done) | (simp; omega) | omega))))⟩

end Go.Proofs.Ytgnjconhbloocaa

namespace Go.Proofs.Ytgnjconhbloocaa
open Go.RowKit





theorem scaled_any (l h : Int) (w : World) (h0 : -9223372036854775808 ≤ h) (h1 : h ≤ 9223372036854775807) :
    Calls Try.prog 94 #[.int .i64 l, .int .i64 h] w fun e w' => e = .returned (.agg #[.int .i64 (Fx.clamp (l / 65536)), .int .i64 (Fx.clamp (Fx.ce h 65536))]) ∧ Below w.heap.size w w' := by
  go_enter Try.func94, Try.ntmps94
  go_wp2_with fail
  refine (sdown16 _ _).mono ?_
  rintro e w' ⟨rfl, rfl⟩
  go_wp2_with fail
  refine (sup16 _ _ h0 h1).mono ?_
  rintro e w' ⟨rfl, rfl⟩
  go_wp2_with fail
  refine (limited_any _ _ _).mono ?_
  rintro e w1 ⟨rfl, hb1⟩
  obtain ⟨hc1, hf1⟩ := bcell hb1
  have hz1 := hb1.size
  try simp at hz1
  have hz1a : w.heap.size < w1.heap.size := by omega
  go_wp2_with fail
  exact bodyPost_ret (v := .agg #[.int .i64 (Fx.clamp (l / 65536)), .int .i64 (Fx.clamp (Fx.ce h 65536))]) (by simp [results, Try.results94, go_sem, *]) rfl ⟨rfl, (by repeat (first | exact Below.refl _ _ | refine Below.setCell ?_ (by first | (simp; done) | (simp; omega) | omega) _ | refine Below.alloc ?_ (by first | (simp; done) | (simp; omega) | omega) _ | refine below_drewN ?_ _ | refine Below.trans ?_ (Below.mono ‹Below _ _ _› (by first | (simp; done) | (simp; omega) | omega))))⟩

theorem qsame {P : Program} {f : FuncId} {args : Array Value} {w : World} {n : Nat} {v : Value}
    (h : Calls P f args (w.drewN n) fun e w' => e = .returned v ∧ w.drewN n = w') : Calls P f args (w.drewN n) fun e w'' => e = .returned v ∧ ∃ m, w'' = w.drewN m :=
  h.mono fun _ _ ⟨he, hm⟩ => ⟨he, n, hm.symm⟩









end Go.Proofs.Ytgnjconhbloocaa

namespace Go.Proofs.Ytgnjconhbloocaa
open Go.RowKit

/-- A valid interval is returned, and nothing that was there has changed. -/
def SomeIv (w : World) (e : Ending) (w' : World) : Prop := ∃ l h : Int, Fx.vb l h = true ∧ e = .returned (.agg #[.int .i64 l, .int .i64 h]) ∧ Below w.heap.size w w'

/-- A part of the interval from a to b is returned. -/
def PartOf (a b : Int) (w : World) (e : Ending) (w' : World) : Prop := ∃ l h : Int, a ≤ l ∧ l ≤ h ∧ h ≤ b ∧ e = .returned (.agg #[.int .i64 l, .int .i64 h]) ∧ Below w.heap.size w w'

theorem round_any (n k : Int) (w : World) (hk : 0 < k) (hk1 : k ≤ 9223372036854775807) :
    Calls Try.prog 17 #[.int .i64 n, .int .i64 k] w fun e w' => e = .returned (.int .i64 (n % k)) ∧ w = w' := by
  have b1 := Fx.tmod_bd n k hk
  by_cases c : n.tmod k < 0
  · have HE := Lib.hid (Fx.tmod_emod_neg n k hk c)
    go_enter Try.func17, Try.ntmps17
    go_wp2
    all_goals go_ret
    all_goals exact ⟨ret_int HE.out, rfl⟩
  · have HE := Lib.hid (Fx.tmod_emod_pos n k hk (by omega))
    by_cases c0 : 0 ≤ n
    · have HE2 := Lib.hid (Int.tmod_eq_emod_of_nonneg (b := k) c0)
      have h1 := Int.emod_nonneg n (show k ≠ 0 by omega)
      go_enter Try.func17, Try.ntmps17
      go_wp2
      go_ret
      exact ⟨rfl, rfl⟩
    · go_enter Try.func17, Try.ntmps17
      go_wp2
      go_ret
      exact ⟨ret_int HE.out, rfl⟩



theorem part_any (a b m n : Int) (w : World) (hv : Fx.vb a b = true) :
    Calls Try.prog 25 #[.agg #[.int .i64 a, .int .i64 b], .int .i64 m, .int .i64 n] w (PartOf a b w) := by
  obtain ⟨u0, u1, u2⟩ := Fx.vb_true.1 hv
  clear hv
  have s0 := Int.emod_nonneg m (show (b - a + 1 : Int) ≠ 0 by omega)
  have s1 := Int.emod_lt_of_pos m (show (0 : Int) < b - a + 1 by omega)
  have t0 := Int.emod_nonneg (n / 2) (show (b - a + 1 : Int) ≠ 0 by omega)
  have t1 := Int.emod_lt_of_pos (n / 2) (show (0 : Int) < b - a + 1 by omega)
  go_enter Try.func25, Try.ntmps25
  go_wp2_with fail
  go_quiet ((go_at_call 17; exact qsame (round_any _ _ _ (by omega) (by omega))))
  have hb1 := below_drewN (Below.refl ((w.alloc (.cells #[.int .i64 a, .int .i64 b] 32)).alloc (.cells #[.int .i64 0, .int .i64 0] 32)).heap.size ((w.alloc (.cells #[.int .i64 a, .int .i64 b] 32)).alloc (.cells #[.int .i64 0, .int .i64 0] 32))) nq
  generalize ((w.alloc (.cells #[.int .i64 a, .int .i64 b] 32)).alloc (.cells #[.int .i64 0, .int .i64 0] 32)).drewN nq = w1 at *
  obtain ⟨hc1, hf1⟩ := bcell hb1
  have hz1 := hb1.size
  try simp at hz1
  have hz1b : w.heap.size + 1 < w1.heap.size := by omega
  have hz1a : w.heap.size < w1.heap.size := by omega
  go_wp2_with fail
  · exact bodyPost_ret (v := .agg #[.int .i64 (a + m % (b - a + 1)), .int .i64 (a + m % (b - a + 1))]) (by simp [results, Try.results25, go_sem, *]) rfl ⟨_, _, by omega, by omega, by omega, rfl, (by repeat (first | exact Below.refl _ _ | refine Below.setCell ?_ (by first | (simp; done) | (simp; omega) | omega) _ | refine Below.alloc ?_ (by first | (simp; done) | (simp; omega) | omega) _ | refine below_drewN ?_ _ | refine Below.trans ?_ (Below.mono ‹Below _ _ _› (by first | (simp; done) | (simp; omega) | omega))))⟩
  · go_quiet ((go_at_call 17; exact qsame (round_any _ _ _ (by omega) (by omega))))
    have hb2 := below_drewN hb1 nq
    generalize w1.drewN nq = w2 at *
    clear hb1 hc1 hf1 hz1 hz1a hz1b
    clear w1
    obtain ⟨hc2, hf2⟩ := bcell hb2
    have hz2 := hb2.size
    try simp at hz2
    have hz2b : w.heap.size + 1 < w2.heap.size := by omega
    have hz2a : w.heap.size < w2.heap.size := by omega
    generalize hx : m % (b - a + 1) = x at *
    generalize hy : n / 2 % (b - a + 1) = y at *
    clear hx hy
    go_wp2_with fail
    exact bodyPost_ret (v := .agg #[.int .i64 (min (a + x) (a + y)), .int .i64 (max (a + x) (a + y))]) (by simp [results, Try.results25, go_sem, *]) rfl ⟨_, _, by omega, by omega, by omega, rfl, (by repeat (first | exact Below.refl _ _ | refine Below.setCell ?_ (by first | (simp; done) | (simp; omega) | omega) _ | refine Below.alloc ?_ (by first | (simp; done) | (simp; omega) | omega) _ | refine below_drewN ?_ _ | refine Below.trans ?_ (Below.mono ‹Below _ _ _› (by first | (simp; done) | (simp; omega) | omega))))⟩
end Go.Proofs.Ytgnjconhbloocaa

namespace Go.Proofs.Ytgnjconhbloocaa.Fx

/-- The steps of the generator splitmix64. -/
def mix0 (s i : Int) : Int := IntKind.u64.wrap (s + IntKind.u64.wrap (IntKind.u64.wrap (i + 1) * 11400714819323198485))
def mix1 (z : Int) : Int := IntKind.u64.wrap (bits .xor .u64 z (z / 1073741824) * 13787848793156543929)
def mix2 (z : Int) : Int := IntKind.u64.wrap (bits .xor .u64 z (z / 134217728) * 10723151780598845931)
def mix3 (z : Int) : Int := bits .xor .u64 z (z / 2147483648)
def word (s i : Int) : Int := mix3 (mix2 (mix1 (mix0 s i)))

/-- The number at a fraction of an interval. -/
def spread (w lo hi : Int) : Int := if vb lo hi then lo + w * (hi - lo + 1) / 18446744073709551616 else lo
def place (n d lo hi : Int) : Int := if vb lo hi ∧ n < d then lo + n * (hi - lo + 1) / d else lo

theorem place_yes {n d lo hi : Int} (h : vb lo hi = true) (hn : n < d) : place n d lo hi = lo + n * (hi - lo + 1) / d := by unfold place; rw [if_pos ⟨h, hn⟩]
theorem place_not {n d lo hi : Int} (hn : ¬ n < d) : place n d lo hi = lo := by unfold place; rw [if_neg (fun h => hn h.2)]
theorem place_no {n d lo hi : Int} (h : vb lo hi = false) : place n d lo hi = lo := by unfold place; rw [if_neg (fun h' => by rw [h] at h'; exact absurd h'.1 (by decide))]

theorem u64_wrap_bd (x : Int) : 0 ≤ IntKind.u64.wrap x ∧ IntKind.u64.wrap x < 18446744073709551616 := by rw [IntKind.wrap_u64]; omega

theorem frac_bd (a n c : Int) (ha0 : 0 ≤ a) (hac : a < c) (hn : 0 < n) : 0 ≤ a * n / c ∧ a * n / c < n := by
  have hc : 0 < c := by omega
  have h1 := Int.mul_lt_mul_of_pos_right hac hn
  refine ⟨Int.ediv_nonneg (Int.mul_nonneg ha0 (by omega)) (by omega), ?_⟩
  rw [Int.ediv_lt_iff_lt_mul hc, Int.mul_comm n c]
  exact h1

theorem high_lt (a n c : Int) (ha0 : 0 ≤ a) (hac : a < c) (hn : 0 < n) (hn1 : n ≤ 18446744073709551616) : 0 ≤ a * n / 18446744073709551616 ∧ a * n / 18446744073709551616 < c := by
  have h1 := Int.mul_le_mul_of_nonneg_left hn1 ha0
  refine ⟨Int.ediv_nonneg (Int.mul_nonneg ha0 (by omega)) (by omega), ?_⟩
  omega

/-- The table of primes; 0 beyond it. -/
def primes : List Int := [2, 3, 5, 7, 11, 13, 17, 19, 23, 29]
def prime (k : Int) : Int := if k < 0 then 0 else primes.getD k.toNat 0
theorem prime_big (k : Int) (h : 10 ≤ k) : prime k = 0 := by
  unfold prime
  rw [if_neg (by omega), List.getD_eq_getElem?_getD, List.getElem?_eq_none (by simp [primes]; omega)]
  rfl

/-- The radical inverse: what the loop makes of what is left of the index, the numerator and the denominator. -/
def radN (b i n d : Int) : Int × Int := if h : 2 ≤ b ∧ 0 < i then radN b (i / b) (n * b + i % b) (d * b) else (n, d)
termination_by i.toNat
decreasing_by
  have : i / b < i := Int.ediv_lt_self_of_pos_of_ne_one h.2 (by omega) |> fun h => h
  have := Int.ediv_nonneg (show 0 ≤ i by omega) (show 0 ≤ b by omega)
  omega
def rad (b i : Int) : Int × Int := radN b (i % 4294967296) 0 1

theorem radN_step (b i n d : Int) (hb : 2 ≤ b) (hi : 0 < i) : radN b i n d = radN b (i / b) (n * b + i % b) (d * b) := by
  rw [radN, dif_pos ⟨hb, hi⟩]
theorem radN_end (b i n d : Int) (h : ¬ (2 ≤ b ∧ 0 < i)) : radN b i n d = (n, d) := by
  rw [radN, dif_neg h]
theorem rad_small (b i : Int) (h : b < 2) : rad b i = (0, 1) := by unfold rad; exact radN_end _ _ _ _ (by omega)

/-- What holds at the head of each round of the loop that makes the radical inverse of i: j is left, n / d is made. -/
def RadAt (b i j n d : Int) : Prop := radN b j n d = rad b i ∧ 0 ≤ j ∧ j * d ≤ i % 4294967296 ∧ 0 ≤ n ∧ n < d ∧ 1 ≤ d ∧ d < 18446744073709551616 ∧ (d = 1 ∨ j = 0 ∨ b ≤ i % 4294967296)

theorem radAt_start (b i : Int) (hb : 2 ≤ b) (hb1 : b < 18446744073709551616) (hi : 0 ≤ i) : RadAt b i (i % 4294967296) 0 1 :=
  ⟨rfl, by omega, by omega, by omega, by omega, by omega, by omega, .inl rfl⟩

theorem radAt_bd {b i j n d : Int} (h : RadAt b i j n d) : 0 ≤ j ∧ j < 4294967296 ∧ 0 ≤ n ∧ n < d ∧ 1 ≤ d ∧ d < 18446744073709551616 := by
  obtain ⟨_, h1, h2, h3, h4, h5, h6, h7⟩ := h
  have : j * 1 ≤ j * d := Int.mul_le_mul_of_nonneg_left h5 h1
  omega

theorem radAt_room {b i j n d : Int} (hb : 2 ≤ b) (hb1 : b < 18446744073709551616) (h : RadAt b i j n d) (hj : 0 < j) :
    0 ≤ n * b ∧ n * b < 18446744073709551616 ∧ 0 ≤ j % b ∧ n * b + j % b < 18446744073709551616 ∧ 0 ≤ d * b ∧ d * b < 18446744073709551616 ∧ (0 ≤ j / b ∧ j / b < j) := by
  obtain ⟨_, h1, h2, h3, h4, h5, h6, h7⟩ := h
  have g1 : 1 * d ≤ j * d := Int.mul_le_mul_of_nonneg_right (by omega) (by omega)
  have g2 : d * b < 18446744073709551616 := by
    rcases h7 with rfl | h7 | h7
    · omega
    · omega
    · have := Int.mul_le_mul (show d ≤ 4294967295 by omega) (show b ≤ 4294967295 by omega) (by omega) (by omega)
      omega
  have g3 : 0 ≤ n * b := Int.mul_nonneg h3 (by omega)
  have g4 : (n + 1) * b ≤ d * b := Int.mul_le_mul_of_nonneg_right (by omega) (by omega)
  rw [Int.add_mul] at g4
  have g5 := Int.emod_nonneg j (show b ≠ 0 by omega)
  have g6 := Int.emod_lt_of_pos j (show 0 < b by omega)
  have g7 := Int.ediv_nonneg h1 (show 0 ≤ b by omega)
  have g8 : j / b < j := Int.ediv_lt_self_of_pos_of_ne_one hj (by omega)
  omega

theorem radAt_next {b i j n d : Int} (hb : 2 ≤ b) (hb1 : b < 18446744073709551616) (h : RadAt b i j n d) (hj : 0 < j) : RadAt b i (j / b) (n * b + j % b) (d * b) := by
  have hr := radAt_room hb hb1 h hj
  obtain ⟨h0, h1, h2, h3, h4, h5, h6, h7⟩ := h
  have g4 : (n + 1) * b ≤ d * b := Int.mul_le_mul_of_nonneg_right (by omega) (by omega)
  rw [Int.add_mul] at g4
  have g6 := Int.emod_lt_of_pos j (show 0 < b by omega)
  have g9 : 1 * b ≤ d * b := Int.mul_le_mul_of_nonneg_right (by omega) (by omega)
  have g10 : j / b * b ≤ j := by have := Int.mul_ediv_add_emod j b; rw [Int.mul_comm] at this; omega
  have g11 : j / b * b * d ≤ j * d := Int.mul_le_mul_of_nonneg_right g10 (by omega)
  have g12 : j / b * (d * b) = j / b * b * d := by rw [Int.mul_comm d b, Int.mul_assoc]
  refine ⟨by rw [← radN_step b j n d hb hj]; exact h0, by omega, by omega, by omega, by omega, by omega, by omega, ?_⟩
  by_cases hq : j / b = 0
  · exact .inr (.inl hq)
  · refine .inr (.inr ?_)
    have g13 : 1 * b ≤ j / b * b := Int.mul_le_mul_of_nonneg_right (by omega) (by omega)
    have g14 : j * 1 ≤ j * d := Int.mul_le_mul_of_nonneg_left h5 h1
    omega

theorem radAt_end {b i j n d : Int} (h : RadAt b i j n d) (hj : j ≤ 0) : rad b i = (n, d) := by rw [← h.1, radN_end _ _ _ _ (by omega)]

theorem radN_bd {b i : Int} (hb : 2 ≤ b) (hb1 : b < 18446744073709551616) : ∀ (m : Nat) (j n d : Int), j ≤ m → RadAt b i j n d → 0 ≤ (radN b j n d).1 ∧ (radN b j n d).1 < (radN b j n d).2 ∧ (radN b j n d).2 < 18446744073709551616
  | 0, j, n, d, hj, h => by
    rw [radN_end _ _ _ _ (by omega)]
    obtain ⟨_, _, h1, h2, h3, h4⟩ := radAt_bd h
    exact ⟨h1, h2, h4⟩
  | m + 1, j, n, d, hj, h => by
    by_cases hp : 0 < j
    · rw [radN_step _ _ _ _ hb hp]
      have hr := radAt_room hb hb1 h hp
      exact radN_bd hb hb1 m _ _ _ (by omega) (radAt_next hb hb1 h hp)
    · rw [radN_end _ _ _ _ (by omega)]
      obtain ⟨_, _, h1, h2, h3, h4⟩ := radAt_bd h
      exact ⟨h1, h2, h4⟩

theorem rad_bd (b i : Int) (hb1 : b < 18446744073709551616) (hi : 0 ≤ i) : 0 ≤ (rad b i).1 ∧ (rad b i).1 < (rad b i).2 ∧ (rad b i).2 < 18446744073709551616 := by
  by_cases h : b < 2
  · rw [rad_small b i h]; decide
  · exact radN_bd (i := i) (by omega) hb1 (i % 4294967296).toNat _ _ _ (by omega) (radAt_start b i (by omega) hb1 hi)

theorem prime_bd (k : Int) : 0 ≤ prime k ∧ prime k < 30 := by
  unfold prime
  split
  · omega
  · by_cases h : k.toNat < 10
    · have : ∀ j : Nat, j < 10 → 0 ≤ primes.getD j 0 ∧ primes.getD j 0 < 30 := by decide
      exact this _ h
    · rw [List.getD_eq_getElem?_getD, List.getElem?_eq_none (by simp [primes]; omega)]
      decide

theorem mix3_bd (z : Int) (h0 : 0 ≤ z) (h1 : z < 18446744073709551616) : 0 ≤ mix3 z ∧ mix3 z < 18446744073709551616 := by
  unfold mix3
  rw [u64_xor z (z / 2147483648) h0 h1 (by omega) (by omega)]
  have : z.toNat ^^^ (z / 2147483648).toNat < 2 ^ 64 := Nat.xor_lt_two_pow (by omega) (by omega)
  omega

theorem word_bd (s i : Int) : 0 ≤ word s i ∧ word s i < 18446744073709551616 := by
  unfold word
  have := u64_wrap_bd (bits .xor .u64 (mix1 (mix0 s i)) (mix1 (mix0 s i) / 134217728) * 10723151780598845931)
  exact mix3_bd _ this.1 this.2

/-- Number j of sample number i. -/
def haltonAt (L : List (Int × Int)) (i : Int) (j : Nat) : Int := place (rad (prime j) i).1 (rad (prime j) i).2 (L.getD j (0, 0)).1 (L.getD j (0, 0)).2
def uniformAt (L : List (Int × Int)) (s i : Int) (j : Nat) : Int := spread (word s (IntKind.u64.wrap (IntKind.u64.wrap (i * L.length) + j))) (L.getD j (0, 0)).1 (L.getD j (0, 0)).2
def halton (L : List (Int × Int)) (i : Int) : List Int := if boxB L then (List.range L.length).map (haltonAt L i) else []
def uniform (L : List (Int × Int)) (s i : Int) : List Int := if boxB L then (List.range L.length).map (uniformAt L s i) else []

/-- The cells of the numbers f 0 .. f (k - 1). -/
def cellsOf (f : Nat → Int) (k : Nat) : List Value := (List.range k).map fun j => Value.int .i64 (f j)
theorem cellsOf_zero (f : Nat → Int) : cellsOf f 0 = [] := rfl
theorem cellsOf_next (f : Nat → Int) (k : Nat) : cellsOf f (k + 1) = cellsOf f k ++ [.int .i64 (f k)] := by unfold cellsOf; rw [List.range_succ, List.map_append]; rfl
theorem cellsOf_len (f : Nat → Int) (k : Nat) : (cellsOf f k).length = k := by simp [cellsOf]
theorem cellsOf_get (f : Nat → Int) (k j : Nat) (h : j < k) : (cellsOf f k)[j]? = some (.int .i64 (f j)) := by simp [cellsOf, h]

end Go.Proofs.Ytgnjconhbloocaa.Fx

namespace Go.Proofs.Ytgnjconhbloocaa
open Go.RowKit
set_option linter.unusedVariables false

/-- The cells of block b from o on hold the numbers xs. -/
def IntAt (w : World) (b o : Nat) (xs : List Int) : Prop :=
  b < w.heap.size ∧ ∀ i : Nat, i < xs.length → w.cell? ⟨b, o + i, none⟩ = some (.int .i64 (xs.getD i 0))

/-- The slice value v reads as the list xs of numbers. -/
def IntSl (w : World) (v : Value) (xs : List Int) : Prop :=
  ∃ (a : Option Addr) (c : Nat), v = .slice a xs.length c ∧ xs.length ≤ 9223372036854775807 ∧ (0 < xs.length → ∃ b o, a = some ⟨b, o, none⟩ ∧ IntAt w b o xs)

theorem IntAt.ext {w w' : World} {b o : Nat} {xs : List Int} (h : IntAt w b o xs) (hb : Below w.heap.size w w') : IntAt w' b o xs :=
  ⟨Nat.lt_of_lt_of_le h.1 hb.size, fun i hi => (hb.cell (p := ⟨b, _, none⟩) h.1).trans (h.2 i hi)⟩

theorem IntSl.ext {w w' : World} {v : Value} {xs : List Int} (h : IntSl w v xs) (hb : Below w.heap.size w w') : IntSl w' v xs := by
  obtain ⟨a, c, hv, hl, h⟩ := h
  exact ⟨a, c, hv, hl, fun h0 => by obtain ⟨b, o, ha, hI⟩ := h h0; exact ⟨b, o, ha, hI.ext hb⟩⟩

theorem IntSl.nil (w : World) (a : Option Addr) (c : Nat) : IntSl w (.slice a 0 c) [] := ⟨a, c, rfl, by simp, fun h => absurd h (by simp)⟩

theorem owns_ext {w w' : World} {base : Nat} {e : TypeId} {size : Nat} {v : Value} {n : Nat} {xs : List Value} (h : w.ownsRow base e size v n xs) (hb : Below w.heap.size w w') : w'.ownsRow base e size v n xs := by
  have hl := h.lt
  obtain ⟨h0, h⟩ := h
  refine ⟨h0, ?_⟩
  rcases h with h | ⟨g, cap, cur, rfl, hg, hh, h⟩
  · exact .inl h
  · exact .inr ⟨g, cap, cur, rfl, hg, (hb.block g (hl g rfl).2).trans hh, h⟩

theorem IntSl.of_owns {w : World} {base : Nat} {e : TypeId} {v : Value} {n : Nat} {f : Nat → Int} (h : w.ownsRow base e 1 v n (Fx.cellsOf f n)) (hn : n ≤ 9223372036854775807) : IntSl w v ((List.range n).map f) := by
  have hl := h.lt
  have h' := h
  obtain ⟨h0, h⟩ := h
  rcases h with ⟨rfl, rfl⟩ | ⟨g, cap, cur, rfl, hg, hh, h⟩
  · exact IntSl.nil _ _ _
  · refine ⟨some ⟨g, 0, none⟩, cap, by simp, by simpa using hn, fun hp => ⟨g, 0, rfl, (hl g rfl).2, fun i hi => ?_⟩⟩
    simp at hi
    rw [Nat.zero_add, h'.cellAt i (by omega), Fx.cellsOf_get f n i hi]
    simp [List.getD_eq_getElem?_getD, hi]
end Go.Proofs.Ytgnjconhbloocaa
