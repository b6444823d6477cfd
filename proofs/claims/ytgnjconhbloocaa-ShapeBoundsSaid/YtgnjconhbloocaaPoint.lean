/- A point as a vector of intervals. -/
import Derived.Test.YtgnjconhbloocaaPts2
import Derived.Test.YtgnjconhbloocaaEq
import Derived.Test.YtgnjconhbloocaaComb1
import Derived.Deep.MidRow
namespace Go.Proofs.Ytgnjconhbloocaa
open Go.RowKit
set_option linter.unusedVariables false

/-- The vector of intervals of a point. -/
def Fx.ofV (a b c : Int) : Fx.V3 := ⟨Fx.clamp a, Fx.clamp a, Fx.clamp b, Fx.clamp b, Fx.clamp c, Fx.clamp c⟩

/-- What stays while a point is made: the three numbers. -/
abbrev KeepP (w : World) (g1 : Nat) (a b c : Int) (w' : World) : Prop :=
  w'.cell? ⟨w.heap.size, 0, none⟩ = some (.int .i64 a) ∧ w'.cell? ⟨w.heap.size, 1, none⟩ = some (.int .i64 b) ∧ w'.cell? ⟨w.heap.size, 2, none⟩ = some (.int .i64 c) ∧ g1 < w'.heap.size ∧ w.heap.size < w'.heap.size ∧ Below w.heap.size w w'
theorem KeepP.step {w : World} {g1 : Nat} {a b c : Int} {w1 w2 : World} (h : KeepP w g1 a b c w1) (hb : Below w1.heap.size w1 w2) : KeepP w g1 a b c w2 := by
  obtain ⟨h0, h1, h2, h3, h3', h4⟩ := h
  have := hb.size
  exact ⟨(hb.cell (p := ⟨w.heap.size, 0, none⟩) (show w.heap.size < _ by omega)).trans h0, (hb.cell (p := ⟨w.heap.size, 1, none⟩) (show w.heap.size < _ by omega)).trans h1, (hb.cell (p := ⟨w.heap.size, 2, none⟩) (show w.heap.size < _ by omega)).trans h2, by omega, by omega, h4.trans (hb.mono (by omega))⟩
theorem arr_one (x : Fx.V3) : (x.arr.all fun v => v.oneCell') = true := by simp [Fx.V3.arr, Value.oneCell']
theorem there6 {w : World} {g : Nat} {t : TypeId} {x : Fx.V3} (h : Whole w g t x.arr) : w.there g 0 6 := fun j hj => by
  rw [Nat.zero_add]
  refine ⟨?_, h.frozen j⟩
  rw [h.cell j]
  match j, hj with
  | 0, _ => rfl
  | 1, _ => rfl
  | 2, _ => rfl
  | 3, _ => rfl
  | 4, _ => rfl
  | 5, _ => rfl
theorem cell_far6 {w : World} {g h i : Nat} (x : Fx.V3) (hne : h ≠ g) : (set6 w g x).cell? ⟨h, i, none⟩ = w.cell? ⟨h, i, none⟩ := by
  have e : (set6 w g x).heap[h]? = w.heap[h]? := by
    unfold set6
    rw [Below.heap_setCell _ _ _ _ hne, Below.heap_setCell _ _ _ _ hne, Below.heap_setCell _ _ _ _ hne, Below.heap_setCell _ _ _ _ hne, Below.heap_setCell _ _ _ _ hne, Below.heap_setCell _ _ _ _ hne]
  simp only [World.cell?, e]
theorem KeepP.set {w : World} {g1 : Nat} {a b c : Int} {w1 : World} (h : KeepP w g1 a b c w1) (hg : w.heap.size < g1) (x : Fx.V3) : KeepP w g1 a b c ((((((w1.setCell ⟨g1, 0, none⟩ (.int .i64 x.a)).setCell ⟨g1, 1, none⟩ (.int .i64 x.b)).setCell ⟨g1, 2, none⟩ (.int .i64 x.c)).setCell ⟨g1, 3, none⟩ (.int .i64 x.d)).setCell ⟨g1, 4, none⟩ (.int .i64 x.e)).setCell ⟨g1, 5, none⟩ (.int .i64 x.f)) := by
  obtain ⟨h0, h1, h2, h3, h3', h4⟩ := h
  show KeepP w g1 a b c (set6 w1 (g1) x)
  exact ⟨(cell_far6 x (by omega)).trans h0, (cell_far6 x (by omega)).trans h1, (cell_far6 x (by omega)).trans h2, by simpa [set6, World.setCell] using h3, by simpa [set6, World.setCell] using h3', set6_ext x h4 (by omega)⟩

theorem ret_cell2 {tmps : Array Value} {w : World} {g : Nat} {x : Fx.V3} (hW : Whole w g 34 x.arr) (h2 : tmps.getD 2 undef = .pointer (some ⟨g, 0, none⟩)) :
    (results Try.f31 tmps).run Try.prog w = .ok (.agg x.arr) w := by
  have c0 : _ = some (Value.int .i64 x.a) := hW.cell 0
  have c1 : _ = some (Value.int .i64 x.b) := hW.cell 1
  have c2 : _ = some (Value.int .i64 x.c) := hW.cell 2
  have c3 : _ = some (Value.int .i64 x.d) := hW.cell 3
  have c4 : _ = some (Value.int .i64 x.e) := hW.cell 4
  have c5 : _ = some (Value.int .i64 x.f) := hW.cell 5
  clear hW
  have h2' : tmps[2]?.getD undef = .pointer (some ⟨g, 0, none⟩) := by simpa using h2
  simp [results, Try.results31, go_sem, h2', c0, c1, c2, c3, c4, c5, Fx.V3.arr]

set_option maxRecDepth 100000 in
set_option maxHeartbeats 1000000 in
theorem rpoint_any (a b c : Int) (w : World) :
    Calls Try.prog 31 #[.agg #[.int .i64 a, .int .i64 b, .int .i64 c]] w fun e w' => e = .returned (.agg (Fx.ofV a b c).arr) ∧ Below w.heap.size w w' := by
  go_enter Try.func31, Try.ntmps31
  go_wp2_with fail
  generalize hw0 : ((w.alloc (Obj.cells #[.int .i64 a, .int .i64 b, .int .i64 c] 66)).alloc (Obj.cells #[.int .i64 0, .int .i64 0, .int .i64 0, .int .i64 0, .int .i64 0, .int .i64 0] 34)) = w0
  have hK : KeepP w (w.heap.size + 1) a b c w0 := by
    rw [← hw0]
    have h1 := (Whole.new w 66 #[.int .i64 a, .int .i64 b, .int .i64 c]).alloc (Obj.cells #[.int .i64 0, .int .i64 0, .int .i64 0, .int .i64 0, .int .i64 0, .int .i64 0] 34)
    exact ⟨h1.cell 0, h1.cell 1, h1.cell 2, by simp, by simp; omega, (by repeat (first | assumption | exact ext_refl _ | refine ext_alloc ?_ _ | refine ext_drewN ?_ _ | refine ext_drew ?_ | refine ext_set ?_ (by first | (simp; done) | (simp; omega) | omega) _ | refine ext_trans ?_ ‹Below _ _ _›))⟩
  have hT : Whole w0 (w.heap.size + 1) 34 Fx.V3.zero.arr := by
    rw [← hw0]
    have h1 := Whole.new (w.alloc (Obj.cells #[.int .i64 a, .int .i64 b, .int .i64 c] 66)) 34 Fx.V3.zero.arr
    rw [World.size_alloc] at h1
    exact h1
  clear hw0
  obtain ⟨g1, hg1⟩ : ∃ g1, g1 = w.heap.size + 1 := ⟨_, rfl⟩
  have hg : w.heap.size < g1 := by omega
  rw [← hg1] at hK hT ⊢
  clear hg1
  have HT := Lib.hid hT
  clear hT
  refine wp_region_noPanic ?_
  refine wp_region_held_drew (S := (fun w' => w'.cell? ⟨w.heap.size, 0, none⟩ = some (.int .i64 a) ∧ w'.cell? ⟨w.heap.size, 1, none⟩ = some (.int .i64 b) ∧ w'.cell? ⟨w.heap.size, 2, none⟩ = some (.int .i64 c) ∧ g1 < w'.heap.size ∧ w.heap.size < w'.heap.size ∧ Below w.heap.size w w')) (by kernel_rfl) ?_ (fun hHeld => ?_)
  · exact hK.step (ext_drew (ext_refl _))
  refine wpAnyH_take (i := 0) (v := ?_) (by simp only [List.getElem?_toArray, List.getElem?_cons_succ, List.getElem?_cons_zero]; rfl) (by kernel_rfl) (by kernel_rfl) (by kernel_rfl) (fun _ _ _ h => h) (Or.inl ⟨by rfl, ?_⟩) (by assumption) ?_
  rotate_left
  · intro w hSw; (try dsimp only at hSw); go_simp; first | done | with_reducible rfl
  try simp only [Act.put, List.setIfInBounds_toArray, List.set_cons_zero, List.set_cons_succ]
  refine wpAnyH_take (i := 1) (v := ?_) (by simp only [List.getElem?_toArray, List.getElem?_cons_succ, List.getElem?_cons_zero]; rfl) (by kernel_rfl) (by kernel_rfl) (by kernel_rfl) (fun _ _ _ h => h) (Or.inl ⟨by rfl, ?_⟩) (by assumption) ?_
  rotate_left
  · intro w hSw; (try dsimp only at hSw); go_simp; first | done | with_reducible rfl
  try simp only [Act.put, List.setIfInBounds_toArray, List.set_cons_zero, List.set_cons_succ]
  refine wpAnyH_take (i := 3) (v := ?_) (by simp only [List.getElem?_toArray, List.getElem?_cons_succ, List.getElem?_cons_zero]; rfl) (by kernel_rfl) (by kernel_rfl) (by kernel_rfl) (fun _ _ _ h => h) (Or.inl ⟨by rfl, ?_⟩) (by assumption) ?_
  rotate_left
  · intro w hSw; (try dsimp only at hSw); go_simp; first | done | with_reducible rfl
  try simp only [Act.put, List.setIfInBounds_toArray, List.set_cons_zero, List.set_cons_succ]
  refine wpAnyH_take (i := 4) (v := ?_) (by simp only [List.getElem?_toArray, List.getElem?_cons_succ, List.getElem?_cons_zero]; rfl) (by kernel_rfl) (by kernel_rfl) (by kernel_rfl) (fun _ _ _ h => h) (Or.inl ⟨by rfl, ?_⟩) (by assumption) ?_
  rotate_left
  · intro w hSw; (try dsimp only at hSw); go_simp; first | done | with_reducible rfl
  try simp only [Act.put, List.setIfInBounds_toArray, List.set_cons_zero, List.set_cons_succ]
  refine wpAnyH_take (i := 6) (v := ?_) (by simp only [List.getElem?_toArray, List.getElem?_cons_succ, List.getElem?_cons_zero]; rfl) (by kernel_rfl) (by kernel_rfl) (by kernel_rfl) (fun _ _ _ h => h) (Or.inl ⟨by rfl, ?_⟩) (by assumption) ?_
  rotate_left
  · intro w hSw; (try dsimp only at hSw); go_simp; first | done | with_reducible rfl
  try simp only [Act.put, List.setIfInBounds_toArray, List.set_cons_zero, List.set_cons_succ]
  refine wpAnyH_take (i := 7) (v := ?_) (by simp only [List.getElem?_toArray, List.getElem?_cons_succ, List.getElem?_cons_zero]; rfl) (by kernel_rfl) (by kernel_rfl) (by kernel_rfl) (fun _ _ _ h => h) (Or.inl ⟨by rfl, ?_⟩) (by assumption) ?_
  rotate_left
  · intro w hSw; (try dsimp only at hSw); go_simp; first | done | with_reducible rfl
  try simp only [Act.put, List.setIfInBounds_toArray, List.set_cons_zero, List.set_cons_succ]
  refine wpAnyH_ready (rs := [2]) (by kernel_rfl) (by simp) ?_
  refine AllReadyH.cons (by simp only [List.getElem?_toArray, List.getElem?_cons_succ, List.getElem?_cons_zero]; rfl) (fun K hK => ?_) AllReadyH.nil
  go_simp
  refine (rof_any _ _).mono ?_
  rintro e w1 ⟨rfl, hb1⟩
  go_wp2_with fail
  refine hK.out _ _ ?_ (fun hHeld => ?_)
  · exact KeepP.step hHeld hb1
  clear hK K
  try simp only [Act.put, List.setIfInBounds_toArray, List.set_cons_zero, List.set_cons_succ]
  refine wpAnyH_ready (rs := [5]) (by kernel_rfl) (by simp) ?_
  refine AllReadyH.cons (by simp only [List.getElem?_toArray, List.getElem?_cons_succ, List.getElem?_cons_zero]; rfl) (fun K hK => ?_) AllReadyH.nil
  go_simp
  refine (rof_any _ _).mono ?_
  rintro e w2 ⟨rfl, hb2⟩
  go_wp2_with fail
  refine hK.out _ _ ?_ (fun hHeld => ?_)
  · exact KeepP.step hHeld hb2
  clear hK K
  try simp only [Act.put, List.setIfInBounds_toArray, List.set_cons_zero, List.set_cons_succ]
  refine wpAnyH_ready (rs := [8]) (by kernel_rfl) (by simp) ?_
  refine AllReadyH.cons (by simp only [List.getElem?_toArray, List.getElem?_cons_succ, List.getElem?_cons_zero]; rfl) (fun K hK => ?_) AllReadyH.nil
  go_simp
  refine (rof_any _ _).mono ?_
  rintro e w3 ⟨rfl, hb3⟩
  go_wp2_with fail
  refine hK.out _ _ ?_ (fun hHeld => ?_)
  · exact KeepP.step hHeld hb3
  clear hK K
  try simp only [Act.put, List.setIfInBounds_toArray, List.set_cons_zero, List.set_cons_succ]
  refine wpAnyH_take (i := 9) (v := ?_) (by simp only [List.getElem?_toArray, List.getElem?_cons_succ, List.getElem?_cons_zero]; rfl) (by kernel_rfl) (by kernel_rfl) (by kernel_rfl) (fun _ _ _ h => h) (Or.inl ⟨by rfl, ?_⟩) (by assumption) ?_
  rotate_left
  · intro w hSw; (try dsimp only at hSw); go_simp; first | done | with_reducible rfl
  try simp only [Act.put, List.setIfInBounds_toArray, List.set_cons_zero, List.set_cons_succ]
  refine wpAnyH_ready (rs := [10]) (by kernel_rfl) (by simp) ?_
  refine AllReadyH.cons (by simp only [List.getElem?_toArray, List.getElem?_cons_succ, List.getElem?_cons_zero]; rfl) (fun K hK => ?_) AllReadyH.nil
  rw [if_pos (by rfl)]
  have hT3 := ((HT.out.drew.ext hb1).ext hb2).ext hb3
  refine wp_store_mid _ _ _ rfl g1 0 (Fx.ofV a b c).arr rfl rfl (there6 hT3) (by kernel_rfl) (arr_one _) ?_
  refine hK.out _ _ ?_ (fun hHeld => ?_)
  · exact KeepP.set hHeld hg (Fx.ofV a b c)
  clear hK K
  try simp only [Act.put, List.setIfInBounds_toArray, List.set_cons_zero, List.set_cons_succ]
  refine wpAnyH_done (by kernel_rfl) ?_ _
  refine NoPanic.normal ?_
  have hW4 : Whole (w3.setCells g1 0 (Fx.ofV a b c).arr.toList) g1 34 (Fx.ofV a b c).arr := set6_whole (Fx.ofV a b c) hT3
  obtain ⟨-, -, -, -, -, hB4⟩ := hHeld
  generalize w3.setCells g1 0 (Fx.ofV a b c).arr.toList = w4 at *
  clear hb3 hT3
  go_wp2_with fail
  exact bodyPost_ret (ret_cell2 hW4 rfl) rfl ⟨rfl, hB4⟩
end Go.Proofs.Ytgnjconhbloocaa
