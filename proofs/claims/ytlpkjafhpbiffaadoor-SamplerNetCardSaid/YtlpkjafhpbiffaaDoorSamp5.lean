/- Contracts of sampler.Halton and sampler.Uniform. -/
import Derived.Test.YtlpkjafhpbiffaaDoorSamp4
import Derived.Deep.RegionLaw
namespace Go.Proofs.YtlpkjafhpbiffaaDoor
open Go.RowKit
set_option linter.unusedVariables false

theorem halton_idle (p : Addr) (w : World) :
    CallsD Tryd.prog 36 #[.pointer (some p)] .returning w fun e u' w' => e = .returned (.tuple #[]) ∧ u' = .returning ∧ w' = w := by
  refine callsD_of_wpS Tryd.func36 rfl fun c₀ cs hu => ?_
  apply wpS_seq
  apply wpS_region
  simp [wpOpsS, go_sem, recoverD, hu, Tryd.ntmps36, Exit.thenS]
  refine wpS_cond (t := false) (by simp [Act.eval, Array.replicate]) ?_
  simp only [Bool.false_eq_true, if_false]
  refine wpS_of_wp (wp_skip ?_)
  cases c₀
  simp_all [bodyPostS, results, Tryd.results36]

theorem isBox_yes (v : Value) (L : List (Int × Int)) (w : World) (hI : IvSl w v L) (h : Fx.boxB L = true) :
    Calls Tryd.prog 37 #[v] w fun e w' => e = .returned (.bool true) ∧ Below w.heap.size w w' := by
  rw [← h]; exact isBox_any v L w hI

theorem isBox_no (v : Value) (L : List (Int × Int)) (w : World) (hI : IvSl w v L) (h : Fx.boxB L = false) :
    Calls Tryd.prog 37 #[v] w fun e w' => e = .returned (.bool false) ∧ Below w.heap.size w w' := by
  rw [← h]; exact isBox_any v L w hI

section
variable {w w' w'' : World} {g : Nat} {x y : Value}
theorem two_ext (h : w'.cell? ⟨g, 0, none⟩ = some x ∧ w'.cell? ⟨g, 1, none⟩ = some y ∧ g < w'.heap.size ∧ Below w.heap.size w w') (hb : Below w'.heap.size w' w'') :
    w''.cell? ⟨g, 0, none⟩ = some x ∧ w''.cell? ⟨g, 1, none⟩ = some y ∧ g < w''.heap.size ∧ Below w.heap.size w w'' :=
  ⟨(hb.cell (p := ⟨g, 0, none⟩) h.2.2.1).trans h.1, (hb.cell (p := ⟨g, 1, none⟩) h.2.2.1).trans h.2.1, Nat.lt_of_lt_of_le h.2.2.1 hb.size, ext_trans h.2.2.2 hb⟩
theorem two_drew (h : w'.cell? ⟨g, 0, none⟩ = some x ∧ w'.cell? ⟨g, 1, none⟩ = some y ∧ g < w'.heap.size ∧ Below w.heap.size w w') :
    w'.drew.cell? ⟨g, 0, none⟩ = some x ∧ w'.drew.cell? ⟨g, 1, none⟩ = some y ∧ g < w'.drew.heap.size ∧ Below w.heap.size w w'.drew := two_ext h (ext_drew (ext_refl _))
theorem two_alloc (o : Obj) (h : w'.cell? ⟨g, 0, none⟩ = some x ∧ w'.cell? ⟨g, 1, none⟩ = some y ∧ g < w'.heap.size ∧ Below w.heap.size w w') :
    (w'.alloc o).cell? ⟨g, 0, none⟩ = some x ∧ (w'.alloc o).cell? ⟨g, 1, none⟩ = some y ∧ g < (w'.alloc o).heap.size ∧ Below w.heap.size w (w'.alloc o) := two_ext h (ext_alloc (ext_refl _) _)
theorem two_grown {row : Option Nat} (h : w'.cell? ⟨g, 0, none⟩ = some x ∧ w'.cell? ⟨g, 1, none⟩ = some y ∧ g < w'.heap.size ∧ Below w.heap.size w w') (hg : w'.grownBy w'' row) (hne : some g ≠ row) (hr : ∀ k, row = some k → w.heap.size ≤ k) :
    w''.cell? ⟨g, 0, none⟩ = some x ∧ w''.cell? ⟨g, 1, none⟩ = some y ∧ g < w''.heap.size ∧ Below w.heap.size w w'' :=
  ⟨(hg.cell_far ⟨g, 0, none⟩ h.2.2.1 hne).trans h.1, (hg.cell_far ⟨g, 1, none⟩ h.2.2.1 hne).trans h.2.1, Nat.lt_of_lt_of_le h.2.2.1 hg.size, h.2.2.2.grown hg h.2.2.2.size hr⟩
theorem two_set {p : Addr} {u : Value} (hp : p.block ≠ g) (hp2 : w.heap.size ≤ p.block) (h : w'.cell? ⟨g, 0, none⟩ = some x ∧ w'.cell? ⟨g, 1, none⟩ = some y ∧ g < w'.heap.size ∧ Below w.heap.size w w') :
    (w'.setCell p u).cell? ⟨g, 0, none⟩ = some x ∧ (w'.setCell p u).cell? ⟨g, 1, none⟩ = some y ∧ g < (w'.setCell p u).heap.size ∧ Below w.heap.size w (w'.setCell p u) :=
  ⟨(World.cell?_setCell_other w' p ⟨g, 0, none⟩ u (fun e => hp (by rw [e]))).trans h.1, (World.cell?_setCell_other w' p ⟨g, 1, none⟩ u (fun e => hp (by rw [e]))).trans h.2.1, by simpa [World.setCell] using h.2.2.1, h.2.2.2.setCell hp2 u⟩
end

set_option maxHeartbeats 4000000 in
theorem halton_any (v : Value) (L : List (Int × Int)) (i : Int) (w : World) (hT : PTab w) (hz : 0 < w.heap.size) (hI : IvSl w v L) (hi0 : 0 ≤ i) (hi1 : i < 18446744073709551616) :
    Calls Tryd.prog 21 #[v, .int .u64 i] w (GivesInts (Fx.halton L i) w) := by
  have hmf : ∀ (fn : Fn) (first cap : Array Value) (w : World), (Instr.makeFunc fn first cap).run Tryd.prog w = .ok (.func fn first cap) w := fun _ _ _ _ => rfl
  by_cases hB : Fx.boxB L = true
  · have hlen := Fx.boxB_len hB
    have HE : Fx.halton L i = (List.range L.length).map (Fx.haltonAt L i) := by unfold Fx.halton; rw [if_pos hB]
    rw [HE]; clear HE
    have HB := Lib.hid hB; clear hB
    have HI := Lib.hid hI
    have HT := Lib.hid hT; clear hT
    obtain ⟨a, c, rfl, hl, hI⟩ := hI
    obtain ⟨b, o, rfl, hJ⟩ := hI (by omega)
    clear hI
    obtain ⟨i0, hi, hz0, hz1, hz2⟩ := info_parts info_int64
    go_enter_defers Tryd.func21, Tryd.ntmps21
    go_wp2_with (go_at_call 37; refine (isBox_yes _ L _ (HI.out.ext (ext_alloc (ext_refl _) _)) HB.out).mono ?_; rintro e w1 ⟨rfl, hb1⟩)
    have hW1 : Whole w1 w.heap.size 40 #[.slice none 0 0] := (Whole.new w _ _).ext hb1
    have hB1 : Below w.heap.size w w1 := (by repeat (first | assumption | exact ext_refl _ | refine ext_alloc ?_ _ | refine ext_drewN ?_ _ | refine ext_drew ?_ | refine ext_set ?_ (by first | (simp; done) | (simp; omega) | omega) _ | refine ext_trans ?_ ‹Below _ _ _›))
    clear hb1
    go_loopw [15] (fun kv wr => ∃ (k : Nat) (ov : Value), k ≤ L.length ∧ kv = .int .i64 k ∧ Whole wr w.heap.size 40 #[ov] ∧ wr.ownsRow (w.heap.size + 1) 2 1 ov k (Fx.cellsOf (Fx.haltonAt L i) k) ∧ Below w.heap.size w wr) (fun kv _ => L.length - (intOf kv).toNat)
    case atStart => exact ⟨0, _, Nat.zero_le _, rfl, hW1, World.ownsRow_nil _ _ _ _, hB1⟩
    case round =>
      obtain ⟨k, ov, hk, rfl, hW, hown, hb⟩ := hrel
      by_cases hlt : k < L.length
      · obtain ⟨c0, c1⟩ := (hJ.ext hb).2 k hlt
        have hbl := hJ.1
        have pb := Fx.prime_bd k
        have rb := Fx.rad_bd (Fx.prime k) i (by omega) hi0
        have HH : Hid (Fx.haltonAt L i k = Fx.place (Fx.rad (Fx.prime k) i).1 (Fx.rad (Fx.prime k) i).2 (L.getD k (0, 0)).1 (L.getD k (0, 0)).2) := Lib.hid rfl
        generalize (L.getD k (0, 0)).1 = lo at *
        generalize (L.getD k (0, 0)).2 = up at *
        have hwz := hb.size
        go_wp2_with (first
          | (go_at_call 16; refine (prime_any _ _ (HT.out.ext (ext_alloc hb _) hz) (by first | (simp; done) | (simp; omega))).mono ?_; rintro e w2 ⟨rfl, hb2⟩)
          | (go_at_call 13; refine (radical_any _ i _ pb.1 (by omega) hi0 hi1).mono ?_; rintro e w3 ⟨rfl, hb3⟩))
        have hne : some wr.heap.size ≠ ov.ownBlock := fun e => by have := (hown.lt _ e.symm).2; omega
        have hneB : some w.heap.size ≠ ov.ownBlock := fun e => by have := (hown.lt _ e.symm).1; omega
        have hBr : ∀ k, ov.ownBlock = some k → w.heap.size ≤ k := fun k e => by have := (hown.lt _ e).1; omega
        have hBg : w.heap.size ≠ wr.heap.size := fun e => by have := hW.lt; omega
        have hV3 := ((Whole.new wr 39 #[.int .i64 lo, .int .i64 up]).ext hb2).ext hb3
        have hW3 := ((hW.alloc (.cells #[.int .i64 lo, .int .i64 up] 39)).ext hb2).ext hb3
        have hown3 := owns_ext (owns_ext (hown.alloc (.cells #[.int .i64 lo, .int .i64 up] 39)) hb2) hb3
        have hB3 : Below w.heap.size w w3 := ext_trans (ext_trans (ext_alloc hb _) hb2) hb3
        have hS : w3.cell? ⟨wr.heap.size, 0, none⟩ = some (.int .i64 lo) ∧ w3.cell? ⟨wr.heap.size, 1, none⟩ = some (.int .i64 up) ∧ wr.heap.size < w3.heap.size ∧ Below w.heap.size w w3 := ⟨hV3.cell 0, hV3.cell 1, hV3.lt, hB3⟩
        have hc3 : w3.cell? ⟨w.heap.size, 0, none⟩ = some ov := hW3.cell 0
        have hz3 := hW3.lt
        have HW := Lib.hid hW3
        clear c0 c1 hW hb hb2 hb3 hV3 hW3 hown
        obtain ⟨d0, d1, dz, dB⟩ := hS
        refine wp_region_noPanic ?_
        go_region_law (first
            | (refine step_append_lies _ (by rfl) _ _ _ (by rfl) (w.heap.size + 1) 2 i0 _ 1 8 Tryd.underlying40 hi hz0 hz1 hz2 rfl (by omega) ov k (Fx.cellsOf (Fx.haltonAt L i) k) (by rfl) (hown4.alloc _) ⟨w4.heap.size, 0, none⟩ 1 1 [.int .i64 (Fx.place (Fx.rad (Fx.prime ↑k) i).fst (Fx.rad (Fx.prime ↑k) i).snd lo up)] (by rfl) (by rfl) (World.news_of_block (cs := #[.int .i64 (Fx.place (Fx.rad (Fx.prime ↑k) i).fst (Fx.rad (Fx.prime ↑k) i).snd lo up)]) (t := 2) (fr := (0, 0)) (heap_alloc_new w4 _)) (by simp [Value.oneCell']) (by omega) (by unfold maxLen; omega) (by omega) (by simp; omega) (w4.heap.size + 1) (by simp) ?_; intro g cap w5 hown5 hgrow hat hlt5; have hW5 := (HW4.out.alloc _).grown hgrow hneB; have hc5 : w5.cell? ⟨w.heap.size, 0, none⟩ = some ov := hW5.cell 0; have hf5 : w5.frozen? ⟨w.heap.size, 0, none⟩ = false := hW5.frozen 0; have HW5 := Lib.hid hW5; clear hW5)
            | (go_simp; go_at_call 27; refine (place_any _ _ lo up _ rb.1 (by omega) (by omega) (by omega)).mono ?_; rintro e w4 ⟨rfl, hb4⟩; have hown4 := owns_ext hown3.drew hb4; have hW4 := HW.out.drew.ext hb4; have hc4 : w4.cell? ⟨w.heap.size, 0, none⟩ = some ov := hW4.cell 0; have hz4 := hW4.lt; have HW4 := Lib.hid hW4; clear hW4)
            | fail)
        all_goals (refine NoPanic.normal ?_)
        all_goals
          have hb4' : Below w3.heap.size w3 w4 := (ext_drew (ext_refl w3)).trans hb4
          have hB5 : Below w.heap.size w w5 := (ext_alloc (ext_trans hB3 hb4') _).grown hgrow (by simp; omega) hBr
          have hnext := ownsRow_setCell_below (a := ⟨w.heap.size, 0, none⟩) (show w5.ownsRow (w.heap.size + 1) 2 1 (.slice (some ⟨g, 0, none⟩) (k + 1) cap) (k + 1) (Fx.cellsOf (Fx.haltonAt L i) (k + 1)) by rw [Fx.cellsOf_next, HH.out]; exact hown5) (Nat.lt_succ_self _) (.slice (some ⟨g, 0, none⟩) (k + 1) cap)
          have hWn := HW5.out.store 0 (.slice (some ⟨g, 0, none⟩) (k + 1) cap)
          have HN := Lib.hid hnext
          have HWn := Lib.hid hWn
          have HBn := Lib.hid (ext_set hB5 (p := ⟨w.heap.size, 0, none⟩) (Nat.le_refl _) (.slice (some ⟨g, 0, none⟩) (k + 1) cap))
          clear hnext hWn hown5 hgrow hat hlt5 hc5 hf5 HW5 hB5 hb4'
          go_wp2_with fail
          go_roundw
          case rel => exact ⟨k + 1, _, by omega, by go_num, HWn.out, HN.out, HBn.out⟩
          case measure => simp [intOf]; omega
      · obtain rfl : k = L.length := by omega
        obtain ⟨g, cap, rfl, _, _⟩ := hown.form (by omega)
        have hG := Lib.hid (IntSl.of_owns (ownsRow_setCell_below (a := ⟨w.heap.size, 0, none⟩) hown (Nat.lt_succ_self _) (.slice (some ⟨g, 0, none⟩) L.length cap)) (by omega))
        have hc := hW.cell 0
        have hf := hW.frozen 0
        simp at hc
        go_wp2_with fail
        refine leaves_cons (f := 36) (args := #[.pointer (some ⟨w.heap.size, 0, none⟩)]) (by simp) (by simp [go_sem]) ?_
        refine (halton_idle ⟨w.heap.size, 0, none⟩ _).mono ?_
        rintro e u' w'' ⟨rfl, rfl, rfl⟩
        simp [Leaves, settle, results, Tryd.results21, go_sem, *]
        exact ⟨_, rfl, hG.out, (by repeat (first | assumption | exact ext_refl _ | refine ext_alloc ?_ _ | refine ext_drewN ?_ _ | refine ext_drew ?_ | refine ext_set ?_ (by first | (simp; done) | (simp; omega) | omega) _ | refine ext_trans ?_ ‹Below _ _ _›))⟩
  · have hB : Fx.boxB L = false := by simpa using hB
    have HE : Fx.halton L i = [] := by unfold Fx.halton; rw [hB]; rfl
    rw [HE]; clear HE
    have HB := Lib.hid hB; clear hB
    have HI := Lib.hid hI
    obtain ⟨a, c, rfl, hl, hI⟩ := hI
    clear hI
    go_enter_defers Tryd.func21, Tryd.ntmps21
    go_wp2_with (go_at_call 37; refine (isBox_no _ L _ (HI.out.ext (ext_alloc (ext_refl _) _)) HB.out).mono ?_; rintro e w1 ⟨rfl, hb1⟩; obtain ⟨hc, hf⟩ := bcell hb1; have hz1 : w.heap.size < w1.heap.size := (by have := hb1.size; simp at this; omega))
    refine leaves_cons (f := 36) (args := #[.pointer (some ⟨w.heap.size, 0, none⟩)]) (by simp) (by simp [go_sem]) ?_
    refine (halton_idle ⟨w.heap.size, 0, none⟩ _).mono ?_
    rintro e u' w'' ⟨rfl, rfl, rfl⟩
    simp [Leaves, settle, results, Tryd.results21, go_sem, *]
    exact ⟨_, rfl, IntSl.nil _ _ _, (by repeat (first | assumption | exact ext_refl _ | refine ext_alloc ?_ _ | refine ext_drewN ?_ _ | refine ext_drew ?_ | refine ext_set ?_ (by first | (simp; done) | (simp; omega) | omega) _ | refine ext_trans ?_ ‹Below _ _ _›))⟩
theorem uniform_idle (p : Addr) (w : World) :
    CallsD Tryd.prog 49 #[.pointer (some p)] .returning w fun e u' w' => e = .returned (.tuple #[]) ∧ u' = .returning ∧ w' = w := by
  refine callsD_of_wpS Tryd.func49 rfl fun c₀ cs hu => ?_
  apply wpS_seq
  apply wpS_region
  simp [wpOpsS, go_sem, recoverD, hu, Tryd.ntmps49, Exit.thenS]
  refine wpS_cond (t := false) (by simp [Act.eval, Array.replicate]) ?_
  simp only [Bool.false_eq_true, if_false]
  refine wpS_of_wp (wp_skip ?_)
  cases c₀
  simp_all [bodyPostS, results, Tryd.results49]

set_option maxHeartbeats 4000000 in
theorem uniform_any (v : Value) (L : List (Int × Int)) (sd i : Int) (w : World) (hI : IvSl w v L) (hi0 : 0 ≤ i) (hi1 : i < 18446744073709551616) :
    Calls Tryd.prog 31 #[v, .int .u64 sd, .int .u64 i] w (GivesInts (Fx.uniform L sd i) w) := by
  have hmf : ∀ (fn : Fn) (first cap : Array Value) (w : World), (Instr.makeFunc fn first cap).run Tryd.prog w = .ok (.func fn first cap) w := fun _ _ _ _ => rfl
  by_cases hB : Fx.boxB L = true
  · have hlen := Fx.boxB_len hB
    have HE : Fx.uniform L sd i = (List.range L.length).map (Fx.uniformAt L sd i) := by unfold Fx.uniform; rw [if_pos hB]
    rw [HE]; clear HE
    have HB := Lib.hid hB; clear hB
    have HI := Lib.hid hI
    obtain ⟨a, c, rfl, hl, hI⟩ := hI
    obtain ⟨b, o, rfl, hJ⟩ := hI (by omega)
    clear hI
    obtain ⟨i0, hi, hz0, hz1, hz2⟩ := info_parts info_int64
    go_enter_defers Tryd.func31, Tryd.ntmps31
    go_wp2_with (go_at_call 37; refine (isBox_yes _ L _ (HI.out.ext (ext_alloc (ext_refl _) _)) HB.out).mono ?_; rintro e w1 ⟨rfl, hb1⟩)
    have hW1 : Whole w1 w.heap.size 40 #[.slice none 0 0] := (Whole.new w _ _).ext hb1
    have hB1 : Below w.heap.size w w1 := (by repeat (first | assumption | exact ext_refl _ | refine ext_alloc ?_ _ | refine ext_drewN ?_ _ | refine ext_drew ?_ | refine ext_set ?_ (by first | (simp; done) | (simp; omega) | omega) _ | refine ext_trans ?_ ‹Below _ _ _›))
    clear hb1
    go_loopw [16] (fun kv wr => ∃ (k : Nat) (ov : Value), k ≤ L.length ∧ kv = .int .i64 k ∧ Whole wr w.heap.size 40 #[ov] ∧ wr.ownsRow (w.heap.size + 1) 2 1 ov k (Fx.cellsOf (Fx.uniformAt L sd i) k) ∧ Below w.heap.size w wr) (fun kv _ => L.length - (intOf kv).toNat)
    case atStart => exact ⟨0, _, Nat.zero_le _, rfl, hW1, World.ownsRow_nil _ _ _ _, hB1⟩
    case round =>
      obtain ⟨k, ov, hk, rfl, hW, hown, hb⟩ := hrel
      by_cases hlt : k < L.length
      · obtain ⟨c0, c1⟩ := (hJ.ext hb).2 k hlt
        have hbl := hJ.1
        have wb := Fx.word_bd sd (IntKind.u64.wrap (IntKind.u64.wrap (i * L.length) + k))
        have HH : Hid (Fx.uniformAt L sd i k = Fx.spread (Fx.word sd (IntKind.u64.wrap (IntKind.u64.wrap (i * L.length) + k))) (L.getD k (0, 0)).1 (L.getD k (0, 0)).2) := Lib.hid rfl
        generalize (L.getD k (0, 0)).1 = lo at *
        generalize (L.getD k (0, 0)).2 = up at *
        have hwz := hb.size
        go_wp2_with (go_at_call 22; refine (word_any _ _ _).mono ?_; rintro e w3 ⟨rfl, rfl⟩)
        have hne : some wr.heap.size ≠ ov.ownBlock := fun e => by have := (hown.lt _ e.symm).2; omega
        have hneB : some w.heap.size ≠ ov.ownBlock := fun e => by have := (hown.lt _ e.symm).1; omega
        have hBr : ∀ k, ov.ownBlock = some k → w.heap.size ≤ k := fun k e => by have := (hown.lt _ e).1; omega
        have hBg : w.heap.size ≠ wr.heap.size := fun e => by have := hW.lt; omega
        have hV3 := Whole.new wr 39 #[.int .i64 lo, .int .i64 up]
        have hW3 := hW.alloc (.cells #[.int .i64 lo, .int .i64 up] 39)
        have hown3 := hown.alloc (.cells #[.int .i64 lo, .int .i64 up] 39)
        have hB3 : Below w.heap.size w (wr.alloc (.cells #[.int .i64 lo, .int .i64 up] 39)) := ext_alloc hb _
        generalize wr.alloc (.cells #[.int .i64 lo, .int .i64 up] 39) = w3 at *
        have hS : w3.cell? ⟨wr.heap.size, 0, none⟩ = some (.int .i64 lo) ∧ w3.cell? ⟨wr.heap.size, 1, none⟩ = some (.int .i64 up) ∧ wr.heap.size < w3.heap.size ∧ Below w.heap.size w w3 := ⟨hV3.cell 0, hV3.cell 1, hV3.lt, hB3⟩
        have hc3 : w3.cell? ⟨w.heap.size, 0, none⟩ = some ov := hW3.cell 0
        have hz3 := hW3.lt
        have HW := Lib.hid hW3
        clear c0 c1 hW hb hV3 hW3 hown
        obtain ⟨d0, d1, dz, dB⟩ := hS
        refine wp_region_noPanic ?_
        go_region_law (first
            | (refine step_append_lies _ (by rfl) _ _ _ (by rfl) (w.heap.size + 1) 2 i0 _ 1 8 Tryd.underlying40 hi hz0 hz1 hz2 rfl (by omega) ov k (Fx.cellsOf (Fx.uniformAt L sd i) k) (by rfl) (hown4.alloc _) ⟨w4.heap.size, 0, none⟩ 1 1 [.int .i64 (Fx.spread (Fx.word sd (IntKind.u64.wrap (IntKind.u64.wrap (i * L.length) + k))) lo up)] (by rfl) (by rfl) (World.news_of_block (cs := #[.int .i64 (Fx.spread (Fx.word sd (IntKind.u64.wrap (IntKind.u64.wrap (i * L.length) + k))) lo up)]) (t := 2) (fr := (0, 0)) (heap_alloc_new w4 _)) (by simp [Value.oneCell']) (by omega) (by unfold maxLen; omega) (by omega) (by simp; omega) (w4.heap.size + 1) (by simp) ?_; intro g cap w5 hown5 hgrow hat hlt5; have hW5 := (HW4.out.alloc _).grown hgrow hneB; have hc5 : w5.cell? ⟨w.heap.size, 0, none⟩ = some ov := hW5.cell 0; have hf5 : w5.frozen? ⟨w.heap.size, 0, none⟩ = false := hW5.frozen 0; have HW5 := Lib.hid hW5; clear hW5)
            | (go_simp; go_at_call 25; refine (spread_any _ lo up _ wb.1 wb.2).mono ?_; rintro e w4 ⟨rfl, hb4⟩; have hown4 := owns_ext hown3.drew hb4; have hW4 := HW.out.drew.ext hb4; have hc4 : w4.cell? ⟨w.heap.size, 0, none⟩ = some ov := hW4.cell 0; have hz4 := hW4.lt; have HW4 := Lib.hid hW4; clear hW4)
            | fail)
        all_goals (refine NoPanic.normal ?_)
        all_goals
          have hb4' : Below w3.heap.size w3 w4 := (ext_drew (ext_refl w3)).trans hb4
          have hB5 : Below w.heap.size w w5 := (ext_alloc (ext_trans hB3 hb4') _).grown hgrow (by simp; omega) hBr
          have hnext := ownsRow_setCell_below (a := ⟨w.heap.size, 0, none⟩) (show w5.ownsRow (w.heap.size + 1) 2 1 (.slice (some ⟨g, 0, none⟩) (k + 1) cap) (k + 1) (Fx.cellsOf (Fx.uniformAt L sd i) (k + 1)) by rw [Fx.cellsOf_next, HH.out]; exact hown5) (Nat.lt_succ_self _) (.slice (some ⟨g, 0, none⟩) (k + 1) cap)
          have hWn := HW5.out.store 0 (.slice (some ⟨g, 0, none⟩) (k + 1) cap)
          have HN := Lib.hid hnext
          have HWn := Lib.hid hWn
          have HBn := Lib.hid (ext_set hB5 (p := ⟨w.heap.size, 0, none⟩) (Nat.le_refl _) (.slice (some ⟨g, 0, none⟩) (k + 1) cap))
          clear hnext hWn hown5 hgrow hat hlt5 hc5 hf5 HW5 hB5 hb4'
          go_wp2_with fail
          go_roundw
          case rel => exact ⟨k + 1, _, by omega, by go_num, HWn.out, HN.out, HBn.out⟩
          case measure => simp [intOf]; omega
      · obtain rfl : k = L.length := by omega
        obtain ⟨g, cap, rfl, _, _⟩ := hown.form (by omega)
        have hG := Lib.hid (IntSl.of_owns (ownsRow_setCell_below (a := ⟨w.heap.size, 0, none⟩) hown (Nat.lt_succ_self _) (.slice (some ⟨g, 0, none⟩) L.length cap)) (by omega))
        have hc := hW.cell 0
        have hf := hW.frozen 0
        simp at hc
        go_wp2_with fail
        refine leaves_cons (f := 49) (args := #[.pointer (some ⟨w.heap.size, 0, none⟩)]) (by simp) (by simp [go_sem]) ?_
        refine (uniform_idle ⟨w.heap.size, 0, none⟩ _).mono ?_
        rintro e u' w'' ⟨rfl, rfl, rfl⟩
        simp [Leaves, settle, results, Tryd.results31, go_sem, *]
        exact ⟨_, rfl, hG.out, (by repeat (first | assumption | exact ext_refl _ | refine ext_alloc ?_ _ | refine ext_drewN ?_ _ | refine ext_drew ?_ | refine ext_set ?_ (by first | (simp; done) | (simp; omega) | omega) _ | refine ext_trans ?_ ‹Below _ _ _›))⟩
  · have hB : Fx.boxB L = false := by simpa using hB
    have HE : Fx.uniform L sd i = [] := by unfold Fx.uniform; rw [hB]; rfl
    rw [HE]; clear HE
    have HB := Lib.hid hB; clear hB
    have HI := Lib.hid hI
    obtain ⟨a, c, rfl, hl, hI⟩ := hI
    clear hI
    go_enter_defers Tryd.func31, Tryd.ntmps31
    go_wp2_with (go_at_call 37; refine (isBox_no _ L _ (HI.out.ext (ext_alloc (ext_refl _) _)) HB.out).mono ?_; rintro e w1 ⟨rfl, hb1⟩; obtain ⟨hc, hf⟩ := bcell hb1; have hz1 : w.heap.size < w1.heap.size := (by have := hb1.size; simp at this; omega))
    refine leaves_cons (f := 49) (args := #[.pointer (some ⟨w.heap.size, 0, none⟩)]) (by simp) (by simp [go_sem]) ?_
    refine (uniform_idle ⟨w.heap.size, 0, none⟩ _).mono ?_
    rintro e u' w'' ⟨rfl, rfl, rfl⟩
    simp [Leaves, settle, results, Tryd.results31, go_sem, *]
    exact ⟨_, rfl, IntSl.nil _ _ _, (by repeat (first | assumption | exact ext_refl _ | refine ext_alloc ?_ _ | refine ext_drewN ?_ _ | refine ext_drew ?_ | refine ext_set ?_ (by first | (simp; done) | (simp; omega) | omega) _ | refine ext_trans ?_ ‹Below _ _ _›))⟩
end Go.Proofs.YtlpkjafhpbiffaaDoor
