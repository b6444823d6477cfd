/- Contracts of the references of Uniform and Halton. -/
import Derived.Test.YtlpkjafhpbiffaaDoorSamp3
import Derived.Test.YtlpkjafhpbiffaaDoorIvRow
import Derived.Test.YtlpkjafhpbiffaaDoorIntRow
import Derived.Deep.RegionHeld3
import Derived.Deep.LoopGhost
namespace Go.Proofs.YtlpkjafhpbiffaaDoor
open Go.RowKit
set_option linter.unusedVariables false

theorem info_int64 : (Tryd.prog.info? 2).map (fun i => (i.zero, i.size, i.bytes)) = some (some (.int .i64 0), 1, 8) := by kernel_rfl

theorem keep_iv {w w' w'' : World} {b p q : Nat} {x y : Value} (hb : b < w.heap.size) (h : w'.cell? ⟨b, p, none⟩ = some x ∧ w'.cell? ⟨b, q, none⟩ = some y ∧ Below w.heap.size w w') (h2 : Below w.heap.size w' w'') :
    w''.cell? ⟨b, p, none⟩ = some x ∧ w''.cell? ⟨b, q, none⟩ = some y ∧ Below w.heap.size w w'' :=
  ⟨(h2.cell (p := ⟨b, p, none⟩) hb).trans h.1, (h2.cell (p := ⟨b, q, none⟩) hb).trans h.2.1, h.2.2.trans h2⟩

theorem keep_alloc {w w' : World} {b p q : Nat} {x y : Value} (hb : b < w.heap.size) (o : Obj) (h : w'.cell? ⟨b, p, none⟩ = some x ∧ w'.cell? ⟨b, q, none⟩ = some y ∧ Below w.heap.size w w') :
    (w'.alloc o).cell? ⟨b, p, none⟩ = some x ∧ (w'.alloc o).cell? ⟨b, q, none⟩ = some y ∧ Below w.heap.size w (w'.alloc o) :=
  keep_iv hb h ((Below.refl _ _).alloc h.2.2.size o)

theorem grown_own {w w1 w2 : World} {e : TypeId} {size : Nat} {v : Value} {n : Nat} {xs : List Value} (hb : Below w.heap.size w w1) (hown : w1.ownsRow w.heap.size e size v n xs) (hg : w1.grownBy w2 v.ownBlock) : Below w.heap.size w1 w2 :=
  (Below.refl _ _).grown hg hb.size fun g hk => (hown.lt g hk).1

theorem keep_own {w w' w'' : World} {b p q : Nat} {x y : Value} {e : TypeId} {size : Nat} {v : Value} {n : Nat} {xs : List Value} (hb : b < w.heap.size) (h : w'.cell? ⟨b, p, none⟩ = some x ∧ w'.cell? ⟨b, q, none⟩ = some y ∧ Below w.heap.size w w')
    (hown : w'.ownsRow w.heap.size e size v n xs) (hg : w'.grownBy w'' v.ownBlock) :
    w''.cell? ⟨b, p, none⟩ = some x ∧ w''.cell? ⟨b, q, none⟩ = some y ∧ Below w.heap.size w w'' :=
  keep_iv hb h (grown_own h.2.2 hown hg)

/-- A list of numbers is returned in a slice, and nothing that was there has changed. -/
def GivesInts (xs : List Int) (w : World) (e : Ending) (w' : World) : Prop := ∃ v, e = .returned v ∧ IntSl w' v xs ∧ Below w.heap.size w w'

theorem sampled_yes (v : Value) (L : List (Int × Int)) (w : World) (hI : IvSl w v L) (h : Fx.boxB L = true) :
    Calls Tryd.prog 55 #[v] w fun e w' => e = .returned (.bool true) ∧ Below w.heap.size w w' := by
  rw [← h]; exact sampled_any v L w hI
theorem sampled_no (v : Value) (L : List (Int × Int)) (w : World) (hI : IvSl w v L) (h : Fx.boxB L = false) :
    Calls Tryd.prog 55 #[v] w fun e w' => e = .returned (.bool false) ∧ Below w.heap.size w w' := by
  rw [← h]; exact sampled_any v L w hI

set_option maxHeartbeats 2000000 in
theorem rhalton_any (v : Value) (L : List (Int × Int)) (i : Int) (w : World) (hI : IvSl w v L) (hi0 : 0 ≤ i) (hi1 : i < 18446744073709551616) :
    Calls Tryd.prog 46 #[v, .int .u64 i] w (GivesInts (Fx.halton L i) w) := by
  by_cases hB : Fx.boxB L = true
  · have hlen := Fx.boxB_len hB
    have HE : Fx.halton L i = (List.range L.length).map (Fx.haltonAt L i) := by unfold Fx.halton; rw [if_pos hB]
    rw [HE]; clear HE
    have HB := Lib.hid hB; clear hB
    have HI := Lib.hid hI
    obtain ⟨a, c, rfl, hl, hI⟩ := hI
    obtain ⟨b, o, rfl, hJ⟩ := hI (by omega)
    clear hI
    obtain ⟨i0, hi, hz0, hz1, hz2⟩ := info_parts info_int64
    go_enter Tryd.func46, Tryd.ntmps46
    go_wp2_with (go_at_call 55; refine (sampled_yes _ L _ HI.out HB.out).mono ?_; rintro e w1 ⟨rfl, hb1⟩)
    go_loopw [5, 6] (fun ov kv wr => ∃ k : Nat, k ≤ L.length ∧ kv = .int .i64 k ∧ wr.ownsRow w.heap.size 2 1 ov k (Fx.cellsOf (Fx.haltonAt L i) k) ∧ Below w.heap.size w wr) (fun _ kv _ => L.length - (intOf kv).toNat)
    case atStart => exact ⟨0, Nat.zero_le _, rfl, World.ownsRow_nil _ _ _ _, hb1⟩
    case round =>
      obtain ⟨k, hk, rfl, hown, hb⟩ := hrel
      by_cases hlt : k < L.length
      · obtain ⟨c0, c1⟩ := (hJ.ext hb).2 k hlt
        have hbl := hJ.1
        have pb := Fx.prime_bd k
        have rb := Fx.rad_bd (Fx.prime k) i (by omega) hi0
        have HH : Hid (Fx.haltonAt L i k = Fx.place (Fx.rad (Fx.prime k) i).1 (Fx.rad (Fx.prime k) i).2 (L.getD k (0, 0)).1 (L.getD k (0, 0)).2) := Lib.hid rfl
        generalize (L.getD k (0, 0)).1 = lo at *
        generalize (L.getD k (0, 0)).2 = up at *
        go_wp2_with (first
          | (go_at_call 17; refine (rprime_any _ _).mono ?_; rintro e w2 ⟨rfl, hb2⟩)
          | (go_at_call 14; refine (rradical_any _ i _ pb.1 (by omega) hi0 hi1).mono ?_; rintro e w3 ⟨rfl, rfl⟩))
        have hown2 := owns_ext hown hb2
        have hbw := ext_trans hb hb2
        have hS := keep_iv hbl ⟨c0, c1, hb⟩ (hb2.mono hb.size)
        clear c0 c1 hown hb hb2
        go_region_held3 (fun w' => w'.cell? ⟨b, o + k * 2, none⟩ = some (.int .i64 lo) ∧ w'.cell? ⟨b, o + k * 2 + 1, none⟩ = some (.int .i64 up) ∧ Below w.heap.size w w')
          (first | exact keep_iv hbl hS (Below.refl _ _).drew | exact keep_iv hbl (by assumption) (hb4.mono hbw.size) | exact keep_alloc hbl _ (by assumption) | exact keep_own hbl (by assumption) (hown4.alloc _) hgrow)
          (first
            | (go_at_call 28; refine (rplace_any _ _ lo up _ rb.1 (by omega) (by omega) (by omega)).mono ?_; rintro e w4 ⟨rfl, hb4⟩; have hown4 := owns_ext hown2.drew hb4; have h4 : w.heap.size ≤ w4.heap.size := Nat.le_trans hbw.size hb4.size)
            | (refine step_append_lies _ (by rfl) _ _ _ (by rfl) w.heap.size 2 i0 _ 1 8 Tryd.underlying40 hi hz0 hz1 hz2 rfl (by omega) _ k (Fx.cellsOf (Fx.haltonAt L i) k) (by rfl) (hown4.alloc _) ⟨w4.heap.size, 0, none⟩ 1 1 [.int .i64 (Fx.place (Fx.rad (Fx.prime ↑k) i).fst (Fx.rad (Fx.prime ↑k) i).snd lo up)] (by rfl) (by rfl) (World.news_of_block (cs := #[.int .i64 (Fx.place (Fx.rad (Fx.prime ↑k) i).fst (Fx.rad (Fx.prime ↑k) i).snd lo up)]) (t := 2) (fr := (0, 0)) (heap_alloc_new w4 _)) (by simp [Value.oneCell']) (by omega) (by unfold maxLen; omega) (by omega) (by simp; omega) (w4.heap.size + 1) (by simp) ?_; intro g cap w5 hown5 hgrow hat hlt5) | fail)
        have hnext : w5.ownsRow w.heap.size 2 1 (.slice (some ⟨g, 0, none⟩) (k + 1) cap) (k + 1) (Fx.cellsOf (Fx.haltonAt L i) (k + 1)) := by
          rw [Fx.cellsOf_next, HH.out]; exact hown5
        have hb5 : Below w.heap.size w w5 := (by assumption : _ ∧ _ ∧ Below w.heap.size w w5).2.2
        go_wp2_with fail
        go_roundw
        case rel => exact ⟨k + 1, by omega, by go_num, hnext, hb5⟩
        case measure => simp [intOf]; omega
      · obtain rfl : k = L.length := by omega
        go_wp2_with fail
        go_ret
        exact ⟨_, rfl, IntSl.of_owns hown (by omega), hb⟩
  · have hB : Fx.boxB L = false := by simpa using hB
    have HE : Fx.halton L i = [] := by unfold Fx.halton; rw [hB]; rfl
    rw [HE]; clear HE
    have HB := Lib.hid hB; clear hB
    have HI := Lib.hid hI
    obtain ⟨a, c, rfl, hl, hI⟩ := hI
    clear hI
    go_enter Tryd.func46, Tryd.ntmps46
    go_wp2_with (go_at_call 55; refine (sampled_no _ L _ HI.out HB.out).mono ?_; rintro e w1 ⟨rfl, hb1⟩)
    go_ret
    exact ⟨_, rfl, IntSl.nil _ _ _, hb1⟩
set_option maxHeartbeats 2000000 in
theorem runiform_any (v : Value) (L : List (Int × Int)) (sd i : Int) (w : World) (hI : IvSl w v L) (hi0 : 0 ≤ i) (hi1 : i < 18446744073709551616) :
    Calls Tryd.prog 45 #[v, .int .u64 sd, .int .u64 i] w (GivesInts (Fx.uniform L sd i) w) := by
  by_cases hB : Fx.boxB L = true
  · have hlen := Fx.boxB_len hB
    have HE : Fx.uniform L sd i = (List.range L.length).map (Fx.uniformAt L sd i) := by unfold Fx.uniform; rw [if_pos hB]
    rw [HE]; clear HE
    have HB := Lib.hid hB; clear hB
    have HI := Lib.hid hI
    obtain ⟨a, c, rfl, hl, hI⟩ := hI
    obtain ⟨b, o, rfl, hJ⟩ := hI (by omega)
    clear hI
    obtain ⟨i0, hi, hz0, hz1, hz2⟩ := info_parts info_int64
    go_enter Tryd.func45, Tryd.ntmps45
    go_wp2_with (go_at_call 55; refine (sampled_yes _ L _ HI.out HB.out).mono ?_; rintro e w1 ⟨rfl, hb1⟩)
    go_loopw [7, 8] (fun ov kv wr => ∃ k : Nat, k ≤ L.length ∧ kv = .int .i64 k ∧ wr.ownsRow w.heap.size 2 1 ov k (Fx.cellsOf (Fx.uniformAt L sd i) k) ∧ Below w.heap.size w wr) (fun _ kv _ => L.length - (intOf kv).toNat)
    case atStart => exact ⟨0, Nat.zero_le _, rfl, World.ownsRow_nil _ _ _ _, hb1⟩
    case round =>
      obtain ⟨k, hk, rfl, hown, hb⟩ := hrel
      by_cases hlt : k < L.length
      · obtain ⟨c0, c1⟩ := (hJ.ext hb).2 k hlt
        have hbl := hJ.1
        have wb := Fx.word_bd sd (IntKind.u64.wrap (IntKind.u64.wrap (i * L.length) + k))
        have HH : Hid (Fx.uniformAt L sd i k = Fx.spread (Fx.word sd (IntKind.u64.wrap (IntKind.u64.wrap (i * L.length) + k))) (L.getD k (0, 0)).1 (L.getD k (0, 0)).2) := Lib.hid rfl
        generalize (L.getD k (0, 0)).1 = lo at *
        generalize (L.getD k (0, 0)).2 = up at *
        go_wp2_with fail
        have hS : wr.cell? ⟨b, o + k * 2, none⟩ = some (.int .i64 lo) ∧ wr.cell? ⟨b, o + k * 2 + 1, none⟩ = some (.int .i64 up) ∧ Below w.heap.size w wr := ⟨c0, c1, hb⟩
        clear c0 c1
        have e1 : IntKind.u64.wrap (L.length : Int) = L.length := by rw [IntKind.wrap_u64]; omega
        have e2 : IntKind.u64.wrap (k : Int) = k := by rw [IntKind.wrap_u64]; omega
        go_region_held3 (fun w' => w'.cell? ⟨b, o + k * 2, none⟩ = some (.int .i64 lo) ∧ w'.cell? ⟨b, o + k * 2 + 1, none⟩ = some (.int .i64 up) ∧ Below w.heap.size w w')
          (first | exact keep_iv hbl hS (Below.refl _ _).drew | exact keep_iv hbl (by assumption) (hb4.mono hb.size) | assumption | exact keep_alloc hbl _ (by assumption) | exact keep_own hbl (by assumption) (hown4.alloc _) hgrow)
          (first
            | (go_at_call 26; refine (rspread_any _ lo up _ wb.1 wb.2).mono ?_; rintro e w4 ⟨rfl, hb4⟩; have hown4 := owns_ext hown.drew hb4; have h4 : w.heap.size ≤ w4.heap.size := Nat.le_trans hb.size hb4.size)
            | (go_at_call 23; refine (rword_any _ _ _).mono ?_; rintro e w4 ⟨rfl, rfl⟩)
            | (refine step_append_lies _ (by rfl) _ _ _ (by rfl) w.heap.size 2 i0 _ 1 8 Tryd.underlying40 hi hz0 hz1 hz2 rfl (by omega) _ k (Fx.cellsOf (Fx.uniformAt L sd i) k) (by rfl) (hown4.alloc _) ⟨w4.heap.size, 0, none⟩ 1 1 [.int .i64 (Fx.spread (Fx.word sd (IntKind.u64.wrap (IntKind.u64.wrap (i * L.length) + k))) lo up)] (by rfl) (by rfl) (World.news_of_block (cs := #[.int .i64 (Fx.spread (Fx.word sd (IntKind.u64.wrap (IntKind.u64.wrap (i * L.length) + k))) lo up)]) (t := 2) (fr := (0, 0)) (heap_alloc_new w4 _)) (by simp [Value.oneCell']) (by omega) (by unfold maxLen; omega) (by omega) (by simp; omega) (w4.heap.size + 1) (by simp) ?_; intro g cap w5 hown5 hgrow hat hlt5) | fail)
        clear e1 e2
        have hnext : w5.ownsRow w.heap.size 2 1 (.slice (some ⟨g, 0, none⟩) (k + 1) cap) (k + 1) (Fx.cellsOf (Fx.uniformAt L sd i) (k + 1)) := by
          rw [Fx.cellsOf_next, HH.out]; exact hown5
        have hb5 : Below w.heap.size w w5 := (by assumption : _ ∧ _ ∧ Below w.heap.size w w5).2.2
        go_wp2_with fail
        go_roundw
        case rel => exact ⟨k + 1, by omega, by go_num, hnext, hb5⟩
        case measure => simp [intOf]; omega
      · obtain rfl : k = L.length := by omega
        go_wp2_with fail
        go_ret
        exact ⟨_, rfl, IntSl.of_owns hown (by omega), hb⟩
  · have hB : Fx.boxB L = false := by simpa using hB
    have HE : Fx.uniform L sd i = [] := by unfold Fx.uniform; rw [hB]; rfl
    rw [HE]; clear HE
    have HB := Lib.hid hB; clear hB
    have HI := Lib.hid hI
    obtain ⟨a, c, rfl, hl, hI⟩ := hI
    clear hI
    go_enter Tryd.func45, Tryd.ntmps45
    go_wp2_with (go_at_call 55; refine (sampled_no _ L _ HI.out HB.out).mono ?_; rintro e w1 ⟨rfl, hb1⟩)
    go_ret
    exact ⟨_, rfl, IntSl.nil _ _ _, hb1⟩
end Go.Proofs.YtlpkjafhpbiffaaDoor
