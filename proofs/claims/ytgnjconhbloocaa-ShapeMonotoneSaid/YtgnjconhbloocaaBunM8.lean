/- The maker of joints. The maker of robots. (under way) The maker of scenes: what is known while one is made. The maker of scenes. The maker of a shape: the last shape of a scene. A part of a pose: what is known while it is made, and that it places points within those of the pose. WithinVec: three intervals within three others. -/
import Derived.Test.YtgnjconhbloocaaBunM7
import Derived.Test.YtgnjconhbloocaaBunM2
import Derived.Test.YtgnjconhbloocaaBunM5
import Derived.Test.YtgnjconhbloocaaBunM3
import Derived.Test.YtgnjconhbloocaaBunM1
namespace Go.Proofs.Ytgnjconhbloocaa
open Go.RowKit
set_option linter.unusedVariables false

/-- A name of one letter. -/
theorem letter_any (i : Nat) (w : World) (hi : i < 3) :
    Calls Try.prog 81 #[.int .i64 i] w fun e w' => (∃ s, e = .returned (.string s)) ∧ w' = w := by
  have c : i = 0 ∨ i = 1 ∨ i = 2 := by omega
  clear hi
  rcases c with rfl | rfl | rfl
  all_goals
    go_enter Try.func81, Try.ntmps81
    go_wp2_with fail
    go_ret
    exact ⟨⟨_, rfl⟩, rfl⟩

abbrev jArr (s : ByteArray) (kd pa ox oy oz lo hi wt ac : Int) : Array Value := #[.string s, .int .i64 kd, .int .i64 pa, .int .i64 ox, .int .i64 oy, .int .i64 oz, .int .i64 lo, .int .i64 hi, .int .i64 wt, .int .i64 65536, .int .i64 ac, .int .i64 327680]
abbrev jZero : Array Value := #[.string ⟨#[]⟩, .int .i64 0, .int .i64 0, .int .i64 0, .int .i64 0, .int .i64 0, .int .i64 0, .int .i64 0, .int .i64 0, .int .i64 0, .int .i64 0, .int .i64 0]
theorem kinds (k : Nat) (hk : k < 8) : ∃ kd : Int, 0 ≤ kd ∧ kd ≤ 5 ∧ ∀ w : World, (Instr.index 119 (.agg #[.int .i64 3, .int .i64 3, .int .i64 1, .int .i64 2, .int .i64 4, .int .i64 5, .int .i64 3, .int .i64 0]) (.int .i64 (k : Int))).run Try.prog w = .ok (.int .i64 kd) w := by
  have c : k = 0 ∨ k = 1 ∨ k = 2 ∨ k = 3 ∨ k = 4 ∨ k = 5 ∨ k = 6 ∨ k = 7 := by omega
  rcases c with rfl | rfl | rfl | rfl | rfl | rfl | rfl | rfl
  · exact ⟨3, by omega, by omega, fun _ => by kernel_rfl⟩
  · exact ⟨3, by omega, by omega, fun _ => by kernel_rfl⟩
  · exact ⟨1, by omega, by omega, fun _ => by kernel_rfl⟩
  · exact ⟨2, by omega, by omega, fun _ => by kernel_rfl⟩
  · exact ⟨4, by omega, by omega, fun _ => by kernel_rfl⟩
  · exact ⟨5, by omega, by omega, fun _ => by kernel_rfl⟩
  · exact ⟨3, by omega, by omega, fun _ => by kernel_rfl⟩
  · exact ⟨0, by omega, by omega, fun _ => by kernel_rfl⟩
/-- Some joint is returned. -/
def GivesJ (w : World) (B g : Nat) (e : Ending) (w' : World) : Prop := ∃ (s : ByteArray) (kd pa ox oy oz lo hi wt ac : Int), e = .returned (.agg (jArr s kd pa ox oy oz lo hi wt ac)) ∧ Kept w B g w'
theorem jArr_one (s : ByteArray) (kd pa ox oy oz lo hi wt ac : Int) : ((jArr s kd pa ox oy oz lo hi wt ac).all fun v => v.oneCell') = true := by simp [Value.oneCell']
/-- What is known while a joint is made. -/
def JtS (w : World) (B g q : Nat) (cs : Array Value) (w' : World) : Prop := Whole w' q 112 cs ∧ Whole w' w.heap.size 112 jZero ∧ Kept w B g w' ∧ w.heap.size < q
theorem JtS.next {w : World} {B g q : Nat} {cs : Array Value} {w1 w2 : World} (h : JtS w B g q cs w1) (hs : Src w2 B g) (hg : w1.grownBy w2 (some g)) : JtS w B g q cs w2 :=
  ⟨h.1.grown hg (fun e => by injection e with e; have := h.2.2.1.2.1; have := h.2.2.2; omega), h.2.1.grown hg (fun e => by injection e with e; have := h.2.2.1.2.1; omega), h.2.2.1.next hs hg, h.2.2.2⟩
theorem JtS.put {w : World} {B g q : Nat} {cs cs' : Array Value} {w1 : World} (h : JtS w B g q cs w1) (o : Nat) (v : Value) (he : cs.setIfInBounds o v = cs') : JtS w B g q cs' (w1.setCell ⟨q, o, none⟩ v) :=
  ⟨he ▸ h.1.store o v, h.2.1.farN [v] (by have := h.2.2.2; omega) o, h.2.2.1.setN (by have := h.2.2.2; omega) [v] o, h.2.2.2⟩

set_option maxRecDepth 100000 in
set_option maxHeartbeats 4000000 in
theorem joint_any (B g i : Nat) (w : World) (hs : Src w B g) (hi : i < 3) :
    Calls Try.prog 71 #[.pointer (some ⟨g, 0, none⟩), .int .i64 i] w (GivesJ w B g) := by
  have K0 := Lib.hid (Kept.refl hs)
  have hg0 := hs.lt
  clear hs
  go_enter Try.func71, Try.ntmps71
  go_wp2_with fail
  refine (letter_any i _ hi).mono ?_
  rintro e w1 ⟨⟨s, rfl⟩, rfl⟩
  go_wp2_with fail
  have K1 := Lib.hid (K0.out.alloc (.cells jZero 112))
  have HZ1 := Lib.hid (Whole.new w 112 jZero)
  clear K0
  generalize w.alloc (.cells jZero 112) = w1 at *
  refine (next_any B g 4 w1 K1.out.1 (by omega) (by omega)).mono ?_
  rintro e w2 ⟨x, x0, x1, rfl, hs2, hg2⟩
  have HZ2 := Lib.hid (HZ1.out.grown hg2 (fun e => by injection e; omega))
  have K2 := Lib.hid (K1.out.next hs2 hg2)
  clear hs2 hg2 K1 HZ1
  go_wp2_with fail
  refine (next_any B g 3 w2 K2.out.1 (by omega) (by omega)).mono ?_
  rintro e w3 ⟨y, y0, y1, rfl, hs3, hg3⟩
  have HZ3 := Lib.hid (HZ2.out.grown hg3 (fun e => by injection e; omega))
  have K3 := Lib.hid (K2.out.next hs3 hg3)
  clear hs3 hg3 K2 HZ2
  have hq := HZ3.out.lt
  have J1 : Hid (JtS w B g w3.heap.size (jArr s 0 (i - 1) 0 0 0 0 0 (1 + x) (65536 + y)) (w3.alloc (.cells (jArr s 0 (i - 1) 0 0 0 0 0 (1 + x) (65536 + y)) 112))) := Lib.hid ⟨Whole.new _ _ _, HZ3.out.alloc _, K3.out.alloc _, hq⟩
  clear HZ3 K3
  go_wp2_with fail
  generalize w3.alloc (.cells (jArr s 0 (i - 1) 0 0 0 0 0 (1 + x) (65536 + y)) 112) = w4 at *
  generalize hqq : w3.heap.size = q at *
  clear hqq
  refine (next_any B g 8 w4 J1.out.2.2.1.1 (by omega) (by omega)).mono ?_
  rintro e w5 ⟨k, k0, k1, rfl, hs5, hg5⟩
  have J2 := Lib.hid (J1.out.next hs5 hg5)
  clear hs5 hg5 J1
  obtain ⟨k, rfl⟩ : ∃ m : Nat, k = (m : Int) := ⟨k.toNat, by omega⟩
  obtain ⟨kd, kd0, kd1, hix⟩ := kinds k (by omega)
  have c1 : w5.cell? ⟨q, 1, none⟩ = some (.int .i64 0) := J2.out.1.cell 1
  have f1 := J2.out.1.frozen 1
  have J3 := Lib.hid (J2.out.put 1 (.int .i64 kd) (cs' := jArr s kd (i - 1) 0 0 0 0 0 (1 + x) (65536 + y)) rfl)
  clear J2
  go_wp2_with fail
  clear c1 f1 hix
  generalize w5.setCell ⟨q, 1, none⟩ (.int .i64 kd) = w6 at *
  refine (next_any B g 4 w6 J3.out.2.2.1.1 (by omega) (by omega)).mono ?_
  rintro e w7 ⟨z, z0, z1, rfl, hs7, hg7⟩
  have J4 := Lib.hid (J3.out.next hs7 hg7)
  clear hs7 hg7 J3
  have c2 : w7.cell? ⟨q, 2, none⟩ = some (.int .i64 (i - 1)) := J4.out.1.cell 2
  have f2 := J4.out.1.frozen 2
  by_cases hz : z = 1
  · subst hz
    have J5 := Lib.hid (J4.out.put 2 (.int .i64 (-1)) (cs' := jArr s kd (-1) 0 0 0 0 0 (1 + x) (65536 + y)) rfl)
    clear J4
    by_cases hi0 : i = 0
    · subst hi0
      have c1 : (w7.setCell ⟨q, 2, none⟩ (.int .i64 (-1))).cell? ⟨q, 1, none⟩ = some (.int .i64 kd) := J5.out.1.cell 1
      by_cases q0 : kd = 0
      · subst q0
        go_wp2_with (first | refine wpList_load_mid rfl 112 _ rfl q 0 rfl (jArr s 0 (-1) 0 0 0 0 0 (1 + x) (65536 + y)).toList _ (J5.out).1.all Try.underlying112 rfl (by kernel_rfl) ?_ | refine wpList_store_mid rfl 112 _ _ rfl w.heap.size 0 (jArr s 0 (-1) 0 0 0 0 0 (1 + x) (65536 + y)) rfl rfl (there_all (J5.out).2.1 12 (Nat.le_refl _)) (by kernel_rfl) (jArr_one _ _ _ _ _ _ _ _ _ _) ?_)
        exact bodyPost_ret (ret_cell Try.results71 rfl ((J5.out).2.1.full (jArr s 0 (-1) 0 0 0 0 0 (1 + x) (65536 + y)) rfl) Try.underlying112 rfl (by kernel_rfl)) rfl ⟨_, _, _, _, _, _, _, _, _, _, rfl, (J5.out).2.2.1.setN (Nat.le_refl _) _ 0⟩
      · by_cases q4 : kd = 4
        · subst q4
          go_wp2_with fail
          clear c1
          refine (next_any B g 3 (w7.setCell ⟨q, 2, none⟩ (.int .i64 (-1))) J5.out.2.2.1.1 (by omega) (by omega)).mono ?_
          rintro e wa ⟨a, a0, a1, rfl, hs_, hg_⟩
          have Ja := Lib.hid (J5.out.next hs_ hg_)
          clear hs_ hg_ J5
          go_wp2_with fail
          refine (next_any B g 4 wa Ja.out.2.2.1.1 (by omega) (by omega)).mono ?_
          rintro e wb ⟨b, b0, b1, rfl, hs_, hg_⟩
          have Jb := Lib.hid (Ja.out.next hs_ hg_)
          clear hs_ hg_ Ja
          have c6 : wb.cell? ⟨q, 6, none⟩ = some (.int .i64 0) := Jb.out.1.cell 6
          have c7 : wb.cell? ⟨q, 7, none⟩ = some (.int .i64 0) := Jb.out.1.cell 7
          have f6 := Jb.out.1.frozen 6
          have f7 := Jb.out.1.frozen 7
          have HJ : Hid (JtS w B g q (jArr s 4 (-1) 0 0 0 (-a * 65536) (b * 32768) (1 + x) (65536 + y)) ((wb.setCell ⟨q, 6, none⟩ (.int .i64 (-a * 65536))).setCell ⟨q, 7, none⟩ (.int .i64 (b * 32768)))) := Lib.hid ((Jb.out.put 6 (.int .i64 (-a * 65536)) rfl).put 7 (.int .i64 (b * 32768)) rfl)
          clear Jb
          go_wp2_with (first | refine wpList_load_mid rfl 112 _ rfl q 0 rfl (jArr s 4 (-1) 0 0 0 (-a * 65536) (b * 32768) (1 + x) (65536 + y)).toList _ (HJ.out).1.all Try.underlying112 rfl (by kernel_rfl) ?_ | refine wpList_store_mid rfl 112 _ _ rfl w.heap.size 0 (jArr s 4 (-1) 0 0 0 (-a * 65536) (b * 32768) (1 + x) (65536 + y)) rfl rfl (there_all (HJ.out).2.1 12 (Nat.le_refl _)) (by kernel_rfl) (jArr_one _ _ _ _ _ _ _ _ _ _) ?_)
          exact bodyPost_ret (ret_cell Try.results71 rfl ((HJ.out).2.1.full (jArr s 4 (-1) 0 0 0 (-a * 65536) (b * 32768) (1 + x) (65536 + y)) rfl) Try.underlying112 rfl (by kernel_rfl)) rfl ⟨_, _, _, _, _, _, _, _, _, _, rfl, (HJ.out).2.2.1.setN (Nat.le_refl _) _ 0⟩
        · by_cases q5 : kd = 5
          · subst q5
            go_wp2_with fail
            clear c1
            refine (next_any B g 3 (w7.setCell ⟨q, 2, none⟩ (.int .i64 (-1))) J5.out.2.2.1.1 (by omega) (by omega)).mono ?_
            rintro e wa ⟨a, a0, a1, rfl, hs_, hg_⟩
            have Ja := Lib.hid (J5.out.next hs_ hg_)
            clear hs_ hg_ J5
            go_wp2_with fail
            refine (next_any B g 4 wa Ja.out.2.2.1.1 (by omega) (by omega)).mono ?_
            rintro e wb ⟨b, b0, b1, rfl, hs_, hg_⟩
            have Jb := Lib.hid (Ja.out.next hs_ hg_)
            clear hs_ hg_ Ja
            have c6 : wb.cell? ⟨q, 6, none⟩ = some (.int .i64 0) := Jb.out.1.cell 6
            have c7 : wb.cell? ⟨q, 7, none⟩ = some (.int .i64 0) := Jb.out.1.cell 7
            have f6 := Jb.out.1.frozen 6
            have f7 := Jb.out.1.frozen 7
            have HJ : Hid (JtS w B g q (jArr s 5 (-1) 0 0 0 (-a * 65536) (b * 32768) (1 + x) (65536 + y)) ((wb.setCell ⟨q, 6, none⟩ (.int .i64 (-a * 65536))).setCell ⟨q, 7, none⟩ (.int .i64 (b * 32768)))) := Lib.hid ((Jb.out.put 6 (.int .i64 (-a * 65536)) rfl).put 7 (.int .i64 (b * 32768)) rfl)
            clear Jb
            go_wp2_with (first | refine wpList_load_mid rfl 112 _ rfl q 0 rfl (jArr s 5 (-1) 0 0 0 (-a * 65536) (b * 32768) (1 + x) (65536 + y)).toList _ (HJ.out).1.all Try.underlying112 rfl (by kernel_rfl) ?_ | refine wpList_store_mid rfl 112 _ _ rfl w.heap.size 0 (jArr s 5 (-1) 0 0 0 (-a * 65536) (b * 32768) (1 + x) (65536 + y)) rfl rfl (there_all (HJ.out).2.1 12 (Nat.le_refl _)) (by kernel_rfl) (jArr_one _ _ _ _ _ _ _ _ _ _) ?_)
            exact bodyPost_ret (ret_cell Try.results71 rfl ((HJ.out).2.1.full (jArr s 5 (-1) 0 0 0 (-a * 65536) (b * 32768) (1 + x) (65536 + y)) rfl) Try.underlying112 rfl (by kernel_rfl)) rfl ⟨_, _, _, _, _, _, _, _, _, _, rfl, (HJ.out).2.2.1.setN (Nat.le_refl _) _ 0⟩
          · go_wp2_with fail
            clear c1
            refine (next_any B g 5 (w7.setCell ⟨q, 2, none⟩ (.int .i64 (-1))) J5.out.2.2.1.1 (by omega) (by omega)).mono ?_
            rintro e wa ⟨a, a0, a1, rfl, hs_, hg_⟩
            have Ja := Lib.hid (J5.out.next hs_ hg_)
            clear hs_ hg_ J5
            go_wp2_with fail
            refine (next_any B g 4 wa Ja.out.2.2.1.1 (by omega) (by omega)).mono ?_
            rintro e wb ⟨b, b0, b1, rfl, hs_, hg_⟩
            have Jb := Lib.hid (Ja.out.next hs_ hg_)
            clear hs_ hg_ Ja
            go_wp2_with fail
            refine (next_any B g 3 wb Jb.out.2.2.1.1 (by omega) (by omega)).mono ?_
            rintro e wc ⟨c, c0, c1, rfl, hs_, hg_⟩
            have Jc := Lib.hid (Jb.out.next hs_ hg_)
            clear hs_ hg_ Jb
            have c6 : wc.cell? ⟨q, 6, none⟩ = some (.int .i64 0) := Jc.out.1.cell 6
            have c7 : wc.cell? ⟨q, 7, none⟩ = some (.int .i64 0) := Jc.out.1.cell 7
            have f6 := Jc.out.1.frozen 6
            have f7 := Jc.out.1.frozen 7
            have HJ : Hid (JtS w B g q (jArr s kd (-1) 0 0 0 ((-a * 65536).tdiv 8) ((1 + b) * 65536 / 8 + c) (1 + x) (65536 + y)) ((wc.setCell ⟨q, 6, none⟩ (.int .i64 ((-a * 65536).tdiv 8))).setCell ⟨q, 7, none⟩ (.int .i64 ((1 + b) * 65536 / 8 + c)))) := Lib.hid ((Jc.out.put 6 (.int .i64 ((-a * 65536).tdiv 8)) rfl).put 7 (.int .i64 ((1 + b) * 65536 / 8 + c)) rfl)
            clear Jc
            go_wp2_with (first | refine wpList_load_mid rfl 112 _ rfl q 0 rfl (jArr s kd (-1) 0 0 0 ((-a * 65536).tdiv 8) ((1 + b) * 65536 / 8 + c) (1 + x) (65536 + y)).toList _ (HJ.out).1.all Try.underlying112 rfl (by kernel_rfl) ?_ | refine wpList_store_mid rfl 112 _ _ rfl w.heap.size 0 (jArr s kd (-1) 0 0 0 ((-a * 65536).tdiv 8) ((1 + b) * 65536 / 8 + c) (1 + x) (65536 + y)) rfl rfl (there_all (HJ.out).2.1 12 (Nat.le_refl _)) (by kernel_rfl) (jArr_one _ _ _ _ _ _ _ _ _ _) ?_)
            exact bodyPost_ret (ret_cell Try.results71 rfl ((HJ.out).2.1.full (jArr s kd (-1) 0 0 0 ((-a * 65536).tdiv 8) ((1 + b) * 65536 / 8 + c) (1 + x) (65536 + y)) rfl) Try.underlying112 rfl (by kernel_rfl)) rfl ⟨_, _, _, _, _, _, _, _, _, _, rfl, (HJ.out).2.2.1.setN (Nat.le_refl _) _ 0⟩
    · have hip : decide ((0 : Int) < (i : Int)) = true := by simp; omega
      go_wp2_with fail
      refine (signed_any B g 2 (w7.setCell ⟨q, 2, none⟩ (.int .i64 (-1))) J5.out.2.2.1.1 (by omega) (by omega)).mono ?_
      rintro e wd ⟨d, d0, d1, rfl, hs_, hg_⟩
      have Jd := Lib.hid (J5.out.next hs_ hg_)
      clear hs_ hg_ J5
      go_wp2_with fail
      refine (signed_any B g 1 wd Jd.out.2.2.1.1 (by omega) (by omega)).mono ?_
      rintro e wf ⟨f, f0, f1, rfl, hs_, hg_⟩
      have Jf := Lib.hid (Jd.out.next hs_ hg_)
      clear hs_ hg_ Jd
      have c3 : wf.cell? ⟨q, 3, none⟩ = some (.int .i64 0) := Jf.out.1.cell 3
      have f3 := Jf.out.1.frozen 3
      have c4 : wf.cell? ⟨q, 4, none⟩ = some (.int .i64 0) := Jf.out.1.cell 4
      have f4 := Jf.out.1.frozen 4
      have c5 : wf.cell? ⟨q, 5, none⟩ = some (.int .i64 0) := Jf.out.1.cell 5
      have f5 := Jf.out.1.frozen 5
      have Jg := Lib.hid (((Jf.out.put 3 (.int .i64 131072) rfl).put 4 (.int .i64 (d * 32768)) rfl).put 5 (.int .i64 (f * 32768)) (cs' := jArr s kd (-1) 131072 (d * 32768) (f * 32768) 0 0 (1 + x) (65536 + y)) rfl)
      clear Jf
      have c1 : (((wf.setCell ⟨q, 3, none⟩ (.int .i64 131072)).setCell ⟨q, 4, none⟩ (.int .i64 (d * 32768))).setCell ⟨q, 5, none⟩ (.int .i64 (f * 32768))).cell? ⟨q, 1, none⟩ = some (.int .i64 kd) := Jg.out.1.cell 1
      by_cases q0 : kd = 0
      · subst q0
        go_wp2_with (first | refine wpList_load_mid rfl 112 _ rfl q 0 rfl (jArr s 0 (-1) 131072 (d * 32768) (f * 32768) 0 0 (1 + x) (65536 + y)).toList _ (Jg.out).1.all Try.underlying112 rfl (by kernel_rfl) ?_ | refine wpList_store_mid rfl 112 _ _ rfl w.heap.size 0 (jArr s 0 (-1) 131072 (d * 32768) (f * 32768) 0 0 (1 + x) (65536 + y)) rfl rfl (there_all (Jg.out).2.1 12 (Nat.le_refl _)) (by kernel_rfl) (jArr_one _ _ _ _ _ _ _ _ _ _) ?_)
        exact bodyPost_ret (ret_cell Try.results71 rfl ((Jg.out).2.1.full (jArr s 0 (-1) 131072 (d * 32768) (f * 32768) 0 0 (1 + x) (65536 + y)) rfl) Try.underlying112 rfl (by kernel_rfl)) rfl ⟨_, _, _, _, _, _, _, _, _, _, rfl, (Jg.out).2.2.1.setN (Nat.le_refl _) _ 0⟩
      · by_cases q4 : kd = 4
        · subst q4
          go_wp2_with fail
          clear c1
          refine (next_any B g 3 (((wf.setCell ⟨q, 3, none⟩ (.int .i64 131072)).setCell ⟨q, 4, none⟩ (.int .i64 (d * 32768))).setCell ⟨q, 5, none⟩ (.int .i64 (f * 32768))) Jg.out.2.2.1.1 (by omega) (by omega)).mono ?_
          rintro e wa ⟨a, a0, a1, rfl, hs_, hg_⟩
          have Ja := Lib.hid (Jg.out.next hs_ hg_)
          clear hs_ hg_ Jg
          go_wp2_with fail
          refine (next_any B g 4 wa Ja.out.2.2.1.1 (by omega) (by omega)).mono ?_
          rintro e wb ⟨b, b0, b1, rfl, hs_, hg_⟩
          have Jb := Lib.hid (Ja.out.next hs_ hg_)
          clear hs_ hg_ Ja
          have c6 : wb.cell? ⟨q, 6, none⟩ = some (.int .i64 0) := Jb.out.1.cell 6
          have c7 : wb.cell? ⟨q, 7, none⟩ = some (.int .i64 0) := Jb.out.1.cell 7
          have f6 := Jb.out.1.frozen 6
          have f7 := Jb.out.1.frozen 7
          have HJ : Hid (JtS w B g q (jArr s 4 (-1) 131072 (d * 32768) (f * 32768) (-a * 65536) (b * 32768) (1 + x) (65536 + y)) ((wb.setCell ⟨q, 6, none⟩ (.int .i64 (-a * 65536))).setCell ⟨q, 7, none⟩ (.int .i64 (b * 32768)))) := Lib.hid ((Jb.out.put 6 (.int .i64 (-a * 65536)) rfl).put 7 (.int .i64 (b * 32768)) rfl)
          clear Jb
          go_wp2_with (first | refine wpList_load_mid rfl 112 _ rfl q 0 rfl (jArr s 4 (-1) 131072 (d * 32768) (f * 32768) (-a * 65536) (b * 32768) (1 + x) (65536 + y)).toList _ (HJ.out).1.all Try.underlying112 rfl (by kernel_rfl) ?_ | refine wpList_store_mid rfl 112 _ _ rfl w.heap.size 0 (jArr s 4 (-1) 131072 (d * 32768) (f * 32768) (-a * 65536) (b * 32768) (1 + x) (65536 + y)) rfl rfl (there_all (HJ.out).2.1 12 (Nat.le_refl _)) (by kernel_rfl) (jArr_one _ _ _ _ _ _ _ _ _ _) ?_)
          exact bodyPost_ret (ret_cell Try.results71 rfl ((HJ.out).2.1.full (jArr s 4 (-1) 131072 (d * 32768) (f * 32768) (-a * 65536) (b * 32768) (1 + x) (65536 + y)) rfl) Try.underlying112 rfl (by kernel_rfl)) rfl ⟨_, _, _, _, _, _, _, _, _, _, rfl, (HJ.out).2.2.1.setN (Nat.le_refl _) _ 0⟩
        · by_cases q5 : kd = 5
          · subst q5
            go_wp2_with fail
            clear c1
            refine (next_any B g 3 (((wf.setCell ⟨q, 3, none⟩ (.int .i64 131072)).setCell ⟨q, 4, none⟩ (.int .i64 (d * 32768))).setCell ⟨q, 5, none⟩ (.int .i64 (f * 32768))) Jg.out.2.2.1.1 (by omega) (by omega)).mono ?_
            rintro e wa ⟨a, a0, a1, rfl, hs_, hg_⟩
            have Ja := Lib.hid (Jg.out.next hs_ hg_)
            clear hs_ hg_ Jg
            go_wp2_with fail
            refine (next_any B g 4 wa Ja.out.2.2.1.1 (by omega) (by omega)).mono ?_
            rintro e wb ⟨b, b0, b1, rfl, hs_, hg_⟩
            have Jb := Lib.hid (Ja.out.next hs_ hg_)
            clear hs_ hg_ Ja
            have c6 : wb.cell? ⟨q, 6, none⟩ = some (.int .i64 0) := Jb.out.1.cell 6
            have c7 : wb.cell? ⟨q, 7, none⟩ = some (.int .i64 0) := Jb.out.1.cell 7
            have f6 := Jb.out.1.frozen 6
            have f7 := Jb.out.1.frozen 7
            have HJ : Hid (JtS w B g q (jArr s 5 (-1) 131072 (d * 32768) (f * 32768) (-a * 65536) (b * 32768) (1 + x) (65536 + y)) ((wb.setCell ⟨q, 6, none⟩ (.int .i64 (-a * 65536))).setCell ⟨q, 7, none⟩ (.int .i64 (b * 32768)))) := Lib.hid ((Jb.out.put 6 (.int .i64 (-a * 65536)) rfl).put 7 (.int .i64 (b * 32768)) rfl)
            clear Jb
            go_wp2_with (first | refine wpList_load_mid rfl 112 _ rfl q 0 rfl (jArr s 5 (-1) 131072 (d * 32768) (f * 32768) (-a * 65536) (b * 32768) (1 + x) (65536 + y)).toList _ (HJ.out).1.all Try.underlying112 rfl (by kernel_rfl) ?_ | refine wpList_store_mid rfl 112 _ _ rfl w.heap.size 0 (jArr s 5 (-1) 131072 (d * 32768) (f * 32768) (-a * 65536) (b * 32768) (1 + x) (65536 + y)) rfl rfl (there_all (HJ.out).2.1 12 (Nat.le_refl _)) (by kernel_rfl) (jArr_one _ _ _ _ _ _ _ _ _ _) ?_)
            exact bodyPost_ret (ret_cell Try.results71 rfl ((HJ.out).2.1.full (jArr s 5 (-1) 131072 (d * 32768) (f * 32768) (-a * 65536) (b * 32768) (1 + x) (65536 + y)) rfl) Try.underlying112 rfl (by kernel_rfl)) rfl ⟨_, _, _, _, _, _, _, _, _, _, rfl, (HJ.out).2.2.1.setN (Nat.le_refl _) _ 0⟩
          · go_wp2_with fail
            clear c1
            refine (next_any B g 5 (((wf.setCell ⟨q, 3, none⟩ (.int .i64 131072)).setCell ⟨q, 4, none⟩ (.int .i64 (d * 32768))).setCell ⟨q, 5, none⟩ (.int .i64 (f * 32768))) Jg.out.2.2.1.1 (by omega) (by omega)).mono ?_
            rintro e wa ⟨a, a0, a1, rfl, hs_, hg_⟩
            have Ja := Lib.hid (Jg.out.next hs_ hg_)
            clear hs_ hg_ Jg
            go_wp2_with fail
            refine (next_any B g 4 wa Ja.out.2.2.1.1 (by omega) (by omega)).mono ?_
            rintro e wb ⟨b, b0, b1, rfl, hs_, hg_⟩
            have Jb := Lib.hid (Ja.out.next hs_ hg_)
            clear hs_ hg_ Ja
            go_wp2_with fail
            refine (next_any B g 3 wb Jb.out.2.2.1.1 (by omega) (by omega)).mono ?_
            rintro e wc ⟨c, c0, c1, rfl, hs_, hg_⟩
            have Jc := Lib.hid (Jb.out.next hs_ hg_)
            clear hs_ hg_ Jb
            have c6 : wc.cell? ⟨q, 6, none⟩ = some (.int .i64 0) := Jc.out.1.cell 6
            have c7 : wc.cell? ⟨q, 7, none⟩ = some (.int .i64 0) := Jc.out.1.cell 7
            have f6 := Jc.out.1.frozen 6
            have f7 := Jc.out.1.frozen 7
            have HJ : Hid (JtS w B g q (jArr s kd (-1) 131072 (d * 32768) (f * 32768) ((-a * 65536).tdiv 8) ((1 + b) * 65536 / 8 + c) (1 + x) (65536 + y)) ((wc.setCell ⟨q, 6, none⟩ (.int .i64 ((-a * 65536).tdiv 8))).setCell ⟨q, 7, none⟩ (.int .i64 ((1 + b) * 65536 / 8 + c)))) := Lib.hid ((Jc.out.put 6 (.int .i64 ((-a * 65536).tdiv 8)) rfl).put 7 (.int .i64 ((1 + b) * 65536 / 8 + c)) rfl)
            clear Jc
            go_wp2_with (first | refine wpList_load_mid rfl 112 _ rfl q 0 rfl (jArr s kd (-1) 131072 (d * 32768) (f * 32768) ((-a * 65536).tdiv 8) ((1 + b) * 65536 / 8 + c) (1 + x) (65536 + y)).toList _ (HJ.out).1.all Try.underlying112 rfl (by kernel_rfl) ?_ | refine wpList_store_mid rfl 112 _ _ rfl w.heap.size 0 (jArr s kd (-1) 131072 (d * 32768) (f * 32768) ((-a * 65536).tdiv 8) ((1 + b) * 65536 / 8 + c) (1 + x) (65536 + y)) rfl rfl (there_all (HJ.out).2.1 12 (Nat.le_refl _)) (by kernel_rfl) (jArr_one _ _ _ _ _ _ _ _ _ _) ?_)
            exact bodyPost_ret (ret_cell Try.results71 rfl ((HJ.out).2.1.full (jArr s kd (-1) 131072 (d * 32768) (f * 32768) ((-a * 65536).tdiv 8) ((1 + b) * 65536 / 8 + c) (1 + x) (65536 + y)) rfl) Try.underlying112 rfl (by kernel_rfl)) rfl ⟨_, _, _, _, _, _, _, _, _, _, rfl, (HJ.out).2.2.1.setN (Nat.le_refl _) _ 0⟩
  · by_cases hi0 : i = 0
    · subst hi0
      have c1 : w7.cell? ⟨q, 1, none⟩ = some (.int .i64 kd) := J4.out.1.cell 1
      by_cases q0 : kd = 0
      · subst q0
        go_wp2_with (first | refine wpList_load_mid rfl 112 _ rfl q 0 rfl (jArr s 0 ((0 : Nat) - 1) 0 0 0 0 0 (1 + x) (65536 + y)).toList _ (J4.out).1.all Try.underlying112 rfl (by kernel_rfl) ?_ | refine wpList_store_mid rfl 112 _ _ rfl w.heap.size 0 (jArr s 0 ((0 : Nat) - 1) 0 0 0 0 0 (1 + x) (65536 + y)) rfl rfl (there_all (J4.out).2.1 12 (Nat.le_refl _)) (by kernel_rfl) (jArr_one _ _ _ _ _ _ _ _ _ _) ?_)
        exact bodyPost_ret (ret_cell Try.results71 rfl ((J4.out).2.1.full (jArr s 0 ((0 : Nat) - 1) 0 0 0 0 0 (1 + x) (65536 + y)) rfl) Try.underlying112 rfl (by kernel_rfl)) rfl ⟨_, _, _, _, _, _, _, _, _, _, rfl, (J4.out).2.2.1.setN (Nat.le_refl _) _ 0⟩
      · by_cases q4 : kd = 4
        · subst q4
          go_wp2_with fail
          clear c1
          refine (next_any B g 3 w7 J4.out.2.2.1.1 (by omega) (by omega)).mono ?_
          rintro e wa ⟨a, a0, a1, rfl, hs_, hg_⟩
          have Ja := Lib.hid (J4.out.next hs_ hg_)
          clear hs_ hg_ J4
          go_wp2_with fail
          refine (next_any B g 4 wa Ja.out.2.2.1.1 (by omega) (by omega)).mono ?_
          rintro e wb ⟨b, b0, b1, rfl, hs_, hg_⟩
          have Jb := Lib.hid (Ja.out.next hs_ hg_)
          clear hs_ hg_ Ja
          have c6 : wb.cell? ⟨q, 6, none⟩ = some (.int .i64 0) := Jb.out.1.cell 6
          have c7 : wb.cell? ⟨q, 7, none⟩ = some (.int .i64 0) := Jb.out.1.cell 7
          have f6 := Jb.out.1.frozen 6
          have f7 := Jb.out.1.frozen 7
          have HJ : Hid (JtS w B g q (jArr s 4 ((0 : Nat) - 1) 0 0 0 (-a * 65536) (b * 32768) (1 + x) (65536 + y)) ((wb.setCell ⟨q, 6, none⟩ (.int .i64 (-a * 65536))).setCell ⟨q, 7, none⟩ (.int .i64 (b * 32768)))) := Lib.hid ((Jb.out.put 6 (.int .i64 (-a * 65536)) rfl).put 7 (.int .i64 (b * 32768)) rfl)
          clear Jb
          go_wp2_with (first | refine wpList_load_mid rfl 112 _ rfl q 0 rfl (jArr s 4 ((0 : Nat) - 1) 0 0 0 (-a * 65536) (b * 32768) (1 + x) (65536 + y)).toList _ (HJ.out).1.all Try.underlying112 rfl (by kernel_rfl) ?_ | refine wpList_store_mid rfl 112 _ _ rfl w.heap.size 0 (jArr s 4 ((0 : Nat) - 1) 0 0 0 (-a * 65536) (b * 32768) (1 + x) (65536 + y)) rfl rfl (there_all (HJ.out).2.1 12 (Nat.le_refl _)) (by kernel_rfl) (jArr_one _ _ _ _ _ _ _ _ _ _) ?_)
          exact bodyPost_ret (ret_cell Try.results71 rfl ((HJ.out).2.1.full (jArr s 4 ((0 : Nat) - 1) 0 0 0 (-a * 65536) (b * 32768) (1 + x) (65536 + y)) rfl) Try.underlying112 rfl (by kernel_rfl)) rfl ⟨_, _, _, _, _, _, _, _, _, _, rfl, (HJ.out).2.2.1.setN (Nat.le_refl _) _ 0⟩
        · by_cases q5 : kd = 5
          · subst q5
            go_wp2_with fail
            clear c1
            refine (next_any B g 3 w7 J4.out.2.2.1.1 (by omega) (by omega)).mono ?_
            rintro e wa ⟨a, a0, a1, rfl, hs_, hg_⟩
            have Ja := Lib.hid (J4.out.next hs_ hg_)
            clear hs_ hg_ J4
            go_wp2_with fail
            refine (next_any B g 4 wa Ja.out.2.2.1.1 (by omega) (by omega)).mono ?_
            rintro e wb ⟨b, b0, b1, rfl, hs_, hg_⟩
            have Jb := Lib.hid (Ja.out.next hs_ hg_)
            clear hs_ hg_ Ja
            have c6 : wb.cell? ⟨q, 6, none⟩ = some (.int .i64 0) := Jb.out.1.cell 6
            have c7 : wb.cell? ⟨q, 7, none⟩ = some (.int .i64 0) := Jb.out.1.cell 7
            have f6 := Jb.out.1.frozen 6
            have f7 := Jb.out.1.frozen 7
            have HJ : Hid (JtS w B g q (jArr s 5 ((0 : Nat) - 1) 0 0 0 (-a * 65536) (b * 32768) (1 + x) (65536 + y)) ((wb.setCell ⟨q, 6, none⟩ (.int .i64 (-a * 65536))).setCell ⟨q, 7, none⟩ (.int .i64 (b * 32768)))) := Lib.hid ((Jb.out.put 6 (.int .i64 (-a * 65536)) rfl).put 7 (.int .i64 (b * 32768)) rfl)
            clear Jb
            go_wp2_with (first | refine wpList_load_mid rfl 112 _ rfl q 0 rfl (jArr s 5 ((0 : Nat) - 1) 0 0 0 (-a * 65536) (b * 32768) (1 + x) (65536 + y)).toList _ (HJ.out).1.all Try.underlying112 rfl (by kernel_rfl) ?_ | refine wpList_store_mid rfl 112 _ _ rfl w.heap.size 0 (jArr s 5 ((0 : Nat) - 1) 0 0 0 (-a * 65536) (b * 32768) (1 + x) (65536 + y)) rfl rfl (there_all (HJ.out).2.1 12 (Nat.le_refl _)) (by kernel_rfl) (jArr_one _ _ _ _ _ _ _ _ _ _) ?_)
            exact bodyPost_ret (ret_cell Try.results71 rfl ((HJ.out).2.1.full (jArr s 5 ((0 : Nat) - 1) 0 0 0 (-a * 65536) (b * 32768) (1 + x) (65536 + y)) rfl) Try.underlying112 rfl (by kernel_rfl)) rfl ⟨_, _, _, _, _, _, _, _, _, _, rfl, (HJ.out).2.2.1.setN (Nat.le_refl _) _ 0⟩
          · go_wp2_with fail
            clear c1
            refine (next_any B g 5 w7 J4.out.2.2.1.1 (by omega) (by omega)).mono ?_
            rintro e wa ⟨a, a0, a1, rfl, hs_, hg_⟩
            have Ja := Lib.hid (J4.out.next hs_ hg_)
            clear hs_ hg_ J4
            go_wp2_with fail
            refine (next_any B g 4 wa Ja.out.2.2.1.1 (by omega) (by omega)).mono ?_
            rintro e wb ⟨b, b0, b1, rfl, hs_, hg_⟩
            have Jb := Lib.hid (Ja.out.next hs_ hg_)
            clear hs_ hg_ Ja
            go_wp2_with fail
            refine (next_any B g 3 wb Jb.out.2.2.1.1 (by omega) (by omega)).mono ?_
            rintro e wc ⟨c, c0, c1, rfl, hs_, hg_⟩
            have Jc := Lib.hid (Jb.out.next hs_ hg_)
            clear hs_ hg_ Jb
            have c6 : wc.cell? ⟨q, 6, none⟩ = some (.int .i64 0) := Jc.out.1.cell 6
            have c7 : wc.cell? ⟨q, 7, none⟩ = some (.int .i64 0) := Jc.out.1.cell 7
            have f6 := Jc.out.1.frozen 6
            have f7 := Jc.out.1.frozen 7
            have HJ : Hid (JtS w B g q (jArr s kd ((0 : Nat) - 1) 0 0 0 ((-a * 65536).tdiv 8) ((1 + b) * 65536 / 8 + c) (1 + x) (65536 + y)) ((wc.setCell ⟨q, 6, none⟩ (.int .i64 ((-a * 65536).tdiv 8))).setCell ⟨q, 7, none⟩ (.int .i64 ((1 + b) * 65536 / 8 + c)))) := Lib.hid ((Jc.out.put 6 (.int .i64 ((-a * 65536).tdiv 8)) rfl).put 7 (.int .i64 ((1 + b) * 65536 / 8 + c)) rfl)
            clear Jc
            go_wp2_with (first | refine wpList_load_mid rfl 112 _ rfl q 0 rfl (jArr s kd ((0 : Nat) - 1) 0 0 0 ((-a * 65536).tdiv 8) ((1 + b) * 65536 / 8 + c) (1 + x) (65536 + y)).toList _ (HJ.out).1.all Try.underlying112 rfl (by kernel_rfl) ?_ | refine wpList_store_mid rfl 112 _ _ rfl w.heap.size 0 (jArr s kd ((0 : Nat) - 1) 0 0 0 ((-a * 65536).tdiv 8) ((1 + b) * 65536 / 8 + c) (1 + x) (65536 + y)) rfl rfl (there_all (HJ.out).2.1 12 (Nat.le_refl _)) (by kernel_rfl) (jArr_one _ _ _ _ _ _ _ _ _ _) ?_)
            exact bodyPost_ret (ret_cell Try.results71 rfl ((HJ.out).2.1.full (jArr s kd ((0 : Nat) - 1) 0 0 0 ((-a * 65536).tdiv 8) ((1 + b) * 65536 / 8 + c) (1 + x) (65536 + y)) rfl) Try.underlying112 rfl (by kernel_rfl)) rfl ⟨_, _, _, _, _, _, _, _, _, _, rfl, (HJ.out).2.2.1.setN (Nat.le_refl _) _ 0⟩
    · have hip : decide ((0 : Int) < (i : Int)) = true := by simp; omega
      go_wp2_with fail
      refine (signed_any B g 2 w7 J4.out.2.2.1.1 (by omega) (by omega)).mono ?_
      rintro e wd ⟨d, d0, d1, rfl, hs_, hg_⟩
      have Jd := Lib.hid (J4.out.next hs_ hg_)
      clear hs_ hg_ J4
      go_wp2_with fail
      refine (signed_any B g 1 wd Jd.out.2.2.1.1 (by omega) (by omega)).mono ?_
      rintro e wf ⟨f, f0, f1, rfl, hs_, hg_⟩
      have Jf := Lib.hid (Jd.out.next hs_ hg_)
      clear hs_ hg_ Jd
      have c3 : wf.cell? ⟨q, 3, none⟩ = some (.int .i64 0) := Jf.out.1.cell 3
      have f3 := Jf.out.1.frozen 3
      have c4 : wf.cell? ⟨q, 4, none⟩ = some (.int .i64 0) := Jf.out.1.cell 4
      have f4 := Jf.out.1.frozen 4
      have c5 : wf.cell? ⟨q, 5, none⟩ = some (.int .i64 0) := Jf.out.1.cell 5
      have f5 := Jf.out.1.frozen 5
      have Jg := Lib.hid (((Jf.out.put 3 (.int .i64 131072) rfl).put 4 (.int .i64 (d * 32768)) rfl).put 5 (.int .i64 (f * 32768)) (cs' := jArr s kd (i - 1) 131072 (d * 32768) (f * 32768) 0 0 (1 + x) (65536 + y)) rfl)
      clear Jf
      have c1 : (((wf.setCell ⟨q, 3, none⟩ (.int .i64 131072)).setCell ⟨q, 4, none⟩ (.int .i64 (d * 32768))).setCell ⟨q, 5, none⟩ (.int .i64 (f * 32768))).cell? ⟨q, 1, none⟩ = some (.int .i64 kd) := Jg.out.1.cell 1
      by_cases q0 : kd = 0
      · subst q0
        go_wp2_with (first | refine wpList_load_mid rfl 112 _ rfl q 0 rfl (jArr s 0 (i - 1) 131072 (d * 32768) (f * 32768) 0 0 (1 + x) (65536 + y)).toList _ (Jg.out).1.all Try.underlying112 rfl (by kernel_rfl) ?_ | refine wpList_store_mid rfl 112 _ _ rfl w.heap.size 0 (jArr s 0 (i - 1) 131072 (d * 32768) (f * 32768) 0 0 (1 + x) (65536 + y)) rfl rfl (there_all (Jg.out).2.1 12 (Nat.le_refl _)) (by kernel_rfl) (jArr_one _ _ _ _ _ _ _ _ _ _) ?_)
        exact bodyPost_ret (ret_cell Try.results71 rfl ((Jg.out).2.1.full (jArr s 0 (i - 1) 131072 (d * 32768) (f * 32768) 0 0 (1 + x) (65536 + y)) rfl) Try.underlying112 rfl (by kernel_rfl)) rfl ⟨_, _, _, _, _, _, _, _, _, _, rfl, (Jg.out).2.2.1.setN (Nat.le_refl _) _ 0⟩
      · by_cases q4 : kd = 4
        · subst q4
          go_wp2_with fail
          clear c1
          refine (next_any B g 3 (((wf.setCell ⟨q, 3, none⟩ (.int .i64 131072)).setCell ⟨q, 4, none⟩ (.int .i64 (d * 32768))).setCell ⟨q, 5, none⟩ (.int .i64 (f * 32768))) Jg.out.2.2.1.1 (by omega) (by omega)).mono ?_
          rintro e wa ⟨a, a0, a1, rfl, hs_, hg_⟩
          have Ja := Lib.hid (Jg.out.next hs_ hg_)
          clear hs_ hg_ Jg
          go_wp2_with fail
          refine (next_any B g 4 wa Ja.out.2.2.1.1 (by omega) (by omega)).mono ?_
          rintro e wb ⟨b, b0, b1, rfl, hs_, hg_⟩
          have Jb := Lib.hid (Ja.out.next hs_ hg_)
          clear hs_ hg_ Ja
          have c6 : wb.cell? ⟨q, 6, none⟩ = some (.int .i64 0) := Jb.out.1.cell 6
          have c7 : wb.cell? ⟨q, 7, none⟩ = some (.int .i64 0) := Jb.out.1.cell 7
          have f6 := Jb.out.1.frozen 6
          have f7 := Jb.out.1.frozen 7
          have HJ : Hid (JtS w B g q (jArr s 4 (i - 1) 131072 (d * 32768) (f * 32768) (-a * 65536) (b * 32768) (1 + x) (65536 + y)) ((wb.setCell ⟨q, 6, none⟩ (.int .i64 (-a * 65536))).setCell ⟨q, 7, none⟩ (.int .i64 (b * 32768)))) := Lib.hid ((Jb.out.put 6 (.int .i64 (-a * 65536)) rfl).put 7 (.int .i64 (b * 32768)) rfl)
          clear Jb
          go_wp2_with (first | refine wpList_load_mid rfl 112 _ rfl q 0 rfl (jArr s 4 (i - 1) 131072 (d * 32768) (f * 32768) (-a * 65536) (b * 32768) (1 + x) (65536 + y)).toList _ (HJ.out).1.all Try.underlying112 rfl (by kernel_rfl) ?_ | refine wpList_store_mid rfl 112 _ _ rfl w.heap.size 0 (jArr s 4 (i - 1) 131072 (d * 32768) (f * 32768) (-a * 65536) (b * 32768) (1 + x) (65536 + y)) rfl rfl (there_all (HJ.out).2.1 12 (Nat.le_refl _)) (by kernel_rfl) (jArr_one _ _ _ _ _ _ _ _ _ _) ?_)
          exact bodyPost_ret (ret_cell Try.results71 rfl ((HJ.out).2.1.full (jArr s 4 (i - 1) 131072 (d * 32768) (f * 32768) (-a * 65536) (b * 32768) (1 + x) (65536 + y)) rfl) Try.underlying112 rfl (by kernel_rfl)) rfl ⟨_, _, _, _, _, _, _, _, _, _, rfl, (HJ.out).2.2.1.setN (Nat.le_refl _) _ 0⟩
        · by_cases q5 : kd = 5
          · subst q5
            go_wp2_with fail
            clear c1
            refine (next_any B g 3 (((wf.setCell ⟨q, 3, none⟩ (.int .i64 131072)).setCell ⟨q, 4, none⟩ (.int .i64 (d * 32768))).setCell ⟨q, 5, none⟩ (.int .i64 (f * 32768))) Jg.out.2.2.1.1 (by omega) (by omega)).mono ?_
            rintro e wa ⟨a, a0, a1, rfl, hs_, hg_⟩
            have Ja := Lib.hid (Jg.out.next hs_ hg_)
            clear hs_ hg_ Jg
            go_wp2_with fail
            refine (next_any B g 4 wa Ja.out.2.2.1.1 (by omega) (by omega)).mono ?_
            rintro e wb ⟨b, b0, b1, rfl, hs_, hg_⟩
            have Jb := Lib.hid (Ja.out.next hs_ hg_)
            clear hs_ hg_ Ja
            have c6 : wb.cell? ⟨q, 6, none⟩ = some (.int .i64 0) := Jb.out.1.cell 6
            have c7 : wb.cell? ⟨q, 7, none⟩ = some (.int .i64 0) := Jb.out.1.cell 7
            have f6 := Jb.out.1.frozen 6
            have f7 := Jb.out.1.frozen 7
            have HJ : Hid (JtS w B g q (jArr s 5 (i - 1) 131072 (d * 32768) (f * 32768) (-a * 65536) (b * 32768) (1 + x) (65536 + y)) ((wb.setCell ⟨q, 6, none⟩ (.int .i64 (-a * 65536))).setCell ⟨q, 7, none⟩ (.int .i64 (b * 32768)))) := Lib.hid ((Jb.out.put 6 (.int .i64 (-a * 65536)) rfl).put 7 (.int .i64 (b * 32768)) rfl)
            clear Jb
            go_wp2_with (first | refine wpList_load_mid rfl 112 _ rfl q 0 rfl (jArr s 5 (i - 1) 131072 (d * 32768) (f * 32768) (-a * 65536) (b * 32768) (1 + x) (65536 + y)).toList _ (HJ.out).1.all Try.underlying112 rfl (by kernel_rfl) ?_ | refine wpList_store_mid rfl 112 _ _ rfl w.heap.size 0 (jArr s 5 (i - 1) 131072 (d * 32768) (f * 32768) (-a * 65536) (b * 32768) (1 + x) (65536 + y)) rfl rfl (there_all (HJ.out).2.1 12 (Nat.le_refl _)) (by kernel_rfl) (jArr_one _ _ _ _ _ _ _ _ _ _) ?_)
            exact bodyPost_ret (ret_cell Try.results71 rfl ((HJ.out).2.1.full (jArr s 5 (i - 1) 131072 (d * 32768) (f * 32768) (-a * 65536) (b * 32768) (1 + x) (65536 + y)) rfl) Try.underlying112 rfl (by kernel_rfl)) rfl ⟨_, _, _, _, _, _, _, _, _, _, rfl, (HJ.out).2.2.1.setN (Nat.le_refl _) _ 0⟩
          · go_wp2_with fail
            clear c1
            refine (next_any B g 5 (((wf.setCell ⟨q, 3, none⟩ (.int .i64 131072)).setCell ⟨q, 4, none⟩ (.int .i64 (d * 32768))).setCell ⟨q, 5, none⟩ (.int .i64 (f * 32768))) Jg.out.2.2.1.1 (by omega) (by omega)).mono ?_
            rintro e wa ⟨a, a0, a1, rfl, hs_, hg_⟩
            have Ja := Lib.hid (Jg.out.next hs_ hg_)
            clear hs_ hg_ Jg
            go_wp2_with fail
            refine (next_any B g 4 wa Ja.out.2.2.1.1 (by omega) (by omega)).mono ?_
            rintro e wb ⟨b, b0, b1, rfl, hs_, hg_⟩
            have Jb := Lib.hid (Ja.out.next hs_ hg_)
            clear hs_ hg_ Ja
            go_wp2_with fail
            refine (next_any B g 3 wb Jb.out.2.2.1.1 (by omega) (by omega)).mono ?_
            rintro e wc ⟨c, c0, c1, rfl, hs_, hg_⟩
            have Jc := Lib.hid (Jb.out.next hs_ hg_)
            clear hs_ hg_ Jb
            have c6 : wc.cell? ⟨q, 6, none⟩ = some (.int .i64 0) := Jc.out.1.cell 6
            have c7 : wc.cell? ⟨q, 7, none⟩ = some (.int .i64 0) := Jc.out.1.cell 7
            have f6 := Jc.out.1.frozen 6
            have f7 := Jc.out.1.frozen 7
            have HJ : Hid (JtS w B g q (jArr s kd (i - 1) 131072 (d * 32768) (f * 32768) ((-a * 65536).tdiv 8) ((1 + b) * 65536 / 8 + c) (1 + x) (65536 + y)) ((wc.setCell ⟨q, 6, none⟩ (.int .i64 ((-a * 65536).tdiv 8))).setCell ⟨q, 7, none⟩ (.int .i64 ((1 + b) * 65536 / 8 + c)))) := Lib.hid ((Jc.out.put 6 (.int .i64 ((-a * 65536).tdiv 8)) rfl).put 7 (.int .i64 ((1 + b) * 65536 / 8 + c)) rfl)
            clear Jc
            go_wp2_with (first | refine wpList_load_mid rfl 112 _ rfl q 0 rfl (jArr s kd (i - 1) 131072 (d * 32768) (f * 32768) ((-a * 65536).tdiv 8) ((1 + b) * 65536 / 8 + c) (1 + x) (65536 + y)).toList _ (HJ.out).1.all Try.underlying112 rfl (by kernel_rfl) ?_ | refine wpList_store_mid rfl 112 _ _ rfl w.heap.size 0 (jArr s kd (i - 1) 131072 (d * 32768) (f * 32768) ((-a * 65536).tdiv 8) ((1 + b) * 65536 / 8 + c) (1 + x) (65536 + y)) rfl rfl (there_all (HJ.out).2.1 12 (Nat.le_refl _)) (by kernel_rfl) (jArr_one _ _ _ _ _ _ _ _ _ _) ?_)
            exact bodyPost_ret (ret_cell Try.results71 rfl ((HJ.out).2.1.full (jArr s kd (i - 1) 131072 (d * 32768) (f * 32768) ((-a * 65536).tdiv 8) ((1 + b) * 65536 / 8 + c) (1 + x) (65536 + y)) rfl) Try.underlying112 rfl (by kernel_rfl)) rfl ⟨_, _, _, _, _, _, _, _, _, _, rfl, (HJ.out).2.2.1.setN (Nat.le_refl _) _ 0⟩
end Go.Proofs.Ytgnjconhbloocaa

namespace Go.Proofs.Ytgnjconhbloocaa
open Go.RowKit
set_option linter.unusedVariables false

theorem info_joint : (Try.prog.info? 112).map (fun i => (i.zero, i.size, i.bytes)) = some (some (.agg jZero), 12, 104) := by kernel_rfl
theorem info_mass : (Try.prog.info? 115).map (fun i => (i.zero, i.size, i.bytes)) = some (some (.agg #[.int .i64 0, .int .i64 0, .int .i64 0, .int .i64 0, .int .i64 0]), 5, 40) := by kernel_rfl
abbrev rZero : Array Value := #[.slice none 0 0, .slice none 0 0]
/-- What is known while a robot is made. -/
abbrev RobS (w : World) (B g : Nat) (jv mv : Value) (w' : World) : Prop :=
  w'.cell? ⟨w.heap.size + 1, 0, none⟩ = some jv ∧ w'.cell? ⟨w.heap.size + 1, 1, none⟩ = some mv ∧ Whole w' (w.heap.size + 1) 77 #[jv, mv] ∧ Whole w' w.heap.size 77 rZero ∧ Kept w B g w'
theorem RobS.mk' {w : World} {B g : Nat} {jv mv : Value} {w' : World} (h : Whole w' (w.heap.size + 1) 77 #[jv, mv]) (h0 : Whole w' w.heap.size 77 rZero) (k : Kept w B g w') : RobS w B g jv mv w' := ⟨h.cell 0, h.cell 1, h, h0, k⟩
theorem RobS.ext {w : World} {B g : Nat} {jv mv : Value} {w1 w2 : World} (h : RobS w B g jv mv w1) (hb : Below w1.heap.size w1 w2) : RobS w B g jv mv w2 := RobS.mk' (h.2.2.1.ext hb) (h.2.2.2.1.ext hb) (h.2.2.2.2.ext hb)
theorem RobS.next {w : World} {B g : Nat} {jv mv : Value} {w1 w2 : World} (h : RobS w B g jv mv w1) (hs : Src w2 B g) (hg : w1.grownBy w2 (some g)) : RobS w B g jv mv w2 :=
  RobS.mk' (h.2.2.1.grown hg (fun e => by injection e with e; have := h.2.2.2.2.2.1; omega)) (h.2.2.2.1.grown hg (fun e => by injection e with e; have := h.2.2.2.2.2.1; omega)) (h.2.2.2.2.next hs hg)
theorem RobS.kept {w : World} {B g : Nat} {jv mv : Value} {w1 w2 : World} (h : RobS w B g jv mv w1) (k : Kept w1 B g w2) : RobS w B g jv mv w2 := h.next k.1 k.2.2
theorem RobS.grow {w : World} {B g : Nat} {jv mv : Value} {w1 w2 : World} {row : Option Nat} (h : RobS w B g jv mv w1) (hg : w1.grownBy w2 row) (hr : ∀ k, row = some k → w.heap.size + 1 + 1 ≤ k) : RobS w B g jv mv w2 :=
  RobS.mk' (h.2.2.1.grown hg (fun e => by have := hr _ e.symm; omega)) (h.2.2.2.1.grown hg (fun e => by have := hr _ e.symm; omega)) (h.2.2.2.2.grow hg (fun k e => by have := hr k e; omega))
theorem RobS.put0 {w : World} {B g : Nat} {jv mv jv' : Value} {w1 : World} (h : RobS w B g jv mv w1) : RobS w B g jv' mv (w1.setCell ⟨w.heap.size + 1, 0, none⟩ jv') :=
  RobS.mk' (h.2.2.1.store 0 jv') (h.2.2.2.1.farN [jv'] (by omega) 0) (h.2.2.2.2.setN (by omega) [jv'] 0)
theorem RobS.put1 {w : World} {B g : Nat} {jv mv mv' : Value} {w1 : World} (h : RobS w B g jv mv w1) : RobS w B g jv mv' (w1.setCell ⟨w.heap.size + 1, 1, none⟩ mv') :=
  RobS.mk' (h.2.2.1.store 1 mv') (h.2.2.2.1.farN [mv'] (by omega) 1) (h.2.2.2.2.setN (by omega) [mv'] 1)
/-- Some robot of one to three joints is returned. -/
def GivesR (w : World) (B g : Nat) (e : Ending) (w' : World) : Prop := ∃ (a : Option Addr) (n c : Nat) (a' : Option Addr) (n' c' : Nat), 1 ≤ n ∧ n ≤ 3 ∧ e = .returned (.agg #[.slice a n c, .slice a' n' c']) ∧ Kept w B g w'

set_option maxRecDepth 100000 in
set_option maxHeartbeats 1000000 in
theorem robot_any (B g : Nat) (w : World) (hs : Src w B g) :
    Calls Try.prog 55 #[.pointer (some ⟨g, 0, none⟩)] w (GivesR w B g) := by
  have K0 := Lib.hid (Kept.refl hs)
  have hg0 := hs.lt
  clear hs
  obtain ⟨i0, hi, hz0, hz1, hz2⟩ := info_parts info_joint
  go_enter Try.func55, Try.ntmps55
  go_wp2_with fail
  have h2 := blocks2 w 77 77 rZero rZero
  have K1 := (K0.out.alloc (.cells rZero 77)).alloc (.cells rZero 77)
  have HS1 := Lib.hid (RobS.mk' h2.2.1 h2.1 K1)
  clear h2 K1 K0
  generalize (w.alloc (.cells rZero 77)).alloc (.cells rZero 77) = w1 at *
  refine (next_any B g 3 w1 HS1.out.2.2.2.2.1 (by omega) (by omega)).mono ?_
  rintro e w2 ⟨n, n0, n1, rfl, hs2, hg2⟩
  have HS2 := Lib.hid (RobS.next HS1.out hs2 hg2)
  clear HS1 hs2 hg2
  obtain ⟨n, rfl⟩ : ∃ m : Nat, n = (m : Int) := ⟨n.toNat, by omega⟩
  go_wp2_with fail
  go_loopw [5] (fun iv wr => ∃ (i : Nat) (jv : Value) (xs : List Value), i ≤ 1 + n ∧ iv = .int .i64 i ∧ Hid (wr.ownsRow (w.heap.size + 1 + 1) 112 12 jv i xs) ∧ Hid (RobS w B g jv (.slice none 0 0) wr)) (fun iv _ => 1 + n - (intOf iv).toNat)
  case atStart => exact ⟨0, _, [], by omega, by go_num, Lib.hid (World.ownsRow_nil _ _ _ _), HS2⟩
  case round =>
    obtain ⟨i, jv, xs, hin, rfl, HO, HS⟩ := hrel
    clear HS2
    by_cases hlt : i < 1 + n
    · have hd : decide ((i : Int) < 1 + (n : Int)) = true := by simp; omega
      go_wp2_with fail
      refine wp_region_noPanic ?_
      refine wp_region_until_drew (k := 8) (S := (fun w' => RobS w B g jv (.slice none 0 0) w')) (by kernel_rfl) ?_ (fun hHeld => ?_)
      · exact RobS.ext HS.out (ext_drew (ext_refl _))
      have HO3 := Lib.hid (owns_ext HO.out (ext_drew (ext_refl _)))
      clear HO HS
      refine wpAnyU_take (i := 0) (v := ?_) (by simp only [List.getElem?_toArray, List.getElem?_cons_succ, List.getElem?_cons_zero]; rfl) (by kernel_rfl) (by kernel_rfl) (by kernel_rfl) (by kernel_rfl) (by kernel_rfl) (fun _ _ _ h => h) (Or.inl ⟨by rfl, ?_⟩) (by assumption) ?_
      rotate_left
      · intro w hSw; (try dsimp only at hSw); go_simp; first | done | with_reducible rfl
      try simp only [Act.put, List.setIfInBounds_toArray, List.set_cons_zero, List.set_cons_succ]
      refine wpAnyU_take (i := 1) (v := ?_) (by simp only [List.getElem?_toArray, List.getElem?_cons_succ, List.getElem?_cons_zero]; rfl) (by kernel_rfl) (by kernel_rfl) (by kernel_rfl) (by kernel_rfl) (by kernel_rfl) (fun _ _ _ h => h) (Or.inl ⟨by rfl, ?_⟩) (by assumption) ?_
      rotate_left
      · intro w hSw; (try dsimp only at hSw); go_simp; first | done | with_reducible rfl
      try simp only [Act.put, List.setIfInBounds_toArray, List.set_cons_zero, List.set_cons_succ]
      refine wpAnyU_take (i := 2) (v := ?_) (by simp only [List.getElem?_toArray, List.getElem?_cons_succ, List.getElem?_cons_zero]; rfl) (by kernel_rfl) (by kernel_rfl) (by kernel_rfl) (by kernel_rfl) (by kernel_rfl) (fun _ _ _ h => h) (Or.inl ⟨by rfl, ?_⟩) (by assumption) ?_
      rotate_left
      · intro w hSw; (try dsimp only at hSw); go_simp; first | done | with_reducible rfl
      try simp only [Act.put, List.setIfInBounds_toArray, List.set_cons_zero, List.set_cons_succ]
      refine wpAnyU_take (i := 3) (v := ?_) (by simp only [List.getElem?_toArray, List.getElem?_cons_succ, List.getElem?_cons_zero]; rfl) (by kernel_rfl) (by kernel_rfl) (by kernel_rfl) (by kernel_rfl) (by kernel_rfl) (fun _ _ _ h => h) (Or.inl ⟨by rfl, ?_⟩) (by assumption) ?_
      rotate_left
      · intro w hSw; (try dsimp only at hSw); go_simp; first | done | with_reducible rfl
      try simp only [Act.put, List.setIfInBounds_toArray, List.set_cons_zero, List.set_cons_succ]
      refine wpAnyU_ready (rs := [4]) (by kernel_rfl) (by simp) ?_
      refine AllReadyU.cons (by simp only [List.getElem?_toArray, List.getElem?_cons_succ, List.getElem?_cons_zero]; rfl) (fun K hK => ?_) AllReadyU.nil
      go_simp
      refine (joint_any B g i _ hHeld.2.2.2.2.1 (by omega)).mono ?_
      rintro e w_4 ⟨s, kd, pa, ox, oy, oz, lo, hi', wt, ac, rfl, hk_4⟩
      have HO4 := Lib.hid (HO3.out.kept hk_4.2.2 (.inr (fun e => by have := (HO3.out.lt _ e).1; omega)))
      go_wp2_with fail
      refine hK.out _ _ ?_ (fun hHeld => ?_)
      · exact RobS.kept hHeld hk_4
      clear hK K hk_4 HO3
      try simp only [Act.put, List.setIfInBounds_toArray, List.set_cons_zero, List.set_cons_succ]
      refine wpAnyU_ready (rs := [5]) (by kernel_rfl) (by simp) ?_
      refine AllReadyU.cons (by simp only [List.getElem?_toArray, List.getElem?_cons_succ, List.getElem?_cons_zero]; rfl) (fun K hK => ?_) AllReadyU.nil
      go_simp
      refine hK.out _ _ ?_ (fun hHeld => ?_)
      · exact RobS.ext hHeld (ext_alloc (ext_refl w_4) _)
      clear hK K
      try simp only [Act.put, List.setIfInBounds_toArray, List.set_cons_zero, List.set_cons_succ]
      have hww := hHeld.2.2.1.lt
      refine wpAnyU_ready (rs := [6]) (by kernel_rfl) (by simp) ?_
      refine AllReadyU.cons (by simp only [List.getElem?_toArray, List.getElem?_cons_succ, List.getElem?_cons_zero]; rfl) (fun K hK => ?_) AllReadyU.nil
      refine step_append_lies _ (by rfl) _ _ _ (by rfl) (w.heap.size + 1 + 1) 112 i0 _ 12 104 Try.underlying74 hi hz0 hz1 hz2 rfl (by omega) jv i xs (by rfl) (HO4.out.alloc _) ⟨w_4.heap.size, 0, none⟩ 1 1 (jArr s kd pa ox oy oz lo hi' wt ac).toList (by rfl) (by rfl) (World.news_of_block (cs := jArr s kd pa ox oy oz lo hi' wt ac) (t := 112) (fr := (0, 0)) (heap_alloc_new w_4 _)) (by simp [Value.oneCell']) (by omega) (by unfold maxLen; omega) (by omega) (by omega) (w_4.heap.size + 1) (by simp) ?_
      intro g' cap w5 hown5 hgrow hat hlt5
      have HO5 := Lib.hid hown5
      have HS5 := Lib.hid (RobS.grow hHeld hgrow (fun m e => (HO4.out.lt m e).1))
      clear hown5 hgrow hat hHeld HO4
      refine hK.out _ _ ?_ (fun hHeld => ?_)
      · exact HS5.out
      clear hK K
      try simp only [Act.put, List.setIfInBounds_toArray, List.set_cons_zero, List.set_cons_succ]
      refine wpAnyU_take (i := 7) (v := ?_) (by simp only [List.getElem?_toArray, List.getElem?_cons_succ, List.getElem?_cons_zero]; rfl) (by kernel_rfl) (by kernel_rfl) (by kernel_rfl) (by kernel_rfl) (by kernel_rfl) (fun _ _ _ h => h) (Or.inl ⟨by rfl, ?_⟩) (by assumption) ?_
      rotate_left
      · intro w hSw; (try dsimp only at hSw); go_simp; first | done | with_reducible rfl
      try simp only [Act.put, List.setIfInBounds_toArray, List.set_cons_zero, List.set_cons_succ]
      clear hHeld
      have c0 := HS5.out.1
      have f0 := HS5.out.2.2.1.frozen 0
      have HS6 := Lib.hid (RobS.put0 (jv' := .slice (some ⟨g', 0, none⟩) (i + 1) cap) HS5.out)
      have HO6 := Lib.hid (owns_set HO5.out (p := ⟨w.heap.size + 1, 0, none⟩) (fun e => by have := (HO5.out.lt _ e.symm).1; simp at this; omega) (.slice (some ⟨g', 0, none⟩) (i + 1) cap))
      refine wpAnyU_ready (rs := [8]) (by kernel_rfl) (by simp) ?_
      refine AllReadyU.last (by simp only [List.getElem?_toArray, List.getElem?_cons_succ, List.getElem?_cons_zero]; rfl) (fun K hK => ?_) AllReadyU.nil
      go_simp
      refine hK.out _ _ ?_
      clear hK K c0 f0 HS5 HO5 hlt5
      try simp only [Act.put, List.setIfInBounds_toArray, List.set_cons_zero, List.set_cons_succ]
      refine wpAnyU_done (by kernel_rfl) ?_ _
      refine NoPanic.normal ?_
      generalize w5.setCell ⟨w.heap.size + 1, 0, none⟩ (.slice (some ⟨g', 0, none⟩) (i + 1) cap) = w6 at *
      go_wp2_with fail
      go_roundw
      case rel => exact ⟨i + 1, _, _, by omega, by go_num, HO6, HS6⟩
      case measure => simp [intOf]; omega
    · obtain rfl : i = 1 + n := by omega
      have hd : decide (((1 + n : Nat) : Int) < 1 + (n : Int)) = false := by simp
      obtain ⟨a, c, rfl⟩ : ∃ a c, jv = .slice a (1 + n) c := by
        rcases HO.out.2 with ⟨_, h⟩ | ⟨g1, cap, cur, h, _⟩
        · omega
        · exact ⟨_, _, h⟩
      clear HO
      go_wp2_with fail
      refine (next_any B g 3 wr HS.out.2.2.2.2.1 (by omega) (by omega)).mono ?_
      rintro e w3 ⟨k, k0, k1, rfl, hs3, hg3⟩
      have HS3 := Lib.hid (RobS.next HS.out hs3 hg3)
      clear HS hs3 hg3
      obtain ⟨k, rfl⟩ : ∃ m : Nat, k = (m : Int) := ⟨k.toNat, by omega⟩
      go_wp2_with fail
      clear hi hz0 hz1 hz2
      obtain ⟨i1, hi, hz0, hz1, hz2⟩ := info_parts info_mass
      go_loopw [6] (fun kv wr => ∃ (k m : Nat) (mv : Value) (ys : List Value), k + m ≤ 2 ∧ kv = .int .i64 k ∧ Hid (wr.ownsRow (w.heap.size + 1 + 1) 115 5 mv m ys) ∧ Hid (RobS w B g (.slice a (1 + n) c) mv wr)) (fun kv _ => (intOf kv).toNat)
      case atStart => exact ⟨k, 0, _, [], by omega, by go_num, Lib.hid (World.ownsRow_nil _ _ _ _), HS3⟩
      case round =>
      obtain ⟨k, m, mv, ys, hkm, rfl, HO, HS⟩ := hrel
      clear HS3
      by_cases hk : 0 < k
      · have hd2 : decide ((0 : Int) < (k : Int)) = true := by simp; omega
        go_wp2_with fail
        refine wp_region_noPanic ?_
        refine wp_region_until_drew (k := 19) (S := (fun w' => RobS w B g (.slice a (1 + n) c) mv w')) (by kernel_rfl) ?_ (fun hHeld => ?_)
        · exact RobS.ext HS.out (ext_drew (ext_refl _))
        have HO3 := Lib.hid (owns_ext HO.out (ext_drew (ext_refl _)))
        clear HO HS
        refine wpAnyU_take (i := 0) (v := ?_) (by simp only [List.getElem?_toArray, List.getElem?_cons_succ, List.getElem?_cons_zero]; rfl) (by kernel_rfl) (by kernel_rfl) (by kernel_rfl) (by kernel_rfl) (by kernel_rfl) (fun _ _ _ h => h) (Or.inl ⟨by rfl, ?_⟩) (by assumption) ?_
        rotate_left
        · intro w hSw; (try dsimp only at hSw); go_simp; first | done | with_reducible rfl
        try simp only [Act.put, List.setIfInBounds_toArray, List.set_cons_zero, List.set_cons_succ]
        refine wpAnyU_take (i := 1) (v := ?_) (by simp only [List.getElem?_toArray, List.getElem?_cons_succ, List.getElem?_cons_zero]; rfl) (by kernel_rfl) (by kernel_rfl) (by kernel_rfl) (by kernel_rfl) (by kernel_rfl) (fun _ _ _ h => h) (Or.inl ⟨by rfl, ?_⟩) (by assumption) ?_
        rotate_left
        · intro w hSw; (try dsimp only at hSw); go_simp; first | done | with_reducible rfl
        try simp only [Act.put, List.setIfInBounds_toArray, List.set_cons_zero, List.set_cons_succ]
        refine wpAnyU_take (i := 2) (v := ?_) (by simp only [List.getElem?_toArray, List.getElem?_cons_succ, List.getElem?_cons_zero]; rfl) (by kernel_rfl) (by kernel_rfl) (by kernel_rfl) (by kernel_rfl) (by kernel_rfl) (fun _ _ _ h => h) (Or.inl ⟨by rfl, ?_⟩) (by assumption) ?_
        rotate_left
        · intro w hSw; (try dsimp only at hSw); go_simp; first | done | with_reducible rfl
        try simp only [Act.put, List.setIfInBounds_toArray, List.set_cons_zero, List.set_cons_succ]
        refine wpAnyU_take (i := 3) (v := ?_) (by simp only [List.getElem?_toArray, List.getElem?_cons_succ, List.getElem?_cons_zero]; rfl) (by kernel_rfl) (by kernel_rfl) (by kernel_rfl) (by kernel_rfl) (by kernel_rfl) (fun _ _ _ h => h) (Or.inl ⟨by rfl, ?_⟩) (by assumption) ?_
        rotate_left
        · intro w hSw; (try dsimp only at hSw); go_simp; first | done | with_reducible rfl
        try simp only [Act.put, List.setIfInBounds_toArray, List.set_cons_zero, List.set_cons_succ]
        refine wpAnyU_take (i := 5) (v := ?_) (by simp only [List.getElem?_toArray, List.getElem?_cons_succ, List.getElem?_cons_zero]; rfl) (by kernel_rfl) (by kernel_rfl) (by kernel_rfl) (by kernel_rfl) (by kernel_rfl) (fun _ _ _ h => h) (Or.inl ⟨by rfl, ?_⟩) (by assumption) ?_
        rotate_left
        · intro w hSw; (try dsimp only at hSw); go_simp; first | done | with_reducible rfl
        try simp only [Act.put, List.setIfInBounds_toArray, List.set_cons_zero, List.set_cons_succ]
        refine wpAnyU_take (i := 8) (v := ?_) (by simp only [List.getElem?_toArray, List.getElem?_cons_succ, List.getElem?_cons_zero]; rfl) (by kernel_rfl) (by kernel_rfl) (by kernel_rfl) (by kernel_rfl) (by kernel_rfl) (fun _ _ _ h => h) (Or.inl ⟨by rfl, ?_⟩) (by assumption) ?_
        rotate_left
        · intro w hSw; (try dsimp only at hSw); go_simp; first | done | with_reducible rfl
        try simp only [Act.put, List.setIfInBounds_toArray, List.set_cons_zero, List.set_cons_succ]
        refine wpAnyU_take (i := 11) (v := ?_) (by simp only [List.getElem?_toArray, List.getElem?_cons_succ, List.getElem?_cons_zero]; rfl) (by kernel_rfl) (by kernel_rfl) (by kernel_rfl) (by kernel_rfl) (by kernel_rfl) (fun _ _ _ h => h) (Or.inl ⟨by rfl, ?_⟩) (by assumption) ?_
        rotate_left
        · intro w hSw; (try dsimp only at hSw); go_simp; first | done | with_reducible rfl
        try simp only [Act.put, List.setIfInBounds_toArray, List.set_cons_zero, List.set_cons_succ]
        refine wpAnyU_ready (rs := [4]) (by kernel_rfl) (by simp) ?_
        refine AllReadyU.cons (by simp only [List.getElem?_toArray, List.getElem?_cons_succ, List.getElem?_cons_zero]; rfl) (fun K hK => ?_) AllReadyU.nil
        go_simp
        refine (next_any B g _ _ hHeld.2.2.2.2.1 (by omega) (by omega)).mono ?_
        rintro e w_4 ⟨x, x0, x1, rfl, hs_4, hg_4⟩
        have HO4 := Lib.hid (HO3.out.kept hg_4 (.inr (fun e => by have := (HO3.out.lt _ e).1; omega)))
        go_wp2_with fail
        refine hK.out _ _ ?_ (fun hHeld => ?_)
        · exact RobS.next hHeld hs_4 hg_4
        clear hK K hs_4 hg_4 HO3
        try simp only [Act.put, List.setIfInBounds_toArray, List.set_cons_zero, List.set_cons_succ]
        refine wpAnyU_ready (rs := [6]) (by kernel_rfl) (by simp) ?_
        refine AllReadyU.cons (by simp only [List.getElem?_toArray, List.getElem?_cons_succ, List.getElem?_cons_zero]; rfl) (fun K hK => ?_) AllReadyU.nil
        go_simp
        refine (next_any B g 9000 _ hHeld.2.2.2.2.1 (by omega) (by omega)).mono ?_
        rintro e w_6 ⟨y, y0, y1, rfl, hs_6, hg_6⟩
        have HO5 := Lib.hid (HO4.out.kept hg_6 (.inr (fun e => by have := (HO4.out.lt _ e).1; omega)))
        go_wp2_with fail
        refine hK.out _ _ ?_ (fun hHeld => ?_)
        · exact RobS.next hHeld hs_6 hg_6
        clear hK K hs_6 hg_6 HO4
        try simp only [Act.put, List.setIfInBounds_toArray, List.set_cons_zero, List.set_cons_succ]
        refine wpAnyU_take (i := 7) (v := ?_) (by simp only [List.getElem?_toArray, List.getElem?_cons_succ, List.getElem?_cons_zero]; rfl) (by kernel_rfl) (by kernel_rfl) (by kernel_rfl) (by kernel_rfl) (by kernel_rfl) (fun _ _ _ h => h) (Or.inl ⟨by rfl, ?_⟩) (by assumption) ?_
        rotate_left
        · intro w hSw; (try dsimp only at hSw); go_simp; first | done | with_reducible rfl
        try simp only [Act.put, List.setIfInBounds_toArray, List.set_cons_zero, List.set_cons_succ]
        refine wpAnyU_ready (rs := [9]) (by kernel_rfl) (by simp) ?_
        refine AllReadyU.cons (by simp only [List.getElem?_toArray, List.getElem?_cons_succ, List.getElem?_cons_zero]; rfl) (fun K hK => ?_) AllReadyU.nil
        go_simp
        refine (signed_any B g 3 _ hHeld.2.2.2.2.1 (by omega) (by omega)).mono ?_
        rintro e w_9 ⟨z, z0, z1, rfl, hs_9, hg_9⟩
        have HO6 := Lib.hid (HO5.out.kept hg_9 (.inr (fun e => by have := (HO5.out.lt _ e).1; omega)))
        go_wp2_with fail
        refine hK.out _ _ ?_ (fun hHeld => ?_)
        · exact RobS.next hHeld hs_9 hg_9
        clear hK K hs_9 hg_9 HO5
        try simp only [Act.put, List.setIfInBounds_toArray, List.set_cons_zero, List.set_cons_succ]
        refine wpAnyU_take (i := 10) (v := ?_) (by simp only [List.getElem?_toArray, List.getElem?_cons_succ, List.getElem?_cons_zero]; rfl) (by kernel_rfl) (by kernel_rfl) (by kernel_rfl) (by kernel_rfl) (by kernel_rfl) (fun _ _ _ h => h) (Or.inl ⟨by rfl, ?_⟩) (by assumption) ?_
        rotate_left
        · intro w hSw; (try dsimp only at hSw); go_simp; first | done | with_reducible rfl
        try simp only [Act.put, List.setIfInBounds_toArray, List.set_cons_zero, List.set_cons_succ]
        refine wpAnyU_ready (rs := [12]) (by kernel_rfl) (by simp) ?_
        refine AllReadyU.cons (by simp only [List.getElem?_toArray, List.getElem?_cons_succ, List.getElem?_cons_zero]; rfl) (fun K hK => ?_) AllReadyU.nil
        go_simp
        refine (signed_any B g 2 _ hHeld.2.2.2.2.1 (by omega) (by omega)).mono ?_
        rintro e w_12 ⟨v, v0, v1, rfl, hs_12, hg_12⟩
        have HO7 := Lib.hid (HO6.out.kept hg_12 (.inr (fun e => by have := (HO6.out.lt _ e).1; omega)))
        go_wp2_with fail
        refine hK.out _ _ ?_ (fun hHeld => ?_)
        · exact RobS.next hHeld hs_12 hg_12
        clear hK K hs_12 hg_12 HO6
        try simp only [Act.put, List.setIfInBounds_toArray, List.set_cons_zero, List.set_cons_succ]
        refine wpAnyU_take (i := 13) (v := ?_) (by simp only [List.getElem?_toArray, List.getElem?_cons_succ, List.getElem?_cons_zero]; rfl) (by kernel_rfl) (by kernel_rfl) (by kernel_rfl) (by kernel_rfl) (by kernel_rfl) (fun _ _ _ h => h) (Or.inl ⟨by rfl, ?_⟩) (by assumption) ?_
        rotate_left
        · intro w hSw; (try dsimp only at hSw); go_simp; first | done | with_reducible rfl
        try simp only [Act.put, List.setIfInBounds_toArray, List.set_cons_zero, List.set_cons_succ]
        refine wpAnyU_take (i := 14) (v := ?_) (by simp only [List.getElem?_toArray, List.getElem?_cons_succ, List.getElem?_cons_zero]; rfl) (by kernel_rfl) (by kernel_rfl) (by kernel_rfl) (by kernel_rfl) (by kernel_rfl) (fun _ _ _ h => h) (Or.inl ⟨by rfl, ?_⟩) (by assumption) ?_
        rotate_left
        · intro w hSw; (try dsimp only at hSw); go_simp; first | done | with_reducible rfl
        try simp only [Act.put, List.setIfInBounds_toArray, List.set_cons_zero, List.set_cons_succ]
        refine wpAnyU_take (i := 15) (v := ?_) (by simp only [List.getElem?_toArray, List.getElem?_cons_succ, List.getElem?_cons_zero]; rfl) (by kernel_rfl) (by kernel_rfl) (by kernel_rfl) (by kernel_rfl) (by kernel_rfl) (fun _ _ _ h => h) (Or.inl ⟨by rfl, ?_⟩) (by assumption) ?_
        rotate_left
        · intro w hSw; (try dsimp only at hSw); go_simp; first | done | with_reducible rfl
        try simp only [Act.put, List.setIfInBounds_toArray, List.set_cons_zero, List.set_cons_succ]
        have ez : IntKind.i64.wrap (z * 32768) = z * 32768 := by rw [IntKind.wrap_i64]; omega
        have ev : IntKind.i64.wrap (v * 32768) = v * 32768 := by rw [IntKind.wrap_i64]; omega
        have ey : IntKind.i64.wrap (1 + y) = 1 + y := by rw [IntKind.wrap_i64]; omega
        try simp only [ez, ev, ey]
        clear ez ev ey
        refine wpAnyU_ready (rs := [16]) (by kernel_rfl) (by simp) ?_
        refine AllReadyU.cons (by simp only [List.getElem?_toArray, List.getElem?_cons_succ, List.getElem?_cons_zero]; rfl) (fun K hK => ?_) AllReadyU.nil
        go_simp
        refine hK.out _ _ ?_ (fun hHeld => ?_)
        · exact RobS.ext hHeld (ext_alloc (ext_refl w_12) _)
        clear hK K
        try simp only [Act.put, List.setIfInBounds_toArray, List.set_cons_zero, List.set_cons_succ]
        have hww := hHeld.2.2.1.lt
        refine wpAnyU_ready (rs := [17]) (by kernel_rfl) (by simp) ?_
        refine AllReadyU.cons (by simp only [List.getElem?_toArray, List.getElem?_cons_succ, List.getElem?_cons_zero]; rfl) (fun K hK => ?_) AllReadyU.nil
        refine step_append_lies _ (by rfl) _ _ _ (by rfl) (w.heap.size + 1 + 1) 115 i1 _ 5 40 Try.underlying75 hi hz0 hz1 hz2 rfl (by omega) mv m ys (by rfl) (HO7.out.alloc _) ⟨w_12.heap.size, 0, none⟩ 1 1 [.int .i64 x, .int .i64 (1 + y), .int .i64 (z * 32768), .int .i64 0, .int .i64 (v * 32768)] (by rfl) (by rfl) (World.news_of_block (cs := #[.int .i64 x, .int .i64 (1 + y), .int .i64 (z * 32768), .int .i64 0, .int .i64 (v * 32768)]) (t := 115) (fr := (0, 0)) (heap_alloc_new w_12 _)) (by simp [Value.oneCell']) (by omega) (by unfold maxLen; omega) (by omega) (by omega) (w_12.heap.size + 1) (by simp) ?_
        intro g' cap w5 hown5 hgrow hat hlt5
        have HO8 := Lib.hid hown5
        have HS5 := Lib.hid (RobS.grow hHeld hgrow (fun m e => (HO7.out.lt m e).1))
        clear hown5 hgrow hat hHeld HO7
        refine hK.out _ _ ?_ (fun hHeld => ?_)
        · exact HS5.out
        clear hK K
        try simp only [Act.put, List.setIfInBounds_toArray, List.set_cons_zero, List.set_cons_succ]
        refine wpAnyU_take (i := 18) (v := ?_) (by simp only [List.getElem?_toArray, List.getElem?_cons_succ, List.getElem?_cons_zero]; rfl) (by kernel_rfl) (by kernel_rfl) (by kernel_rfl) (by kernel_rfl) (by kernel_rfl) (fun _ _ _ h => h) (Or.inl ⟨by rfl, ?_⟩) (by assumption) ?_
        rotate_left
        · intro w hSw; (try dsimp only at hSw); go_simp; first | done | with_reducible rfl
        try simp only [Act.put, List.setIfInBounds_toArray, List.set_cons_zero, List.set_cons_succ]
        clear hHeld
        have c1 := HS5.out.2.1
        have f1 := HS5.out.2.2.1.frozen 1
        have HS6 := Lib.hid (RobS.put1 (mv' := .slice (some ⟨g', 0, none⟩) (m + 1) cap) HS5.out)
        have HO9 := Lib.hid (owns_set HO8.out (p := ⟨w.heap.size + 1, 1, none⟩) (fun e => by have := (HO8.out.lt _ e.symm).1; simp at this; omega) (.slice (some ⟨g', 0, none⟩) (m + 1) cap))
        refine wpAnyU_ready (rs := [19]) (by kernel_rfl) (by simp) ?_
        refine AllReadyU.last (by simp only [List.getElem?_toArray, List.getElem?_cons_succ, List.getElem?_cons_zero]; rfl) (fun K hK => ?_) AllReadyU.nil
        go_simp
        refine hK.out _ _ ?_
        clear hK K c1 f1 HS5 HO8 hlt5
        try simp only [Act.put, List.setIfInBounds_toArray, List.set_cons_zero, List.set_cons_succ]
        refine wpAnyU_done (by kernel_rfl) ?_ _
        refine NoPanic.normal ?_
        generalize w5.setCell ⟨w.heap.size + 1, 1, none⟩ (.slice (some ⟨g', 0, none⟩) (m + 1) cap) = w6 at *
        go_wp2_with fail
        go_roundw
        case rel => exact ⟨k - 1, m + 1, _, _, by omega, by go_num, HO9, HS6⟩
        case measure => simp [intOf]; omega
      · obtain rfl : k = 0 := by omega
        obtain ⟨a', c', rfl⟩ : ∃ a' c', mv = .slice a' m c' := by
          rcases HO.out.2 with ⟨h, h'⟩ | ⟨g1, cap, cur, h, _⟩
          · exact ⟨none, 0, by rw [h, h']⟩
          · exact ⟨_, _, h⟩
        clear HO
        have HW := Lib.hid HS.out.2.2.1
        have HZ := Lib.hid HS.out.2.2.2.1
        have HK := Lib.hid HS.out.2.2.2.2
        clear HS
        go_wp2_with (first | refine wpList_load_mid rfl 77 _ rfl (w.heap.size + 1) 0 rfl [.slice a (1 + n) c, .slice a' m c'] _ HW.out.all Try.underlying77 rfl (by kernel_rfl) ?_ | refine wpList_store_mid rfl 77 _ _ rfl w.heap.size 0 #[.slice a (1 + n) c, .slice a' m c'] rfl rfl (there_all HZ.out 2 (Nat.le_refl _)) (by kernel_rfl) (by simp [Value.oneCell']) ?_)
        exact bodyPost_ret (ret_cell Try.results55 rfl (HZ.out.full #[.slice a (1 + n) c, .slice a' m c'] rfl) Try.underlying77 rfl (by kernel_rfl)) rfl ⟨a, 1 + n, c, a', m, c', by omega, by omega, rfl, HK.out.setN (Nat.le_refl _) _ 0⟩
end Go.Proofs.Ytgnjconhbloocaa

namespace Go.Proofs.Ytgnjconhbloocaa
open Go.RowKit
set_option linter.unusedVariables false

theorem info_shape : (Try.prog.info? 48).map (fun i => (i.zero, i.size, i.bytes)) = some (some (.agg #[.int .i64 0, .int .i64 0, .slice none 0 0]), 3, 40) := by kernel_rfl
theorem info_skip : (Try.prog.info? 98).map (fun i => (i.zero, i.size, i.bytes)) = some (some (.agg #[.int .i64 0, .int .i64 0]), 2, 16) := by kernel_rfl
abbrev scZero : Array Value := #[.slice none 0 0, .slice none 0 0, .slice none 0 0, .slice none 0 0]
/-- What is known while a scene is made. -/
abbrev ScS (W : World) (B g q : Nat) (jv mv sv kv : Value) (w' : World) : Prop :=
  w'.cell? ⟨q, 0, none⟩ = some jv ∧ w'.cell? ⟨q, 2, none⟩ = some sv ∧ w'.cell? ⟨q, 3, none⟩ = some kv ∧ Whole w' q 81 #[jv, mv, sv, kv] ∧ Kept W B g w' ∧ W.heap.size ≤ q
section
variable {W : World} {B g q : Nat} {jv mv sv kv : Value} {w1 w2 : World}
theorem ScS.mk' (h : Whole w1 q 81 #[jv, mv, sv, kv]) (k : Kept W B g w1) (hq : W.heap.size ≤ q) : ScS W B g q jv mv sv kv w1 := ⟨h.cell 0, h.cell 2, h.cell 3, h, k, hq⟩
theorem ScS.ext (h : ScS W B g q jv mv sv kv w1) (hb : Below w1.heap.size w1 w2) : ScS W B g q jv mv sv kv w2 := ScS.mk' (h.2.2.2.1.ext hb) (h.2.2.2.2.1.ext hb) h.2.2.2.2.2
theorem ScS.next (h : ScS W B g q jv mv sv kv w1) (hs : Src w2 B g) (hg : w1.grownBy w2 (some g)) : ScS W B g q jv mv sv kv w2 :=
  ScS.mk' (h.2.2.2.1.grown hg (fun e => by injection e with e; have := h.2.2.2.2.1.2.1; have := h.2.2.2.2.2; omega)) (h.2.2.2.2.1.next hs hg) h.2.2.2.2.2
theorem ScS.kept (h : ScS W B g q jv mv sv kv w1) (k : Kept w1 B g w2) : ScS W B g q jv mv sv kv w2 := h.next k.1 k.2.2
theorem ScS.grow {row : Option Nat} (h : ScS W B g q jv mv sv kv w1) (hg : w1.grownBy w2 row) (hr : ∀ k, row = some k → q + 1 ≤ k) : ScS W B g q jv mv sv kv w2 :=
  ScS.mk' (h.2.2.2.1.grown hg (fun e => by have := hr _ e.symm; omega)) (h.2.2.2.2.1.grow hg (fun k e => by have := hr k e; have := h.2.2.2.2.2; omega)) h.2.2.2.2.2
theorem ScS.put2 {u : Value} (h : ScS W B g q jv mv sv kv w1) : ScS W B g q jv mv u kv (w1.setCell ⟨q, 2, none⟩ u) :=
  ScS.mk' (h.2.2.2.1.store 2 u) (h.2.2.2.2.1.setN h.2.2.2.2.2 [u] 2) h.2.2.2.2.2
theorem ScS.put3 {u : Value} (h : ScS W B g q jv mv sv kv w1) : ScS W B g q jv mv sv u (w1.setCell ⟨q, 3, none⟩ u) :=
  ScS.mk' (h.2.2.2.1.store 3 u) (h.2.2.2.2.1.setN h.2.2.2.2.2 [u] 3) h.2.2.2.2.2
end
/-- The last shape of the row is a good one. -/
def LastOk (q : Nat) (sv : Value) (xs : List Value) (w' : World) : Prop :=
  ∃ (P : List (Int × Int × Int)) (v : Value) (r : Int) (ys : List Value), xs = ys ++ [.int .i64 (-1), .int .i64 r, v] ∧ Fx.shapeOk r P = true ∧ P.length ≤ 4 ∧ w'.ownsRow (q + 1) 66 3 v P.length (pCells P) ∧ v.ownBlock ≠ sv.ownBlock
theorem LastOk.next {q g : Nat} {sv : Value} {xs : List Value} {w1 w2 : World} (h : LastOk q sv xs w1) (hg : w1.grownBy w2 (some g)) (hq : g ≤ q) : LastOk q sv xs w2 := by
  obtain ⟨P, v, r, ys, h1, h2, h3, h4, h5⟩ := h
  exact ⟨P, v, r, ys, h1, h2, h3, h4.kept hg (.inr (fun e => by have := (h4.lt _ e).1; omega)), h5⟩
theorem LastOk.ext {q : Nat} {sv : Value} {xs : List Value} {w1 w2 : World} (h : LastOk q sv xs w1) (hb : Below w1.heap.size w1 w2) : LastOk q sv xs w2 := by
  obtain ⟨P, v, r, ys, h1, h2, h3, h4, h5⟩ := h
  exact ⟨P, v, r, ys, h1, h2, h3, owns_ext h4 hb, h5⟩
theorem near_ok {P : List (Int × Int × Int)} (h : Near P) (h1 : 1 ≤ P.length) (h4 : P.length ≤ 4) {r : Int} (hr : 1 ≤ r ∧ r ≤ 1048576) : Fx.shapeOk r P = true := by
  refine Fx.shapeOk_yes hr ⟨h1, by omega⟩ (List.all_eq_true.2 (fun q hq => ?_))
  obtain ⟨h1, h2, h3⟩ := h q hq
  unfold Fx.ptOk
  rw [Fx.coord_true.2 (by omega), Fx.coord_true.2 (by omega), Fx.coord_true.2 (by omega)]
  rfl
theorem LastOk.set {q : Nat} {sv : Value} {xs : List Value} {w1 : World} (h : LastOk q sv xs w1) (j : Nat) (u : Value) : LastOk q sv xs (w1.setCell ⟨q, j, none⟩ u) := by
  obtain ⟨P, v, r, ys, h1, h2, h3, h4, h5⟩ := h
  exact ⟨P, v, r, ys, h1, h2, h3, owns_set h4 (p := ⟨q, j, none⟩) (fun e => by have := (h4.lt _ e.symm).1; simp at this; omega) u, h5⟩
theorem LastOk.grow {q : Nat} {sv : Value} {xs : List Value} {w1 w2 : World} (h : LastOk q sv xs w1) (hg : w1.grownBy w2 none) : LastOk q sv xs w2 := by
  obtain ⟨P, v, r, ys, h1, h2, h3, h4, h5⟩ := h
  refine ⟨P, v, r, ys, h1, h2, h3, h4.kept hg ?_, h5⟩
  cases hv : v.ownBlock <;> simp
theorem LastOk.made {q b g' n cap H : Nat} {sv v : Value} {P : List (Int × Int × Int)} {r : Int} {xs : List Value} {w0 w4 w5 : World} (hP : Fx.shapeOk r P = true) (h4 : P.length ≤ 4)
    (hv : w4.ownsRow w0.heap.size 66 3 v P.length (pCells P)) (hq : q + 1 ≤ w0.heap.size) (hs : ∀ k, sv.ownBlock = some k → k < w0.heap.size) (hg : w4.grownBy w5 sv.ownBlock) (hat : sv.ownBlock = some g' ∨ g' = H) (hH : w4.heap.size ≤ H) :
    LastOk q (.slice (some ⟨g', 0, none⟩) n cap) (xs ++ [.int .i64 (-1), .int .i64 r, v]) w5 := by
  have hne : v.ownBlock ≠ sv.ownBlock := fun e => by
    cases hb : v.ownBlock with
    | none =>
      have := Fx.shapeOk_len hP
      rcases hv.2 with ⟨_, h⟩ | ⟨g1, c1, cur, rfl, _⟩
      · omega
      · simp [Value.ownBlock] at hb
    | some k => have := (hv.lt k hb).1; have := hs k (by rw [← e, hb]); omega
  refine ⟨P, v, r, xs, rfl, hP, h4, owns_le (hv.kept hg (.inr hne)) hq, fun e => ?_⟩
  have e' : v.ownBlock = some g' := e.trans (by simp [Value.ownBlock])
  rcases hat with h | h
  · exact hne (e'.trans h.symm)
  · have := (hv.lt g' e').2; omega
theorem owns_setN {b base n size : Nat} {e : TypeId} {v : Value} {xs : List Value} (hb : b < base) : ∀ (vs : List Value) {w1 : World} (_ : w1.ownsRow base e size v n xs) (o : Nat), (w1.setCells b o vs).ownsRow base e size v n xs
  | [], _, h, _ => h
  | u :: vs, w1, h, o => owns_setN hb vs (owns_set h (p := ⟨b, o, none⟩) (fun e => by have := (h.lt _ e.symm).1; simp at this; omega) u) (o + 1)
theorem LastOk.setN {q b : Nat} {sv : Value} {xs : List Value} {w1 : World} (h : LastOk q sv xs w1) (hb : b ≤ q) (vs : List Value) (o : Nat) : LastOk q sv xs (w1.setCells b o vs) := by
  obtain ⟨P, v, r, ys, h1, h2, h3, h4, h5⟩ := h
  exact ⟨P, v, r, ys, h1, h2, h3, owns_setN (by omega) vs h4 o, h5⟩
/-- The same beside the block of a point. -/
abbrev ScC (W : World) (B g q : Nat) (jv mv sv kv : Value) (b : Nat) (cs : Array Value) (w' : World) : Prop := ScS W B g q jv mv sv kv w' ∧ Whole w' b 66 cs
section
variable {W : World} {B g q b : Nat} {jv mv sv kv : Value} {cs : Array Value} {w1 w2 : World}
theorem ScC.ext (h : ScC W B g q jv mv sv kv b cs w1) (hb : Below w1.heap.size w1 w2) : ScC W B g q jv mv sv kv b cs w2 := ⟨ScS.ext h.1 hb, h.2.ext hb⟩
theorem ScC.next (h : ScC W B g q jv mv sv kv b cs w1) (hne : b ≠ g) (hs : Src w2 B g) (hg : w1.grownBy w2 (some g)) : ScC W B g q jv mv sv kv b cs w2 := ⟨ScS.next h.1 hs hg, h.2.grown hg (fun e => by injection e with e; exact hne e)⟩
theorem ScC.kept (h : ScC W B g q jv mv sv kv b cs w1) (hne : b ≠ g) (k : Kept w1 B g w2) : ScC W B g q jv mv sv kv b cs w2 := h.next hne k.1 k.2.2
theorem ScC.grow {row : Option Nat} (h : ScC W B g q jv mv sv kv b cs w1) (hg : w1.grownBy w2 row) (hr : ∀ k, row = some k → q + 1 ≤ k) (hne : row ≠ some b) : ScC W B g q jv mv sv kv b cs w2 := ⟨ScS.grow h.1 hg hr, h.2.grown hg (fun e => hne e.symm)⟩
end
theorem rad_ok (x : Int) (x0 : 0 ≤ x) (x1 : x < 4) : 1 ≤ IntKind.i64.wrap ((IntKind.i64.wrap (IntKind.i64.wrap (1 + x) * 65536)).tdiv 8) ∧ IntKind.i64.wrap ((IntKind.i64.wrap (IntKind.i64.wrap (1 + x) * 65536)).tdiv 8) ≤ 1048576 := by
  rw [show IntKind.i64.wrap (1 + x) = 1 + x by rw [IntKind.wrap_i64]; omega, show IntKind.i64.wrap ((1 + x) * 65536) = (1 + x) * 65536 by rw [IntKind.wrap_i64]; omega, Int.tdiv_eq_ediv_of_nonneg (by omega), IntKind.wrap_i64]
  omega
end Go.Proofs.Ytgnjconhbloocaa

namespace Go.Proofs.Ytgnjconhbloocaa
open Go.RowKit
set_option linter.unusedVariables false

/-- Some scene is returned whose last shape is a good one. -/
def GivesSc (w : World) (e : Ending) (w' : World) : Prop :=
  ∃ (jv mv kv v : Value) (G n cap : Nat) (r : Int) (P : List (Int × Int × Int)), e = .returned (.agg #[jv, mv, .slice (some ⟨G, 0, none⟩) (n + 1) cap, kv]) ∧ (jv.oneCell' = true ∧ mv.oneCell' = true ∧ kv.oneCell' = true) ∧ n ≤ 8 ∧ G < w'.heap.size ∧ w'.rangeAt G (n * 3) [.int .i64 (-1), .int .i64 r, v] ∧ Fx.shapeOk r P = true ∧ (P.length ≤ 4 ∧ w'.ownsRow w.heap.size 66 3 v P.length (pCells P)) ∧ Below w.heap.size w w'
theorem GivesSc.of {w w' : World} {q n : Nat} {jv mv sv kv : Value} {xs : List Value} (ho : w'.ownsRow (q + 1) 48 3 sv n xs) (hl : LastOk q sv xs w') (hn : n ≤ 8) (hb : Below w.heap.size w w') (h1 : jv.oneCell' = true ∧ mv.oneCell' = true ∧ kv.oneCell' = true) (hq : w.heap.size ≤ q + 1) : GivesSc w (.returned (.agg #[jv, mv, sv, kv])) w' := by
  obtain ⟨P, v, r, ys, rfl, h2, h3, h4, h5⟩ := hl
  have hx := ho.1
  rcases ho.2 with ⟨_, h⟩ | ⟨g1, cap, cur, rfl, _⟩
  · subst h; simp at hx
  · obtain ⟨m, rfl⟩ : ∃ m, n = m + 1 := ⟨n - 1, by simp at hx; omega⟩
    refine ⟨jv, mv, kv, v, g1, m, cap, r, P, rfl, h1, by omega, (ho.lt g1 rfl).2, fun j u hj => ?_, h2, ⟨h3, owns_le h4 hq⟩, hb⟩
    have hy : ys.length = m * 3 := by simp at hx; omega
    have := ho.cells (g := g1) rfl (m * 3 + j) u (by rw [List.getElem?_append_right (by omega), hy, Nat.add_sub_cancel_left]; exact hj)
    rwa [Addr.add_mid, Nat.zero_add] at this

theorem from_at (v : Value) (xs : List Int) (w : World) (g : Nat) (h : IntSl w v xs) (hg : w.heap.size = g) :
    Calls Try.prog 22 #[v] w fun e w' => e = .returned (.pointer (some ⟨g, 0, none⟩)) ∧ Src w' g g ∧ Below w.heap.size w w' := by subst hg; exact from_any v xs w h

set_option maxRecDepth 100000 in
set_option maxHeartbeats 1000000 in
theorem scene_any (v : Value) (xs : List Int) (w : World) (h : IntSl w v xs) :
    Calls Try.prog 40 #[v] w (GivesSc w) := by
  have H := Lib.hid (h.ext (ext_alloc (ext_refl w) (.cells scZero 81)))
  obtain ⟨a0, c0, rfl, hx1, hx2⟩ := h
  clear hx1 hx2
  obtain ⟨i0, hi, hz0, hz1, hz2⟩ := info_parts info_shape
  go_enter Try.func40, Try.ntmps40
  go_wp2_with fail
  obtain ⟨g, hg1⟩ : ∃ g, g = w.heap.size + 1 := ⟨_, rfl⟩
  refine (from_at _ xs _ g H.out (by rw [hg1]; simp)).mono ?_
  have hgl : w.heap.size < g := by omega
  have hgl2 : w.heap.size ≠ g := by omega
  clear H hg1
  rintro e w1 ⟨rfl, hs1, hb1⟩
  have HZ1 := Lib.hid ((Whole.new w 81 scZero).ext hb1)
  have hB1 : Below w.heap.size w w1 := ext_trans (ext_alloc (ext_refl w) _) hb1
  have hgw := hs1.lt
  clear hb1
  go_wp2_with fail
  refine (robot_any g g w1 hs1).mono ?_
  clear hs1
  rintro e w3 ⟨a, n, c, a', n', c', hn1, hn3, rfl, hK3⟩
  have HZ3 := Lib.hid (hK3.whole HZ1.out (by omega))
  have hgw3 := hK3.le
  have HB3 := Lib.hid (below_grown hB1 (by omega) (by omega) hK3.2.2)
  have HK3 := Lib.hid (Kept.refl hK3.1)
  clear hK3 HZ1 hB1
  go_wp2_with (refine wpList_store_mid rfl 81 _ _ rfl w3.heap.size 0 #[.slice a n c, .slice a' n' c', .slice none 0 0, .slice none 0 0] rfl rfl (there_all (Whole.new w3 81 scZero) 4 (Nat.le_refl _)) (by kernel_rfl) (by simp [Value.oneCell']) ?_)
  have HS0 := Lib.hid (ScS.mk' ((Whole.new w3 81 scZero).full #[.slice a n c, .slice a' n' c', .slice none 0 0, .slice none 0 0] rfl) ((HK3.out.alloc (.cells scZero 81)).setN (Nat.le_refl _) [.slice a n c, .slice a' n' c', .slice none 0 0, .slice none 0 0] 0) (Nat.le_refl _))
  clear HK3
  generalize (w3.alloc (.cells scZero 81)).setCells w3.heap.size 0 _ = w4 at *
  go_loopw [5] (fun iv wr => ∃ (i m : Nat) (sv : Value) (ys : List Value), i ≤ n ∧ m ≤ i ∧ iv = .int .i64 i ∧ Hid (wr.ownsRow (w3.heap.size + 1) 48 3 sv m ys) ∧ Hid (ScS w3 g g w3.heap.size (.slice a n c) (.slice a' n' c') sv (.slice none 0 0) wr)) (fun iv _ => n - (intOf iv).toNat)
  case atStart => exact ⟨0, 0, _, [], by omega, by omega, by go_num, Lib.hid (World.ownsRow_nil _ _ _ _), HS0⟩
  case round =>
    obtain ⟨i, m, sv, ys, hin, hmi, rfl, HO, HS⟩ := hrel
    clear HS0
    have cj := HS.out.1
    by_cases hlt : i < n
    · have hd : decide ((i : Int) < (n : Int)) = true := by simp; omega
      go_wp2_with fail
      clear cj
      refine (next_any g g 5 wr HS.out.2.2.2.2.1.1 (by omega) (by omega)).mono ?_
      rintro e w5 ⟨y, y0, y1, rfl, hs5, hg5⟩
      have HO2 := Lib.hid (HO.out.kept hg5 (.inr (fun e => by have := (HO.out.lt _ e).1; omega)))
      have HS2 := Lib.hid (ScS.next HS.out hs5 hg5)
      clear HO HS hs5 hg5
      by_cases hx4 : y < 4
      · have hd4 : decide (y < 4) = true := by simp; omega
        go_wp2_with fail
        refine wp_region_noPanic ?_
        refine wp_region_until_drew (k := 18) (S := (fun w' => ScS w3 g g w3.heap.size (.slice a n c) (.slice a' n' c') sv (.slice none 0 0) w')) (by kernel_rfl) ?_ (fun hHeld => ?_)
        · exact ScS.ext HS2.out (ext_drew (ext_refl _))
        have HO3 := Lib.hid (owns_ext HO2.out (ext_drew (ext_refl _)))
        clear HO2 HS2
        refine wpAnyU_take (i := 0) (v := ?_) (by simp only [List.getElem?_toArray, List.getElem?_cons_succ, List.getElem?_cons_zero]; rfl) (by kernel_rfl) (by kernel_rfl) (by kernel_rfl) (by kernel_rfl) (by kernel_rfl) (fun _ _ _ h => h) (Or.inl ⟨by rfl, ?_⟩) (by assumption) ?_
        rotate_left
        · intro w hSw; (try dsimp only at hSw); go_simp; first | done | with_reducible rfl
        try simp only [Act.put, List.setIfInBounds_toArray, List.set_cons_zero, List.set_cons_succ]
        refine wpAnyU_take (i := 1) (v := ?_) (by simp only [List.getElem?_toArray, List.getElem?_cons_succ, List.getElem?_cons_zero]; rfl) (by kernel_rfl) (by kernel_rfl) (by kernel_rfl) (by kernel_rfl) (by kernel_rfl) (fun _ _ _ h => h) (Or.inl ⟨by rfl, ?_⟩) (by assumption) ?_
        rotate_left
        · intro w hSw; (try dsimp only at hSw); go_simp; first | done | with_reducible rfl
        try simp only [Act.put, List.setIfInBounds_toArray, List.set_cons_zero, List.set_cons_succ]
        refine wpAnyU_take (i := 2) (v := ?_) (by simp only [List.getElem?_toArray, List.getElem?_cons_succ, List.getElem?_cons_zero]; rfl) (by kernel_rfl) (by kernel_rfl) (by kernel_rfl) (by kernel_rfl) (by kernel_rfl) (fun _ _ _ h => h) (Or.inl ⟨by rfl, ?_⟩) (by assumption) ?_
        rotate_left
        · intro w hSw; (try dsimp only at hSw); go_simp; first | done | with_reducible rfl
        try simp only [Act.put, List.setIfInBounds_toArray, List.set_cons_zero, List.set_cons_succ]
        refine wpAnyU_take (i := 3) (v := ?_) (by simp only [List.getElem?_toArray, List.getElem?_cons_succ, List.getElem?_cons_zero]; rfl) (by kernel_rfl) (by kernel_rfl) (by kernel_rfl) (by kernel_rfl) (by kernel_rfl) (fun _ _ _ h => h) (Or.inl ⟨by rfl, ?_⟩) (by assumption) ?_
        rotate_left
        · intro w hSw; (try dsimp only at hSw); go_simp; first | done | with_reducible rfl
        try simp only [Act.put, List.setIfInBounds_toArray, List.set_cons_zero, List.set_cons_succ]
        refine wpAnyU_take (i := 8) (v := ?_) (by simp only [List.getElem?_toArray, List.getElem?_cons_succ, List.getElem?_cons_zero]; rfl) (by kernel_rfl) (by kernel_rfl) (by kernel_rfl) (by kernel_rfl) (by kernel_rfl) (fun _ _ _ h => h) (Or.inl ⟨by rfl, ?_⟩) (by assumption) ?_
        rotate_left
        · intro w hSw; (try dsimp only at hSw); go_simp; first | done | with_reducible rfl
        try simp only [Act.put, List.setIfInBounds_toArray, List.set_cons_zero, List.set_cons_succ]
        refine wpAnyU_take (i := 9) (v := ?_) (by simp only [List.getElem?_toArray, List.getElem?_cons_succ, List.getElem?_cons_zero]; rfl) (by kernel_rfl) (by kernel_rfl) (by kernel_rfl) (by kernel_rfl) (by kernel_rfl) (fun _ _ _ h => h) (Or.inl ⟨by rfl, ?_⟩) (by assumption) ?_
        rotate_left
        · intro w hSw; (try dsimp only at hSw); go_simp; first | done | with_reducible rfl
        try simp only [Act.put, List.setIfInBounds_toArray, List.set_cons_zero, List.set_cons_succ]
        refine wpAnyU_ready (rs := [4]) (by kernel_rfl) (by simp) ?_
        refine AllReadyU.cons (by simp only [List.getElem?_toArray, List.getElem?_cons_succ, List.getElem?_cons_zero]; rfl) (fun K hK => ?_) AllReadyU.nil
        go_simp
        refine (next_any g g 3 _ hHeld.2.2.2.2.1.1 (by omega) (by omega)).mono ?_
        rintro e w_4 ⟨x, x0, x1, rfl, hs_4, hg_4⟩
        have HO4 := Lib.hid (HO3.out.kept hg_4 (.inr (fun e => by have := (HO3.out.lt _ e).1; omega)))
        go_wp2_with fail
        refine hK.out _ _ ?_ (fun hHeld => ?_)
        · exact ScS.next hHeld hs_4 hg_4
        clear hK K hs_4 hg_4 HO3
        try simp only [Act.put, List.setIfInBounds_toArray, List.set_cons_zero, List.set_cons_succ]
        refine wpAnyU_take (i := 5) (v := ?_) (by simp only [List.getElem?_toArray, List.getElem?_cons_succ, List.getElem?_cons_zero]; rfl) (by kernel_rfl) (by kernel_rfl) (by kernel_rfl) (by kernel_rfl) (by kernel_rfl) (fun _ _ _ h => h) (Or.inl ⟨by rfl, ?_⟩) (by assumption) ?_
        rotate_left
        · intro w hSw; (try dsimp only at hSw); go_simp; first | done | with_reducible rfl
        try simp only [Act.put, List.setIfInBounds_toArray, List.set_cons_zero, List.set_cons_succ]
        refine wpAnyU_take (i := 6) (v := ?_) (by simp only [List.getElem?_toArray, List.getElem?_cons_succ, List.getElem?_cons_zero]; rfl) (by kernel_rfl) (by kernel_rfl) (by kernel_rfl) (by kernel_rfl) (by kernel_rfl) (fun _ _ _ h => h) (Or.inl ⟨by rfl, ?_⟩) (by assumption) ?_
        rotate_left
        · intro w hSw; (try dsimp only at hSw); go_simp; first | done | with_reducible rfl
        try simp only [Act.put, List.setIfInBounds_toArray, List.set_cons_zero, List.set_cons_succ]
        refine wpAnyU_take (i := 7) (v := ?_) (by simp only [List.getElem?_toArray, List.getElem?_cons_succ, List.getElem?_cons_zero]; rfl) (by kernel_rfl) (by kernel_rfl) (by kernel_rfl) (by kernel_rfl) (by kernel_rfl) (fun _ _ _ h => h) (Or.inl ⟨by rfl, ?_⟩) (by assumption) ?_
        rotate_left
        · intro w hSw; (try dsimp only at hSw); go_simp; first | done | with_reducible rfl
        try simp only [Act.put, List.setIfInBounds_toArray, List.set_cons_zero, List.set_cons_succ]
        refine wpAnyU_ready (rs := [10]) (by kernel_rfl) (by simp) ?_
        refine AllReadyU.cons (by simp only [List.getElem?_toArray, List.getElem?_cons_succ, List.getElem?_cons_zero]; rfl) (fun K hK => ?_) AllReadyU.nil
        go_simp
        refine (next_any g g 4 _ hHeld.2.2.2.2.1.1 (by omega) (by omega)).mono ?_
        rintro e w_10 ⟨z, z0, z1, rfl, hs_10, hg_10⟩
        have HO5 := Lib.hid (HO4.out.kept hg_10 (.inr (fun e => by have := (HO4.out.lt _ e).1; omega)))
        go_wp2_with fail
        refine hK.out _ _ ?_ (fun hHeld => ?_)
        · exact ScS.next hHeld hs_10 hg_10
        clear hK K hs_10 hg_10 HO4
        try simp only [Act.put, List.setIfInBounds_toArray, List.set_cons_zero, List.set_cons_succ]
        refine wpAnyU_take (i := 11) (v := ?_) (by simp only [List.getElem?_toArray, List.getElem?_cons_succ, List.getElem?_cons_zero]; rfl) (by kernel_rfl) (by kernel_rfl) (by kernel_rfl) (by kernel_rfl) (by kernel_rfl) (fun _ _ _ h => h) (Or.inl ⟨by rfl, ?_⟩) (by assumption) ?_
        rotate_left
        · intro w hSw; (try dsimp only at hSw); go_simp; first | done | with_reducible rfl
        try simp only [Act.put, List.setIfInBounds_toArray, List.set_cons_zero, List.set_cons_succ]
        refine wpAnyU_take (i := 12) (v := ?_) (by simp only [List.getElem?_toArray, List.getElem?_cons_succ, List.getElem?_cons_zero]; rfl) (by kernel_rfl) (by kernel_rfl) (by kernel_rfl) (by kernel_rfl) (by kernel_rfl) (fun _ _ _ h => h) (Or.inl ⟨by rfl, ?_⟩) (by assumption) ?_
        rotate_left
        · intro w hSw; (try dsimp only at hSw); go_simp; first | done | with_reducible rfl
        try simp only [Act.put, List.setIfInBounds_toArray, List.set_cons_zero, List.set_cons_succ]
        have hrad := rad_ok x (by omega) (by omega)
        generalize hre : IntKind.i64.wrap ((IntKind.i64.wrap (IntKind.i64.wrap (1 + x) * 65536)).tdiv 8) = r at hrad ⊢
        clear hre
        have ez : IntKind.i64.wrap (z * 32768) = z * 32768 := by rw [IntKind.wrap_i64]; omega
        rw [ez]
        clear ez
        refine wpAnyU_ready (rs := [13]) (by kernel_rfl) (by simp) ?_
        refine AllReadyU.cons (by simp only [List.getElem?_toArray, List.getElem?_cons_succ, List.getElem?_cons_zero]; rfl) (fun K hK => ?_) AllReadyU.nil
        go_simp
        refine (mkpoints_any g g (z * 32768) 0 0 _ hHeld.2.2.2.2.1.1 (by omega) (by omega) (by omega)).mono ?_
        rintro e w_13 ⟨pv, P, hp1, hp4, hN, rfl, hown, hk_13⟩
        obtain ⟨g1, cc, rfl⟩ : ∃ g1 cc, pv = .slice (some ⟨g1, 0, none⟩) P.length cc := by
          rcases hown.2 with ⟨_, h⟩ | ⟨g1, cap, cur, h, _⟩
          · omega
          · exact ⟨_, _, h⟩
        have HV := Lib.hid hown
        clear hown
        have HO6 := Lib.hid (HO5.out.kept hk_13.2.2 (.inr (fun e => by have := (HO5.out.lt _ e).1; omega)))
        go_wp2_with fail
        refine hK.out _ _ ?_ (fun hHeld => ?_)
        · exact ScS.kept hHeld hk_13
        clear hK K hk_13 HO5
        try simp only [Act.put, List.setIfInBounds_toArray, List.set_cons_zero, List.set_cons_succ]
        refine wpAnyU_take (i := 14) (v := ?_) (by simp only [List.getElem?_toArray, List.getElem?_cons_succ, List.getElem?_cons_zero]; rfl) (by kernel_rfl) (by kernel_rfl) (by kernel_rfl) (by kernel_rfl) (by kernel_rfl) (fun _ _ _ h => h) (Or.inl ⟨by rfl, ?_⟩) (by assumption) ?_
        rotate_left
        · intro w hSw; (try dsimp only at hSw); go_simp; first | done | with_reducible rfl
        try simp only [Act.put, List.setIfInBounds_toArray, List.set_cons_zero, List.set_cons_succ]
        clear HV hN
        refine wpAnyU_ready (rs := [15]) (by kernel_rfl) (by simp) ?_
        refine AllReadyU.cons (by simp only [List.getElem?_toArray, List.getElem?_cons_succ, List.getElem?_cons_zero]; rfl) (fun K hK => ?_) AllReadyU.nil
        go_simp
        refine hK.out _ _ ?_ (fun hHeld => ?_)
        · exact ScS.ext hHeld (ext_alloc (ext_refl w_13) _)
        clear hK K
        try simp only [Act.put, List.setIfInBounds_toArray, List.set_cons_zero, List.set_cons_succ]
        have hww := hHeld.2.2.2.1.lt
        refine wpAnyU_ready (rs := [16]) (by kernel_rfl) (by simp) ?_
        refine AllReadyU.cons (by simp only [List.getElem?_toArray, List.getElem?_cons_succ, List.getElem?_cons_zero]; rfl) (fun K hK => ?_) AllReadyU.nil
        refine step_append_lies _ (by rfl) _ _ _ (by rfl) (w3.heap.size + 1) 48 i0 _ 3 40 Try.underlying78 hi hz0 hz1 hz2 rfl (by omega) sv m ys (by rfl) (HO6.out.alloc _) ⟨w_13.heap.size, 0, none⟩ 1 1 [.int .i64 i, .int .i64 r, .slice (some ⟨g1, 0, none⟩) P.length cc] (by rfl) (by rfl) (World.news_of_block (cs := #[.int .i64 i, .int .i64 r, .slice (some ⟨g1, 0, none⟩) P.length cc]) (t := 48) (fr := (0, 0)) (heap_alloc_new w_13 _)) (by simp [Value.oneCell'] <;> first | exact hown1 | done) (by omega) (by unfold maxLen; omega) (by omega) (by omega) (w_13.heap.size + 1) (by simp) ?_
        intro g' cap w5 hown5 hgrow hat hlt5
        have HO8 := Lib.hid hown5
        have HS5 := Lib.hid (ScS.grow hHeld hgrow (fun m e => (HO6.out.lt m e).1))
        clear hown5 hgrow hat hHeld HO6
        refine hK.out _ _ ?_ (fun hHeld => ?_)
        · exact HS5.out
        clear hK K
        try simp only [Act.put, List.setIfInBounds_toArray, List.set_cons_zero, List.set_cons_succ]
        refine wpAnyU_take (i := 17) (v := ?_) (by simp only [List.getElem?_toArray, List.getElem?_cons_succ, List.getElem?_cons_zero]; rfl) (by kernel_rfl) (by kernel_rfl) (by kernel_rfl) (by kernel_rfl) (by kernel_rfl) (fun _ _ _ h => h) (Or.inl ⟨by rfl, ?_⟩) (by assumption) ?_
        rotate_left
        · intro w hSw; (try dsimp only at hSw); go_simp; first | done | with_reducible rfl
        try simp only [Act.put, List.setIfInBounds_toArray, List.set_cons_zero, List.set_cons_succ]
        clear hHeld
        have c1 := HS5.out.2.1
        have f1 := HS5.out.2.2.2.1.frozen 2
        have HS6 := Lib.hid (ScS.put2 (u := .slice (some ⟨g', 0, none⟩) (m + 1) cap) HS5.out)
        have HO9 := Lib.hid (owns_set HO8.out (p := ⟨w3.heap.size, 2, none⟩) (fun e => by have := (HO8.out.lt _ e.symm).1; simp at this; omega) (.slice (some ⟨g', 0, none⟩) (m + 1) cap))
        refine wpAnyU_ready (rs := [18]) (by kernel_rfl) (by simp) ?_
        refine AllReadyU.last (by simp only [List.getElem?_toArray, List.getElem?_cons_succ, List.getElem?_cons_zero]; rfl) (fun K hK => ?_) AllReadyU.nil
        go_simp
        refine hK.out _ _ ?_
        clear hK K c1 f1 HS5 HO8 hlt5
        try simp only [Act.put, List.setIfInBounds_toArray, List.set_cons_zero, List.set_cons_succ]
        refine wpAnyU_done (by kernel_rfl) ?_ _
        refine NoPanic.normal ?_
        generalize w5.setCell ⟨w3.heap.size, 2, none⟩ (.slice (some ⟨g', 0, none⟩) (m + 1) cap) = w6 at *
        go_wp2_with fail
        go_roundw
        case rel => exact ⟨i + 1, m + 1, _, _, by omega, by omega, by go_num, HO9, HS6⟩
        case measure => simp [intOf]; omega
      · have hd4 : decide (y < 4) = false := by simp; omega
        go_wp2_with fail
        go_roundw
        case rel => exact ⟨i + 1, m, _, _, by omega, by omega, by go_num, HO2, HS2⟩
        case measure => simp [intOf]; omega
    · have hd : decide ((i : Int) < (n : Int)) = false := by simp; omega
      go_wp2_with fail
      clear cj hd
      refine (next_any g g 3 wr HS.out.2.2.2.2.1.1 (by omega) (by omega)).mono ?_
      rintro e w5 ⟨y, y0, y1, rfl, hs5, hg5⟩
      have HO2 := Lib.hid (HO.out.kept hg5 (.inr (fun e => by have := (HO.out.lt _ e).1; omega)))
      have HS2 := Lib.hid (ScS.next HS.out hs5 hg5)
      clear HO HS hs5 hg5
      obtain ⟨y, rfl⟩ : ∃ m : Nat, y = (m : Int) := ⟨y.toNat, by omega⟩
      go_wp2_with fail
      go_loopw [6] (fun kv wr => ∃ (k m : Nat) (sv : Value) (ys : List Value), k + m ≤ 6 ∧ kv = .int .i64 k ∧ Hid (wr.ownsRow (w3.heap.size + 1) 48 3 sv m ys) ∧ Hid (ScS w3 g g w3.heap.size (.slice a n c) (.slice a' n' c') sv (.slice none 0 0) wr) ∧ Hid (1 ≤ k ∨ LastOk w3.heap.size sv ys wr)) (fun kv _ => (intOf kv).toNat)
      case atStart => exact ⟨1 + y, m, sv, ys, by omega, by go_num, HO2, HS2, Lib.hid (.inl (by omega))⟩
      case round =>
      obtain ⟨k, m, sv, ys, hkm, rfl, HO, HS, HL⟩ := hrel
      clear HS2 HO2
      by_cases hk : 0 < k
      · have hd2 : decide ((0 : Int) < (k : Int)) = true := by simp; omega
        clear HL
        go_wp2_with fail
        refine (signed_any g g 9 wr HS.out.2.2.2.2.1.1 (by omega) (by omega)).mono ?_
        rintro e w6 ⟨a1, a10, a11, rfl, hs_1, hg_1⟩
        have HO4 := Lib.hid (HO.out.kept hg_1 (.inr (fun e => by have := (HO.out.lt _ e).1; omega)))
        have HS4 := Lib.hid (ScS.next HS.out hs_1 hg_1)
        clear HO HS hs_1 hg_1
        have ea1 : IntKind.i64.wrap (a1 * 32768) = a1 * 32768 := by rw [IntKind.wrap_i64]; omega
        go_wp2_with fail
        refine (signed_any g g 9 w6 HS4.out.2.2.2.2.1.1 (by omega) (by omega)).mono ?_
        rintro e w7 ⟨a2, a20, a21, rfl, hs_2, hg_2⟩
        have HO5 := Lib.hid (HO4.out.kept hg_2 (.inr (fun e => by have := (HO4.out.lt _ e).1; omega)))
        have HS5 := Lib.hid (ScS.next HS4.out hs_2 hg_2)
        clear HO4 HS4 hs_2 hg_2
        have ea2 : IntKind.i64.wrap (a2 * 32768) = a2 * 32768 := by rw [IntKind.wrap_i64]; omega
        go_wp2_with fail
        refine (signed_any g g 2 w7 HS5.out.2.2.2.2.1.1 (by omega) (by omega)).mono ?_
        rintro e w8 ⟨a3, a30, a31, rfl, hs_3, hg_3⟩
        have HO6 := Lib.hid (HO5.out.kept hg_3 (.inr (fun e => by have := (HO5.out.lt _ e).1; omega)))
        have HS6 := Lib.hid (ScS.next HS5.out hs_3 hg_3)
        clear HO5 HS5 hs_3 hg_3
        have ea3 : IntKind.i64.wrap (a3 * 32768) = a3 * 32768 := by rw [IntKind.wrap_i64]; omega
        go_wp2_with (refine wpList_store_mid rfl 66 _ _ rfl w8.heap.size 0 #[.int .i64 (a1 * 32768), .int .i64 (a2 * 32768), .int .i64 (a3 * 32768)] rfl rfl (there_all (Whole.new w8 66 #[.int .i64 0, .int .i64 0, .int .i64 0]) 3 (Nat.le_refl _)) (by kernel_rfl) (by simp [Value.oneCell']) ?_)
        have HC := Lib.hid (show ScC w3 g g w3.heap.size (.slice a n c) (.slice a' n' c') sv (.slice none 0 0) w8.heap.size #[.int .i64 (a1 * 32768), .int .i64 (a2 * 32768), .int .i64 (a3 * 32768)] _ from ⟨ScS.ext HS6.out (ext_setN #[.int .i64 (a1 * 32768), .int .i64 (a2 * 32768), .int .i64 (a3 * 32768)].toList (ext_alloc (ext_refl w8) (.cells #[.int .i64 0, .int .i64 0, .int .i64 0] 66)) (Nat.le_refl _) 0), (Whole.new w8 66 #[.int .i64 0, .int .i64 0, .int .i64 0]).full #[.int .i64 (a1 * 32768), .int .i64 (a2 * 32768), .int .i64 (a3 * 32768)] rfl⟩)
        have HO2 := Lib.hid (owns_ext HO6.out (ext_setN #[.int .i64 (a1 * 32768), .int .i64 (a2 * 32768), .int .i64 (a3 * 32768)].toList (ext_alloc (ext_refl w8) (.cells #[.int .i64 0, .int .i64 0, .int .i64 0] 66)) (Nat.le_refl _) 0))
        have hgw8 : g < w8.heap.size := HS6.out.2.2.2.2.1.1.lt
        have hbs : sv.ownBlock ≠ some w8.heap.size := fun e => by have := (HO6.out.lt _ e).2; omega
        clear HO6 HS6 ea1 ea2 ea3
        generalize (w8.alloc (.cells #[.int .i64 0, .int .i64 0, .int .i64 0] 66)).setCells w8.heap.size 0 _ = w9 at *
        generalize w8.heap.size = b at *
        refine wp_region_noPanic ?_
        refine wp_region_until_drew (k := 14) (S := (fun w' => ScC w3 g g w3.heap.size (.slice a n c) (.slice a' n' c') sv (.slice none 0 0) b #[.int .i64 (a1 * 32768), .int .i64 (a2 * 32768), .int .i64 (a3 * 32768)] w')) (by kernel_rfl) ?_ (fun hHeld => ?_)
        · exact ScC.ext HC.out (ext_drew (ext_refl _))
        have HO3 := Lib.hid (owns_ext HO2.out (ext_drew (ext_refl _)))
        clear HO2 HC
        refine wpAnyU_take (i := 0) (v := ?_) (by simp only [List.getElem?_toArray, List.getElem?_cons_succ, List.getElem?_cons_zero]; rfl) (by kernel_rfl) (by kernel_rfl) (by kernel_rfl) (by kernel_rfl) (by kernel_rfl) (fun _ _ _ h => h) (Or.inl ⟨by rfl, ?_⟩) (by assumption) ?_
        rotate_left
        · intro w hSw; (try dsimp only at hSw); go_simp; first | done | with_reducible rfl
        try simp only [Act.put, List.setIfInBounds_toArray, List.set_cons_zero, List.set_cons_succ]
        refine wpAnyU_take (i := 1) (v := ?_) (by simp only [List.getElem?_toArray, List.getElem?_cons_succ, List.getElem?_cons_zero]; rfl) (by kernel_rfl) (by kernel_rfl) (by kernel_rfl) (by kernel_rfl) (by kernel_rfl) (fun _ _ _ h => h) (Or.inl ⟨by rfl, ?_⟩) (by assumption) ?_
        rotate_left
        · intro w hSw; (try dsimp only at hSw); go_simp; first | done | with_reducible rfl
        try simp only [Act.put, List.setIfInBounds_toArray, List.set_cons_zero, List.set_cons_succ]
        refine wpAnyU_take (i := 2) (v := ?_) (by simp only [List.getElem?_toArray, List.getElem?_cons_succ, List.getElem?_cons_zero]; rfl) (by kernel_rfl) (by kernel_rfl) (by kernel_rfl) (by kernel_rfl) (by kernel_rfl) (fun _ _ _ h => h) (Or.inl ⟨by rfl, ?_⟩) (by assumption) ?_
        rotate_left
        · intro w hSw; (try dsimp only at hSw); go_simp; first | done | with_reducible rfl
        try simp only [Act.put, List.setIfInBounds_toArray, List.set_cons_zero, List.set_cons_succ]
        refine wpAnyU_take (i := 7) (v := ?_) (by simp only [List.getElem?_toArray, List.getElem?_cons_succ, List.getElem?_cons_zero]; rfl) (by kernel_rfl) (by kernel_rfl) (by kernel_rfl) (by kernel_rfl) (by kernel_rfl) (fun _ _ _ h => h) (Or.inl ⟨by rfl, ?_⟩) (by assumption) ?_
        rotate_left
        · intro w hSw; (try dsimp only at hSw); go_simp; first | done | with_reducible rfl
        try simp only [Act.put, List.setIfInBounds_toArray, List.set_cons_zero, List.set_cons_succ]
        refine wpAnyU_take (i := 8) (by simp only [List.getElem?_toArray, List.getElem?_cons_succ, List.getElem?_cons_zero]; rfl) (by kernel_rfl) (by kernel_rfl) (by kernel_rfl) (by kernel_rfl) (by kernel_rfl) (fun _ _ _ h => h) (yieldsIf_load_mid (by rfl) _ _ rfl b 0 (by rfl) #[.int .i64 (a1 * 32768), .int .i64 (a2 * 32768), .int .i64 (a3 * 32768)].toList _ (fun w' h => h.2.all) Try.underlying66 rfl (by kernel_rfl)) (by assumption) ?_
        try simp only [Act.put, List.setIfInBounds_toArray, List.set_cons_zero, List.set_cons_succ]
        refine wpAnyU_ready (rs := [3]) (by kernel_rfl) (by simp) ?_
        refine AllReadyU.cons (by simp only [List.getElem?_toArray, List.getElem?_cons_succ, List.getElem?_cons_zero]; rfl) (fun K hK => ?_) AllReadyU.nil
        go_simp
        refine (next_any g g 4 _ hHeld.1.2.2.2.2.1.1 (by omega) (by omega)).mono ?_
        rintro e w_3 ⟨x, x0, x1, rfl, hs_3, hg_3⟩
        have HO4 := Lib.hid (HO3.out.kept hg_3 (.inr (fun e => by have := (HO3.out.lt _ e).1; omega)))
        go_wp2_with fail
        refine hK.out _ _ ?_ (fun hHeld => ?_)
        · exact ScC.next hHeld (by omega) hs_3 hg_3
        clear hK K hs_3 hg_3 HO3
        try simp only [Act.put, List.setIfInBounds_toArray, List.set_cons_zero, List.set_cons_succ]
        refine wpAnyU_take (i := 4) (v := ?_) (by simp only [List.getElem?_toArray, List.getElem?_cons_succ, List.getElem?_cons_zero]; rfl) (by kernel_rfl) (by kernel_rfl) (by kernel_rfl) (by kernel_rfl) (by kernel_rfl) (fun _ _ _ h => h) (Or.inl ⟨by rfl, ?_⟩) (by assumption) ?_
        rotate_left
        · intro w hSw; (try dsimp only at hSw); go_simp; first | done | with_reducible rfl
        try simp only [Act.put, List.setIfInBounds_toArray, List.set_cons_zero, List.set_cons_succ]
        refine wpAnyU_take (i := 5) (v := ?_) (by simp only [List.getElem?_toArray, List.getElem?_cons_succ, List.getElem?_cons_zero]; rfl) (by kernel_rfl) (by kernel_rfl) (by kernel_rfl) (by kernel_rfl) (by kernel_rfl) (fun _ _ _ h => h) (Or.inl ⟨by rfl, ?_⟩) (by assumption) ?_
        rotate_left
        · intro w hSw; (try dsimp only at hSw); go_simp; first | done | with_reducible rfl
        try simp only [Act.put, List.setIfInBounds_toArray, List.set_cons_zero, List.set_cons_succ]
        refine wpAnyU_take (i := 6) (v := ?_) (by simp only [List.getElem?_toArray, List.getElem?_cons_succ, List.getElem?_cons_zero]; rfl) (by kernel_rfl) (by kernel_rfl) (by kernel_rfl) (by kernel_rfl) (by kernel_rfl) (fun _ _ _ h => h) (Or.inl ⟨by rfl, ?_⟩) (by assumption) ?_
        rotate_left
        · intro w hSw; (try dsimp only at hSw); go_simp; first | done | with_reducible rfl
        try simp only [Act.put, List.setIfInBounds_toArray, List.set_cons_zero, List.set_cons_succ]
        have hrad := rad_ok x (by omega) (by omega)
        generalize hre : IntKind.i64.wrap ((IntKind.i64.wrap (IntKind.i64.wrap (1 + x) * 65536)).tdiv 8) = r at hrad ⊢
        clear hre
        have hsl : ∀ k, sv.ownBlock = some k → k < w_3.heap.size := fun k e => (HO4.out.lt k e).2
        have hql := hHeld.1.2.2.2.1.lt
        refine wpAnyU_ready (rs := [9]) (by kernel_rfl) (by simp) ?_
        refine AllReadyU.cons (by simp only [List.getElem?_toArray, List.getElem?_cons_succ, List.getElem?_cons_zero]; rfl) (fun K hK => ?_) AllReadyU.nil
        go_simp
        refine (mkpoints_any g g (a1 * 32768) (a2 * 32768) (a3 * 32768) _ hHeld.1.2.2.2.2.1.1 (by omega) (by omega) (by omega)).mono ?_
        rintro e w_9 ⟨pv, P, hp1, hp4, hN, rfl, hown, hk_9⟩
        obtain ⟨g1, cc, rfl⟩ : ∃ g1 cc, pv = .slice (some ⟨g1, 0, none⟩) P.length cc := by
          rcases hown.2 with ⟨_, h⟩ | ⟨g1, cap, cur, h, _⟩
          · omega
          · exact ⟨_, _, h⟩
        have HV := Lib.hid hown
        clear hown
        have HO5 := Lib.hid (HO4.out.kept hk_9.2.2 (.inr (fun e => by have := (HO4.out.lt _ e).1; omega)))
        go_wp2_with fail
        refine hK.out _ _ ?_ (fun hHeld => ?_)
        · exact ScC.kept hHeld (by omega) hk_9
        clear hK K hk_9 HO4
        try simp only [Act.put, List.setIfInBounds_toArray, List.set_cons_zero, List.set_cons_succ]
        refine wpAnyU_take (i := 10) (v := ?_) (by simp only [List.getElem?_toArray, List.getElem?_cons_succ, List.getElem?_cons_zero]; rfl) (by kernel_rfl) (by kernel_rfl) (by kernel_rfl) (by kernel_rfl) (by kernel_rfl) (fun _ _ _ h => h) (Or.inl ⟨by rfl, ?_⟩) (by assumption) ?_
        rotate_left
        · intro w hSw; (try dsimp only at hSw); go_simp; first | done | with_reducible rfl
        try simp only [Act.put, List.setIfInBounds_toArray, List.set_cons_zero, List.set_cons_succ]
        have hPok := near_ok hN hp1 hp4 hrad
        clear hN
        refine wpAnyU_ready (rs := [11]) (by kernel_rfl) (by simp) ?_
        refine AllReadyU.cons (by simp only [List.getElem?_toArray, List.getElem?_cons_succ, List.getElem?_cons_zero]; rfl) (fun K hK => ?_) AllReadyU.nil
        go_simp
        refine hK.out _ _ ?_ (fun hHeld => ?_)
        · exact ScC.ext hHeld (ext_alloc (ext_refl w_9) _)
        clear hK K
        try simp only [Act.put, List.setIfInBounds_toArray, List.set_cons_zero, List.set_cons_succ]
        have hww := hHeld.1.2.2.2.1.lt
        refine wpAnyU_ready (rs := [12]) (by kernel_rfl) (by simp) ?_
        refine AllReadyU.cons (by simp only [List.getElem?_toArray, List.getElem?_cons_succ, List.getElem?_cons_zero]; rfl) (fun K hK => ?_) AllReadyU.nil
        refine step_append_lies _ (by rfl) _ _ _ (by rfl) (w3.heap.size + 1) 48 i0 _ 3 40 Try.underlying78 hi hz0 hz1 hz2 rfl (by omega) sv m ys (by rfl) (HO5.out.alloc _) ⟨w_9.heap.size, 0, none⟩ 1 1 [.int .i64 (-1), .int .i64 r, .slice (some ⟨g1, 0, none⟩) P.length cc] (by rfl) (by rfl) (World.news_of_block (cs := #[.int .i64 (-1), .int .i64 r, .slice (some ⟨g1, 0, none⟩) P.length cc]) (t := 48) (fr := (0, 0)) (heap_alloc_new w_9 _)) (by simp [Value.oneCell'] <;> first | exact hown1 | done) (by omega) (by unfold maxLen; omega) (by omega) (by omega) (w_9.heap.size + 1) (by simp) ?_
        intro g' cap w5 hown5 hgrow hat hlt5
        have HO8 := Lib.hid hown5
        have HL5 := Lib.hid (LastOk.made (b := 0) (q := w3.heap.size) (n := m + 1) (cap := cap) (xs := ys) hPok hp4 (HV.out.alloc _) hql hsl hgrow hat (by simp))
        have HC5 := Lib.hid (ScC.grow hHeld hgrow (fun m e => (HO5.out.lt m e).1) hbs)
        have HS5 := Lib.hid HC5.out.1
        clear hown5 hgrow hat hHeld HO5
        refine hK.out _ _ ?_ (fun hHeld => ?_)
        · exact HC5.out
        clear hK K HC5
        try simp only [Act.put, List.setIfInBounds_toArray, List.set_cons_zero, List.set_cons_succ]
        refine wpAnyU_take (i := 13) (v := ?_) (by simp only [List.getElem?_toArray, List.getElem?_cons_succ, List.getElem?_cons_zero]; rfl) (by kernel_rfl) (by kernel_rfl) (by kernel_rfl) (by kernel_rfl) (by kernel_rfl) (fun _ _ _ h => h) (Or.inl ⟨by rfl, ?_⟩) (by assumption) ?_
        rotate_left
        · intro w hSw; (try dsimp only at hSw); go_simp; first | done | with_reducible rfl
        try simp only [Act.put, List.setIfInBounds_toArray, List.set_cons_zero, List.set_cons_succ]
        clear hHeld
        have c1 := HS5.out.2.1
        have f1 := HS5.out.2.2.2.1.frozen 2
        have HS6 := Lib.hid (ScS.put2 (u := .slice (some ⟨g', 0, none⟩) (m + 1) cap) HS5.out)
        have HO9 := Lib.hid (owns_set HO8.out (p := ⟨w3.heap.size, 2, none⟩) (fun e => by have := (HO8.out.lt _ e.symm).1; simp at this; omega) (.slice (some ⟨g', 0, none⟩) (m + 1) cap))
        have HL6 := Lib.hid (HL5.out.set 2 (.slice (some ⟨g', 0, none⟩) (m + 1) cap))
        refine wpAnyU_ready (rs := [14]) (by kernel_rfl) (by simp) ?_
        refine AllReadyU.last (by simp only [List.getElem?_toArray, List.getElem?_cons_succ, List.getElem?_cons_zero]; rfl) (fun K hK => ?_) AllReadyU.nil
        go_simp
        refine hK.out _ _ ?_
        clear hK K c1 f1 HS5 HO8 hlt5
        try simp only [Act.put, List.setIfInBounds_toArray, List.set_cons_zero, List.set_cons_succ]
        refine wpAnyU_done (by kernel_rfl) ?_ _
        refine NoPanic.normal ?_
        generalize w5.setCell ⟨w3.heap.size, 2, none⟩ (.slice (some ⟨g', 0, none⟩) (m + 1) cap) = w6 at *
        clear HL5
        go_wp2_with fail
        go_roundw
        case rel => exact ⟨k - 1, m + 1, _, _, by omega, by go_num, HO9, HS6, Lib.hid (.inr HL6.out)⟩
        case measure => simp [intOf]; omega
      · obtain rfl : k = 0 := by omega
        have hsv1 : sv.oneCell' = true := by rcases HO.out.2 with ⟨h, h'⟩ | ⟨g1, cap, cur, h, _⟩ <;> (rw [h]; rfl)
        clear hi hz0 hz1 hz2
        obtain ⟨i1, hi', hz0', hz1', hz2'⟩ := info_parts info_skip
        go_wp2_with fail
        refine (next_any g g 5 wr HS.out.2.2.2.2.1.1 (by omega) (by omega)).mono ?_
        rintro e w5 ⟨y, y0, y1, rfl, hs5, hg5⟩
        have HO2 := Lib.hid (HO.out.kept hg5 (.inr (fun e => by have := (HO.out.lt _ e).1; omega)))
        have HS2 := Lib.hid (ScS.next HS.out hs5 hg5)
        have HL2 := Lib.hid ((HL.out.resolve_left (by omega)).next hg5 (by omega))
        clear HO HS HL hs5 hg5
        by_cases hy1 : y = 1
        · have hdy : decide (y = 1) = true := by simp; omega
          go_wp2_with fail
          refine wp_region_noPanic ?_
          refine wp_region_until_drew (k := 12) (S := (fun w' => ScS w3 g g w3.heap.size (.slice a n c) (.slice a' n' c') sv (.slice none 0 0) w')) (by kernel_rfl) ?_ (fun hHeld => ?_)
          · exact ScS.ext HS2.out (ext_drew (ext_refl _))
          have HO3 := Lib.hid (owns_ext HO2.out (ext_drew (ext_refl _)))
          have HL3 := Lib.hid (HL2.out.ext (ext_drew (ext_refl _)))
          clear HO2 HS2 HL2
          refine wpAnyU_take (i := 0) (v := ?_) (by simp only [List.getElem?_toArray, List.getElem?_cons_succ, List.getElem?_cons_zero]; rfl) (by kernel_rfl) (by kernel_rfl) (by kernel_rfl) (by kernel_rfl) (by kernel_rfl) (fun _ _ _ h => h) (Or.inl ⟨by rfl, ?_⟩) (by assumption) ?_
          rotate_left
          · intro w hSw; (try dsimp only at hSw); go_simp; first | done | with_reducible rfl
          try simp only [Act.put, List.setIfInBounds_toArray, List.set_cons_zero, List.set_cons_succ]
          refine wpAnyU_take (i := 1) (v := ?_) (by simp only [List.getElem?_toArray, List.getElem?_cons_succ, List.getElem?_cons_zero]; rfl) (by kernel_rfl) (by kernel_rfl) (by kernel_rfl) (by kernel_rfl) (by kernel_rfl) (fun _ _ _ h => h) (Or.inl ⟨by rfl, ?_⟩) (by assumption) ?_
          rotate_left
          · intro w hSw; (try dsimp only at hSw); go_simp; first | done | with_reducible rfl
          try simp only [Act.put, List.setIfInBounds_toArray, List.set_cons_zero, List.set_cons_succ]
          refine wpAnyU_take (i := 2) (v := ?_) (by simp only [List.getElem?_toArray, List.getElem?_cons_succ, List.getElem?_cons_zero]; rfl) (by kernel_rfl) (by kernel_rfl) (by kernel_rfl) (by kernel_rfl) (by kernel_rfl) (fun _ _ _ h => h) (Or.inl ⟨by rfl, ?_⟩) (by assumption) ?_
          rotate_left
          · intro w hSw; (try dsimp only at hSw); go_simp; first | done | with_reducible rfl
          try simp only [Act.put, List.setIfInBounds_toArray, List.set_cons_zero, List.set_cons_succ]
          refine wpAnyU_take (i := 3) (v := ?_) (by simp only [List.getElem?_toArray, List.getElem?_cons_succ, List.getElem?_cons_zero]; rfl) (by kernel_rfl) (by kernel_rfl) (by kernel_rfl) (by kernel_rfl) (by kernel_rfl) (fun _ _ _ h => h) (Or.inl ⟨by rfl, ?_⟩) (by assumption) ?_
          rotate_left
          · intro w hSw; (try dsimp only at hSw); go_simp; first | done | with_reducible rfl
          try simp only [Act.put, List.setIfInBounds_toArray, List.set_cons_zero, List.set_cons_succ]
          refine wpAnyU_take (i := 4) (v := ?_) (by simp only [List.getElem?_toArray, List.getElem?_cons_succ, List.getElem?_cons_zero]; rfl) (by kernel_rfl) (by kernel_rfl) (by kernel_rfl) (by kernel_rfl) (by kernel_rfl) (fun _ _ _ h => h) (Or.inl ⟨by rfl, ?_⟩) (by assumption) ?_
          rotate_left
          · intro w hSw; (try dsimp only at hSw); go_simp; first | done | with_reducible rfl
          try simp only [Act.put, List.setIfInBounds_toArray, List.set_cons_zero, List.set_cons_succ]
          refine wpAnyU_take (i := 5) (v := ?_) (by simp only [List.getElem?_toArray, List.getElem?_cons_succ, List.getElem?_cons_zero]; rfl) (by kernel_rfl) (by kernel_rfl) (by kernel_rfl) (by kernel_rfl) (by kernel_rfl) (fun _ _ _ h => h) (Or.inl ⟨by rfl, ?_⟩) (by assumption) ?_
          rotate_left
          · intro w hSw; (try dsimp only at hSw); go_simp; first | done | with_reducible rfl
          try simp only [Act.put, List.setIfInBounds_toArray, List.set_cons_zero, List.set_cons_succ]
          refine wpAnyU_take (i := 6) (v := ?_) (by simp only [List.getElem?_toArray, List.getElem?_cons_succ, List.getElem?_cons_zero]; rfl) (by kernel_rfl) (by kernel_rfl) (by kernel_rfl) (by kernel_rfl) (by kernel_rfl) (fun _ _ _ h => h) (Or.inl ⟨by rfl, ?_⟩) (by assumption) ?_
          rotate_left
          · intro w hSw; (try dsimp only at hSw); go_simp; first | done | with_reducible rfl
          try simp only [Act.put, List.setIfInBounds_toArray, List.set_cons_zero, List.set_cons_succ]
          refine wpAnyU_ready (rs := [7]) (by kernel_rfl) (by simp) ?_
          refine AllReadyU.cons (by simp only [List.getElem?_toArray, List.getElem?_cons_succ, List.getElem?_cons_zero]; rfl) (fun K hK => ?_) AllReadyU.nil
          go_simp
          refine (next_any g g n _ hHeld.2.2.2.2.1.1 (by omega) (by omega)).mono ?_
          rintro e w_7 ⟨x, x0, x1, rfl, hs_7, hg_7⟩
          have HO4 := Lib.hid (HO3.out.kept hg_7 (.inr (fun e => by have := (HO3.out.lt _ e).1; omega)))
          have HL4 := Lib.hid (HL3.out.next hg_7 (by omega))
          clear HL3
          go_wp2_with fail
          refine hK.out _ _ ?_ (fun hHeld => ?_)
          · exact ScS.next hHeld hs_7 hg_7
          clear hK K hs_7 hg_7 HO3
          try simp only [Act.put, List.setIfInBounds_toArray, List.set_cons_zero, List.set_cons_succ]
          refine wpAnyU_take (i := 8) (v := ?_) (by simp only [List.getElem?_toArray, List.getElem?_cons_succ, List.getElem?_cons_zero]; rfl) (by kernel_rfl) (by kernel_rfl) (by kernel_rfl) (by kernel_rfl) (by kernel_rfl) (fun _ _ _ h => h) (Or.inl ⟨by rfl, ?_⟩) (by assumption) ?_
          rotate_left
          · intro w hSw; (try dsimp only at hSw); go_simp; first | done | with_reducible rfl
          try simp only [Act.put, List.setIfInBounds_toArray, List.set_cons_zero, List.set_cons_succ]
          have HN := Lib.hid (World.ownsRow_nil (w_7.alloc (.cells #[.int .i64 (-1), .int .i64 x] 98)) (w3.heap.size + 1) 98 2)
          refine wpAnyU_ready (rs := [9]) (by kernel_rfl) (by simp) ?_
          refine AllReadyU.cons (by simp only [List.getElem?_toArray, List.getElem?_cons_succ, List.getElem?_cons_zero]; rfl) (fun K hK => ?_) AllReadyU.nil
          go_simp
          refine hK.out _ _ ?_ (fun hHeld => ?_)
          · exact ScS.ext hHeld (ext_alloc (ext_refl w_7) _)
          clear hK K
          try simp only [Act.put, List.setIfInBounds_toArray, List.set_cons_zero, List.set_cons_succ]
          have hww := hHeld.2.2.2.1.lt
          refine wpAnyU_ready (rs := [10]) (by kernel_rfl) (by simp) ?_
          refine AllReadyU.cons (by simp only [List.getElem?_toArray, List.getElem?_cons_succ, List.getElem?_cons_zero]; rfl) (fun K hK => ?_) AllReadyU.nil
          refine step_append_lies _ (by rfl) _ _ _ (by rfl) (w3.heap.size + 1) 98 i1 _ 2 16 Try.underlying79 hi' hz0' hz1' hz2' rfl (by omega) (.slice none 0 0) 0 [] (by rfl) HN.out ⟨w_7.heap.size, 0, none⟩ 1 1 [.int .i64 (-1), .int .i64 x] (by rfl) (by rfl) (World.news_of_block (cs := #[.int .i64 (-1), .int .i64 x]) (t := 98) (fr := (0, 0)) (heap_alloc_new w_7 _)) (by simp [Value.oneCell'] <;> first | exact hown1 | done) (by omega) (by unfold maxLen; omega) (by omega) (by omega) (w_7.heap.size + 1) (by simp) ?_
          intro g' cap w5 hown5 hgrow hat hlt5
          have HO8 := Lib.hid hown5
          have HO6 := Lib.hid ((HO4.out.alloc (.cells #[.int .i64 (-1), .int .i64 x] 98)).kept hgrow (by cases hv : sv.ownBlock <;> simp [Value.ownBlock]))
          have HL6 := Lib.hid ((HL4.out.ext (ext_alloc (ext_refl _) (.cells #[.int .i64 (-1), .int .i64 x] 98))).grow hgrow)
          have HS5 := Lib.hid (ScS.grow hHeld hgrow (fun m e => (HN.out.lt m e).1))
          clear hown5 hgrow hat hHeld HN HO4 HL4
          refine hK.out _ _ ?_ (fun hHeld => ?_)
          · exact HS5.out
          clear hK K
          try simp only [Act.put, List.setIfInBounds_toArray, List.set_cons_zero, List.set_cons_succ]
          refine wpAnyU_take (i := 11) (v := ?_) (by simp only [List.getElem?_toArray, List.getElem?_cons_succ, List.getElem?_cons_zero]; rfl) (by kernel_rfl) (by kernel_rfl) (by kernel_rfl) (by kernel_rfl) (by kernel_rfl) (fun _ _ _ h => h) (Or.inl ⟨by rfl, ?_⟩) (by assumption) ?_
          rotate_left
          · intro w hSw; (try dsimp only at hSw); go_simp; first | done | with_reducible rfl
          try simp only [Act.put, List.setIfInBounds_toArray, List.set_cons_zero, List.set_cons_succ]
          clear hHeld
          have c1 := HS5.out.2.2.1
          have f1 := HS5.out.2.2.2.1.frozen 3
          have HS6 := Lib.hid (ScS.put3 (u := .slice (some ⟨g', 0, none⟩) (0 + 1) cap) HS5.out)
          have HO9 := Lib.hid (owns_set HO8.out (p := ⟨w3.heap.size, 3, none⟩) (fun e => by have := (HO8.out.lt _ e.symm).1; simp at this; omega) (.slice (some ⟨g', 0, none⟩) (0 + 1) cap))
          have HO := Lib.hid (owns_set HO6.out (p := ⟨w3.heap.size, 3, none⟩) (fun e => by have := (HO6.out.lt _ e.symm).1; simp at this; omega) (.slice (some ⟨g', 0, none⟩) (0 + 1) cap))
          have HL := Lib.hid (HL6.out.set 3 (.slice (some ⟨g', 0, none⟩) (0 + 1) cap))
          refine wpAnyU_ready (rs := [12]) (by kernel_rfl) (by simp) ?_
          refine AllReadyU.last (by simp only [List.getElem?_toArray, List.getElem?_cons_succ, List.getElem?_cons_zero]; rfl) (fun K hK => ?_) AllReadyU.nil
          go_simp
          refine hK.out _ _ ?_
          clear hK K c1 f1 HS5 HO8 hlt5
          try simp only [Act.put, List.setIfInBounds_toArray, List.set_cons_zero, List.set_cons_succ]
          refine wpAnyU_done (by kernel_rfl) ?_ _
          refine NoPanic.normal ?_
          generalize w5.setCell ⟨w3.heap.size, 3, none⟩ (.slice (some ⟨g', 0, none⟩) (0 + 1) cap) = w6 at *
          clear HO9 HO6 HL6
          have HS := HS6
          clear HS6
          have hle := HS.out.2.2.2.2.1.le
          have HW := Lib.hid HS.out.2.2.2.1
          have HZ := Lib.hid (HS.out.2.2.2.2.1.whole HZ3.out hgl2)
          have HB := Lib.hid (below_grown HB3.out (Nat.le_refl _) (by omega) HS.out.2.2.2.2.1.2.2)
          clear HS
          go_wp2_with (first | refine wpList_load_mid rfl 81 _ rfl w3.heap.size 0 rfl [.slice a n c, .slice a' n' c', sv, .slice (some ⟨g', 0, none⟩) (0 + 1) cap] _ HW.out.all Try.underlying81 rfl (by kernel_rfl) ?_ | refine wpList_store_mid rfl 81 _ _ rfl w.heap.size 0 #[.slice a n c, .slice a' n' c', sv, .slice (some ⟨g', 0, none⟩) (0 + 1) cap] rfl rfl (there_all HZ.out 4 (Nat.le_refl _)) (by kernel_rfl) (by simp [Value.oneCell'] <;> exact hsv1) ?_)
          exact bodyPost_ret (ret_cell Try.results40 rfl (HZ.out.full #[.slice a n c, .slice a' n' c', sv, .slice (some ⟨g', 0, none⟩) (0 + 1) cap] rfl) Try.underlying81 rfl (by kernel_rfl)) rfl (GivesSc.of (owns_setN (by omega) _ HO.out 0) (HL.out.setN (by omega) _ 0) (by omega) (ext_setN _ HB.out (Nat.le_refl _) 0) ⟨rfl, rfl, rfl⟩ (by omega))
        · have hdy : decide (y = 1) = false := by simp; omega
          have HS := HS2
          have HO := HO2
          have HL := HL2
          clear HS2 HO2 HL2
          have hle := HS.out.2.2.2.2.1.le
          have HW := Lib.hid HS.out.2.2.2.1
          have HZ := Lib.hid (HS.out.2.2.2.2.1.whole HZ3.out hgl2)
          have HB := Lib.hid (below_grown HB3.out (Nat.le_refl _) (by omega) HS.out.2.2.2.2.1.2.2)
          clear HS
          go_wp2_with (first | refine wpList_load_mid rfl 81 _ rfl w3.heap.size 0 rfl [.slice a n c, .slice a' n' c', sv, .slice none 0 0] _ HW.out.all Try.underlying81 rfl (by kernel_rfl) ?_ | refine wpList_store_mid rfl 81 _ _ rfl w.heap.size 0 #[.slice a n c, .slice a' n' c', sv, .slice none 0 0] rfl rfl (there_all HZ.out 4 (Nat.le_refl _)) (by kernel_rfl) (by simp [Value.oneCell'] <;> exact hsv1) ?_)
          exact bodyPost_ret (ret_cell Try.results40 rfl (HZ.out.full #[.slice a n c, .slice a' n' c', sv, .slice none 0 0] rfl) Try.underlying81 rfl (by kernel_rfl)) rfl (GivesSc.of (owns_setN (by omega) _ HO.out 0) (HL.out.setN (by omega) _ 0) (by omega) (ext_setN _ HB.out (Nat.le_refl _) 0) ⟨rfl, rfl, rfl⟩ (by omega))
end Go.Proofs.Ytgnjconhbloocaa

namespace Go.Proofs.Ytgnjconhbloocaa
open Go.RowKit
set_option linter.unusedVariables false

/-- A good shape is returned. -/
def GivesSh (w : World) (e : Ending) (w' : World) : Prop :=
  ∃ (r : Int) (v : Value) (P : List (Int × Int × Int)), e = .returned (.agg #[.int .i64 (-1), .int .i64 r, v]) ∧ Fx.shapeOk r P = true ∧ PSl w' v P ∧ Below w.heap.size w w'
theorem PSl.oneC {w : World} {v : Value} {P : List (Int × Int × Int)} (h : PSl w v P) : v.oneCell' = true := by obtain ⟨a, c, rfl, _⟩ := h; rfl

set_option maxRecDepth 100000 in
set_option maxHeartbeats 1000000 in
theorem some_any (v : Value) (xs : List Int) (w : World) (h : IntSl w v xs) :
    Calls Try.prog 20 #[v] w (GivesSh w) := by
  have H := Lib.hid (h.ext (ext_alloc (ext_refl w) (.cells #[.int .i64 0, .int .i64 0, .slice none 0 0] 48)))
  obtain ⟨a0, c0, rfl, hx1, hx2⟩ := h
  clear hx1 hx2
  go_enter Try.func20, Try.ntmps20
  go_wp2_with fail
  refine (scene_any _ xs _ H.out).mono ?_
  clear H
  rintro e w1 ⟨jv, mv, kv, v, G, n, cap, r, P, rfl, ⟨o1, o2, o3⟩, hn, hG, hR, hok, ⟨hp4, hP⟩, hb1⟩
  have HZ := Lib.hid ((Whole.new w 48 #[.int .i64 0, .int .i64 0, .slice none 0 0]).ext hb1)
  have HB := Lib.hid (ext_trans (ext_alloc (ext_refl w) _) hb1)
  have hl := HB.out.size
  clear hb1
  have HN := Lib.hid (Whole.new w1 81 scZero)
  go_wp2_with (first | (refine wpList_store_mid rfl 81 _ _ rfl w1.heap.size 0 #[jv, mv, .slice (some ⟨G, 0, none⟩) (n + 1) cap, kv] rfl rfl (there_all HN.out 4 (Nat.le_refl _)) (by kernel_rfl) (by simp [Value.oneCell'] <;> exact ⟨o1, o2, o3⟩) ?_; have c2 := (HN.out.full #[jv, mv, .slice (some ⟨G, 0, none⟩) (n + 1) cap, kv] rfl).cell 2; have hb2 : Below w1.heap.size w1 ((w1.alloc (.cells scZero 81)).setCells w1.heap.size 0 [jv, mv, .slice (some ⟨G, 0, none⟩) (n + 1) cap, kv]) := ext_setN _ (ext_alloc (ext_refl w1) _) (Nat.le_refl _) 0; generalize (w1.alloc (.cells scZero 81)).setCells w1.heap.size 0 _ = w2 at *; have HR := Lib.hid (range_ext hR hb2 hG); have HP := Lib.hid (owns_ext hP hb2); have HZ2 := Lib.hid (HZ.out.ext hb2); have HB2 := Lib.hid (ext_trans HB.out hb2); have c3 : w2.cell? ⟨w1.heap.size, 2, none⟩ = some (.slice (some ⟨G, 0, none⟩) (n + 1) cap) := c2; clear c2 hR hP HZ HB HN hb2 o1 o2 o3; have o4 := (PSl.of_pts HP.out (by omega)).oneC) | refine wpList_load_mid rfl 48 _ rfl G (n * 3) rfl [.int .i64 (-1), .int .i64 r, v] _ HR.out Try.underlying48 rfl (by kernel_rfl) ?_ | refine wpList_store_mid rfl 48 _ _ rfl w.heap.size 0 #[.int .i64 (-1), .int .i64 r, v] rfl rfl (there_all HZ2.out 3 (Nat.le_refl _)) (by kernel_rfl) (by simp [Value.oneCell'] <;> exact o4) ?_)
  exact bodyPost_ret (ret_cell Try.results20 rfl (HZ2.out.full #[.int .i64 (-1), .int .i64 r, v] rfl) Try.underlying48 rfl (by kernel_rfl)) rfl ⟨r, v, P, rfl, hok, PSl.of_pts (owns_setN (by simp) _ HP.out 0) (by omega), ext_setN _ HB2.out (Nat.le_refl _) 0⟩
end Go.Proofs.Ytgnjconhbloocaa

namespace Go.Proofs.Ytgnjconhbloocaa
open Go.RowKit
set_option linter.unusedVariables false

def PartV (x y : Fx.V3) (j : Nat) : Prop := ∀ i : Nat, i < j → x.lo i ≤ y.lo i ∧ y.lo i ≤ y.hi i ∧ y.hi i ≤ x.hi i
theorem PartV.nil (x y : Fx.V3) : PartV x y 0 := fun i hi => absurd hi (by omega)
theorem PartV.set {x y : Fx.V3} {a b : Int} {j : Nat} (hj : j < 3) (hm : PartV x y j) (hq : x.lo j ≤ a ∧ a ≤ b ∧ b ≤ x.hi j) : PartV x (setV y a b j) (j + 1) := by
  intro i hi
  match j, hj, i, hi with
  | 0, _, 0, _ => exact hq
  | 1, _, 0, _ => exact hm 0 (by omega)
  | 1, _, 1, _ => exact hq
  | 2, _, 0, _ => exact hm 0 (by omega)
  | 2, _, 1, _ => exact hm 1 (by omega)
  | 2, _, 2, _ => exact hq
def setRow (m : Fx.M3) (r : Fx.V3) : Nat → Fx.M3
  | 0 => { m with x := r }
  | 1 => { m with y := r }
  | _ => { m with z := r }
theorem row_same (m : Fx.M3) (r : Fx.V3) : ∀ i : Nat, i < 3 → (setRow m r i).row i = r
  | 0, _ => rfl
  | 1, _ => rfl
  | 2, _ => rfl
theorem row_less (m : Fx.M3) (r : Fx.V3) : ∀ i a : Nat, i < 3 → a < i → (setRow m r i).row a = m.row a
  | 1, 0, _, _ => rfl
  | 2, 0, _, _ => rfl
  | 2, 1, _, _ => rfl
/-- The rows ahead of i are parts. -/
def PartO (q p : Fx.Ps) (i : Nat) : Prop := PartV q.T p.T i ∧ ∀ a : Nat, a < i → PartV (q.R.row a) (p.R.row a) 3
/-- Within row i: its first k entries are parts. -/
def PartI (q p : Fx.Ps) (i k : Nat) : Prop := PartV q.T p.T (i + 1) ∧ (∀ a : Nat, a < i → PartV (q.R.row a) (p.R.row a) 3) ∧ PartV (q.R.row i) (p.R.row i) k
def setT (p : Fx.Ps) (i : Nat) (a b : Int) : Fx.Ps := ⟨p.R, setV p.T a b i⟩
def setR (p : Fx.Ps) (i k : Nat) (a b : Int) : Fx.Ps := ⟨setRow p.R (setV (p.R.row i) a b k) i, p.T⟩
theorem PartO.set {q p : Fx.Ps} {i : Nat} {a b : Int} (h : PartO q p i) (hi : i < 3) (hq : q.T.lo i ≤ a ∧ a ≤ b ∧ b ≤ q.T.hi i) : PartI q (setT p i a b) i 0 := ⟨h.1.set hi hq, h.2, PartV.nil _ _⟩
theorem PartI.set {q p : Fx.Ps} {i k : Nat} {a b : Int} (h : PartI q p i k) (hi : i < 3) (hk : k < 3) (hq : (q.R.row i).lo k ≤ a ∧ a ≤ b ∧ b ≤ (q.R.row i).hi k) : PartI q (setR p i k a b) i (k + 1) := by
  refine ⟨h.1, fun c hc => ?_, ?_⟩
  · show PartV (q.R.row c) ((setRow p.R (setV (p.R.row i) a b k) i).row c) 3
    rw [row_less _ _ i c hi hc]; exact h.2.1 c hc
  · show PartV (q.R.row i) ((setRow p.R (setV (p.R.row i) a b k) i).row i) (k + 1)
    rw [row_same _ _ i hi]; exact h.2.2.set hk hq
theorem PartI.done {q p : Fx.Ps} {i : Nat} (h : PartI q p i 3) : PartO q p (i + 1) := ⟨h.1, fun a ha => by
  by_cases c : a = i
  · subst c; exact h.2.2
  · exact h.2.1 a (by omega)⟩
theorem zero_part (q : Fx.Ps) (p : Fx.Ps) : PartO q p 0 := ⟨PartV.nil _ _, fun a ha => absurd ha (by omega)⟩
theorem setT_arr (p : Fx.Ps) (a b : Int) : ∀ i : Nat, i < 3 → (p.arr.setIfInBounds (18 + i * 2) (.int .i64 a)).setIfInBounds (18 + i * 2 + 1) (.int .i64 b) = (setT p i a b).arr
  | 0, _ => by kernel_rfl
  | 1, _ => by kernel_rfl
  | 2, _ => by kernel_rfl
theorem setR_arr (p : Fx.Ps) (a b : Int) : ∀ i k : Nat, i < 3 → k < 3 → (p.arr.setIfInBounds (i * 6 + k * 2) (.int .i64 a)).setIfInBounds (i * 6 + k * 2 + 1) (.int .i64 b) = (setR p i k a b).arr
  | 0, 0, _, _ => by kernel_rfl
  | 0, 1, _, _ => by kernel_rfl
  | 0, 2, _, _ => by kernel_rfl
  | 1, 0, _, _ => by kernel_rfl
  | 1, 1, _, _ => by kernel_rfl
  | 1, 2, _, _ => by kernel_rfl
  | 2, 0, _, _ => by kernel_rfl
  | 2, 1, _, _ => by kernel_rfl
  | 2, 2, _, _ => by kernel_rfl
theorem Whole.rowT {w : World} {g : Nat} {t : TypeId} {p : Fx.Ps} (h : Whole w g t p.arr) (i : Nat) (hi : i < 3) : w.rangeAt g (18 + i * 2) [.int .i64 (p.T.lo i), .int .i64 (p.T.hi i)] :=
  h.range _ _ (fun j v hj => by rw [Nat.add_assoc]; exact p.vec _ _ (by simpa using arr_two p.T i hi j v hj))
theorem Whole.rowR {w : World} {g : Nat} {t : TypeId} {p : Fx.Ps} (h : Whole w g t p.arr) (i k : Nat) (hi : i < 3) (hk : k < 3) : w.rangeAt g (i * 6 + k * 2) [.int .i64 ((p.R.row i).lo k), .int .i64 ((p.R.row i).hi k)] :=
  h.range _ _ (fun j v hj => by
    have hj2 : j < 2 := by
      by_cases c : j < 2
      · exact c
      · rw [List.getElem?_eq_none (by simp; omega)] at hj; cases hj
    have := p.mat (i * 6 + (k * 2 + j)) v (by rw [Array.getElem?_toList, p.R.row_arr i (k * 2 + j) hi (by omega)]; exact arr_two (p.R.row i) k hk j v hj)
    rwa [Nat.zero_add, ← Nat.add_assoc] at this)

/-! The law: a part places within. -/
theorem part_vb {a b c d : Int} (h : Fx.vb a b = true) (hp : a ≤ c ∧ c ≤ d ∧ d ≤ b) : Fx.vb c d = true := by rw [Fx.vb_true] at *; omega
theorem of_within {a b c d : Int} (h : Fx.withinB a b c d = true) : c ≤ a ∧ b ≤ d := by
  unfold Fx.withinB at h
  simp only [Bool.and_eq_true, decide_eq_true_eq] at h
  exact ⟨h.1.2, h.2⟩
theorem dot_steps {r s v : Fx.V3} (hv : ∀ k : Nat, k < 3 → Fx.vb (v.lo k) (v.hi k) = true) (hs : ∀ k : Nat, k < 3 → Fx.vb (s.lo k) (s.hi k) = true) (h : PartV s r 3) :
    ∀ k : Nat, k ≤ 3 → Fx.vb (Fx.dot r v k).1 (Fx.dot r v k).2 = true ∧ Fx.vb (Fx.dot s v k).1 (Fx.dot s v k).2 = true ∧ (Fx.dot s v k).1 ≤ (Fx.dot r v k).1 ∧ (Fx.dot r v k).2 ≤ (Fx.dot s v k).2
  | 0, _ => ⟨show Fx.vb 0 0 = true by decide, show Fx.vb 0 0 = true by decide, Int.le_refl _, Int.le_refl _⟩
  | k + 1, hk => by
    obtain ⟨h1, h2, h3, h4⟩ := dot_steps hv hs h k (by omega)
    have p := h k (by omega)
    have hs' := hs k (by omega)
    have hr' := part_vb hs' p
    have hv' := hv k (by omega)
    obtain ⟨m1, m2⟩ := of_within (Fx.mul_within hr' hv' hs' hv' p.1 p.2.2 (Int.le_refl _) (Int.le_refl _))
    obtain ⟨a1, a2⟩ := of_within (Fx.add_within h1 (Fx.mul_vb hr' hv') h2 (Fx.mul_vb hs' hv') h3 h4 m1 m2)
    exact ⟨Fx.add_vb h1 (Fx.mul_vb hr' hv'), Fx.add_vb h2 (Fx.mul_vb hs' hv'), a1, a2⟩
theorem apply_part {q p : Fx.Ps} (hq : ValidP q) (hp : PartO q p 3) {v : Fx.V3} (hv : ∀ k : Nat, k < 3 → Fx.vb (v.lo k) (v.hi k) = true) (k : Nat) (hk : k < 3) :
    Fx.withinB ((Fx.applyP p v).lo k) ((Fx.applyP p v).hi k) ((Fx.applyP q v).lo k) ((Fx.applyP q v).hi k) = true := by
  obtain ⟨d1, d2, d3, d4⟩ := dot_steps hv (fun j hj => hq.1 k j hk hj) (hp.2 k hk) 3 (Nat.le_refl _)
  have t := hp.1 k hk
  have ht := hq.2 k hk
  unfold Fx.applyP Fx.addV
  rw [(ofEnds_at _ _ k hk).1, (ofEnds_at _ _ k hk).2, (ofEnds_at _ _ k hk).1, (ofEnds_at _ _ k hk).2]
  unfold Fx.applyM
  rw [(ofEnds_at _ _ k hk).1, (ofEnds_at _ _ k hk).2, (ofEnds_at _ _ k hk).1, (ofEnds_at _ _ k hk).2]
  exact Fx.add_within (part_vb ht t) d1 ht d2 t.1 t.2.2 d3 d4
theorem place_part {q p : Fx.Ps} (hq : ValidP q) (hp : PartO q p 3) (x : Int × Int × Int) (k : Nat) (hk : k < 3) :
    Fx.withinB ((Fx.placePt p x).lo k) ((Fx.placePt p x).hi k) ((Fx.placePt q x).lo k) ((Fx.placePt q x).hi k) = true := apply_part hq hp (fun j hj => ofV_vb _ _ _ j hj) k hk
end Go.Proofs.Ytgnjconhbloocaa

namespace Go.Proofs.Ytgnjconhbloocaa
open Go.RowKit
set_option linter.unusedVariables false

set_option maxRecDepth 100000 in
theorem withinvec_any (a b : Fx.V3) (w : World) (h : ∀ k : Nat, k < 3 → Fx.withinB (a.lo k) (a.hi k) (b.lo k) (b.hi k) = true) :
    Calls Try.prog 28 #[.agg a.arr, .agg b.arr] w fun e w' => e = .returned (.bool true) ∧ Below w.heap.size w w' := by
  have H0 := Lib.hid (h 0 (by omega)); have H1 := Lib.hid (h 1 (by omega)); have H2 := Lib.hid (h 2 (by omega))
  clear h
  rw [show a.arr = #[.int .i64 a.a, .int .i64 a.b, .int .i64 a.c, .int .i64 a.d, .int .i64 a.e, .int .i64 a.f] from rfl, show b.arr = #[.int .i64 b.a, .int .i64 b.b, .int .i64 b.c, .int .i64 b.d, .int .i64 b.e, .int .i64 b.f] from rfl]
  go_enter Try.func28, Try.ntmps28
  go_wp2_with fail
  refine (rwithin_any _ _ _ _ _).mono ?_
  rintro e w1 ⟨rfl, hb1⟩
  rw [show Fx.withinB a.a a.b b.a b.b = true from H0.out]
  have hB1 := ext_trans (ext_alloc (ext_alloc (ext_refl w) _) _) hb1
  have hz := hb1.size
  obtain ⟨hc1, hf1⟩ := bcell hb1
  clear hb1
  go_wp2_with fail
  refine (rwithin_any _ _ _ _ _).mono ?_
  rintro e w2 ⟨rfl, hb2⟩
  rw [show Fx.withinB a.c a.d b.c b.d = true from H1.out]
  have hB2 := ext_trans hB1 hb2
  obtain ⟨hc2, hf2⟩ := bcell hb2
  simp at hz
  have hz0 : w.heap.size < w1.heap.size := by omega
  have hz1 : w.heap.size + 1 < w1.heap.size := by omega
  clear hb2 hz
  go_wp2_with fail
  refine (rwithin_any _ _ _ _ _).mono ?_
  rintro e w3 ⟨rfl, hb3⟩
  rw [show Fx.withinB a.e a.f b.e b.f = true from H2.out]
  have hB3 := ext_trans hB2 hb3
  go_wp2_with fail
  go_ret
  exact ⟨rfl, hB3⟩
end Go.Proofs.Ytgnjconhbloocaa
