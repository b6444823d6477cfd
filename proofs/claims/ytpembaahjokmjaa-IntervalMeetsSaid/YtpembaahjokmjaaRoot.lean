/- Contracts of Root, RootUp, SqrtDown and SqrtUp of package fixed and of their references. -/
import Derived.Test.YtpembaahjokmjaaFixed
import Derived.Test.YtpembaahjokmjaaShelf
import Derived.Deep.QuietTactic
import Derived.BigQuiet
namespace Go.Proofs.Ytpembaahjokmjaa
open Go.RowKit

namespace Fx
theorem bitLenAux_lt (f x : Nat) (h : x < 2 ^ f) : x < 2 ^ Lib.bitLenAux f x := by
  induction f generalizing x with
  | zero => simpa [Lib.bitLenAux] using h
  | succ f ih =>
    rw [Lib.bitLenAux]
    split
    · subst_vars; simp
    · have := ih (x / 2) (by rw [Nat.pow_succ] at h; omega)
      rw [Nat.pow_add]; omega
theorem bitLenAux_le (f x k : Nat) (h : x < 2 ^ k) : Lib.bitLenAux f x ≤ k := by
  induction f generalizing x k with
  | zero => simp [Lib.bitLenAux]
  | succ f ih =>
    rw [Lib.bitLenAux]
    split
    · omega
    · match k with
      | 0 => simp at h; omega
      | k + 1 =>
        have := ih (x / 2) k (by rw [Nat.pow_succ] at h; omega)
        omega
theorem bitLen_lt (x : Nat) (h : x < 18446744073709551616) : x < 2 ^ Lib.bitLen x := bitLenAux_lt 64 x h
theorem bitLen_63 (x : Nat) (h : x < 9223372036854775808) : Lib.bitLen x ≤ 63 := bitLenAux_le 64 x 63 h
theorem lt_pow_bitLen (n : Int) (h0 : 0 ≤ n) (h1 : n ≤ 9223372036854775807) : n < 2 ^ Lib.bitLen n.toNat := by
  have := bitLen_lt n.toNat (by omega)
  have h : ((n.toNat : Nat) : Int) < ((2 ^ Lib.bitLen n.toNat : Nat) : Int) := by omega
  rw [Int.natCast_pow, Int.toNat_of_nonneg h0] at h
  exact h
end Fx

theorem root_any (n : Int) (w : World) (h1 : n ≤ 9223372036854775807) :
    Calls Try.prog 63 #[.int .i64 n] w fun e w' => e = .returned (.int .i64 (Fx.root n)) ∧ ∃ k, w' = w.drewN k := by
  by_cases hn : n ≤ 0
  · go_enter Try.func63, Try.ntmps63
    go_wp2
    go_ret
    exact ⟨ret_int (Fx.root_neg n hn).symm, 0, rfl⟩
  · have hl := Fx.lt_pow_bitLen n (by omega) h1
    have hm := Fx.bitLen_63 n.toNat (by omega)
    have HL := Lib.hid hl; clear hl
    go_enter Try.func63, Try.ntmps63
    go_wp2_with fail
    refine (len64_any _ _ (by omega) (by omega)).mono ?_
    rintro e w' ⟨rfl, rfl⟩
    generalize Lib.bitLen n.toNat = L at *
    go_wp2
    obtain ⟨W, hW⟩ : ∃ W : Nat, ((L : Int) + 1) / 2 = W := ⟨(L + 1) / 2, by omega⟩
    have hs := Fx.rootAt_start n W L (by omega) HL.out (by omega) (by omega)
    have HS := Lib.hid hs; clear hs HL
    have hW1 : W ≤ 32 := by omega
    rw [hW]
    clear hW
    go_quiet (fail)
    have hp1 := Fx.pow_pos W
    have hp2 := Fx.pow_le_32 W hW1
    rw [IntWalk.u64_in (2 ^ W) ⟨by omega, by omega⟩]
    clear hp1 hp2
    go_wp2
    go_loop [4, 5, 17] (fun r st i => ∃ (j e : Nat) (R : Int), j + e = W ∧ i = .int .i64 j ∧ r = .int .u64 R ∧ st = .int .u64 (2 ^ e) ∧ Fx.RootAt n R e) (fun _ _ i => W - (intOf i).toNat)
    case atStart => exact ⟨0, W, 0, by omega, rfl, rfl, rfl, HS.out⟩
    case round =>
      obtain ⟨j, e, R, hj, rfl, rfl, rfl, hR⟩ := hrel
      match e, hj, hR with
      | 0, hj, hR =>
        have hjW : W ≤ j := by omega
        have hr := Fx.rootAt_end n R hR
        have hb := Fx.root_bd n h1
        rw [← hr] at hb
        have HR := Lib.hid hr; clear hr hR hj
        go_wp2
        go_ret
        exact ⟨ret_int HR.out, _, rfl⟩
      | e + 1, hj, hR =>
        obtain ⟨g1, g2, g3, g4, g5, g6⟩ := Fx.rootAt_next n R e hR
        have hR0 : 0 ≤ R := hR.1
        have e1 : (2 : Int) ^ (e + 1) = 2 * 2 ^ e := by rw [Int.pow_succ]; omega
        rw [e1]
        have hS := Fx.pow_pos e
        have hjW : j < W := by omega
        have G5 := Lib.hid g5
        have G6 := Lib.hid g6
        have HJ := Lib.hid hj
        clear g5 g6 hR e1 hj
        generalize hSe : (2 : Int) ^ e = S at *
        have HSe := Lib.hid hSe; clear hSe
        go_wp2
        · go_round
          case rel => exact ⟨j + 1, e, R + S, by have := HJ.out; omega, by go_num, rfl, by rw [HSe.out], G5.out ‹_›⟩
          case measure => simp [intOf]; omega
        · go_round
          case rel => exact ⟨j + 1, e, R, by have := HJ.out; omega, by go_num, rfl, by rw [HSe.out], G6.out ‹_›⟩
          case measure => simp [intOf]; omega

theorem rroot_any (n : Int) (w : World) (h1 : n ≤ 9223372036854775807) :
    Calls Try.prog 68 #[.int .i64 n] w fun e w' => e = .returned (.int .i64 (Fx.root n)) ∧ w = w' := by
  by_cases hn : n < 1
  · go_enter Try.func68, Try.ntmps68
    go_wp2
    go_ret
    exact ⟨ret_int (Fx.root_neg n (by omega)).symm, rfl⟩
  · have HS := Lib.hid (Fx.between_start n (by omega) h1)
    go_enter Try.func68, Try.ntmps68
    go_wp2
    go_loop [3, 4] (fun x y => ∃ l h : Int, x = .int .i64 l ∧ y = .int .i64 h ∧ Fx.Between n l h) (fun x y => (intOf y - intOf x).toNat)
    case atStart => exact ⟨1, 4294967296, rfl, rfl, HS.out⟩
    case round =>
      obtain ⟨l, h, rfl, rfl, hB⟩ := hrel
      obtain ⟨b0, b1, b2, _, _⟩ := id hB
      have HB := Lib.hid hB
      clear hB
      by_cases c : 1 < h - l
      · go_wp2
        · go_round
          case rel => exact ⟨_, _, rfl, rfl, Fx.between_low n l h _ HB.out (by omega) (by omega) ‹_›⟩
          case measure => simp [intOf]; omega
        · go_round
          case rel => exact ⟨_, _, rfl, rfl, Fx.between_high n l h _ HB.out (by omega) (by omega) ‹_›⟩
          case measure => simp [intOf]; omega
      · go_wp2
        go_ret
        exact ⟨ret_int (Fx.between_end n l h HB.out (by omega)), rfl⟩

theorem rootUp_any (n : Int) (w : World) (h1 : n ≤ 9223372036854775807) :
    Calls Try.prog 64 #[.int .i64 n] w fun e w' => e = .returned (.int .i64 (Fx.rootUp n)) ∧ ∃ k, w' = w.drewN k := by
  have hb := Fx.root_bd n h1
  have hs := Fx.root_sq_bd n h1
  go_enter Try.func64, Try.ntmps64
  go_wp2_with fail
  refine (root_any _ _ h1).mono ?_
  rintro e w' ⟨rfl, k, rfl⟩
  by_cases c : Fx.root n * Fx.root n < n
  · have HR : Hid (Fx.rootUp n = Fx.root n + 1) := Lib.hid (by unfold Fx.rootUp; rw [if_pos c])
    go_wp2
    go_ret
    exact ⟨ret_int HR.out.symm, _, rfl⟩
  · have HR : Hid (Fx.rootUp n = Fx.root n) := Lib.hid (by unfold Fx.rootUp; rw [if_neg c])
    go_wp2
    go_ret
    exact ⟨ret_int HR.out.symm, _, rfl⟩

theorem rrootUp_any (n : Int) (w : World) (h1 : n ≤ 9223372036854775807) :
    Calls Try.prog 69 #[.int .i64 n] w fun e w' => e = .returned (.int .i64 (Fx.rootUp n)) ∧ w = w' := by
  have hb := Fx.root_bd n h1
  have hs := Fx.root_sq_bd n h1
  go_enter Try.func69, Try.ntmps69
  go_wp2_with fail
  refine (rroot_any _ _ h1).mono ?_
  rintro e w' ⟨rfl, rfl⟩
  by_cases c0 : 0 < n
  · by_cases c : Fx.root n * Fx.root n < n
    · have HR : Hid (Fx.rootUp n = Fx.root n + 1) := Lib.hid (by unfold Fx.rootUp; rw [if_pos c])
      go_wp2
      go_ret
      exact ⟨ret_int HR.out.symm, rfl⟩
    · have HR : Hid (Fx.rootUp n = Fx.root n) := Lib.hid (by unfold Fx.rootUp; rw [if_neg c])
      go_wp2
      go_ret
      exact ⟨ret_int HR.out.symm, rfl⟩
  · have HR : Hid (Fx.rootUp n = Fx.root n) := Lib.hid (by rw [Fx.rootUp_neg n (by omega), Fx.root_neg n (by omega)])
    go_wp2
    go_ret
    exact ⟨ret_int HR.out.symm, rfl⟩

theorem sqrtDown_any (a : Int) (w : World) :
    Calls Try.prog 54 #[.int .i64 a] w fun e w' => e = .returned (.int .i64 (Fx.sqrtDown a)) ∧ ∃ k, w' = w.drewN k := by
  have hb := Fx.clamp_bd a
  go_enter Try.func54, Try.ntmps54
  go_wp2_with fail
  refine (clamp_any a _).mono ?_
  rintro e w' ⟨rfl, rfl⟩
  go_wp2_with fail
  refine (root_any _ _ (by omega)).mono ?_
  rintro e w' ⟨rfl, k, rfl⟩
  go_wp2_with fail
  go_ret
  exact ⟨rfl, _, rfl⟩

theorem sqrtUp_any (a : Int) (w : World) :
    Calls Try.prog 55 #[.int .i64 a] w fun e w' => e = .returned (.int .i64 (Fx.sqrtUp a)) ∧ ∃ k, w' = w.drewN k := by
  have hb := Fx.clamp_bd a
  go_enter Try.func55, Try.ntmps55
  go_wp2_with fail
  refine (clamp_any a _).mono ?_
  rintro e w' ⟨rfl, rfl⟩
  go_wp2_with fail
  refine (rootUp_any _ _ (by omega)).mono ?_
  rintro e w' ⟨rfl, k, rfl⟩
  go_wp2_with fail
  go_ret
  exact ⟨rfl, _, rfl⟩

theorem rsqrtDown_any (a : Int) (w : World) :
    Calls Try.prog 65 #[.int .i64 a] w fun e w' => e = .returned (.int .i64 (Fx.sqrtDown a)) ∧ w = w' := by
  have hb := Fx.clamp_bd a
  go_enter Try.func65, Try.ntmps65
  go_wp2_with fail
  refine (rclamp_any a _).mono ?_
  rintro e w' ⟨rfl, rfl⟩
  go_wp2_with fail
  refine (rroot_any _ _ (by omega)).mono ?_
  rintro e w' ⟨rfl, rfl⟩
  go_wp2_with fail
  go_ret
  exact ⟨rfl, rfl⟩

theorem rsqrtUp_any (a : Int) (w : World) :
    Calls Try.prog 66 #[.int .i64 a] w fun e w' => e = .returned (.int .i64 (Fx.sqrtUp a)) ∧ w = w' := by
  have hb := Fx.clamp_bd a
  go_enter Try.func66, Try.ntmps66
  go_wp2_with fail
  refine (rclamp_any a _).mono ?_
  rintro e w' ⟨rfl, rfl⟩
  go_wp2_with fail
  refine (rrootUp_any _ _ (by omega)).mono ?_
  rintro e w' ⟨rfl, rfl⟩
  go_wp2_with fail
  go_ret
  exact ⟨rfl, rfl⟩

end Go.Proofs.Ytpembaahjokmjaa
