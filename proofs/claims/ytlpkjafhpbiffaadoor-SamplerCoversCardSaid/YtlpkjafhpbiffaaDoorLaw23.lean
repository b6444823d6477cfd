/- Contracts that the laws on radical inverses share: powers, and the list of what was seen. -/
import Derived.Test.YtlpkjafhpbiffaaDoorAwake23
import Derived.Test.YtlpkjafhpbiffaaDoorRadMath
import Derived.Test.YtlpkjafhpbiffaaDoorSampMath2
import Derived.Test.YtlpkjafhpbiffaaDoorMk
import Derived.Laws.MakeOwn
namespace Go.Proofs.YtlpkjafhpbiffaaDoor
open Go.RowKit
set_option linter.unusedVariables false

theorem info_bool : (Tryd.prog.info? 4).map (fun i => (i.zero, i.size, i.bytes)) = some (some (.bool false), 1, 1) := by kernel_rfl

theorem made_false (n : Nat) : madeCells #[.bool false] n = Array.replicate n (.bool false) := by
  apply Array.ext
  · simp [madeCells]
  · intro i h1 h2
    simp [madeCells, Nat.mod_one]

theorem make_bools (k : IntKind) (n : Nat) (hn : n ≤ 65536) (w : World) :
    (Instr.makeSlice 30 (.int k (n : Int)) (.int k (n : Int))).run Tryd.prog w = .ok (.slice (some ⟨w.heap.size, 0, none⟩) n n) (w.alloc (.cells (Array.replicate n (.bool false)) 4)) := by
  obtain ⟨i0, hi, hz0, hz1, hz2⟩ := info_parts info_bool
  have hr := run_make (P := Tryd.prog) w 30 4 i0 (.bool false) Tryd.underlying30 hi hz0 k k n n (by omega) (by omega) (by rw [hz2]; omega) (by omega)
  rw [hz1] at hr
  have e : (.bool false : Value).cells = #[.bool false] := rfl
  rw [e, Nat.mul_one, Int.toNat_natCast, made_false] at hr
  exact hr

theorem pow_le (b : Int) (t : Nat) (hb : 2 ≤ b) (hb1 : b ≤ 12) (ht : t ≤ 2) : 1 ≤ b ^ t ∧ b ^ t ≤ 144 := by
  match t, ht with
  | 0, _ => rw [Int.pow_zero]; omega
  | 1, _ => rw [Int.pow_succ, Int.pow_zero]; omega
  | 2, _ =>
    rw [Int.pow_succ, Int.pow_succ, Int.pow_zero, Int.one_mul]
    have h1 := Int.mul_le_mul hb1 hb1 (by omega) (by omega)
    have h2 := Int.mul_le_mul hb hb (by omega) (by omega)
    omega

theorem power_any (b : Int) (k : Nat) (w : World) (hb : 2 ≤ b) (hb1 : b ≤ 12) (hk : k ≤ 2) :
    Calls Tryd.prog 19 #[.int .u64 b, .int .i64 k] w fun e w' => e = .returned (.int .u64 (b ^ k)) ∧ w' = w := by
  go_enter Tryd.func19, Tryd.ntmps19
  go_wp2_with fail
  go_loop [1, 5] (fun kv nv => ∃ t j : Nat, t + j = k ∧ kv = .int .i64 j ∧ nv = .int .u64 (b ^ t)) (fun kv _ => (intOf kv).toNat)
  case atStart => exact ⟨0, k, by omega, rfl, by rw [Int.pow_zero]⟩
  case round =>
    obtain ⟨t, j, htj, rfl, rfl⟩ := hrel
    have p0 := pow_le b t hb hb1 (by omega)
    by_cases hj : 0 < j
    · have HE : Hid (b ^ (t + 1) = b ^ t * b) := Lib.hid (Int.pow_succ _ _)
      have p1 := pow_le b (t + 1) hb hb1 (by omega)
      rw [HE.out] at p1
      have hj2 : j ≤ 2 := by omega
      have HT := Lib.hid htj; clear htj
      generalize b ^ t = P at *
      go_wp2_with fail
      go_round
      case rel => exact ⟨t + 1, j - 1, by have := HT.out; omega, by go_num, by rw [HE.out]⟩
      case measure => simp [intOf]; omega
    · obtain rfl : j = 0 := by omega
      obtain rfl : t = k := by omega
      go_wp2_with fail
      go_ret
      exact ⟨rfl, rfl⟩
end Go.Proofs.YtlpkjafhpbiffaaDoor
