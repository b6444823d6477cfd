/- Contract of the reference's ComposeMat: a matrix of valid intervals from -1 to 1 is returned. What the makers keep: the source, and all but its block. Contract of the law's maker of poses. The maker of a shape's points. -/
import Derived.Test.YtgnjconhbloocaaBunM6
import Derived.Test.YtgnjconhbloocaaBunM4
namespace Go.Proofs.Ytgnjconhbloocaa
open Go.RowKit
set_option linter.unusedVariables false

def IvV (v : Value) : Prop := ∃ l h : Int, Fx.vb l h = true ∧ v = .agg #[.int .i64 l, .int .i64 h]
/-- What is known in the statement that draws: how many calls are done, whether the variable is made. -/
def CompS (w1 : World) (c : Nat) (d : Bool) (s8 v25 v34 v35 v44 v45 : Value) (wc : World) : Prop :=
  Below w1.heap.size w1 wc ∧ (1 ≤ c → IvV v25) ∧ (2 ≤ c → IvV v34) ∧ (3 ≤ c → IvV v35) ∧ (4 ≤ c → IvV v44) ∧ (5 ≤ c → IvV v45) ∧ NewZ w1.heap.size d s8 wc
theorem CompS.ext {w1 : World} {c : Nat} {d : Bool} {s8 v25 v34 v35 v44 v45 : Value} {wc w' : World} (h : CompS w1 c d s8 v25 v34 v35 v44 v45 wc) (hb : Below wc.heap.size wc w') : CompS w1 c d s8 v25 v34 v35 v44 v45 w' :=
  ⟨ext_trans h.1 hb, h.2.1, h.2.2.1, h.2.2.2.1, h.2.2.2.2.1, h.2.2.2.2.2.1, h.2.2.2.2.2.2.ext hb⟩
theorem CompS.a {w1 : World} {c : Nat} {s8 v25 v34 v35 v44 v45 : Value} {wc : World} (h : CompS w1 c false s8 v25 v34 v35 v44 v45 wc) : CompS w1 c true (.pointer (some ⟨wc.heap.size, 0, none⟩)) v25 v34 v35 v44 v45 (wc.alloc (.cells zero2 32)) :=
  ⟨ext_alloc h.1 _, h.2.1, h.2.2.1, h.2.2.2.1, h.2.2.2.2.1, h.2.2.2.2.2.1, new_z wc _ h.1.size⟩
theorem CompS.c1 {w1 : World} {d : Bool} {s8 v25 v34 v35 v44 v45 v : Value} {wc : World} (h : CompS w1 0 d s8 v25 v34 v35 v44 v45 wc) (hv : IvV v) : CompS w1 1 d s8 v v34 v35 v44 v45 wc :=
  ⟨h.1, fun _ => hv, fun q => absurd q (by omega), fun q => absurd q (by omega), fun q => absurd q (by omega), fun q => absurd q (by omega), h.2.2.2.2.2.2⟩
theorem CompS.c2 {w1 : World} {d : Bool} {s8 v25 v34 v35 v44 v45 v : Value} {wc : World} (h : CompS w1 1 d s8 v25 v34 v35 v44 v45 wc) (hv : IvV v) : CompS w1 2 d s8 v25 v v35 v44 v45 wc :=
  ⟨h.1, fun _ => h.2.1 (by omega), fun _ => hv, fun q => absurd q (by omega), fun q => absurd q (by omega), fun q => absurd q (by omega), h.2.2.2.2.2.2⟩
theorem CompS.c3 {w1 : World} {d : Bool} {s8 v25 v34 v35 v44 v45 v : Value} {wc : World} (h : CompS w1 2 d s8 v25 v34 v35 v44 v45 wc) (hv : IvV v) : CompS w1 3 d s8 v25 v34 v v44 v45 wc :=
  ⟨h.1, fun _ => h.2.1 (by omega), fun _ => h.2.2.1 (by omega), fun _ => hv, fun q => absurd q (by omega), fun q => absurd q (by omega), h.2.2.2.2.2.2⟩
theorem CompS.c4 {w1 : World} {d : Bool} {s8 v25 v34 v35 v44 v45 v : Value} {wc : World} (h : CompS w1 3 d s8 v25 v34 v35 v44 v45 wc) (hv : IvV v) : CompS w1 4 d s8 v25 v34 v35 v v45 wc :=
  ⟨h.1, fun _ => h.2.1 (by omega), fun _ => h.2.2.1 (by omega), fun _ => h.2.2.2.1 (by omega), fun _ => hv, fun q => absurd q (by omega), h.2.2.2.2.2.2⟩
theorem CompS.c5 {w1 : World} {d : Bool} {s8 v25 v34 v35 v44 v45 v : Value} {wc : World} (h : CompS w1 4 d s8 v25 v34 v35 v44 v45 wc) (hv : IvV v) : CompS w1 5 d s8 v25 v34 v35 v44 v wc :=
  ⟨h.1, fun _ => h.2.1 (by omega), fun _ => h.2.2.1 (by omega), fun _ => h.2.2.2.1 (by omega), fun _ => h.2.2.2.2.1 (by omega), fun _ => hv, h.2.2.2.2.2.2⟩
theorem IvV.mul (a b c d : Int) : IvV (.agg #[.int .i64 (Fx.mulLo a b c d), .int .i64 (Fx.mulHi a b c d)]) := ⟨_, _, Fx.mul_vb' a b c d, rfl⟩
theorem IvV.add {a b c d : Int} (h1 : Fx.vb a b = true) (h2 : Fx.vb c d = true) : IvV (.agg #[.int .i64 (Fx.addLo a b c d), .int .i64 (Fx.addHi a b c d)]) := ⟨_, _, Fx.add_vb h1 h2, rfl⟩
theorem vb_le {l h : Int} (hv : Fx.vb l h = true) : l ≤ h := by
  simp only [Fx.vb, Bool.and_eq_true, decide_eq_true_eq] at hv
  omega

/-- An entry set. -/
def Fx.M3.setE (m : Fx.M3) (i k : Nat) (l h : Int) : Fx.M3 :=
  match i, k with
  | 0, 0 => { m with x := { m.x with a := l, b := h } }
  | 0, 1 => { m with x := { m.x with c := l, d := h } }
  | 0, 2 => { m with x := { m.x with e := l, f := h } }
  | 1, 0 => { m with y := { m.y with a := l, b := h } }
  | 1, 1 => { m with y := { m.y with c := l, d := h } }
  | 1, 2 => { m with y := { m.y with e := l, f := h } }
  | 2, 0 => { m with z := { m.z with a := l, b := h } }
  | 2, 1 => { m with z := { m.z with c := l, d := h } }
  | 2, 2 => { m with z := { m.z with e := l, f := h } }
  | _, _ => m
theorem Fx.M3.setE_arr (m : Fx.M3) (l h : Int) : ∀ i k : Nat, i < 3 → k < 3 → (m.arr.setIfInBounds (i * 6 + k * 2) (.int .i64 l)).setIfInBounds (i * 6 + k * 2 + 1) (.int .i64 h) = (m.setE i k l h).arr
  | 0, 0, _, _ => by rw [Fx.M3.lit, Fx.M3.lit]; rfl
  | 0, 1, _, _ => by rw [Fx.M3.lit, Fx.M3.lit]; rfl
  | 0, 2, _, _ => by rw [Fx.M3.lit, Fx.M3.lit]; rfl
  | 1, 0, _, _ => by rw [Fx.M3.lit, Fx.M3.lit]; rfl
  | 1, 1, _, _ => by rw [Fx.M3.lit, Fx.M3.lit]; rfl
  | 1, 2, _, _ => by rw [Fx.M3.lit, Fx.M3.lit]; rfl
  | 2, 0, _, _ => by rw [Fx.M3.lit, Fx.M3.lit]; rfl
  | 2, 1, _, _ => by rw [Fx.M3.lit, Fx.M3.lit]; rfl
  | 2, 2, _, _ => by rw [Fx.M3.lit, Fx.M3.lit]; rfl
  | _ + 3, _, q, _ => absurd q (by omega)
  | 0, _ + 3, _, q => absurd q (by omega)
  | 1, _ + 3, _, q => absurd q (by omega)
  | 2, _ + 3, _, q => absurd q (by omega)
theorem Fx.M3.setE_unit (m : Fx.M3) (l h : Int) (hm : UnitM m) (h0 : -65536 ≤ l) (h1 : l ≤ h) (h2 : h ≤ 65536) : ∀ i k : Nat, i < 3 → k < 3 → UnitM (m.setE i k l h) := by
  have e00 := hm 0 0 (by omega) (by omega)
  have e01 := hm 0 1 (by omega) (by omega)
  have e02 := hm 0 2 (by omega) (by omega)
  have e10 := hm 1 0 (by omega) (by omega)
  have e11 := hm 1 1 (by omega) (by omega)
  have e12 := hm 1 2 (by omega) (by omega)
  have e20 := hm 2 0 (by omega) (by omega)
  have e21 := hm 2 1 (by omega) (by omega)
  have e22 := hm 2 2 (by omega) (by omega)
  intro i k hi hk i' k' hi' hk'
  have ci : i = 0 ∨ i = 1 ∨ i = 2 := by omega
  have ck : k = 0 ∨ k = 1 ∨ k = 2 := by omega
  have ci' : i' = 0 ∨ i' = 1 ∨ i' = 2 := by omega
  have ck' : k' = 0 ∨ k' = 1 ∨ k' = 2 := by omega
  rcases ci with rfl | rfl | rfl <;> rcases ck with rfl | rfl | rfl <;> rcases ci' with rfl | rfl | rfl <;> rcases ck' with rfl | rfl | rfl <;> first | exact ⟨h0, h1, h2⟩ | assumption
theorem zeroM_unit : UnitM ⟨⟨0, 0, 0, 0, 0, 0⟩, ⟨0, 0, 0, 0, 0, 0⟩, ⟨0, 0, 0, 0, 0, 0⟩⟩ := by
  intro i k hi hk
  have ci : i = 0 ∨ i = 1 ∨ i = 2 := by omega
  have ck : k = 0 ∨ k = 1 ∨ k = 2 := by omega
  rcases ci with rfl | rfl | rfl <;> rcases ck with rfl | rfl | rfl <;> simp [Fx.M3.row, Fx.V3.lo, Fx.V3.hi]
/-- Some matrix of valid entries lies at g. -/
def Has (w : World) (g : Nat) : Prop := ∃ r : Fx.M3, UnitM r ∧ Whole w g 50 r.arr

/-- The frame in the statement that draws. -/
abbrev compFr (m q : Fx.M3) (g : Nat) (i k : Nat) (u11 u12 u15 u16 u46 u47 u48 u49 u50 u51 u52 u53 u54 u55 u56 u57 u58 u59 : Value) (s8 v25 v34 v35 v44 v45 : Value) : Act := { tmps := #[.agg m.arr, .agg q.arr, .pointer (some ⟨g, 0, none⟩), .pointer (some ⟨g + 1, 0, none⟩), .pointer (some ⟨g + 1 + 1, 0, none⟩), .pointer (some ⟨g + 1 + 1 + 1, 0, none⟩), .int .i64 i, .int .i64 k, s8, .int .i64 i, .bool true, u11, u12, .int .i64 k, .bool true, u15, u16, .int .i64 i, .pointer (some ⟨g, i * 6, none⟩), .pointer (some ⟨g, i * 6, none⟩), .agg #[.int .i64 ((m.row i).lo 0), .int .i64 ((m.row i).hi 0)], .int .i64 k, .pointer (some ⟨g + 1, 0, none⟩), .pointer (some ⟨g + 1, k * 2, none⟩), .agg #[.int .i64 ((q.row 0).lo k), .int .i64 ((q.row 0).hi k)], v25, .int .i64 i, .pointer (some ⟨g, i * 6, none⟩), .pointer (some ⟨g, i * 6 + 2, none⟩), .agg #[.int .i64 ((m.row i).lo 1), .int .i64 ((m.row i).hi 1)], .int .i64 k, .pointer (some ⟨g + 1, 6, none⟩), .pointer (some ⟨g + 1, 6 + k * 2, none⟩), .agg #[.int .i64 ((q.row 1).lo k), .int .i64 ((q.row 1).hi k)], v34, v35, .int .i64 i, .pointer (some ⟨g, i * 6, none⟩), .pointer (some ⟨g, i * 6 + 4, none⟩), .agg #[.int .i64 ((m.row i).lo 2), .int .i64 ((m.row i).hi 2)], .int .i64 k, .pointer (some ⟨g + 1, 12, none⟩), .pointer (some ⟨g + 1, 12 + k * 2, none⟩), .agg #[.int .i64 ((q.row 2).lo k), .int .i64 ((q.row 2).hi k)], v44, v45, u46, u47, u48, u49, u50, u51, u52, u53, u54, u55, u56, u57, u58, u59], defers := [] }
def CompI (w1 : World) (m q : Fx.M3) (g : Nat) (i k : Nat) (u11 u12 u15 u16 u46 u47 u48 u49 u50 u51 u52 u53 u54 u55 u56 u57 u58 u59 : Value) (n : Nat) (l : Array Bool) (act : Act) (wc : World) : Prop :=
  ∃ (c : Nat) (d : Bool) (s8 v25 v34 v35 v44 v45 : Value), c ≤ 5 ∧ n = (5 - c) + (if d then 0 else 1) + 1 ∧ l = #[true, true, true, true, true, true, true, true, decide (1 ≤ c), true, true, true, true, true, true, true, true, decide (2 ≤ c), decide (3 ≤ c), true, true, true, true, true, true, true, true, decide (4 ≤ c), decide (5 ≤ c), d, false] ∧ act = compFr m q g i k u11 u12 u15 u16 u46 u47 u48 u49 u50 u51 u52 u53 u54 u55 u56 u57 u58 u59 s8 v25 v34 v35 v44 v45 ∧ CompS w1 c d s8 v25 v34 v35 v44 v45 wc

set_option maxRecDepth 100000 in
set_option maxHeartbeats 1000000 in
theorem composemat_any (m q : Fx.M3) (w : World) :
    Calls Try.prog 58 #[.agg m.arr, .agg q.arr] w (GivesM w) := by
  go_enter Try.func58, Try.ntmps58
  go_wp2_with fail
  have h4 := blocks4 w 50 50 50 50 m.arr q.arr zero18 zero18
  generalize (((w.alloc (.cells m.arr 50)).alloc (.cells q.arr 50)).alloc (.cells zero18 50)).alloc (.cells zero18 50) = w0 at *
  obtain ⟨hA0, hB0, hC0, hD0, hE0⟩ := h4
  have HA0 := Lib.hid hA0; have HB0 := Lib.hid hB0; have HC0 := Lib.hid hC0
  have HD0 : Hid (Has w0 (w.heap.size + 1 + 1 + 1)) := Lib.hid ⟨_, zeroM_unit, hD0⟩
  clear hA0 hB0 hC0 hD0
  go_loopw [6] (fun iv wr => ∃ i : Nat, i ≤ 3 ∧ iv = .int .i64 i ∧ Whole wr w.heap.size 50 m.arr ∧ Whole wr (w.heap.size + 1) 50 q.arr ∧ Whole wr (w.heap.size + 1 + 1) 50 zero18 ∧ Has wr (w.heap.size + 1 + 1 + 1) ∧ Below w.heap.size w wr) (fun iv _ => 3 - (intOf iv).toNat)
  case atStart => exact ⟨0, by omega, rfl, HA0.out, HB0.out, HC0.out, HD0.out, hE0⟩
  case round =>
    obtain ⟨i, hi, rfl, hA, hB, hC, hD, hb⟩ := hrel
    clear HA0 HB0 HC0 HD0 hE0
    have HA := Lib.hid hA; have HB := Lib.hid hB; have HC := Lib.hid hC; have HD := Lib.hid hD
    by_cases hi3 : i < 3
    · have k0 : (0 : Int) ≤ (i : Int) := by omega
      have k1 : (i : Int) < 3 := by omega
      clear hA hB hC hD
      go_wp2_with fail
      obtain ⟨wo, hwo⟩ : ∃ wo : World, wo = wr := ⟨_, rfl⟩
      subst hwo
      go_loopw [7] (fun jv wr => ∃ j : Nat, j ≤ 3 ∧ jv = .int .i64 j ∧ Whole wr w.heap.size 50 m.arr ∧ Whole wr (w.heap.size + 1) 50 q.arr ∧ Whole wr (w.heap.size + 1 + 1) 50 zero18 ∧ Has wr (w.heap.size + 1 + 1 + 1) ∧ Below w.heap.size w wr) (fun jv _ => 3 - (intOf jv).toNat)
      case atStart => exact ⟨0, by omega, rfl, HA.out, HB.out, HC.out, HD.out, hb⟩
      case round =>
        obtain ⟨j, hj, rfl, hA, hB, hC, hD, hbj⟩ := hrel
        clear HA HB HC HD hb
        have HA := Lib.hid hA; have HB := Lib.hid hB; have HC := Lib.hid hC; have HD := Lib.hid hD
        by_cases hj3 : j < 3
        · clear hA hB hC hD
          have k2 : (0 : Int) ≤ (j : Int) := by omega
          have k3 : (j : Int) < 3 := by omega
          go_wp2_with fail
          refine wp_region_noPanic ?_
          refine wp_region_held_drew (S := (fun w' => Below wr.heap.size wr w')) (by kernel_rfl) ?_ (fun hHeld => ?_)
          · exact ext_drew (ext_refl _)
          refine wpAnyH_take (i := 0) (v := ?_) (by simp only [List.getElem?_toArray, List.getElem?_cons_succ, List.getElem?_cons_zero]; rfl) (by kernel_rfl) (by kernel_rfl) (by kernel_rfl) (fun _ _ _ h => h) (Or.inl ⟨by rfl, ?_⟩) (by assumption) ?_
          rotate_left
          · intro w hSw; (try dsimp only at hSw); go_simp; first | done | with_reducible rfl
          try simp only [Act.put, List.setIfInBounds_toArray, List.set_cons_zero, List.set_cons_succ]
          refine wpAnyH_take (i := 1) (v := ?_) (by simp only [List.getElem?_toArray, List.getElem?_cons_succ, List.getElem?_cons_zero]; rfl) (by kernel_rfl) (by kernel_rfl) (by kernel_rfl) (fun _ _ _ h => h) (Or.inl ⟨by rfl, ?_⟩) (by assumption) ?_
          rotate_left
          · intro w hSw; (try dsimp only at hSw); go_simp; first | done | with_reducible rfl
          try simp only [Act.put, List.setIfInBounds_toArray, List.set_cons_zero, List.set_cons_succ]
          refine wpAnyH_take (i := 2) (v := ?_) (by simp only [List.getElem?_toArray, List.getElem?_cons_succ, List.getElem?_cons_zero]; rfl) (by kernel_rfl) (by kernel_rfl) (by kernel_rfl) (fun _ _ _ h => h) (Or.inl ⟨by rfl, ?_⟩) (by assumption) ?_
          rotate_left
          · intro w hSw; (try dsimp only at hSw); go_simp; first | done | with_reducible rfl
          try simp only [Act.put, List.setIfInBounds_toArray, List.set_cons_zero, List.set_cons_succ]
          refine wpAnyH_take (i := 3) (by simp only [List.getElem?_toArray, List.getElem?_cons_succ, List.getElem?_cons_zero]; rfl) (by kernel_rfl) (by kernel_rfl) (by kernel_rfl) (fun _ _ _ h => h) (yieldsIf_load_mid (by rfl) _ _ rfl w.heap.size (i * 6) (by rfl) [.int .i64 ((m.row i).lo 0), .int .i64 ((m.row i).hi 0)] _ (fun w' h => range_ext (HA.out.mat i 0 hi3 (by omega)) h HA.out.lt) Try.underlying32 rfl (by kernel_rfl)) (by assumption) ?_
          try simp only [Act.put, List.setIfInBounds_toArray, List.set_cons_zero, List.set_cons_succ]
          refine wpAnyH_take (i := 4) (v := ?_) (by simp only [List.getElem?_toArray, List.getElem?_cons_succ, List.getElem?_cons_zero]; rfl) (by kernel_rfl) (by kernel_rfl) (by kernel_rfl) (fun _ _ _ h => h) (Or.inl ⟨by rfl, ?_⟩) (by assumption) ?_
          rotate_left
          · intro w hSw; (try dsimp only at hSw); go_simp; first | done | with_reducible rfl
          try simp only [Act.put, List.setIfInBounds_toArray, List.set_cons_zero, List.set_cons_succ]
          refine wpAnyH_take (i := 5) (v := ?_) (by simp only [List.getElem?_toArray, List.getElem?_cons_succ, List.getElem?_cons_zero]; rfl) (by kernel_rfl) (by kernel_rfl) (by kernel_rfl) (fun _ _ _ h => h) (Or.inl ⟨by rfl, ?_⟩) (by assumption) ?_
          rotate_left
          · intro w hSw; (try dsimp only at hSw); go_simp; first | done | with_reducible rfl
          try simp only [Act.put, List.setIfInBounds_toArray, List.set_cons_zero, List.set_cons_succ]
          refine wpAnyH_take (i := 6) (v := ?_) (by simp only [List.getElem?_toArray, List.getElem?_cons_succ, List.getElem?_cons_zero]; rfl) (by kernel_rfl) (by kernel_rfl) (by kernel_rfl) (fun _ _ _ h => h) (Or.inl ⟨by rfl, ?_⟩) (by assumption) ?_
          rotate_left
          · intro w hSw; (try dsimp only at hSw); go_simp; first | done | with_reducible rfl
          try simp only [Act.put, List.setIfInBounds_toArray, List.set_cons_zero, List.set_cons_succ]
          refine wpAnyH_take (i := 7) (by simp only [List.getElem?_toArray, List.getElem?_cons_succ, List.getElem?_cons_zero]; rfl) (by kernel_rfl) (by kernel_rfl) (by kernel_rfl) (fun _ _ _ h => h) (yieldsIf_load_mid (by rfl) _ _ rfl (w.heap.size + 1) (j * 2) (by rfl) [.int .i64 ((q.row 0).lo j), .int .i64 ((q.row 0).hi j)] _ (fun w' h => range_ext (Nat.zero_add (j * 2) ▸ Nat.zero_mul 6 ▸ HB.out.mat 0 j (by omega) hj3) h HB.out.lt) Try.underlying32 rfl (by kernel_rfl)) (by assumption) ?_
          try simp only [Act.put, List.setIfInBounds_toArray, List.set_cons_zero, List.set_cons_succ]
          refine wpAnyH_take (i := 9) (v := ?_) (by simp only [List.getElem?_toArray, List.getElem?_cons_succ, List.getElem?_cons_zero]; rfl) (by kernel_rfl) (by kernel_rfl) (by kernel_rfl) (fun _ _ _ h => h) (Or.inl ⟨by rfl, ?_⟩) (by assumption) ?_
          rotate_left
          · intro w hSw; (try dsimp only at hSw); go_simp; first | done | with_reducible rfl
          try simp only [Act.put, List.setIfInBounds_toArray, List.set_cons_zero, List.set_cons_succ]
          refine wpAnyH_take (i := 10) (v := ?_) (by simp only [List.getElem?_toArray, List.getElem?_cons_succ, List.getElem?_cons_zero]; rfl) (by kernel_rfl) (by kernel_rfl) (by kernel_rfl) (fun _ _ _ h => h) (Or.inl ⟨by rfl, ?_⟩) (by assumption) ?_
          rotate_left
          · intro w hSw; (try dsimp only at hSw); go_simp; first | done | with_reducible rfl
          try simp only [Act.put, List.setIfInBounds_toArray, List.set_cons_zero, List.set_cons_succ]
          refine wpAnyH_take (i := 11) (v := ?_) (by simp only [List.getElem?_toArray, List.getElem?_cons_succ, List.getElem?_cons_zero]; rfl) (by kernel_rfl) (by kernel_rfl) (by kernel_rfl) (fun _ _ _ h => h) (Or.inl ⟨by rfl, ?_⟩) (by assumption) ?_
          rotate_left
          · intro w hSw; (try dsimp only at hSw); go_simp; first | done | with_reducible rfl
          try simp only [Act.put, List.setIfInBounds_toArray, List.set_cons_zero, List.set_cons_succ]
          refine wpAnyH_take (i := 12) (by simp only [List.getElem?_toArray, List.getElem?_cons_succ, List.getElem?_cons_zero]; rfl) (by kernel_rfl) (by kernel_rfl) (by kernel_rfl) (fun _ _ _ h => h) (yieldsIf_load_mid (by rfl) _ _ rfl w.heap.size (i * 6 + 2) (by rfl) [.int .i64 ((m.row i).lo 1), .int .i64 ((m.row i).hi 1)] _ (fun w' h => range_ext (HA.out.mat i 1 hi3 (by omega)) h HA.out.lt) Try.underlying32 rfl (by kernel_rfl)) (by assumption) ?_
          try simp only [Act.put, List.setIfInBounds_toArray, List.set_cons_zero, List.set_cons_succ]
          refine wpAnyH_take (i := 13) (v := ?_) (by simp only [List.getElem?_toArray, List.getElem?_cons_succ, List.getElem?_cons_zero]; rfl) (by kernel_rfl) (by kernel_rfl) (by kernel_rfl) (fun _ _ _ h => h) (Or.inl ⟨by rfl, ?_⟩) (by assumption) ?_
          rotate_left
          · intro w hSw; (try dsimp only at hSw); go_simp; first | done | with_reducible rfl
          try simp only [Act.put, List.setIfInBounds_toArray, List.set_cons_zero, List.set_cons_succ]
          refine wpAnyH_take (i := 14) (v := ?_) (by simp only [List.getElem?_toArray, List.getElem?_cons_succ, List.getElem?_cons_zero]; rfl) (by kernel_rfl) (by kernel_rfl) (by kernel_rfl) (fun _ _ _ h => h) (Or.inl ⟨by rfl, ?_⟩) (by assumption) ?_
          rotate_left
          · intro w hSw; (try dsimp only at hSw); go_simp; first | done | with_reducible rfl
          try simp only [Act.put, List.setIfInBounds_toArray, List.set_cons_zero, List.set_cons_succ]
          refine wpAnyH_take (i := 15) (v := ?_) (by simp only [List.getElem?_toArray, List.getElem?_cons_succ, List.getElem?_cons_zero]; rfl) (by kernel_rfl) (by kernel_rfl) (by kernel_rfl) (fun _ _ _ h => h) (Or.inl ⟨by rfl, ?_⟩) (by assumption) ?_
          rotate_left
          · intro w hSw; (try dsimp only at hSw); go_simp; first | done | with_reducible rfl
          try simp only [Act.put, List.setIfInBounds_toArray, List.set_cons_zero, List.set_cons_succ]
          refine wpAnyH_take (i := 16) (by simp only [List.getElem?_toArray, List.getElem?_cons_succ, List.getElem?_cons_zero]; rfl) (by kernel_rfl) (by kernel_rfl) (by kernel_rfl) (fun _ _ _ h => h) (yieldsIf_load_mid (by rfl) _ _ rfl (w.heap.size + 1) (6 + j * 2) (by rfl) [.int .i64 ((q.row 1).lo j), .int .i64 ((q.row 1).hi j)] _ (fun w' h => range_ext (HB.out.mat 1 j (by omega) hj3) h HB.out.lt) Try.underlying32 rfl (by kernel_rfl)) (by assumption) ?_
          try simp only [Act.put, List.setIfInBounds_toArray, List.set_cons_zero, List.set_cons_succ]
          refine wpAnyH_take (i := 19) (v := ?_) (by simp only [List.getElem?_toArray, List.getElem?_cons_succ, List.getElem?_cons_zero]; rfl) (by kernel_rfl) (by kernel_rfl) (by kernel_rfl) (fun _ _ _ h => h) (Or.inl ⟨by rfl, ?_⟩) (by assumption) ?_
          rotate_left
          · intro w hSw; (try dsimp only at hSw); go_simp; first | done | with_reducible rfl
          try simp only [Act.put, List.setIfInBounds_toArray, List.set_cons_zero, List.set_cons_succ]
          refine wpAnyH_take (i := 20) (v := ?_) (by simp only [List.getElem?_toArray, List.getElem?_cons_succ, List.getElem?_cons_zero]; rfl) (by kernel_rfl) (by kernel_rfl) (by kernel_rfl) (fun _ _ _ h => h) (Or.inl ⟨by rfl, ?_⟩) (by assumption) ?_
          rotate_left
          · intro w hSw; (try dsimp only at hSw); go_simp; first | done | with_reducible rfl
          try simp only [Act.put, List.setIfInBounds_toArray, List.set_cons_zero, List.set_cons_succ]
          refine wpAnyH_take (i := 21) (v := ?_) (by simp only [List.getElem?_toArray, List.getElem?_cons_succ, List.getElem?_cons_zero]; rfl) (by kernel_rfl) (by kernel_rfl) (by kernel_rfl) (fun _ _ _ h => h) (Or.inl ⟨by rfl, ?_⟩) (by assumption) ?_
          rotate_left
          · intro w hSw; (try dsimp only at hSw); go_simp; first | done | with_reducible rfl
          try simp only [Act.put, List.setIfInBounds_toArray, List.set_cons_zero, List.set_cons_succ]
          refine wpAnyH_take (i := 22) (by simp only [List.getElem?_toArray, List.getElem?_cons_succ, List.getElem?_cons_zero]; rfl) (by kernel_rfl) (by kernel_rfl) (by kernel_rfl) (fun _ _ _ h => h) (yieldsIf_load_mid (by rfl) _ _ rfl w.heap.size (i * 6 + 4) (by rfl) [.int .i64 ((m.row i).lo 2), .int .i64 ((m.row i).hi 2)] _ (fun w' h => range_ext (HA.out.mat i 2 hi3 (by omega)) h HA.out.lt) Try.underlying32 rfl (by kernel_rfl)) (by assumption) ?_
          try simp only [Act.put, List.setIfInBounds_toArray, List.set_cons_zero, List.set_cons_succ]
          refine wpAnyH_take (i := 23) (v := ?_) (by simp only [List.getElem?_toArray, List.getElem?_cons_succ, List.getElem?_cons_zero]; rfl) (by kernel_rfl) (by kernel_rfl) (by kernel_rfl) (fun _ _ _ h => h) (Or.inl ⟨by rfl, ?_⟩) (by assumption) ?_
          rotate_left
          · intro w hSw; (try dsimp only at hSw); go_simp; first | done | with_reducible rfl
          try simp only [Act.put, List.setIfInBounds_toArray, List.set_cons_zero, List.set_cons_succ]
          refine wpAnyH_take (i := 24) (v := ?_) (by simp only [List.getElem?_toArray, List.getElem?_cons_succ, List.getElem?_cons_zero]; rfl) (by kernel_rfl) (by kernel_rfl) (by kernel_rfl) (fun _ _ _ h => h) (Or.inl ⟨by rfl, ?_⟩) (by assumption) ?_
          rotate_left
          · intro w hSw; (try dsimp only at hSw); go_simp; first | done | with_reducible rfl
          try simp only [Act.put, List.setIfInBounds_toArray, List.set_cons_zero, List.set_cons_succ]
          refine wpAnyH_take (i := 25) (v := ?_) (by simp only [List.getElem?_toArray, List.getElem?_cons_succ, List.getElem?_cons_zero]; rfl) (by kernel_rfl) (by kernel_rfl) (by kernel_rfl) (fun _ _ _ h => h) (Or.inl ⟨by rfl, ?_⟩) (by assumption) ?_
          rotate_left
          · intro w hSw; (try dsimp only at hSw); go_simp; first | done | with_reducible rfl
          try simp only [Act.put, List.setIfInBounds_toArray, List.set_cons_zero, List.set_cons_succ]
          refine wpAnyH_take (i := 26) (by simp only [List.getElem?_toArray, List.getElem?_cons_succ, List.getElem?_cons_zero]; rfl) (by kernel_rfl) (by kernel_rfl) (by kernel_rfl) (fun _ _ _ h => h) (yieldsIf_load_mid (by rfl) _ _ rfl (w.heap.size + 1) (12 + j * 2) (by rfl) [.int .i64 ((q.row 2).lo j), .int .i64 ((q.row 2).hi j)] _ (fun w' h => range_ext (HB.out.mat 2 j (by omega) hj3) h HB.out.lt) Try.underlying32 rfl (by kernel_rfl)) (by assumption) ?_
          try simp only [Act.put, List.setIfInBounds_toArray, List.set_cons_zero, List.set_cons_succ]
          refine wpAnyH_inv (CompI wr m q w.heap.size i j u11 u12 u15 u16 u46 u47 u48 u49 u50 u51 u52 u53 u54 u55 u56 u57 u58 undef) ?step _ _ _ _ ⟨0, false, u8, u25, u34, u35, u44, u45, by omega, rfl, rfl, rfl, ext_drew (ext_refl _), fun e => absurd e (by omega), fun e => absurd e (by omega), fun e => absurd e (by omega), fun e => absurd e (by omega), fun e => absurd e (by omega), (fun e => by cases e)⟩
          case step =>
            clear hHeld
            rintro n l act wc ⟨c, d, s8, v25, v34, v35, v44, v45, hc, rfl, rfl, rfl, hS⟩
            have hc6 : c = 0 ∨ c = 1 ∨ c = 2 ∨ c = 3 ∨ c = 4 ∨ c = 5 := by omega
            clear hc
            rcases hc6 with rfl | rfl | rfl | rfl | rfl | rfl
            · cases d
              · refine Or.inr ⟨_, rfl, ?_, ?_⟩
                · rw [show Region.ready _ _ _ = [8, 29] from (by kernel_rfl)]; simp
                · rw [show Region.ready _ _ _ = [8, 29] from (by kernel_rfl)]
                  intro i' hi'
                  simp only [List.mem_cons, List.not_mem_nil, or_false] at hi'
                  rcases hi' with rfl | rfl
                  · refine wpOp_of (by simp only [List.getElem?_toArray, List.getElem?_cons_succ, List.getElem?_cons_zero]; rfl) (fun K hK => ?_)
                    go_simp
                    refine (rmul_any _ _ _ _ _).mono ?_
                    rintro e w2 ⟨rfl, hb2⟩
                    have hN := (hS.ext hb2).c1 (IvV.mul ((m.row i).lo 0) ((m.row i).hi 0) ((q.row 0).lo j) ((q.row 0).hi j))
                    clear hS
                    go_wp2_with fail
                    exact hK.out _ _ ⟨hN.1, 1, false, s8, _, v34, v35, v44, v45, by omega, rfl, rfl, rfl, hN⟩
                  · have hN := hS.a
                    exact wpOp_alloc (by simp only [List.getElem?_toArray, List.getElem?_cons_succ, List.getElem?_cons_zero]; rfl) rfl 32 rfl zero2 (fun w => by kernel_rfl) ⟨hN.1, 0, true, (.pointer (some ⟨wc.heap.size, 0, none⟩)), v25, v34, v35, v44, v45, by omega, rfl, rfl, rfl, hN⟩
              · refine Or.inr ⟨_, rfl, ?_, ?_⟩
                · rw [show Region.ready _ _ _ = [8] from (by kernel_rfl)]; simp
                · rw [show Region.ready _ _ _ = [8] from (by kernel_rfl)]
                  intro i' hi'
                  simp only [List.mem_cons, List.not_mem_nil, or_false] at hi'
                  subst hi'
                  refine wpOp_of (by simp only [List.getElem?_toArray, List.getElem?_cons_succ, List.getElem?_cons_zero]; rfl) (fun K hK => ?_)
                  go_simp
                  refine (rmul_any _ _ _ _ _).mono ?_
                  rintro e w2 ⟨rfl, hb2⟩
                  have hN := (hS.ext hb2).c1 (IvV.mul ((m.row i).lo 0) ((m.row i).hi 0) ((q.row 0).lo j) ((q.row 0).hi j))
                  clear hS
                  go_wp2_with fail
                  exact hK.out _ _ ⟨hN.1, 1, true, s8, _, v34, v35, v44, v45, by omega, rfl, rfl, rfl, hN⟩
            · cases d
              · refine Or.inr ⟨_, rfl, ?_, ?_⟩
                · rw [show Region.ready _ _ _ = [17, 29] from (by kernel_rfl)]; simp
                · rw [show Region.ready _ _ _ = [17, 29] from (by kernel_rfl)]
                  intro i' hi'
                  simp only [List.mem_cons, List.not_mem_nil, or_false] at hi'
                  rcases hi' with rfl | rfl
                  · refine wpOp_of (by simp only [List.getElem?_toArray, List.getElem?_cons_succ, List.getElem?_cons_zero]; rfl) (fun K hK => ?_)
                    go_simp
                    refine (rmul_any _ _ _ _ _).mono ?_
                    rintro e w2 ⟨rfl, hb2⟩
                    have hN := (hS.ext hb2).c2 (IvV.mul ((m.row i).lo 1) ((m.row i).hi 1) ((q.row 1).lo j) ((q.row 1).hi j))
                    clear hS
                    go_wp2_with fail
                    exact hK.out _ _ ⟨hN.1, 2, false, s8, v25, _, v35, v44, v45, by omega, rfl, rfl, rfl, hN⟩
                  · have hN := hS.a
                    exact wpOp_alloc (by simp only [List.getElem?_toArray, List.getElem?_cons_succ, List.getElem?_cons_zero]; rfl) rfl 32 rfl zero2 (fun w => by kernel_rfl) ⟨hN.1, 1, true, (.pointer (some ⟨wc.heap.size, 0, none⟩)), v25, v34, v35, v44, v45, by omega, rfl, rfl, rfl, hN⟩
              · refine Or.inr ⟨_, rfl, ?_, ?_⟩
                · rw [show Region.ready _ _ _ = [17] from (by kernel_rfl)]; simp
                · rw [show Region.ready _ _ _ = [17] from (by kernel_rfl)]
                  intro i' hi'
                  simp only [List.mem_cons, List.not_mem_nil, or_false] at hi'
                  subst hi'
                  refine wpOp_of (by simp only [List.getElem?_toArray, List.getElem?_cons_succ, List.getElem?_cons_zero]; rfl) (fun K hK => ?_)
                  go_simp
                  refine (rmul_any _ _ _ _ _).mono ?_
                  rintro e w2 ⟨rfl, hb2⟩
                  have hN := (hS.ext hb2).c2 (IvV.mul ((m.row i).lo 1) ((m.row i).hi 1) ((q.row 1).lo j) ((q.row 1).hi j))
                  clear hS
                  go_wp2_with fail
                  exact hK.out _ _ ⟨hN.1, 2, true, s8, v25, _, v35, v44, v45, by omega, rfl, rfl, rfl, hN⟩
            · cases d
              · refine Or.inr ⟨_, rfl, ?_, ?_⟩
                · rw [show Region.ready _ _ _ = [18, 29] from (by kernel_rfl)]; simp
                · rw [show Region.ready _ _ _ = [18, 29] from (by kernel_rfl)]
                  intro i' hi'
                  simp only [List.mem_cons, List.not_mem_nil, or_false] at hi'
                  rcases hi' with rfl | rfl
                  · obtain ⟨l1, h1, y1, rfl⟩ := hS.2.1 (by omega)
                    obtain ⟨l2, h2, y2, rfl⟩ := hS.2.2.1 (by omega)
                    refine wpOp_of (by simp only [List.getElem?_toArray, List.getElem?_cons_succ, List.getElem?_cons_zero]; rfl) (fun K hK => ?_)
                    go_simp
                    refine (radd_any _ _ _ _ _).mono ?_
                    rintro e w2 ⟨rfl, hb2⟩
                    have hN := (hS.ext hb2).c3 (IvV.add y1 y2)
                    clear hS
                    go_wp2_with fail
                    exact hK.out _ _ ⟨hN.1, 3, false, s8, _, _, _, v44, v45, by omega, rfl, rfl, rfl, hN⟩
                  · have hN := hS.a
                    exact wpOp_alloc (by simp only [List.getElem?_toArray, List.getElem?_cons_succ, List.getElem?_cons_zero]; rfl) rfl 32 rfl zero2 (fun w => by kernel_rfl) ⟨hN.1, 2, true, (.pointer (some ⟨wc.heap.size, 0, none⟩)), v25, v34, v35, v44, v45, by omega, rfl, rfl, rfl, hN⟩
              · refine Or.inr ⟨_, rfl, ?_, ?_⟩
                · rw [show Region.ready _ _ _ = [18] from (by kernel_rfl)]; simp
                · rw [show Region.ready _ _ _ = [18] from (by kernel_rfl)]
                  intro i' hi'
                  simp only [List.mem_cons, List.not_mem_nil, or_false] at hi'
                  subst hi'
                  obtain ⟨l1, h1, y1, rfl⟩ := hS.2.1 (by omega)
                  obtain ⟨l2, h2, y2, rfl⟩ := hS.2.2.1 (by omega)
                  refine wpOp_of (by simp only [List.getElem?_toArray, List.getElem?_cons_succ, List.getElem?_cons_zero]; rfl) (fun K hK => ?_)
                  go_simp
                  refine (radd_any _ _ _ _ _).mono ?_
                  rintro e w2 ⟨rfl, hb2⟩
                  have hN := (hS.ext hb2).c3 (IvV.add y1 y2)
                  clear hS
                  go_wp2_with fail
                  exact hK.out _ _ ⟨hN.1, 3, true, s8, _, _, _, v44, v45, by omega, rfl, rfl, rfl, hN⟩
            · cases d
              · refine Or.inr ⟨_, rfl, ?_, ?_⟩
                · rw [show Region.ready _ _ _ = [27, 29] from (by kernel_rfl)]; simp
                · rw [show Region.ready _ _ _ = [27, 29] from (by kernel_rfl)]
                  intro i' hi'
                  simp only [List.mem_cons, List.not_mem_nil, or_false] at hi'
                  rcases hi' with rfl | rfl
                  · refine wpOp_of (by simp only [List.getElem?_toArray, List.getElem?_cons_succ, List.getElem?_cons_zero]; rfl) (fun K hK => ?_)
                    go_simp
                    refine (rmul_any _ _ _ _ _).mono ?_
                    rintro e w2 ⟨rfl, hb2⟩
                    have hN := (hS.ext hb2).c4 (IvV.mul ((m.row i).lo 2) ((m.row i).hi 2) ((q.row 2).lo j) ((q.row 2).hi j))
                    clear hS
                    go_wp2_with fail
                    exact hK.out _ _ ⟨hN.1, 4, false, s8, v25, v34, v35, _, v45, by omega, rfl, rfl, rfl, hN⟩
                  · have hN := hS.a
                    exact wpOp_alloc (by simp only [List.getElem?_toArray, List.getElem?_cons_succ, List.getElem?_cons_zero]; rfl) rfl 32 rfl zero2 (fun w => by kernel_rfl) ⟨hN.1, 3, true, (.pointer (some ⟨wc.heap.size, 0, none⟩)), v25, v34, v35, v44, v45, by omega, rfl, rfl, rfl, hN⟩
              · refine Or.inr ⟨_, rfl, ?_, ?_⟩
                · rw [show Region.ready _ _ _ = [27] from (by kernel_rfl)]; simp
                · rw [show Region.ready _ _ _ = [27] from (by kernel_rfl)]
                  intro i' hi'
                  simp only [List.mem_cons, List.not_mem_nil, or_false] at hi'
                  subst hi'
                  refine wpOp_of (by simp only [List.getElem?_toArray, List.getElem?_cons_succ, List.getElem?_cons_zero]; rfl) (fun K hK => ?_)
                  go_simp
                  refine (rmul_any _ _ _ _ _).mono ?_
                  rintro e w2 ⟨rfl, hb2⟩
                  have hN := (hS.ext hb2).c4 (IvV.mul ((m.row i).lo 2) ((m.row i).hi 2) ((q.row 2).lo j) ((q.row 2).hi j))
                  clear hS
                  go_wp2_with fail
                  exact hK.out _ _ ⟨hN.1, 4, true, s8, v25, v34, v35, _, v45, by omega, rfl, rfl, rfl, hN⟩
            · cases d
              · refine Or.inr ⟨_, rfl, ?_, ?_⟩
                · rw [show Region.ready _ _ _ = [28, 29] from (by kernel_rfl)]; simp
                · rw [show Region.ready _ _ _ = [28, 29] from (by kernel_rfl)]
                  intro i' hi'
                  simp only [List.mem_cons, List.not_mem_nil, or_false] at hi'
                  rcases hi' with rfl | rfl
                  · obtain ⟨l1, h1, y1, rfl⟩ := hS.2.2.2.1 (by omega)
                    obtain ⟨l2, h2, y2, rfl⟩ := hS.2.2.2.2.1 (by omega)
                    refine wpOp_of (by simp only [List.getElem?_toArray, List.getElem?_cons_succ, List.getElem?_cons_zero]; rfl) (fun K hK => ?_)
                    go_simp
                    refine (radd_any _ _ _ _ _).mono ?_
                    rintro e w2 ⟨rfl, hb2⟩
                    have hN := (hS.ext hb2).c5 (IvV.add y1 y2)
                    clear hS
                    go_wp2_with fail
                    exact hK.out _ _ ⟨hN.1, 5, false, s8, v25, v34, _, _, _, by omega, rfl, rfl, rfl, hN⟩
                  · have hN := hS.a
                    exact wpOp_alloc (by simp only [List.getElem?_toArray, List.getElem?_cons_succ, List.getElem?_cons_zero]; rfl) rfl 32 rfl zero2 (fun w => by kernel_rfl) ⟨hN.1, 4, true, (.pointer (some ⟨wc.heap.size, 0, none⟩)), v25, v34, v35, v44, v45, by omega, rfl, rfl, rfl, hN⟩
              · refine Or.inr ⟨_, rfl, ?_, ?_⟩
                · rw [show Region.ready _ _ _ = [28] from (by kernel_rfl)]; simp
                · rw [show Region.ready _ _ _ = [28] from (by kernel_rfl)]
                  intro i' hi'
                  simp only [List.mem_cons, List.not_mem_nil, or_false] at hi'
                  subst hi'
                  obtain ⟨l1, h1, y1, rfl⟩ := hS.2.2.2.1 (by omega)
                  obtain ⟨l2, h2, y2, rfl⟩ := hS.2.2.2.2.1 (by omega)
                  refine wpOp_of (by simp only [List.getElem?_toArray, List.getElem?_cons_succ, List.getElem?_cons_zero]; rfl) (fun K hK => ?_)
                  go_simp
                  refine (radd_any _ _ _ _ _).mono ?_
                  rintro e w2 ⟨rfl, hb2⟩
                  have hN := (hS.ext hb2).c5 (IvV.add y1 y2)
                  clear hS
                  go_wp2_with fail
                  exact hK.out _ _ ⟨hN.1, 5, true, s8, v25, v34, _, _, _, by omega, rfl, rfl, rfl, hN⟩
            · cases d
              · refine Or.inr ⟨_, rfl, ?_, ?_⟩
                · rw [show Region.ready _ _ _ = [29] from (by kernel_rfl)]; simp
                · rw [show Region.ready _ _ _ = [29] from (by kernel_rfl)]
                  intro i' hi'
                  simp only [List.mem_cons, List.not_mem_nil, or_false] at hi'
                  subst hi'
                  have hN := hS.a
                  exact wpOp_alloc (by simp only [List.getElem?_toArray, List.getElem?_cons_succ, List.getElem?_cons_zero]; rfl) rfl 32 rfl zero2 (fun w => by kernel_rfl) ⟨hN.1, 5, true, (.pointer (some ⟨wc.heap.size, 0, none⟩)), v25, v34, v35, v44, v45, by omega, rfl, rfl, rfl, hN⟩
              · refine Or.inl ?_
                have HS := Lib.hid hS
                clear hS
                obtain ⟨hb, _, _, _, _, e45, n8⟩ := HS.out
                clear HS
                obtain ⟨x0, x1, hx, rfl⟩ := e45 (by omega)
                obtain ⟨g8, rfl, hg8, hW8⟩ := n8 rfl
                have HW8 := Lib.hid hW8
                clear e45 n8 hW8
                have hHeld := hb
                show wpAnyH _ _ _ _ _ (0 + 1) #[true, true, true, true, true, true, true, true, true, true, true, true, true, true, true, true, true, true, true, true, true, true, true, true, true, true, true, true, true, true, false] _ _
                refine wpAnyH_ready (rs := [30]) (by kernel_rfl) (by simp) ?_
                refine AllReadyH.cons (by simp only [List.getElem?_toArray, List.getElem?_cons_succ, List.getElem?_cons_zero]; rfl) (fun K hK => ?_) AllReadyH.nil
                rw [if_pos (by rfl)]
                refine wp_store_mid _ _ _ rfl g8 0 #[.int .i64 x0, .int .i64 x1] rfl rfl (there_all HW8.out 2 (by simp)) (by kernel_rfl) (two_one _ _) ?_
                have HV8 := Lib.hid (HW8.out.store2 0 (.int .i64 x0) (.int .i64 x1) rfl)
                have hb2 := ext_setN [.int .i64 x0, .int .i64 x1] hb hg8 0
                clear HW8 hHeld
                generalize wc.setCells g8 0 [.int .i64 x0, .int .i64 x1] = w2 at *
                refine hK.out _ _ hb2 (fun hHeld => ?_)
                clear hK K hb hHeld
                try simp only [Act.put, List.setIfInBounds_toArray, List.set_cons_zero, List.set_cons_succ]
                refine wpAnyH_done (by kernel_rfl) ?_ _
                refine NoPanic.normal ?_
                have p0 : w2.cell? ⟨g8, 0, none⟩ = some (.int .i64 x0) := HV8.out.cell 0
                have p1 : w2.cell? ⟨g8, 1, none⟩ = some (.int .i64 x1) := HV8.out.cell 1
                have l8 := HV8.out.lt
                have HA2 := Lib.hid (HA.out.ext hb2); have HB2 := Lib.hid (HB.out.ext hb2); have HC2 := Lib.hid (HC.out.ext hb2)
                have hbj2 := ext_trans hbj hb2
                obtain ⟨r, hr, hDr⟩ := HD.out
                have HD2 := Lib.hid (hDr.ext hb2); have HR := Lib.hid hr
                have hxl := vb_le hx
                clear HV8 HA HB HC HD hb2 hbj hr hDr hx
                go_wp2_with fail
                refine wp_region_noPanic ?_
                refine wp_region_until_drew (k := 13) (S := fun w' => Below w2.heap.size w2 w') (by kernel_rfl) (ext_drew (ext_refl _)) (fun hHeld => ?_)
                refine wpAnyU_take (i := 0) (v := ?_) (by simp only [List.getElem?_toArray, List.getElem?_cons_succ, List.getElem?_cons_zero]; rfl) (by kernel_rfl) (by kernel_rfl) (by kernel_rfl) (by kernel_rfl) (by kernel_rfl) (fun _ _ _ h => h) (Or.inl ⟨by rfl, ?_⟩) (by assumption) ?_
                rotate_left
                · intro w hSw; (try dsimp only at hSw); go_simp; first | done | with_reducible rfl
                try simp only [Act.put, List.setIfInBounds_toArray, List.set_cons_zero, List.set_cons_succ]
                refine wpAnyU_take (i := 1) (v := ?_) (by simp only [List.getElem?_toArray, List.getElem?_cons_succ, List.getElem?_cons_zero]; rfl) (by kernel_rfl) (by kernel_rfl) (by kernel_rfl) (by kernel_rfl) (by kernel_rfl) (fun _ _ _ h => h) (Or.inl ⟨by rfl, ?_⟩) (by assumption) ?_
                rotate_left
                · intro w hSw; (try dsimp only at hSw); go_simp; first | done | with_reducible rfl
                try simp only [Act.put, List.setIfInBounds_toArray, List.set_cons_zero, List.set_cons_succ]
                refine wpAnyU_take (i := 2) (v := ?_) (by simp only [List.getElem?_toArray, List.getElem?_cons_succ, List.getElem?_cons_zero]; rfl) (by kernel_rfl) (by kernel_rfl) (by kernel_rfl) (by kernel_rfl) (by kernel_rfl) (fun _ _ _ h => h) (Or.inl ⟨by rfl, ?_⟩) (by assumption) ?_
                rotate_left
                · intro w hSw; (try dsimp only at hSw); go_simp; first | done | with_reducible rfl
                try simp only [Act.put, List.setIfInBounds_toArray, List.set_cons_zero, List.set_cons_succ]
                refine wpAnyU_take (i := 3) (v := ?_) (by simp only [List.getElem?_toArray, List.getElem?_cons_succ, List.getElem?_cons_zero]; rfl) (by kernel_rfl) (by kernel_rfl) (by kernel_rfl) (by kernel_rfl) (by kernel_rfl) (fun _ _ _ h => h) (Or.inl ⟨by rfl, ?_⟩) (by assumption) ?_
                rotate_left
                · intro w hSw; (try dsimp only at hSw); have hcS := (bcell hSw).1; clear hSw; go_simp; first | done | with_reducible rfl
                try simp only [Act.put, List.setIfInBounds_toArray, List.set_cons_zero, List.set_cons_succ]
                refine wpAnyU_take (i := 4) (v := ?_) (by simp only [List.getElem?_toArray, List.getElem?_cons_succ, List.getElem?_cons_zero]; rfl) (by kernel_rfl) (by kernel_rfl) (by kernel_rfl) (by kernel_rfl) (by kernel_rfl) (fun _ _ _ h => h) (Or.inl ⟨by rfl, ?_⟩) (by assumption) ?_
                rotate_left
                · intro w hSw; (try dsimp only at hSw); go_simp; first | done | with_reducible rfl
                try simp only [Act.put, List.setIfInBounds_toArray, List.set_cons_zero, List.set_cons_succ]
                refine wpAnyU_take (i := 5) (v := ?_) (by simp only [List.getElem?_toArray, List.getElem?_cons_succ, List.getElem?_cons_zero]; rfl) (by kernel_rfl) (by kernel_rfl) (by kernel_rfl) (by kernel_rfl) (by kernel_rfl) (fun _ _ _ h => h) (Or.inl ⟨by rfl, ?_⟩) (by assumption) ?_
                rotate_left
                · intro w hSw; (try dsimp only at hSw); go_simp; first | done | with_reducible rfl
                try simp only [Act.put, List.setIfInBounds_toArray, List.set_cons_zero, List.set_cons_succ]
                refine wpAnyU_take (i := 6) (v := ?_) (by simp only [List.getElem?_toArray, List.getElem?_cons_succ, List.getElem?_cons_zero]; rfl) (by kernel_rfl) (by kernel_rfl) (by kernel_rfl) (by kernel_rfl) (by kernel_rfl) (fun _ _ _ h => h) (Or.inl ⟨by rfl, ?_⟩) (by assumption) ?_
                rotate_left
                · intro w hSw; (try dsimp only at hSw); go_simp; first | done | with_reducible rfl
                try simp only [Act.put, List.setIfInBounds_toArray, List.set_cons_zero, List.set_cons_succ]
                refine wpAnyU_take (i := 7) (v := ?_) (by simp only [List.getElem?_toArray, List.getElem?_cons_succ, List.getElem?_cons_zero]; rfl) (by kernel_rfl) (by kernel_rfl) (by kernel_rfl) (by kernel_rfl) (by kernel_rfl) (fun _ _ _ h => h) (Or.inl ⟨by rfl, ?_⟩) (by assumption) ?_
                rotate_left
                · intro w hSw; (try dsimp only at hSw); have hcS := (bcell hSw).1; clear hSw; go_simp; first | done | with_reducible rfl
                try simp only [Act.put, List.setIfInBounds_toArray, List.set_cons_zero, List.set_cons_succ]
                refine wpAnyU_take (i := 8) (v := ?_) (by simp only [List.getElem?_toArray, List.getElem?_cons_succ, List.getElem?_cons_zero]; rfl) (by kernel_rfl) (by kernel_rfl) (by kernel_rfl) (by kernel_rfl) (by kernel_rfl) (fun _ _ _ h => h) (Or.inl ⟨by rfl, ?_⟩) (by assumption) ?_
                rotate_left
                · intro w hSw; (try dsimp only at hSw); go_simp; first | done | with_reducible rfl
                try simp only [Act.put, List.setIfInBounds_toArray, List.set_cons_zero, List.set_cons_succ]
                refine wpAnyU_take (i := 9) (v := ?_) (by simp only [List.getElem?_toArray, List.getElem?_cons_succ, List.getElem?_cons_zero]; rfl) (by kernel_rfl) (by kernel_rfl) (by kernel_rfl) (by kernel_rfl) (by kernel_rfl) (fun _ _ _ h => h) (Or.inl ⟨by rfl, ?_⟩) (by assumption) ?_
                rotate_left
                · intro w hSw; (try dsimp only at hSw); go_simp; first | done | with_reducible rfl
                try simp only [Act.put, List.setIfInBounds_toArray, List.set_cons_zero, List.set_cons_succ]
                refine wpAnyU_take (i := 10) (v := ?_) (by simp only [List.getElem?_toArray, List.getElem?_cons_succ, List.getElem?_cons_zero]; rfl) (by kernel_rfl) (by kernel_rfl) (by kernel_rfl) (by kernel_rfl) (by kernel_rfl) (fun _ _ _ h => h) (Or.inl ⟨by rfl, ?_⟩) (by assumption) ?_
                rotate_left
                · intro w hSw; (try dsimp only at hSw); go_simp; first | done | with_reducible rfl
                try simp only [Act.put, List.setIfInBounds_toArray, List.set_cons_zero, List.set_cons_succ]
                refine wpAnyU_ready (rs := [11]) (by kernel_rfl) (by simp) ?_
                refine AllReadyU.cons (by simp only [List.getElem?_toArray, List.getElem?_cons_succ, List.getElem?_cons_zero]; rfl) (fun K hK => ?_) AllReadyU.nil
                rw [if_pos (by rfl)]
                go_wp2_with fail
                refine hK.out _ _ hHeld (fun hHeld => ?_)
                clear hK K
                try simp only [Act.put, List.setIfInBounds_toArray, List.set_cons_zero, List.set_cons_succ]
                refine wpAnyU_ready (rs := [12]) (by kernel_rfl) (by simp) ?_
                refine AllReadyU.cons (by simp only [List.getElem?_toArray, List.getElem?_cons_succ, List.getElem?_cons_zero]; rfl) (fun K hK => ?_) AllReadyU.nil
                rw [if_pos (by rfl)]
                go_wp2_with fail
                refine hK.out _ _ hHeld (fun hHeld => ?_)
                clear hK K
                try simp only [Act.put, List.setIfInBounds_toArray, List.set_cons_zero, List.set_cons_succ]
                have hD7 := HD2.out.ext hHeld
                have HA7 := Lib.hid (HA2.out.ext hHeld); have HB7 := Lib.hid (HB2.out.ext hHeld); have HC7 := Lib.hid (HC2.out.ext hHeld)
                have hB7 := ext_trans hbj2 hHeld
                clear HA2 HB2 HC2 HD2 hbj2 hHeld
                refine wpAnyU_ready (rs := [13]) (by kernel_rfl) (by simp) ?_
                refine AllReadyU.last (by simp only [List.getElem?_toArray, List.getElem?_cons_succ, List.getElem?_cons_zero]; rfl) (fun K hK => ?_) AllReadyU.nil
                rw [if_pos (by rfl)]
                obtain ⟨y0, hy0⟩ : ∃ y : Int, y = max (-65536) (min x0 65536) := ⟨_, rfl⟩
                obtain ⟨y1, hy1⟩ : ∃ y : Int, y = max (-65536) (min x1 65536) := ⟨_, rfl⟩
                have HU := Lib.hid (Fx.M3.setE_unit r y0 y1 HR.out (by omega) (by omega) (by omega) i j hi3 hj3)
                refine wp_store_mid _ _ _ rfl (w.heap.size + 1 + 1 + 1) (i * 6 + j * 2) #[.int .i64 y0, .int .i64 y1] rfl (by rw [hy0, hy1]; rfl) (there_of hD7 _ _ (by rw [Fx.M3.size]; simp; omega)) (by kernel_rfl) (two_one _ _) ?_
                have HDn : Hid (Has (w2.drew.setCells (w.heap.size + 1 + 1 + 1) (i * 6 + j * 2) [.int .i64 y0, .int .i64 y1]) (w.heap.size + 1 + 1 + 1)) := Lib.hid ⟨_, HU.out, hD7.store2 (i * 6 + j * 2) (.int .i64 y0) (.int .i64 y1) (Fx.M3.setE_arr r y0 y1 i j hi3 hj3)⟩
                have HAn := Lib.hid (HA7.out.farN [.int .i64 y0, .int .i64 y1] (show w.heap.size ≠ w.heap.size + 1 + 1 + 1 by omega) (i * 6 + j * 2))
                have HBn := Lib.hid (HB7.out.farN [.int .i64 y0, .int .i64 y1] (show w.heap.size + 1 ≠ w.heap.size + 1 + 1 + 1 by omega) (i * 6 + j * 2))
                have HCn := Lib.hid (HC7.out.farN [.int .i64 y0, .int .i64 y1] (show w.heap.size + 1 + 1 ≠ w.heap.size + 1 + 1 + 1 by omega) (i * 6 + j * 2))
                have hBn := ext_setN [.int .i64 y0, .int .i64 y1] hB7 (show w.heap.size ≤ w.heap.size + 1 + 1 + 1 by omega) (i * 6 + j * 2)
                refine hK.out _ _ ?_
                clear hK K hD7 HA7 HB7 HC7 hB7 HU HR hy0 hy1 hxl
                try simp only [Act.put, List.setIfInBounds_toArray, List.set_cons_zero, List.set_cons_succ]
                refine wpAnyU_done (by kernel_rfl) ?_ _
                refine NoPanic.normal ?_
                generalize w2.drew.setCells (w.heap.size + 1 + 1 + 1) (i * 6 + j * 2) [.int .i64 y0, .int .i64 y1] = w8 at *
                clear p0 p1 l8 hg8
                go_wp2_with fail
                go_roundw
                case rel => exact ⟨j + 1, by omega, by go_num, HAn.out, HBn.out, HCn.out, HDn.out, hBn⟩
                case measure => simp [intOf]; omega
        · obtain rfl : j = 3 := by omega
          clear hA hB hC hD
          go_wp2_with fail
          go_roundw
          case rel => exact ⟨i + 1, by omega, by go_num, HA.out, HB.out, HC.out, HD.out, hbj⟩
          case measure => simp [intOf]; omega
    · obtain rfl : i = 3 := by omega
      obtain ⟨r, hr, hDr⟩ := hD
      have HR := Lib.hid hr
      have HF := Lib.hid (hC.full r.arr (r.size))
      have hB6 := ext_setN r.arr.toList hb (show w.heap.size ≤ w.heap.size + 1 + 1 by omega) 0
      have HT := Lib.hid (there_all hC r.arr.size (by rw [r.size]; exact Nat.le_refl _))
      have HI : Hid ((Try.prog.info? 50).map (·.size) = some r.arr.size) := Lib.hid (by rw [r.size]; kernel_rfl)
      have HDr := Lib.hid hDr
      have HJ : Hid ((Try.prog.info? 50).map (·.size) = some r.arr.toList.length) := Lib.hid (by rw [Array.length_toList, r.size]; kernel_rfl)
      clear hA hB hC hr hDr HA HB HC HD hb
      go_wp2_with (first | refine wpList_load_mid rfl 50 _ rfl (w.heap.size + 1 + 1 + 1) 0 rfl r.arr.toList _ HDr.out.all Try.underlying50 rfl HJ.out ?_ | refine wpList_store_mid rfl 50 _ _ rfl (w.heap.size + 1 + 1) 0 r.arr rfl rfl HT.out HI.out (mat_one _) ?_)
      exact bodyPost_ret (ret_cell Try.results58 rfl HF.out Try.underlying50 rfl HI.out) rfl ⟨r, HR.out, rfl, hB6⟩
end Go.Proofs.Ytgnjconhbloocaa

namespace Go.Proofs.Ytgnjconhbloocaa
open Go.RowKit
set_option linter.unusedVariables false

theorem grown_setN {a : World} {g g' : Nat} : ∀ (vs : List Value) {b : World} (_ : a.grownBy b (some g)) (_ : a.heap.size ≤ g') (o : Nat), a.grownBy (b.setCells g' o vs) (some g)
  | [], _, h, _, _ => h
  | v :: vs, b, h, hp, o => grown_setN vs (b := b.setCell ⟨g', o, none⟩ v) (grown_set h (.inr hp) v) hp (o + 1)
theorem Src.setN {B g g' : Nat} : ∀ (vs : List Value) {w : World} (_ : Src w B g) (_ : g ≠ g') (_ : B ≤ g') (o : Nat), Src (w.setCells g' o vs) B g
  | [], _, h, _, _, _ => h
  | v :: vs, w, h, hne, hB, o => Src.setN vs (w := w.setCell ⟨g', o, none⟩ v) (h.set (p := ⟨g', o, none⟩) hne hB v) hne hB (o + 1)

/-- The source at g stands, and only it and what is new has changed since w. -/
def Kept (w : World) (B g : Nat) (w' : World) : Prop := Src w' B g ∧ g < w.heap.size ∧ w.grownBy w' (some g)
theorem Kept.refl {w : World} {B g : Nat} (h : Src w B g) : Kept w B g w := ⟨h, h.lt, grown_refl _ _⟩
theorem Kept.ext {w w' w2 : World} {B g : Nat} (h : Kept w B g w') (hb : Below w'.heap.size w' w2) : Kept w B g w2 := ⟨h.1.ext hb, h.2.1, grown_trans h.2.2 (grown_below hb _)⟩
theorem Kept.alloc {w w' : World} {B g : Nat} (h : Kept w B g w') (o : Obj) : Kept w B g (w'.alloc o) := h.ext (ext_alloc (ext_refl _) _)
theorem Kept.drew {w w' : World} {B g : Nat} (h : Kept w B g w') : Kept w B g w'.drew := h.ext (ext_drew (ext_refl _))
theorem Kept.next {w w' w2 : World} {B g : Nat} (h : Kept w B g w') (hs : Src w2 B g) (hg : w'.grownBy w2 (some g)) : Kept w B g w2 := ⟨hs, h.2.1, grown_trans h.2.2 hg⟩
theorem Kept.setN {w w' : World} {B g g' : Nat} (h : Kept w B g w') (hg : w.heap.size ≤ g') (vs : List Value) (o : Nat) : Kept w B g (w'.setCells g' o vs) :=
  ⟨h.1.setN vs (by have := h.2.1; omega) (by have := h.1.1; have := h.2.1; omega) o, h.2.1, grown_setN vs h.2.2 hg o⟩
theorem Kept.trans {w w' w2 : World} {B g : Nat} (h : Kept w B g w') (k : Kept w' B g w2) : Kept w B g w2 := ⟨k.1, h.2.1, grown_trans h.2.2 k.2.2⟩
theorem Kept.whole {w w' : World} {B g b : Nat} {t : TypeId} {cs : Array Value} (h : Kept w B g w') (hW : Whole w b t cs) (hne : b ≠ g) : Whole w' b t cs := hW.grown h.2.2 (by intro e; injection e with e; exact hne e)
theorem Kept.le {w w' : World} {B g : Nat} (h : Kept w B g w') : w.heap.size ≤ w'.heap.size := h.2.2.size

/-- A pose of valid intervals. -/
def ValidP (p : Fx.Ps) : Prop := (∀ i k : Nat, i < 3 → k < 3 → Fx.vb ((p.R.row i).lo k) ((p.R.row i).hi k) = true) ∧ ∀ k : Nat, k < 3 → Fx.vb (p.T.lo k) (p.T.hi k) = true
def GivesQ (T : Fx.V3) (w : World) (e : Ending) (w' : World) : Prop := ∃ p : Fx.Ps, UnitM p.R ∧ p.T = T ∧ e = .returned (.agg p.arr) ∧ Below w.heap.size w w'

theorem dot_vb (r v : Fx.V3) : Fx.vb (Fx.dot r v 3).1 (Fx.dot r v 3).2 = true := by
  rw [Fx.dot3]
  exact Fx.add_vb (Fx.add_vb (Fx.mul_vb' _ _ _ _) (Fx.mul_vb' _ _ _ _)) (Fx.mul_vb' _ _ _ _)
theorem ofEnds_at (lo hi : Nat → Int) : ∀ k : Nat, k < 3 → (Fx.ofEnds lo hi).lo k = lo k ∧ (Fx.ofEnds lo hi).hi k = hi k
  | 0, _ => ⟨rfl, rfl⟩
  | 1, _ => ⟨rfl, rfl⟩
  | 2, _ => ⟨rfl, rfl⟩
  | _ + 3, q => absurd q (by omega)
theorem shifted_vb (p : Fx.Ps) (v : Fx.V3) (hT : ∀ k : Nat, k < 3 → Fx.vb (p.T.lo k) (p.T.hi k) = true) (k : Nat) (hk : k < 3) : Fx.vb ((Fx.applyP p v).lo k) ((Fx.applyP p v).hi k) = true := by
  unfold Fx.applyP Fx.addV
  rw [(ofEnds_at _ _ k hk).1, (ofEnds_at _ _ k hk).2]
  refine Fx.add_vb (hT k hk) ?_
  unfold Fx.applyM
  rw [(ofEnds_at _ _ k hk).1, (ofEnds_at _ _ k hk).2]
  exact dot_vb _ _
theorem unitM_vb {m : Fx.M3} (h : UnitM m) (i k : Nat) (hi : i < 3) (hk : k < 3) : Fx.vb ((m.row i).lo k) ((m.row i).hi k) = true := by
  obtain ⟨a, b, c⟩ := h i k hi hk
  rw [Fx.vb_true]; omega
theorem ofV_vb (a b c : Int) (k : Nat) (hk : k < 3) : Fx.vb ((Fx.ofV a b c).lo k) ((Fx.ofV a b c).hi k) = true := by
  rw [← ofV_ends, (ofEnds_at _ _ k hk).1, (ofEnds_at _ _ k hk).2, Fx.vb_true]
  unfold Fx.clamp
  omega

set_option maxRecDepth 100000 in
set_option maxHeartbeats 1000000 in
theorem compose_any (p q : Fx.Ps) (w : World) :
    Calls Try.prog 42 #[.agg p.arr, .agg q.arr] w (GivesQ (Fx.applyP p q.T) w) := by
  go_enter Try.func42, Try.ntmps42
  go_wp2_with fail
  have h3 := blocks3 w 52 52 52 p.arr q.arr zero24
  generalize ((w.alloc (.cells p.arr 52)).alloc (.cells q.arr 52)).alloc (.cells zero24 52) = wr at *
  obtain ⟨hA, hB, hC, hb⟩ := h3
  have HA := Lib.hid hA; have HB := Lib.hid hB; have HC := Lib.hid hC
  clear hA hB hC
  refine wp_region_noPanic ?_
  refine wp_region_until_drew (k := 14) (S := fun w' => Below wr.heap.size wr w') (by kernel_rfl) (ext_drew (ext_refl _)) (fun hHeld => ?_)
  refine wpAnyU_take (i := 0) (v := ?_) (by simp only [List.getElem?_toArray, List.getElem?_cons_succ, List.getElem?_cons_zero]; rfl) (by kernel_rfl) (by kernel_rfl) (by kernel_rfl) (by kernel_rfl) (by kernel_rfl) (fun _ _ _ h => h) (Or.inl ⟨by rfl, ?_⟩) (by assumption) ?_
  rotate_left
  · intro w hSw; (try dsimp only at hSw); go_simp; first | done | with_reducible rfl
  try simp only [Act.put, List.setIfInBounds_toArray, List.set_cons_zero, List.set_cons_succ]
  refine wpAnyU_take (i := 1) (by simp only [List.getElem?_toArray, List.getElem?_cons_succ, List.getElem?_cons_zero]; rfl) (by kernel_rfl) (by kernel_rfl) (by kernel_rfl) (by kernel_rfl) (by kernel_rfl) (fun _ _ _ h => h) (yields_load (by rfl) _ _ rfl w.heap.size (0) (by rfl) p.R.arr.toList _ (HA.out.range 0 _ p.mat) HA.out.lt Try.underlying50 rfl (by kernel_rfl)) (by assumption) ?_
  try simp only [Act.put, List.setIfInBounds_toArray, List.set_cons_zero, List.set_cons_succ]
  refine wpAnyU_take (i := 2) (v := ?_) (by simp only [List.getElem?_toArray, List.getElem?_cons_succ, List.getElem?_cons_zero]; rfl) (by kernel_rfl) (by kernel_rfl) (by kernel_rfl) (by kernel_rfl) (by kernel_rfl) (fun _ _ _ h => h) (Or.inl ⟨by rfl, ?_⟩) (by assumption) ?_
  rotate_left
  · intro w hSw; (try dsimp only at hSw); go_simp; first | done | with_reducible rfl
  try simp only [Act.put, List.setIfInBounds_toArray, List.set_cons_zero, List.set_cons_succ]
  refine wpAnyU_take (i := 3) (by simp only [List.getElem?_toArray, List.getElem?_cons_succ, List.getElem?_cons_zero]; rfl) (by kernel_rfl) (by kernel_rfl) (by kernel_rfl) (by kernel_rfl) (by kernel_rfl) (fun _ _ _ h => h) (yields_load (by rfl) _ _ rfl (w.heap.size + 1) (0) (by rfl) q.R.arr.toList _ (HB.out.range 0 _ q.mat) HB.out.lt Try.underlying50 rfl (by kernel_rfl)) (by assumption) ?_
  try simp only [Act.put, List.setIfInBounds_toArray, List.set_cons_zero, List.set_cons_succ]
  refine wpAnyU_take (i := 5) (v := ?_) (by simp only [List.getElem?_toArray, List.getElem?_cons_succ, List.getElem?_cons_zero]; rfl) (by kernel_rfl) (by kernel_rfl) (by kernel_rfl) (by kernel_rfl) (by kernel_rfl) (fun _ _ _ h => h) (Or.inl ⟨by rfl, ?_⟩) (by assumption) ?_
  rotate_left
  · intro w hSw; (try dsimp only at hSw); go_simp; first | done | with_reducible rfl
  try simp only [Act.put, List.setIfInBounds_toArray, List.set_cons_zero, List.set_cons_succ]
  refine wpAnyU_take (i := 6) (by simp only [List.getElem?_toArray, List.getElem?_cons_succ, List.getElem?_cons_zero]; rfl) (by kernel_rfl) (by kernel_rfl) (by kernel_rfl) (by kernel_rfl) (by kernel_rfl) (fun _ _ _ h => h) (yields_load (by rfl) _ _ rfl w.heap.size (18) (by rfl) p.T.arr.toList _ (HA.out.range 18 _ p.vec) HA.out.lt Try.underlying34 rfl (by kernel_rfl)) (by assumption) ?_
  try simp only [Act.put, List.setIfInBounds_toArray, List.set_cons_zero, List.set_cons_succ]
  refine wpAnyU_take (i := 7) (v := ?_) (by simp only [List.getElem?_toArray, List.getElem?_cons_succ, List.getElem?_cons_zero]; rfl) (by kernel_rfl) (by kernel_rfl) (by kernel_rfl) (by kernel_rfl) (by kernel_rfl) (fun _ _ _ h => h) (Or.inl ⟨by rfl, ?_⟩) (by assumption) ?_
  rotate_left
  · intro w hSw; (try dsimp only at hSw); go_simp; first | done | with_reducible rfl
  try simp only [Act.put, List.setIfInBounds_toArray, List.set_cons_zero, List.set_cons_succ]
  refine wpAnyU_take (i := 8) (by simp only [List.getElem?_toArray, List.getElem?_cons_succ, List.getElem?_cons_zero]; rfl) (by kernel_rfl) (by kernel_rfl) (by kernel_rfl) (by kernel_rfl) (by kernel_rfl) (fun _ _ _ h => h) (yields_load (by rfl) _ _ rfl w.heap.size (0) (by rfl) p.R.arr.toList _ (HA.out.range 0 _ p.mat) HA.out.lt Try.underlying50 rfl (by kernel_rfl)) (by assumption) ?_
  try simp only [Act.put, List.setIfInBounds_toArray, List.set_cons_zero, List.set_cons_succ]
  refine wpAnyU_take (i := 9) (v := ?_) (by simp only [List.getElem?_toArray, List.getElem?_cons_succ, List.getElem?_cons_zero]; rfl) (by kernel_rfl) (by kernel_rfl) (by kernel_rfl) (by kernel_rfl) (by kernel_rfl) (fun _ _ _ h => h) (Or.inl ⟨by rfl, ?_⟩) (by assumption) ?_
  rotate_left
  · intro w hSw; (try dsimp only at hSw); go_simp; first | done | with_reducible rfl
  try simp only [Act.put, List.setIfInBounds_toArray, List.set_cons_zero, List.set_cons_succ]
  refine wpAnyU_take (i := 10) (by simp only [List.getElem?_toArray, List.getElem?_cons_succ, List.getElem?_cons_zero]; rfl) (by kernel_rfl) (by kernel_rfl) (by kernel_rfl) (by kernel_rfl) (by kernel_rfl) (fun _ _ _ h => h) (yields_load (by rfl) _ _ rfl (w.heap.size + 1) (18) (by rfl) q.T.arr.toList _ (HB.out.range 18 _ q.vec) HB.out.lt Try.underlying34 rfl (by kernel_rfl)) (by assumption) ?_
  try simp only [Act.put, List.setIfInBounds_toArray, List.set_cons_zero, List.set_cons_succ]
  refine wpAnyU_ready (rs := [4]) (by kernel_rfl) (by simp) ?_
  refine AllReadyU.cons (by simp only [List.getElem?_toArray, List.getElem?_cons_succ, List.getElem?_cons_zero]; rfl) (fun K hK => ?_) AllReadyU.nil
  go_simp
  refine (composemat_any p.R q.R _).mono ?_
  rintro e w_4 ⟨r, hr, rfl, hb_4⟩
  have hHeld' := ext_trans hHeld hb_4
  have HR := Lib.hid hr
  clear hHeld hb_4 hr
  go_wp2_with fail
  refine hK.out _ _ hHeld' (fun hHeld => ?_)
  clear hK K hHeld'
  try simp only [Act.put, List.setIfInBounds_toArray, List.set_cons_zero, List.set_cons_succ]
  refine wpAnyU_ready (rs := [11]) (by kernel_rfl) (by simp) ?_
  refine AllReadyU.cons (by simp only [List.getElem?_toArray, List.getElem?_cons_succ, List.getElem?_cons_zero]; rfl) (fun K hK => ?_) AllReadyU.nil
  go_simp
  refine (rapplym_any p.R q.T _).mono ?_
  rintro e w_11 ⟨rfl, hb_11⟩
  have hHeld' := ext_trans hHeld hb_11
  clear hHeld hb_11
  go_wp2_with fail
  refine hK.out _ _ hHeld' (fun hHeld => ?_)
  clear hK K hHeld'
  try simp only [Act.put, List.setIfInBounds_toArray, List.set_cons_zero, List.set_cons_succ]
  refine wpAnyU_ready (rs := [12]) (by kernel_rfl) (by simp) ?_
  refine AllReadyU.cons (by simp only [List.getElem?_toArray, List.getElem?_cons_succ, List.getElem?_cons_zero]; rfl) (fun K hK => ?_) AllReadyU.nil
  go_simp
  refine (raddv_any p.T (Fx.applyM p.R q.T) _).mono ?_
  rintro e w_12 ⟨rfl, hb_12⟩
  have hHeld' := ext_trans hHeld hb_12
  clear hHeld hb_12
  go_wp2_with fail
  refine hK.out _ _ hHeld' (fun hHeld => ?_)
  clear hK K hHeld'
  try simp only [Act.put, List.setIfInBounds_toArray, List.set_cons_zero, List.set_cons_succ]
  obtain ⟨v, hv⟩ : ∃ v : Fx.V3, Fx.addV p.T (Fx.applyM p.R q.T) = v := ⟨_, rfl⟩
  have HV : Hid (v = Fx.applyP p q.T) := Lib.hid hv.symm
  rw [hv, r.lit, arr_lit v]
  clear hv
  obtain ⟨x, hx⟩ : ∃ x : Fx.Ps, x = ⟨r, v⟩ := ⟨_, rfl⟩
  have HX := Lib.hid hx
  have HL : Hid (x.arr = #[.int .i64 r.x.a, .int .i64 r.x.b, .int .i64 r.x.c, .int .i64 r.x.d, .int .i64 r.x.e, .int .i64 r.x.f, .int .i64 r.y.a, .int .i64 r.y.b, .int .i64 r.y.c, .int .i64 r.y.d, .int .i64 r.y.e, .int .i64 r.y.f, .int .i64 r.z.a, .int .i64 r.z.b, .int .i64 r.z.c, .int .i64 r.z.d, .int .i64 r.z.e, .int .i64 r.z.f, .int .i64 v.a, .int .i64 v.b, .int .i64 v.c, .int .i64 v.d, .int .i64 v.e, .int .i64 v.f]) := Lib.hid (by rw [hx]; exact Fx.Ps.lit _)
  have HI : Hid ((Try.prog.info? 52).map (·.size) = some x.arr.size) := Lib.hid (by rw [x.size]; kernel_rfl)
  clear hx
  refine wpAnyU_take (i := 13) (v := ?_) (by simp only [List.getElem?_toArray, List.getElem?_cons_succ, List.getElem?_cons_zero]; rfl) (by kernel_rfl) (by kernel_rfl) (by kernel_rfl) (by kernel_rfl) (by kernel_rfl) (fun _ _ _ h => h) (Or.inl ⟨by rfl, ?_⟩) (by assumption) ?_
  rotate_left
  · intro w hSw; (try dsimp only at hSw); go_simp; first | done | with_reducible rfl
  try simp only [Act.put, List.setIfInBounds_toArray, List.set_cons_zero, List.set_cons_succ]
  have hC := HC.out.ext hHeld
  have hB7 := ext_trans hb hHeld
  refine wpAnyU_ready (rs := [14]) (by kernel_rfl) (by simp) ?_
  refine AllReadyU.last (by simp only [List.getElem?_toArray, List.getElem?_cons_succ, List.getElem?_cons_zero]; rfl) (fun K hK => ?_) AllReadyU.nil
  rw [if_pos (by rfl)]
  refine wp_store_mid _ _ _ rfl (w.heap.size + 1 + 1) 0 x.arr rfl (congrArg Value.agg HL.out.symm) (there_all hC x.arr.size (by rw [x.size]; exact Nat.le_refl _)) HI.out (pose_one _) ?_
  have HDn := Lib.hid (hC.full x.arr x.size)
  have hBn := ext_setN x.arr.toList hB7 (show w.heap.size ≤ w.heap.size + 1 + 1 by omega) 0
  refine hK.out _ _ ?_
  clear hK K hC hB7 hHeld
  try simp only [Act.put, List.setIfInBounds_toArray, List.set_cons_zero, List.set_cons_succ]
  refine wpAnyU_done (by kernel_rfl) ?_ _
  refine NoPanic.normal ?_
  go_wp2_with fail
  exact bodyPost_ret (ret_cell Try.results42 rfl HDn.out Try.underlying52 rfl HI.out) rfl ⟨x, by rw [HX.out]; exact HR.out, by rw [HX.out]; exact HV.out, rfl, hBn⟩
end Go.Proofs.Ytgnjconhbloocaa

namespace Go.Proofs.Ytgnjconhbloocaa
open Go.RowKit
set_option linter.unusedVariables false

section
variable {P : Program} {ops : Array Oper} {Q : Exit → Act → World → Prop} {md : Region.Mode} {S : World → Prop} {k : Nat}
/-- A store that ends the condition, in one step. -/
theorem wpAnyU_store {fuel : Nat} {listed : Array Bool} {a : Act} {w : World} {op : Oper} (hr : Region.ready md ops listed = [k]) (hop : ops[k]? = some op) (hgd : op.guard = none) (ty : TypeId) (x y : Operand) (ho : op.op = .store ty x y)
    (b o : Nat) (cells : Array Value) (hx : a.eval x = .pointer (some ⟨b, o, none⟩)) (hy : a.eval y = .agg cells)
    (ht : w.there b o cells.size) (hi : (P.info? ty).map (·.size) = some cells.size) (h1 : cells.all (·.oneCell') = true)
    (h : wpAnyU P md ops Q S k fuel (listed.setIfInBounds k true) (a.put op.dst undef) (w.setCells b o cells.toList)) : wpAnyU P md ops Q S k (fuel + 1) listed a w := by
  refine wpAnyU_ready (rs := [k]) hr (by simp) ?_
  refine AllReadyU.last hop (fun K hK => ?_) AllReadyU.nil
  rw [if_pos (by simp [Region.wanted, hgd])]
  exact wp_store_mid ty x y ho b o cells hx hy ht hi h1 (hK _ _ h)
end

def GivesPose (w : World) (B g : Nat) (e : Ending) (w' : World) : Prop := ∃ p : Fx.Ps, ValidP p ∧ e = .returned (.agg p.arr) ∧ Kept w B g w'

theorem prod_small {x y : Int} (x0 : 0 ≤ x) (x1 : x < 3) (y0 : 0 ≤ y) (y1 : y < 5000) : 0 ≤ x * y ∧ x * y ≤ 14997 := by
  have cx : x = 0 ∨ x = 1 ∨ x = 2 := by omega
  rcases cx with rfl | rfl | rfl <;> omega

set_option maxRecDepth 100000 in
set_option maxHeartbeats 1000000 in
theorem pose_any (B g : Nat) (w : World) (hs : Src w B g) :
    Calls Try.prog 21 #[.pointer (some ⟨g, 0, none⟩)] w (GivesPose w B g) := by
  have K0 := Lib.hid (Kept.refl hs)
  have hg0 := hs.lt
  clear hs
  go_enter Try.func21, Try.ntmps21
  go_wp2_with fail
  have K1 := Lib.hid (K0.out.alloc (.cells zero24 52))
  have HA1 := Lib.hid (Whole.new w 52 zero24)
  clear K0
  generalize w.alloc (.cells zero24 52) = w1 at *
  refine (signed_any B g 70000 w1 K1.out.1 (by omega) (by omega)).mono ?_
  rintro e w2 ⟨a, a0, a1, rfl, hs2, hg2⟩
  have HA2 := Lib.hid (HA1.out.grown hg2 (by intro e; injection e; omega))
  have K2 := Lib.hid (K1.out.next hs2 hg2)
  clear K1 HA1 hs2 hg2
  go_wp2_with fail
  refine (next_any B g 3 w2 K2.out.1 (by omega) (by omega)).mono ?_
  rintro e w3 ⟨ax, b0, b1, rfl, hs3, hg3⟩
  have HA3 := Lib.hid (HA2.out.grown hg3 (by intro e; injection e; omega))
  have K3 := Lib.hid (K2.out.next hs3 hg3)
  clear K2 HA2 hs3 hg3
  go_wp2_with fail
  refine (next_any B g 3 w3 K3.out.1 (by omega) (by omega)).mono ?_
  rintro e w4 ⟨x, x0, x1, rfl, hs4, hg4⟩
  have HA4 := Lib.hid (HA3.out.grown hg4 (by intro e; injection e; omega))
  have K4 := Lib.hid (K3.out.next hs4 hg4)
  clear K3 HA3 hs4 hg4
  go_wp2_with fail
  refine (next_any B g 5000 w4 K4.out.1 (by omega) (by omega)).mono ?_
  rintro e w5 ⟨y, y0, y1, rfl, hs5, hg5⟩
  have HA5 := Lib.hid (HA4.out.grown hg5 (by intro e; injection e; omega))
  have K5 := Lib.hid (K4.out.next hs5 hg5)
  clear K4 HA4 hs5 hg5
  obtain ⟨m0, m1⟩ := prod_small x0 x1 y0 y1
  go_wp2_with fail
  refine (turnpose_any ax a (a + x * y) w5 (Fx.vb_true.2 (by omega)) b0 b1).mono ?_
  rintro e w6 ⟨p, hp, hpT, rfl, hb6⟩
  have HA6 := Lib.hid (HA5.out.ext hb6)
  have K6 := Lib.hid (K5.out.ext hb6)
  have HP := Lib.hid hp
  clear K5 HA5 hb6 hp hpT m0 m1 x0 x1 y0 y1 b0 b1 a0 a1
  have hsz := K6.out.le
  have HI : Hid ((Try.prog.info? 52).map (·.size) = some p.arr.size) := Lib.hid (by rw [p.size]; kernel_rfl)
  have HN := Whole.new w6 52 zero24
  have HT := Lib.hid (there_all HN p.arr.size (by rw [p.size]; exact Nat.le_refl _))
  have HF := Lib.hid (HN.full p.arr p.size)
  have HA7 := Lib.hid (((HA6.out.alloc (.cells zero24 52))).farN p.arr.toList (show w.heap.size ≠ w6.heap.size by have := HA6.out.lt; omega) 0)
  have K7 := Lib.hid ((K6.out.alloc (.cells zero24 52)).setN hsz p.arr.toList 0)
  have hl6 := HA6.out.lt
  clear HN HA6 K6
  go_wp2_with (refine wpList_store_mid rfl 52 _ _ rfl w6.heap.size 0 p.arr rfl rfl HT.out HI.out (pose_one _) ?_)
  clear HT
  generalize (w6.alloc (.cells zero24 52)).setCells w6.heap.size 0 p.arr.toList = w7 at *
  refine wp_region_noPanic ?_
  refine wp_region_until_drew (k := 11) (S := (fun w' => Kept w7 B g w')) (by kernel_rfl) ?_ (fun hHeld => ?_)
  · exact (Kept.refl K7.out.1).drew
  refine wpAnyU_take (i := 0) (v := ?_) (by simp only [List.getElem?_toArray, List.getElem?_cons_succ, List.getElem?_cons_zero]; rfl) (by kernel_rfl) (by kernel_rfl) (by kernel_rfl) (by kernel_rfl) (by kernel_rfl) (fun _ _ _ h => h) (Or.inl ⟨by rfl, ?_⟩) (by assumption) ?_
  rotate_left
  · intro w hSw; (try dsimp only at hSw); go_simp; first | done | with_reducible rfl
  try simp only [Act.put, List.setIfInBounds_toArray, List.set_cons_zero, List.set_cons_succ]
  refine wpAnyU_take (i := 2) (v := ?_) (by simp only [List.getElem?_toArray, List.getElem?_cons_succ, List.getElem?_cons_zero]; rfl) (by kernel_rfl) (by kernel_rfl) (by kernel_rfl) (by kernel_rfl) (by kernel_rfl) (fun _ _ _ h => h) (Or.inl ⟨by rfl, ?_⟩) (by assumption) ?_
  rotate_left
  · intro w hSw; (try dsimp only at hSw); go_simp; first | done | with_reducible rfl
  try simp only [Act.put, List.setIfInBounds_toArray, List.set_cons_zero, List.set_cons_succ]
  refine wpAnyU_take (i := 4) (v := ?_) (by simp only [List.getElem?_toArray, List.getElem?_cons_succ, List.getElem?_cons_zero]; rfl) (by kernel_rfl) (by kernel_rfl) (by kernel_rfl) (by kernel_rfl) (by kernel_rfl) (fun _ _ _ h => h) (Or.inl ⟨by rfl, ?_⟩) (by assumption) ?_
  rotate_left
  · intro w hSw; (try dsimp only at hSw); go_simp; first | done | with_reducible rfl
  try simp only [Act.put, List.setIfInBounds_toArray, List.set_cons_zero, List.set_cons_succ]
  have HJ : Hid ((Try.prog.info? 52).map (·.size) = some p.arr.toList.length) := Lib.hid (by rw [Array.length_toList, p.size]; kernel_rfl)
  refine wpAnyU_take (i := 9) (by simp only [List.getElem?_toArray, List.getElem?_cons_succ, List.getElem?_cons_zero]; rfl) (by kernel_rfl) (by kernel_rfl) (by kernel_rfl) (by kernel_rfl) (by kernel_rfl) (fun _ _ _ h => h) (yieldsIf_load_mid (by rfl) _ _ rfl w6.heap.size 0 (by rfl) p.arr.toList _ (fun w' h => (Kept.whole h HF.out (show w6.heap.size ≠ g by omega)).all) Try.underlying52 rfl HJ.out) (by assumption) ?_
  try simp only [Act.put, List.setIfInBounds_toArray, List.set_cons_zero, List.set_cons_succ]
  simp only [Array.toArray_toList]
  refine wpAnyU_ready (rs := [1]) (by kernel_rfl) (by simp) ?_
  refine AllReadyU.cons (by simp only [List.getElem?_toArray, List.getElem?_cons_succ, List.getElem?_cons_zero]; rfl) (fun K hK => ?_) AllReadyU.nil
  go_simp
  refine (signed_any B g 196608 _ hHeld.1 (by omega) (by omega)).mono ?_
  rintro e w_1 ⟨x, x0, x1, rfl, hs_1, hg_1⟩
  have hH' := hHeld.next hs_1 hg_1
  clear hHeld hs_1 hg_1 x0 x1
  go_wp2_with fail
  refine hK.out _ _ hH' (fun hHeld => ?_)
  clear hK K hH'
  try simp only [Act.put, List.setIfInBounds_toArray, List.set_cons_zero, List.set_cons_succ]
  refine wpAnyU_ready (rs := [3]) (by kernel_rfl) (by simp) ?_
  refine AllReadyU.cons (by simp only [List.getElem?_toArray, List.getElem?_cons_succ, List.getElem?_cons_zero]; rfl) (fun K hK => ?_) AllReadyU.nil
  go_simp
  refine (signed_any B g 196608 _ hHeld.1 (by omega) (by omega)).mono ?_
  rintro e w_3 ⟨y, y0, y1, rfl, hs_3, hg_3⟩
  have hH' := hHeld.next hs_3 hg_3
  clear hHeld hs_3 hg_3 y0 y1
  go_wp2_with fail
  refine hK.out _ _ hH' (fun hHeld => ?_)
  clear hK K hH'
  try simp only [Act.put, List.setIfInBounds_toArray, List.set_cons_zero, List.set_cons_succ]
  refine wpAnyU_ready (rs := [5]) (by kernel_rfl) (by simp) ?_
  refine AllReadyU.cons (by simp only [List.getElem?_toArray, List.getElem?_cons_succ, List.getElem?_cons_zero]; rfl) (fun K hK => ?_) AllReadyU.nil
  go_simp
  refine (signed_any B g 196608 _ hHeld.1 (by omega) (by omega)).mono ?_
  rintro e w_5 ⟨z, z0, z1, rfl, hs_5, hg_5⟩
  have hH' := hHeld.next hs_5 hg_5
  clear hHeld hs_5 hg_5 z0 z1
  go_wp2_with fail
  refine hK.out _ _ hH' (fun hHeld => ?_)
  clear hK K hH'
  try simp only [Act.put, List.setIfInBounds_toArray, List.set_cons_zero, List.set_cons_succ]
  refine wpAnyU_take (i := 6) (v := ?_) (by simp only [List.getElem?_toArray, List.getElem?_cons_succ, List.getElem?_cons_zero]; rfl) (by kernel_rfl) (by kernel_rfl) (by kernel_rfl) (by kernel_rfl) (by kernel_rfl) (fun _ _ _ h => h) (Or.inl ⟨by rfl, ?_⟩) (by assumption) ?_
  rotate_left
  · intro w hSw; (try dsimp only at hSw); go_simp; first | done | with_reducible rfl
  try simp only [Act.put, List.setIfInBounds_toArray, List.set_cons_zero, List.set_cons_succ]
  refine wpAnyU_ready (rs := [7]) (by kernel_rfl) (by simp) ?_
  refine AllReadyU.cons (by simp only [List.getElem?_toArray, List.getElem?_cons_succ, List.getElem?_cons_zero]; rfl) (fun K hK => ?_) AllReadyU.nil
  go_simp
  refine (rpoint_any x y z _).mono ?_
  rintro e w_7 ⟨rfl, hb_7⟩
  have hH' := hHeld.ext hb_7
  clear hHeld hb_7
  go_wp2_with fail
  refine hK.out _ _ hH' (fun hHeld => ?_)
  clear hK K hH'
  try simp only [Act.put, List.setIfInBounds_toArray, List.set_cons_zero, List.set_cons_succ]
  obtain ⟨v, hv⟩ : ∃ v : Fx.V3, Fx.ofV x y z = v := ⟨_, rfl⟩
  have HV : Hid (∀ k : Nat, k < 3 → Fx.vb (v.lo k) (v.hi k) = true) := Lib.hid (by rw [← hv]; exact ofV_vb x y z)
  rw [hv]
  clear hv
  refine wpAnyU_ready (rs := [8]) (by kernel_rfl) (by simp) ?_
  refine AllReadyU.cons (by simp only [List.getElem?_toArray, List.getElem?_cons_succ, List.getElem?_cons_zero]; rfl) (fun K hK => ?_) AllReadyU.nil
  go_simp
  refine (shift_any v _).mono ?_
  rintro e w_8 ⟨rfl, hb_8⟩
  have hH' := hHeld.ext hb_8
  clear hHeld hb_8
  go_wp2_with fail
  refine hK.out _ _ hH' (fun hHeld => ?_)
  clear hK K hH'
  try simp only [Act.put, List.setIfInBounds_toArray, List.set_cons_zero, List.set_cons_succ]
  generalize hq : Fx.Ps.mk Fx.unitM v = q at *
  have HQ := Lib.hid hq
  clear hq
  refine wpAnyU_ready (rs := [10]) (by kernel_rfl) (by simp) ?_
  refine AllReadyU.cons (by simp only [List.getElem?_toArray, List.getElem?_cons_succ, List.getElem?_cons_zero]; rfl) (fun K hK => ?_) AllReadyU.nil
  go_simp
  refine (compose_any q p _).mono ?_
  rintro e w_10 ⟨r, hr, hrT, rfl, hb_10⟩
  have HR : Hid (ValidP r) := Lib.hid ⟨unitM_vb hr, by rw [hrT]; exact shifted_vb q p.T (by rw [← HQ.out]; exact HV.out)⟩
  have hH' := hHeld.ext hb_10
  clear hHeld hb_10 hr hrT HV HP HQ
  go_wp2_with fail
  refine hK.out _ _ hH' (fun hHeld => ?_)
  clear hK K hH'
  try simp only [Act.put, List.setIfInBounds_toArray, List.set_cons_zero, List.set_cons_succ]
  have HA8 := hHeld.whole HA7.out (show w.heap.size ≠ g by omega)
  have K8 := K7.out.trans hHeld
  have HI2 : Hid ((Try.prog.info? 52).map (·.size) = some r.arr.size) := Lib.hid (by rw [r.size]; kernel_rfl)
  clear hHeld K7 HA7 HF HI HJ
  have HDn := Lib.hid (HA8.full r.arr r.size)
  have K9 := Lib.hid (K8.setN (Nat.le_refl _) r.arr.toList 0)
  refine wpAnyU_store (by kernel_rfl) (by simp only [List.getElem?_toArray, List.getElem?_cons_succ, List.getElem?_cons_zero]; rfl) rfl 52 _ _ rfl w.heap.size 0 r.arr rfl rfl (there_all HA8 r.arr.size (by rw [r.size]; exact Nat.le_refl _)) HI2.out (pose_one _) ?_
  clear HA8 K8
  try simp only [Act.put, List.setIfInBounds_toArray, List.set_cons_zero, List.set_cons_succ]
  refine wpAnyU_done (by kernel_rfl) ?_ _
  refine NoPanic.normal ?_
  go_wp2_with fail
  exact bodyPost_ret (ret_cell Try.results21 rfl HDn.out Try.underlying52 rfl HI2.out) rfl ⟨r, HR.out, rfl, K9.out⟩
end Go.Proofs.Ytgnjconhbloocaa

namespace Go.Proofs.Ytgnjconhbloocaa
open Go.RowKit
set_option linter.unusedVariables false

theorem Kept.grow {w w1 w2 : World} {B g : Nat} {row : Option Nat} (h : Kept w B g w1) (hg : w1.grownBy w2 row) (hr : ∀ k, row = some k → w.heap.size ≤ k) : Kept w B g w2 := by
  have hgl := h.2.1
  have hB := h.1.1
  refine ⟨h.1.grown hg (fun e => by have := hr g e.symm; omega) (fun k e => by have := hr k e; omega), hgl, ?_⟩
  have h2 := h.2.2
  exact ⟨hg.os.trans h2.os, hg.tape.trans h2.tape, hg.output.trans h2.output, Nat.le_trans h2.size hg.size, fun i hi hne => (hg.block i (by have := h2.size; omega) (fun e => by have := hr i e.symm; omega)).trans (h2.block i hi hne)⟩

/-- The cells of a list of points. -/
def pCells (P : List (Int × Int × Int)) : List Value := P.flatMap fun q => [.int .i64 q.1, .int .i64 q.2.1, .int .i64 q.2.2]
theorem pCells_len (P : List (Int × Int × Int)) : (pCells P).length = P.length * 3 := by
  induction P with
  | nil => rfl
  | cons q P ih => unfold pCells at *; simp only [List.flatMap_cons, List.length_append, ih, List.length_cons, List.length_nil]; omega
theorem pCells_snoc (P : List (Int × Int × Int)) (x y z : Int) : pCells (P ++ [(x, y, z)]) = pCells P ++ [.int .i64 x, .int .i64 y, .int .i64 z] := by
  unfold pCells; rw [List.flatMap_append]; rfl
theorem pCells_at (P : List (Int × Int × Int)) (i : Nat) (hi : i < P.length) : (pCells P)[i * 3]? = some (.int .i64 (P.getD i (0, 0, 0)).1) ∧ (pCells P)[i * 3 + 1]? = some (.int .i64 (P.getD i (0, 0, 0)).2.1) ∧ (pCells P)[i * 3 + 2]? = some (.int .i64 (P.getD i (0, 0, 0)).2.2) := by
  induction P generalizing i with
  | nil => simp at hi
  | cons q P ih =>
    cases i with
    | zero => exact ⟨rfl, rfl, rfl⟩
    | succ i =>
      have h := ih i (by simpa using hi)
      have e : pCells (q :: P) = .int .i64 q.1 :: .int .i64 q.2.1 :: .int .i64 q.2.2 :: pCells P := rfl
      rw [e, show (i + 1) * 3 = i * 3 + 1 + 1 + 1 by omega]
      exact h
theorem PSl.of_pts {w : World} {base : Nat} {e : TypeId} {v : Value} {P : List (Int × Int × Int)} (h : w.ownsRow base e 3 v P.length (pCells P)) (hn : P.length ≤ 8) : PSl w v P := by
  have hl := h.lt
  have h' := h
  obtain ⟨h0, h⟩ := h
  rcases h with ⟨h1, h2⟩ | ⟨g, cap, cur, rfl, hg, hh, h⟩
  · have : P = [] := by cases P with | nil => rfl | cons a l => simp at h2
    subst this
    rw [h1]
    exact PSl.nil _ _ _
  · refine ⟨some ⟨g, 0, none⟩, cap, rfl, by omega, fun _ => ⟨g, 0, rfl, (hl g rfl).2, fun i hi => ?_⟩⟩
    have hc : ∀ (k : Nat) (u : Value), (pCells P)[k]? = some u → w.cell? ⟨g, k, none⟩ = some u := fun k u hu => by
      have := h'.cells (g := g) rfl k u hu
      rwa [Addr.add_mid, Nat.zero_add] at this
    obtain ⟨p0, p1, p2⟩ := pCells_at P i hi
    rw [Nat.zero_add]
    exact ⟨hc _ _ p0, hc _ _ p1, hc _ _ p2⟩

/-- Each coordinate lies within 393216. -/
def Near (P : List (Int × Int × Int)) : Prop := ∀ q ∈ P, (-393216 ≤ q.1 ∧ q.1 ≤ 393216) ∧ (-393216 ≤ q.2.1 ∧ q.2.1 ≤ 393216) ∧ (-393216 ≤ q.2.2 ∧ q.2.2 ≤ 393216)
theorem Near.snoc {P : List (Int × Int × Int)} (h : Near P) {x y z : Int} (hx : -393216 ≤ x ∧ x ≤ 393216) (hy : -393216 ≤ y ∧ y ≤ 393216) (hz : -393216 ≤ z ∧ z ≤ 393216) : Near (P ++ [(x, y, z)]) := fun q hq => by
  rcases List.mem_append.1 hq with hq | hq
  · exact h q hq
  · obtain rfl := List.mem_singleton.1 hq
    exact ⟨hx, hy, hz⟩
/-- A short list of points is returned, as a row of its own. -/
def GivesPt (w : World) (B g : Nat) (e : Ending) (w' : World) : Prop :=
  ∃ (v : Value) (P : List (Int × Int × Int)), 1 ≤ P.length ∧ P.length ≤ 4 ∧ Near P ∧ e = .returned v ∧ w'.ownsRow w.heap.size 66 3 v P.length (pCells P) ∧ Kept w B g w'
/-- What stays while points are made. -/
abbrev KeptP (w : World) (B g : Nat) (a b c : Int) (w' : World) : Prop :=
  w'.cell? ⟨w.heap.size, 0, none⟩ = some (.int .i64 a) ∧ w'.cell? ⟨w.heap.size, 1, none⟩ = some (.int .i64 b) ∧ w'.cell? ⟨w.heap.size, 2, none⟩ = some (.int .i64 c) ∧ Whole w' w.heap.size 66 #[.int .i64 a, .int .i64 b, .int .i64 c] ∧ Kept w B g w'
theorem KeptP.mk' {w : World} {B g : Nat} {a b c : Int} {w' : World} (h : Whole w' w.heap.size 66 #[.int .i64 a, .int .i64 b, .int .i64 c]) (k : Kept w B g w') : KeptP w B g a b c w' := ⟨h.cell 0, h.cell 1, h.cell 2, h, k⟩
theorem KeptP.ext {w : World} {B g : Nat} {a b c : Int} {w1 w2 : World} (h : KeptP w B g a b c w1) (hb : Below w1.heap.size w1 w2) : KeptP w B g a b c w2 := KeptP.mk' (h.2.2.2.1.ext hb) (h.2.2.2.2.ext hb)
theorem KeptP.next {w : World} {B g : Nat} {a b c : Int} {w1 w2 : World} (h : KeptP w B g a b c w1) (hs : Src w2 B g) (hg : w1.grownBy w2 (some g)) : KeptP w B g a b c w2 :=
  KeptP.mk' (h.2.2.2.1.grown hg (fun e => by injection e with e; have := h.2.2.2.2.2.1; omega)) (h.2.2.2.2.next hs hg)
theorem KeptP.grow {w : World} {B g : Nat} {a b c : Int} {w1 w2 : World} {row : Option Nat} (h : KeptP w B g a b c w1) (hg : w1.grownBy w2 row) (hr : ∀ k, row = some k → w.heap.size + 1 ≤ k) : KeptP w B g a b c w2 :=
  KeptP.mk' (h.2.2.2.1.grown hg (fun e => by have := hr _ e.symm; omega)) (h.2.2.2.2.grow hg (fun k e => by have := hr k e; omega))

theorem owns_le {w : World} {base b' : Nat} {e : TypeId} {size : Nat} {v : Value} {n : Nat} {xs : List Value} (h : w.ownsRow base e size v n xs) (hb : b' ≤ base) : w.ownsRow b' e size v n xs := by
  obtain ⟨h0, h⟩ := h
  refine ⟨h0, ?_⟩
  rcases h with h | ⟨g, cap, cur, h1, h2, h3⟩
  · exact .inl h
  · exact .inr ⟨g, cap, cur, h1, by omega, h3⟩

set_option maxRecDepth 100000 in
set_option maxHeartbeats 1000000 in
theorem mkpoints_any (B g : Nat) (a b c : Int) (w : World) (hs : Src w B g) (ha : -294912 ≤ a ∧ a ≤ 294912) (hb : -294912 ≤ b ∧ b ≤ 294912) (hc : -294912 ≤ c ∧ c ≤ 294912) :
    Calls Try.prog 56 #[.pointer (some ⟨g, 0, none⟩), .agg #[.int .i64 a, .int .i64 b, .int .i64 c]] w (GivesPt w B g) := by
  have K0 := Lib.hid (Kept.refl hs)
  have hg0 := hs.lt
  clear hs
  obtain ⟨i0, hi, hz0, hz1, hz2⟩ := info_parts info_vec
  go_enter Try.func56, Try.ntmps56
  go_wp2_with fail
  have hW0 := Whole.new w 66 #[.int .i64 a, .int .i64 b, .int .i64 c]
  have hW1 := hW0.alloc (.cells #[.int .i64 a, .int .i64 b, .int .i64 c] 66)
  have K1 := (K0.out.alloc (.cells #[.int .i64 a, .int .i64 b, .int .i64 c] 66)).alloc (.cells #[.int .i64 a, .int .i64 b, .int .i64 c] 66)
  have hO1 : ((w.alloc (.cells #[.int .i64 a, .int .i64 b, .int .i64 c] 66)).alloc (.cells #[.int .i64 a, .int .i64 b, .int .i64 c] 66)).ownsRow (w.heap.size + 1) 66 3 (.slice (some ⟨w.heap.size + 1, 0, none⟩) 1 1) 1 (pCells [(a, b, c)]) :=
    ⟨rfl, .inr ⟨w.heap.size + 1, 1, #[.int .i64 a, .int .i64 b, .int .i64 c], rfl, Nat.le_refl _, (by have := heap_alloc_new (w.alloc (.cells #[.int .i64 a, .int .i64 b, .int .i64 c] 66)) (.cells #[.int .i64 a, .int .i64 b, .int .i64 c] 66); simpa using this), Nat.le_refl _, by unfold maxLen; omega, rfl, rfl⟩⟩
  have HS1 := Lib.hid (KeptP.mk' hW1 K1)
  have HO1 := Lib.hid hO1
  clear hW0 hW1 K1 hO1 K0
  generalize (w.alloc (.cells #[.int .i64 a, .int .i64 b, .int .i64 c] 66)).alloc (.cells #[.int .i64 a, .int .i64 b, .int .i64 c] 66) = w1 at *
  have hne : ∀ {w' : World} {ov : Value} {n : Nat} {xs : List Value}, w'.ownsRow (w.heap.size + 1) 66 3 ov n xs → ov.ownBlock ≠ some g := fun ho e => by have := (ho.lt _ e).1; omega
  refine (next_any B g 4 w1 HS1.out.2.2.2.2.1 (by omega) (by omega)).mono ?_
  rintro e w2 ⟨k, k0, k1, rfl, hs2, hg2⟩
  have HO2 := Lib.hid (HO1.out.kept hg2 (.inr (hne HO1.out)))
  have HS2 := Lib.hid (KeptP.next HS1.out hs2 hg2)
  clear HO1 HS1 hs2 hg2
  obtain ⟨k, rfl⟩ : ∃ m : Nat, k = (m : Int) := ⟨k.toNat, by omega⟩
  go_wp2_with fail
  go_loopw [5, 6] (fun ov kv wr => ∃ (P : List (Int × Int × Int)) (k : Nat), 1 ≤ P.length ∧ P.length + k ≤ 4 ∧ kv = .int .i64 k ∧ Hid (wr.ownsRow (w.heap.size + 1) 66 3 ov P.length (pCells P)) ∧ Hid (Near P) ∧ Hid (KeptP w B g a b c wr)) (fun _ kv _ => (intOf kv).toNat)
  case atStart => exact ⟨[(a, b, c)], k, by simp, by simp; omega, by go_num, HO2, Lib.hid (fun q hq => by obtain rfl := List.mem_singleton.1 hq; dsimp only; omega), HS2⟩
  case round =>
    obtain ⟨P, k, hp1, hp4, rfl, HO, HN, HS⟩ := hrel
    clear HO2 HS2
    by_cases hk : 0 < k
    · have hd : decide ((0 : Int) < (k : Int)) = true := by simp; omega
      go_wp2_with fail
      refine wp_region_noPanic ?_
      refine wp_region_held_drew (S := (fun w' => KeptP w B g a b c w')) (by kernel_rfl) ?_ (fun hHeld => ?_)
      · exact KeptP.ext HS.out (ext_drew (ext_refl _))
      have HO3 := Lib.hid (owns_ext HO.out (ext_drew (ext_refl _)))
      clear HO HS
      refine wpAnyH_take (i := 0) (v := ?_) (by simp only [List.getElem?_toArray, List.getElem?_cons_succ, List.getElem?_cons_zero]; rfl) (by kernel_rfl) (by kernel_rfl) (by kernel_rfl) (fun _ _ _ h => h) (Or.inl ⟨by rfl, ?_⟩) (by assumption) ?_
      rotate_left
      · intro w hSw; (try dsimp only at hSw); go_simp; first | done | with_reducible rfl
      try simp only [Act.put, List.setIfInBounds_toArray, List.set_cons_zero, List.set_cons_succ]
      refine wpAnyH_take (i := 1) (v := ?_) (by simp only [List.getElem?_toArray, List.getElem?_cons_succ, List.getElem?_cons_zero]; rfl) (by kernel_rfl) (by kernel_rfl) (by kernel_rfl) (fun _ _ _ h => h) (Or.inl ⟨by rfl, ?_⟩) (by assumption) ?_
      rotate_left
      · intro w hSw; (try dsimp only at hSw); go_simp; first | done | with_reducible rfl
      try simp only [Act.put, List.setIfInBounds_toArray, List.set_cons_zero, List.set_cons_succ]
      refine wpAnyH_take (i := 2) (v := ?_) (by simp only [List.getElem?_toArray, List.getElem?_cons_succ, List.getElem?_cons_zero]; rfl) (by kernel_rfl) (by kernel_rfl) (by kernel_rfl) (fun _ _ _ h => h) (Or.inl ⟨by rfl, ?_⟩) (by assumption) ?_
      rotate_left
      · intro w hSw; (try dsimp only at hSw); go_simp; first | done | with_reducible rfl
      try simp only [Act.put, List.setIfInBounds_toArray, List.set_cons_zero, List.set_cons_succ]
      refine wpAnyH_take (i := 3) (v := ?_) (by simp only [List.getElem?_toArray, List.getElem?_cons_succ, List.getElem?_cons_zero]; rfl) (by kernel_rfl) (by kernel_rfl) (by kernel_rfl) (fun _ _ _ h => h) (Or.inl ⟨by rfl, ?_⟩) (by assumption) ?_
      rotate_left
      · intro w hSw; (try dsimp only at hSw); go_simp; first | done | with_reducible rfl
      try simp only [Act.put, List.setIfInBounds_toArray, List.set_cons_zero, List.set_cons_succ]
      refine wpAnyH_take (i := 7) (v := ?_) (by simp only [List.getElem?_toArray, List.getElem?_cons_succ, List.getElem?_cons_zero]; rfl) (by kernel_rfl) (by kernel_rfl) (by kernel_rfl) (fun _ _ _ h => h) (Or.inl ⟨by rfl, ?_⟩) (by assumption) ?_
      rotate_left
      · intro w hSw; (try dsimp only at hSw); go_simp; first | done | with_reducible rfl
      try simp only [Act.put, List.setIfInBounds_toArray, List.set_cons_zero, List.set_cons_succ]
      refine wpAnyH_take (i := 8) (v := ?_) (by simp only [List.getElem?_toArray, List.getElem?_cons_succ, List.getElem?_cons_zero]; rfl) (by kernel_rfl) (by kernel_rfl) (by kernel_rfl) (fun _ _ _ h => h) (Or.inl ⟨by rfl, ?_⟩) (by assumption) ?_
      rotate_left
      · intro w hSw; (try dsimp only at hSw); go_simp; first | done | with_reducible rfl
      try simp only [Act.put, List.setIfInBounds_toArray, List.set_cons_zero, List.set_cons_succ]
      refine wpAnyH_take (i := 9) (v := ?_) (by simp only [List.getElem?_toArray, List.getElem?_cons_succ, List.getElem?_cons_zero]; rfl) (by kernel_rfl) (by kernel_rfl) (by kernel_rfl) (fun _ _ _ h => h) (Or.inl ⟨by rfl, ?_⟩) (by assumption) ?_
      rotate_left
      · intro w hSw; (try dsimp only at hSw); go_simp; first | done | with_reducible rfl
      try simp only [Act.put, List.setIfInBounds_toArray, List.set_cons_zero, List.set_cons_succ]
      refine wpAnyH_take (i := 13) (v := ?_) (by simp only [List.getElem?_toArray, List.getElem?_cons_succ, List.getElem?_cons_zero]; rfl) (by kernel_rfl) (by kernel_rfl) (by kernel_rfl) (fun _ _ _ h => h) (Or.inl ⟨by rfl, ?_⟩) (by assumption) ?_
      rotate_left
      · intro w hSw; (try dsimp only at hSw); go_simp; first | done | with_reducible rfl
      try simp only [Act.put, List.setIfInBounds_toArray, List.set_cons_zero, List.set_cons_succ]
      refine wpAnyH_take (i := 14) (v := ?_) (by simp only [List.getElem?_toArray, List.getElem?_cons_succ, List.getElem?_cons_zero]; rfl) (by kernel_rfl) (by kernel_rfl) (by kernel_rfl) (fun _ _ _ h => h) (Or.inl ⟨by rfl, ?_⟩) (by assumption) ?_
      rotate_left
      · intro w hSw; (try dsimp only at hSw); go_simp; first | done | with_reducible rfl
      try simp only [Act.put, List.setIfInBounds_toArray, List.set_cons_zero, List.set_cons_succ]
      refine wpAnyH_take (i := 15) (v := ?_) (by simp only [List.getElem?_toArray, List.getElem?_cons_succ, List.getElem?_cons_zero]; rfl) (by kernel_rfl) (by kernel_rfl) (by kernel_rfl) (fun _ _ _ h => h) (Or.inl ⟨by rfl, ?_⟩) (by assumption) ?_
      rotate_left
      · intro w hSw; (try dsimp only at hSw); go_simp; first | done | with_reducible rfl
      try simp only [Act.put, List.setIfInBounds_toArray, List.set_cons_zero, List.set_cons_succ]
      refine wpAnyH_ready (rs := [4]) (by kernel_rfl) (by simp) ?_
      refine AllReadyH.cons (by simp only [List.getElem?_toArray, List.getElem?_cons_succ, List.getElem?_cons_zero]; rfl) (fun K hK => ?_) AllReadyH.nil
      go_simp
      refine (signed_any B g 3 _ hHeld.2.2.2.2.1 (by omega) (by omega)).mono ?_
      rintro e w_4 ⟨x, x0, x1, rfl, hs_4, hg_4⟩
      have HO4 := Lib.hid (HO3.out.kept hg_4 (.inr (hne HO3.out)))
      go_wp2_with fail
      refine hK.out _ _ ?_ (fun hHeld => ?_)
      · exact KeptP.next hHeld hs_4 hg_4
      clear hK K hs_4 hg_4 HO3
      try simp only [Act.put, List.setIfInBounds_toArray, List.set_cons_zero, List.set_cons_succ]
      refine wpAnyH_take (i := 5) (v := ?_) (by simp only [List.getElem?_toArray, List.getElem?_cons_succ, List.getElem?_cons_zero]; rfl) (by kernel_rfl) (by kernel_rfl) (by kernel_rfl) (fun _ _ _ h => h) (Or.inl ⟨by rfl, ?_⟩) (by assumption) ?_
      rotate_left
      · intro w hSw; (try dsimp only at hSw); go_simp; first | done | with_reducible rfl
      try simp only [Act.put, List.setIfInBounds_toArray, List.set_cons_zero, List.set_cons_succ]
      refine wpAnyH_take (i := 6) (v := ?_) (by simp only [List.getElem?_toArray, List.getElem?_cons_succ, List.getElem?_cons_zero]; rfl) (by kernel_rfl) (by kernel_rfl) (by kernel_rfl) (fun _ _ _ h => h) (Or.inl ⟨by rfl, ?_⟩) (by assumption) ?_
      rotate_left
      · intro w hSw; (try dsimp only at hSw); go_simp; first | done | with_reducible rfl
      try simp only [Act.put, List.setIfInBounds_toArray, List.set_cons_zero, List.set_cons_succ]
      refine wpAnyH_ready (rs := [10]) (by kernel_rfl) (by simp) ?_
      refine AllReadyH.cons (by simp only [List.getElem?_toArray, List.getElem?_cons_succ, List.getElem?_cons_zero]; rfl) (fun K hK => ?_) AllReadyH.nil
      go_simp
      refine (signed_any B g 2 _ hHeld.2.2.2.2.1 (by omega) (by omega)).mono ?_
      rintro e w_10 ⟨y, y0, y1, rfl, hs_10, hg_10⟩
      have HO5 := Lib.hid (HO4.out.kept hg_10 (.inr (hne HO4.out)))
      go_wp2_with fail
      refine hK.out _ _ ?_ (fun hHeld => ?_)
      · exact KeptP.next hHeld hs_10 hg_10
      clear hK K hs_10 hg_10 HO4
      try simp only [Act.put, List.setIfInBounds_toArray, List.set_cons_zero, List.set_cons_succ]
      refine wpAnyH_take (i := 11) (v := ?_) (by simp only [List.getElem?_toArray, List.getElem?_cons_succ, List.getElem?_cons_zero]; rfl) (by kernel_rfl) (by kernel_rfl) (by kernel_rfl) (fun _ _ _ h => h) (Or.inl ⟨by rfl, ?_⟩) (by assumption) ?_
      rotate_left
      · intro w hSw; (try dsimp only at hSw); go_simp; first | done | with_reducible rfl
      try simp only [Act.put, List.setIfInBounds_toArray, List.set_cons_zero, List.set_cons_succ]
      refine wpAnyH_take (i := 12) (v := ?_) (by simp only [List.getElem?_toArray, List.getElem?_cons_succ, List.getElem?_cons_zero]; rfl) (by kernel_rfl) (by kernel_rfl) (by kernel_rfl) (fun _ _ _ h => h) (Or.inl ⟨by rfl, ?_⟩) (by assumption) ?_
      rotate_left
      · intro w hSw; (try dsimp only at hSw); go_simp; first | done | with_reducible rfl
      try simp only [Act.put, List.setIfInBounds_toArray, List.set_cons_zero, List.set_cons_succ]
      refine wpAnyH_ready (rs := [16]) (by kernel_rfl) (by simp) ?_
      refine AllReadyH.cons (by simp only [List.getElem?_toArray, List.getElem?_cons_succ, List.getElem?_cons_zero]; rfl) (fun K hK => ?_) AllReadyH.nil
      go_simp
      refine (signed_any B g 2 _ hHeld.2.2.2.2.1 (by omega) (by omega)).mono ?_
      rintro e w_16 ⟨z, z0, z1, rfl, hs_16, hg_16⟩
      have HO6 := Lib.hid (HO5.out.kept hg_16 (.inr (hne HO5.out)))
      go_wp2_with fail
      refine hK.out _ _ ?_ (fun hHeld => ?_)
      · exact KeptP.next hHeld hs_16 hg_16
      clear hK K hs_16 hg_16 HO5
      try simp only [Act.put, List.setIfInBounds_toArray, List.set_cons_zero, List.set_cons_succ]
      refine wpAnyH_take (i := 17) (v := ?_) (by simp only [List.getElem?_toArray, List.getElem?_cons_succ, List.getElem?_cons_zero]; rfl) (by kernel_rfl) (by kernel_rfl) (by kernel_rfl) (fun _ _ _ h => h) (Or.inl ⟨by rfl, ?_⟩) (by assumption) ?_
      rotate_left
      · intro w hSw; (try dsimp only at hSw); go_simp; first | done | with_reducible rfl
      try simp only [Act.put, List.setIfInBounds_toArray, List.set_cons_zero, List.set_cons_succ]
      refine wpAnyH_take (i := 18) (v := ?_) (by simp only [List.getElem?_toArray, List.getElem?_cons_succ, List.getElem?_cons_zero]; rfl) (by kernel_rfl) (by kernel_rfl) (by kernel_rfl) (fun _ _ _ h => h) (Or.inl ⟨by rfl, ?_⟩) (by assumption) ?_
      rotate_left
      · intro w hSw; (try dsimp only at hSw); go_simp; first | done | with_reducible rfl
      try simp only [Act.put, List.setIfInBounds_toArray, List.set_cons_zero, List.set_cons_succ]
      refine wpAnyH_take (i := 19) (v := ?_) (by simp only [List.getElem?_toArray, List.getElem?_cons_succ, List.getElem?_cons_zero]; rfl) (by kernel_rfl) (by kernel_rfl) (by kernel_rfl) (fun _ _ _ h => h) (Or.inl ⟨by rfl, ?_⟩) (by assumption) ?_
      rotate_left
      · intro w hSw; (try dsimp only at hSw); go_simp; first | done | with_reducible rfl
      try simp only [Act.put, List.setIfInBounds_toArray, List.set_cons_zero, List.set_cons_succ]
      have ex : IntKind.i64.wrap (a + IntKind.i64.wrap (x * 32768)) = a + x * 32768 := by rw [IntKind.wrap_i64, IntKind.wrap_i64]; omega
      have fx : IntKind.i64.wrap (x * 32768) = x * 32768 := by rw [IntKind.wrap_i64]; omega
      have ey : IntKind.i64.wrap (b + IntKind.i64.wrap (y * 32768)) = b + y * 32768 := by rw [IntKind.wrap_i64, IntKind.wrap_i64]; omega
      have fy : IntKind.i64.wrap (y * 32768) = y * 32768 := by rw [IntKind.wrap_i64]; omega
      have ez : IntKind.i64.wrap (c + IntKind.i64.wrap (z * 32768)) = c + z * 32768 := by rw [IntKind.wrap_i64, IntKind.wrap_i64]; omega
      have fz : IntKind.i64.wrap (z * 32768) = z * 32768 := by rw [IntKind.wrap_i64]; omega
      rw [ex, ey, ez]
      clear ex ey ez fx fy fz
      refine wpAnyH_ready (rs := [20]) (by kernel_rfl) (by simp) ?_
      refine AllReadyH.cons (by simp only [List.getElem?_toArray, List.getElem?_cons_succ, List.getElem?_cons_zero]; rfl) (fun K hK => ?_) AllReadyH.nil
      go_simp
      refine hK.out _ _ ?_ (fun hHeld => ?_)
      · exact KeptP.ext hHeld (ext_alloc (ext_refl w_16) _)
      clear hK K
      try simp only [Act.put, List.setIfInBounds_toArray, List.set_cons_zero, List.set_cons_succ]
      have hww4 := hHeld.2.2.2.1.lt
      have HE := Lib.hid (pCells_snoc P (a + x * 32768) (b + y * 32768) (c + z * 32768))
      have HNn := Lib.hid (HN.out.snoc (x := a + x * 32768) (y := b + y * 32768) (z := c + z * 32768) (by omega) (by omega) (by omega))
      refine wpAnyH_ready (rs := [21]) (by kernel_rfl) (by simp) ?_
      refine AllReadyH.cons (by simp only [List.getElem?_toArray, List.getElem?_cons_succ, List.getElem?_cons_zero]; rfl) (fun K hK => ?_) AllReadyH.nil
      refine step_append_lies _ (by rfl) _ _ _ (by rfl) (w.heap.size + 1) 66 i0 _ 3 24 Try.underlying46 hi hz0 hz1 hz2 rfl (by omega) u5 P.length (pCells P) (by rfl) (HO6.out.alloc _) ⟨w_16.heap.size, 0, none⟩ 1 1 [.int .i64 (a + x * 32768), .int .i64 (b + y * 32768), .int .i64 (c + z * 32768)] (by rfl) (by rfl) (World.news_of_block (cs := #[.int .i64 (a + x * 32768), .int .i64 (b + y * 32768), .int .i64 (c + z * 32768)]) (t := 66) (fr := (0, 0)) (heap_alloc_new w_16 _)) (by simp [Value.oneCell']) (by omega) (by unfold maxLen; omega) (by omega) (by omega) (w_16.heap.size + 1) (by simp) ?_
      intro g' cap w5 hown5 hgrow hat hlt5
      have HOn : Hid (w5.ownsRow (w.heap.size + 1) 66 3 (.slice (some ⟨g', 0, none⟩) (P.length + 1) cap) (P ++ [(a + x * 32768, b + y * 32768, c + z * 32768)]).length (pCells (P ++ [(a + x * 32768, b + y * 32768, c + z * 32768)]))) := Lib.hid (by
        rw [HE.out, List.length_append]; exact hown5)
      have HS5 := Lib.hid (KeptP.grow hHeld hgrow (fun m e => (HO6.out.lt m e).1))
      clear hown5 hgrow hat hlt5 hHeld HO6 HE HN
      refine hK.out _ _ ?_ (fun hHeld => ?_)
      · exact HS5.out
      clear hK K
      try simp only [Act.put, List.setIfInBounds_toArray, List.set_cons_zero, List.set_cons_succ]
      refine wpAnyH_take (i := 22) (v := ?_) (by simp only [List.getElem?_toArray, List.getElem?_cons_succ, List.getElem?_cons_zero]; rfl) (by kernel_rfl) (by kernel_rfl) (by kernel_rfl) (fun _ _ _ h => h) (Or.inl ⟨by rfl, ?_⟩) (by assumption) ?_
      rotate_left
      · intro w hSw; (try dsimp only at hSw); go_simp; first | done | with_reducible rfl
      try simp only [Act.put, List.setIfInBounds_toArray, List.set_cons_zero, List.set_cons_succ]
      refine wpAnyH_done (by kernel_rfl) ?_ _
      refine NoPanic.normal ?_
      clear hHeld
      go_wp2_with fail
      go_roundw
      case rel => exact ⟨P ++ [(a + x * 32768, b + y * 32768, c + z * 32768)], k - 1, by simp, by simp; omega, by go_num, HOn, HNn, HS5⟩
      case measure => simp [intOf]; omega
    · obtain rfl : k = 0 := by omega
      go_wp2_with fail
      go_ret
      exact ⟨_, P, hp1, by omega, HN.out, rfl, owns_le HO.out (by omega), HS.out.2.2.2.2⟩
end Go.Proofs.Ytgnjconhbloocaa
