/- Plain mathematics of intervals: what the functions on intervals compute. No program in sight. -/
import Derived.Test.YtgnjconhbloocaaMath
namespace Go.Proofs.Ytgnjconhbloocaa.Fx

/-- Whether two numbers are the ends of a valid interval. -/
def vb (l h : Int) : Bool := decide (-2147483648 ≤ l ∧ l ≤ h ∧ h ≤ 2147483648)
theorem vb_true {l h : Int} : vb l h = true ↔ (-2147483648 ≤ l ∧ l ≤ h ∧ h ≤ 2147483648) := by unfold vb; simp
theorem vb_false {l h : Int} : vb l h = false ↔ ¬ (-2147483648 ≤ l ∧ l ≤ h ∧ h ≤ 2147483648) := by unfold vb; simp

def v2 (a b c d : Int) : Bool := vb a b && vb c d
theorem v2_true {a b c d : Int} : v2 a b c d = true ↔ vb a b = true ∧ vb c d = true := by unfold v2; simp

def addLo (a b c d : Int) : Int := if v2 a b c d then clamp (a + c) else 0
def addHi (a b c d : Int) : Int := if v2 a b c d then clamp (b + d) else 0
def subLo (a b c d : Int) : Int := if v2 a b c d then clamp (a - d) else 0
def subHi (a b c d : Int) : Int := if v2 a b c d then clamp (b - c) else 0
def hullLo (a b c d : Int) : Int := if v2 a b c d then min a c else 0
def hullHi (a b c d : Int) : Int := if v2 a b c d then max b d else 0
def min4 (p q r s : Int) : Int := min (min (min p q) r) s
def max4 (p q r s : Int) : Int := max (max (max p q) r) s
def mulLo (a b c d : Int) : Int := if v2 a b c d then clamp (min4 (a * c) (a * d) (b * c) (b * d) / 65536) else 0
def mulHi (a b c d : Int) : Int := if v2 a b c d then clamp (ce (max4 (a * c) (a * d) (b * c) (b * d)) 65536) else 0
def negLo (a b : Int) : Int := if vb a b then -b else 0
def negHi (a b : Int) : Int := if vb a b then -a else 0
def scaleLo (a b k : Int) : Int := if vb a b then clamp (min (a * clamp k) (b * clamp k)) else 0
def scaleHi (a b k : Int) : Int := if vb a b then clamp (max (a * clamp k) (b * clamp k)) else 0
def sqLeast (a b : Int) : Int := if a ≤ 0 ∧ 0 ≤ b then 0 else min (a * a) (b * b)
def squareLo (a b : Int) : Int := if vb a b then clamp (sqLeast a b / 65536) else 0
def squareHi (a b : Int) : Int := if vb a b then clamp (ce (max (a * a) (b * b)) 65536) else 0
def sqrtLo (a b : Int) : Int := if vb a b then sqrtDown a else 0
def sqrtHi (a b : Int) : Int := if vb a b then sqrtUp b else 0
def meetOk (a b c d : Int) : Bool := v2 a b c d && decide (max a c ≤ min b d)
def meetLo (a b c d : Int) : Int := if meetOk a b c d then max a c else 0
def meetHi (a b c d : Int) : Int := if meetOk a b c d then min b d else 0
def hasB (a b x : Int) : Bool := vb a b && decide (a ≤ x) && decide (x ≤ b)
def withinB (a b c d : Int) : Bool := v2 a b c d && decide (c ≤ a) && decide (b ≤ d)
def mid (a b : Int) : Int := if vb a b then (a + b) / 2 else 0
def width (a b : Int) : Int := if vb a b then b - a else 0

theorem ite_yes {c : Bool} (h : c = true) (x : Int) : x = (if c then x else 0) := by rw [h]; rfl
theorem ite_no {c : Bool} (h : c = false) (x : Int) : 0 = (if c then x else 0) := by rw [h]; rfl

/-- A product of two ends of valid intervals is at most 2^62. -/
theorem prod_bd (a c : Int) (a0 : -2147483648 ≤ a) (a1 : a ≤ 2147483648) (c0 : -2147483648 ≤ c) (c1 : c ≤ 2147483648) : -4611686018427387904 ≤ a * c ∧ a * c ≤ 4611686018427387904 := by
  have h := mul_bd 2147483648 a c 2147483648 (by omega) (by omega) (by omega) (by omega)
  omega

theorem min4_bd (p q r s : Int) (hp : -4611686018427387904 ≤ p ∧ p ≤ 4611686018427387904) (hq : -4611686018427387904 ≤ q ∧ q ≤ 4611686018427387904) (hr : -4611686018427387904 ≤ r ∧ r ≤ 4611686018427387904) (hs : -4611686018427387904 ≤ s ∧ s ≤ 4611686018427387904) : -4611686018427387904 ≤ min4 p q r s ∧ min4 p q r s ≤ 4611686018427387904 := by unfold min4; omega
theorem max4_bd (p q r s : Int) (hp : -4611686018427387904 ≤ p ∧ p ≤ 4611686018427387904) (hq : -4611686018427387904 ≤ q ∧ q ≤ 4611686018427387904) (hr : -4611686018427387904 ≤ r ∧ r ≤ 4611686018427387904) (hs : -4611686018427387904 ≤ s ∧ s ≤ 4611686018427387904) : -4611686018427387904 ≤ max4 p q r s ∧ max4 p q r s ≤ 4611686018427387904 := by unfold max4; omega

end Go.Proofs.Ytgnjconhbloocaa.Fx
