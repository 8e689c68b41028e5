/- Plain: fractions, as numbers; wrapping. -/
import Derived.Test.YtcghpepighboaaaDoorPvG
import Derived.IntWalk
set_option linter.unusedSimpArgs false
set_option linter.unusedVariables false
namespace Go.Proofs.YtcghpepighboaaaDoor

theorem w64 {n : Int} (h1 : -9223372036854775808 ≤ n) (h2 : n ≤ 9223372036854775807) : IntKind.i64.wrap n = n := IntWalk.i64_in n ⟨h1, h2⟩
theorem wu64 {n : Int} (h1 : 0 ≤ n) (h2 : n < 18446744073709551616) : IntKind.u64.wrap n = n := by
  simp only [IntKind.wrap, IntKind.bits, IntKind.signed]; simp; omega
theorem wu64n {n : Int} (h1 : n < 0) (h2 : -18446744073709551616 ≤ n) : IntKind.u64.wrap n = n + 18446744073709551616 := by
  simp only [IntKind.wrap, IntKind.bits, IntKind.signed]; simp; omega

/-- a fraction in lowest terms and in range -/
def okR (n d : Int) : Bool := decide (1 ≤ d ∧ d ≤ 1000000 ∧ -1000000000000 ≤ n ∧ n ≤ 1000000000000 ∧ Int.gcd n d = 1)
theorem okR_bd {n d : Int} (h : okR n d = true) : 1 ≤ d ∧ d ≤ 1000000 ∧ -1000000000000 ≤ n ∧ n ≤ 1000000000000 := by
  simp only [okR, decide_eq_true_eq] at h; omega
theorem okR_gcd {n d : Int} (h : okR n d = true) : Int.gcd n d = 1 := by
  simp only [okR, decide_eq_true_eq] at h; omega

/-- a numerator, a denominator and an error -/
abbrev RE := (Int × Int) × Int
abbrev vr (n d : Int) : PV := .agg 2 (nthP [vi n, vi d])
abbrev vRE (r : RE) : PV := .tup 2 (nthP [vr r.1.1 r.1.2, vi r.2])

/-- the fraction of two magnitudes with a sign, in lowest terms, or the error; m is positive, g their greatest common divisor -/
def fitG (neg : Bool) (n m g : Int) : RE :=
  if 1000000000000 < n / g ∨ 1000000 < m / g then ((0, 0), 4) else ((if neg then -(n / g) else n / g, m / g), 0)
def fitS (neg : Bool) (n m : Int) : RE := fitG neg n m (Int.gcd n m)
/-- New -/
def newS (n d : Int) : RE := if d = 0 then ((0, 0), 5) else fitS (!(decide (n < 0) == decide (d < 0))) n.natAbs d.natAbs
def addR (a b c d : Int) : RE := if okR a b && okR c d then newS (a * d + c * b) (b * d) else ((0, 0), 1)
def subR (a b c d : Int) : RE := if okR a b && okR c d then newS (a * d - c * b) (b * d) else ((0, 0), 1)
def cmpR (a b c d : Int) : Int := if okR a b && okR c d then (if a * d < c * b then -1 else if c * b < a * d then 1 else 0) else 0

theorem gcd_step (a b : Nat) : Nat.gcd b (a % b) = Nat.gcd a b := by
  rw [Nat.gcd_comm a b, Nat.gcd_rec b a, Nat.gcd_comm]
theorem gcd_pos {n d : Int} (hd : 1 ≤ d) : 1 ≤ (Int.gcd n d : Int) := by
  have := Int.gcd_pos_of_ne_zero_right n (show d ≠ 0 by omega)
  omega
theorem mul_bd {a b : Int} (h1 : -1000000000000 ≤ a) (h2 : a ≤ 1000000000000) (h3 : 1 ≤ b) (h4 : b ≤ 1000000) : -1000000000000000000 ≤ a * b ∧ a * b ≤ 1000000000000000000 := by
  have hb : (0 : Int) ≤ b := by omega
  constructor
  · have e1 : -1000000000000 * b ≤ a * b := Int.mul_le_mul_of_nonneg_right h1 hb
    omega
  · have e1 : a * b ≤ 1000000000000 * b := Int.mul_le_mul_of_nonneg_right h2 hb
    omega
theorem mul_pos' {a b : Int} (h1 : 1 ≤ a) (h2 : a ≤ 1000000) (h3 : 1 ≤ b) (h4 : b ≤ 1000000) : 1 ≤ a * b ∧ a * b ≤ 1000000000000 := by
  have e1 : 1 * b ≤ a * b := Int.mul_le_mul_of_nonneg_right h1 (by omega)
  have e2 : a * b ≤ 1000000 * b := Int.mul_le_mul_of_nonneg_right h2 (by omega)
  omega
end Go.Proofs.YtcghpepighboaaaDoor
