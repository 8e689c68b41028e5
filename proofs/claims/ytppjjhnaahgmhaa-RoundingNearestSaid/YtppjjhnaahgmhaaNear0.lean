/- Plain: the nearest multiples. -/
import Derived.Test.YtppjjhnaahgmhaaRnd1
set_option linter.unusedSimpArgs false
set_option linter.unusedVariables false
namespace Go.Proofs.Ytppjjhnaahgmhaa
theorem tri {u v p q k l : Int} (hk : 0 < k) (hl : 0 < l) (h1 : u * k = p * l) (h2 : v * k = q * l) : u < v ↔ p < q := by
  constructor
  · intro h
    have := Int.mul_lt_mul_of_pos_right h hk
    rw [h1, h2] at this
    exact Int.not_le.1 fun hle => absurd (Int.mul_le_mul_of_nonneg_right hle (Int.le_of_lt hl)) (by omega)
  · intro h
    have := Int.mul_lt_mul_of_pos_right h hl
    rw [← h1, ← h2] at this
    exact Int.not_le.1 fun hle => absurd (Int.mul_le_mul_of_nonneg_right hle (Int.le_of_lt hk)) (by omega)
structure NearQ (n den m Q R : Int) : Prop where
  lo : -den < R
  hi : R < den
  m2 : m = 2 → R ≤ 0
  m3 : m = 3 → 0 ≤ R
  m0 : m = 0 → R = 0 ∨ (R < 0 ↔ 0 < n)
  m1 : m = 1 → R = 0 ∨ (0 < R ↔ 0 < n)
  h1 : 4 ≤ m → 2 * R ≤ den
  h2 : 4 ≤ m → -den ≤ 2 * R
  t4 : m = 4 → (2 * R = den ∨ 2 * R = -den) → (0 < R ↔ 0 < n)
  t5 : m = 5 → (2 * R = den ∨ 2 * R = -den) → (R < 0 ↔ 0 < n)
  t6 : m = 6 → (2 * R = den ∨ 2 * R = -den) → Q % 2 = 0
theorem nearQ {n den m : Int} (hden : 1 ≤ den) (m0 : 0 ≤ m) (m6 : m ≤ 6) : NearQ n den m (rndS n den m) (rndS n den m * den - n) := by
  have e := Int.emod_add_mul_ediv n den
  have r0 := Int.emod_nonneg n (show den ≠ 0 by omega)
  have r1 := Int.emod_lt_of_pos n (show 0 < den by omega)
  unfold rndS
  generalize hlow : n / den = low at *
  generalize hr : n % den = r at *
  have q0 : low * den - n = -r := by rw [Int.mul_comm]; omega
  have q1 : (low + 1) * den - n = den - r := by rw [Int.add_mul, Int.mul_comm]; omega
  by_cases hz : r = 0
  · rw [if_pos hz, q0]
    subst hz
    exact ⟨by omega, by omega, by omega, by omega, by omega, by omega, by omega, by omega, by omega, by omega, by omega⟩
  · rw [if_neg hz]
    have hs : (cmpS r (den - r) = -1 ∧ 2 * r < den) ∨ (cmpS r (den - r) = 0 ∧ 2 * r = den) ∨ (cmpS r (den - r) = 1 ∧ den < 2 * r) := by
      unfold cmpS
      split
      · exact .inl ⟨rfl, by omega⟩
      · split
        · exact .inr (.inr ⟨rfl, by omega⟩)
        · exact .inr (.inl ⟨rfl, by omega⟩)
    generalize cmpS r (den - r) = s at *
    clear hlow hr e
    have hm : m = 0 ∨ m = 1 ∨ m = 2 ∨ m = 3 ∨ m = 4 ∨ m = 5 ∨ m = 6 := by omega
    by_cases hn : 0 < n
    all_goals rcases hm with rfl | rfl | rfl | rfl | rfl | rfl | rfl
    all_goals rcases hs with ⟨rfl, hs⟩ | ⟨rfl, hs⟩ | ⟨rfl, hs⟩
    all_goals (unfold upS; simp only [hn, decide_true, decide_false])
    all_goals (first
      | (simp only [Int.reduceEq, if_true, if_false, Bool.not_true, Bool.not_false, Int.reduceNeg, Int.reduceLT, decide_true, decide_false, ne_eq, not_true_eq_false, not_false_eq_true, Bool.false_eq_true]; (first | rw [q0] | rw [q1]); (constructor <;> omega))
      | skip)
    all_goals (by_cases hp : low % 2 = 0 <;> simp [hp, hn] <;> (first | rw [q0] | rw [q1]) <;> (constructor <;> omega))
end Go.Proofs.Ytppjjhnaahgmhaa
