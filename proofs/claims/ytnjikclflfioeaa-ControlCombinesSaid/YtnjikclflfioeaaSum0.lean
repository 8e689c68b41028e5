/- Plain: sums. -/
import Derived.Test.YtnjikclflfioeaaPvClo
set_option linter.unusedSimpArgs false
set_option linter.unusedVariables false
namespace Go.Proofs.Ytnjikclflfioeaa
def sumN : Nat → (Nat → Int) → Int
  | 0, _ => 0
  | n + 1, g => sumN n g + g n
theorem sumN_congr {n : Nat} {f g : Nat → Int} (h : ∀ i, i < n → f i = g i) : sumN n f = sumN n g := by
  induction n with
  | zero => rfl
  | succ n ih => rw [sumN, sumN, ih fun i hi => h i (by omega), h n (by omega)]
theorem sumN_mul (t : Int) (n : Nat) (g : Nat → Int) : sumN n (fun i => t * g i) = t * sumN n g := by
  induction n with
  | zero => simp [sumN]
  | succ n ih => rw [sumN, sumN, ih, Int.mul_add]
theorem sumN_add (n : Nat) (f g : Nat → Int) : sumN n (fun i => f i + g i) = sumN n f + sumN n g := by
  induction n with
  | zero => simp [sumN]
  | succ n ih => simp only [sumN, ih]; omega
theorem sumN_neg (n : Nat) (f : Nat → Int) : sumN n (fun i => - f i) = - sumN n f := by
  induction n with
  | zero => simp [sumN]
  | succ n ih => simp only [sumN, ih]; omega
theorem sumN_le {n : Nat} {f g : Nat → Int} (h : ∀ i, i < n → f i ≤ g i) : sumN n f ≤ sumN n g := by
  induction n with
  | zero => exact Int.le_refl _
  | succ n ih => simp only [sumN]; have := ih fun i hi => h i (by omega); have := h n (by omega); omega
theorem sumN_const (n : Nat) (c : Int) : sumN n (fun _ => c) = n * c := by
  induction n with
  | zero => simp [sumN]
  | succ n ih => rw [sumN, ih]; rw [Int.natCast_add, Int.add_mul]; simp
theorem sumN_nonneg {n : Nat} {f : Nat → Int} (h : ∀ i, i < n → 0 ≤ f i) : 0 ≤ sumN n f := by
  have := sumN_le (n := n) (f := fun _ => 0) (g := f) h
  rw [sumN_const] at this; omega
theorem sumN_one {n : Nat} {f : Nat → Int} (h : ∀ i, i < n → 0 ≤ f i) {i : Nat} (hi : i < n) : f i ≤ sumN n f := by
  induction n with
  | zero => omega
  | succ n ih =>
    simp only [sumN]
    have h0 := sumN_nonneg (n := n) fun i hi => h i (by omega)
    by_cases e : i = n
    · subst e; omega
    · have := ih (fun i hi => h i (by omega)) (by omega)
      have := h n (by omega); omega
/-- partial sums of what is not negative grow -/
theorem sumN_mono {n m : Nat} {f : Nat → Int} (h : ∀ i, i < m → 0 ≤ f i) (hn : n ≤ m) : sumN n f ≤ sumN m f := by
  induction m with
  | zero => have : n = 0 := by omega
            subst this; exact Int.le_refl _
  | succ m ih =>
    by_cases e : n = m + 1
    · subst e; exact Int.le_refl _
    · have := ih (fun i hi => h i (by omega)) (by omega)
      have := h m (by omega)
      simp only [sumN]; omega
end Go.Proofs.Ytnjikclflfioeaa
