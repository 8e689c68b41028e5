/- Plain: rounded fractions. -/
import Derived.Test.YtppjjhnaahgmhaaRat1
set_option linter.unusedSimpArgs false
set_option linter.unusedVariables false
namespace Go.Proofs.Ytppjjhnaahgmhaa
theorem roundR_eq {a b c d m : Int} (h1 : okR a b = true) (h2 : okR c d = true) (hc : 1 ≤ c) (hm : modeB m = true) : roundR a b c d m = newS (rndS (a * d) (b * c) m * c) d := by
  rw [roundR, if_pos (by simp [h1, h2]), if_neg (by simp [hm]; omega)]
theorem roundR_err4 {a b c d m : Int} (h1 : okR a b = true) (h2 : okR c d = true) (hc : 1 ≤ c) (hm : modeB m = true) (he : (roundR a b c d m).2 ≠ 0) : (roundR a b c d m).2 = 4 := by
  rw [roundR_eq h1 h2 hc hm] at *
  rw [newS_err4 (by have := okR_bd h2; omega) he]
/-- what is rounded: a multiple k of the unit -/
theorem roundR_ok {a b c d m : Int} (h1 : okR a b = true) (h2 : okR c d = true) (hc : 1 ≤ c) (hm : modeB m = true) (he : (roundR a b c d m).2 = 0) :
    ∃ x y, roundR a b c d m = ((x, y), 0) ∧ okR x y = true ∧ x * d = rndS (a * d) (b * c) m * c * y := by
  rw [roundR_eq h1 h2 hc hm] at *
  have hd : 0 < d := by have := okR_bd h2; omega
  rcases newS_cases (n := rndS (a * d) (b * c) m * c) hd with e | ⟨x, y, e, e1, e2⟩
  · rw [e] at he; simp at he
  · exact ⟨x, y, e, e1, e2.symm⟩
theorem roundR_again {a b c d m x y : Int} (h1 : okR a b = true) (h2 : okR c d = true) (hc : 1 ≤ c) (hm : modeB m = true) (e : roundR a b c d m = ((x, y), 0)) (hxy : okR x y = true) (e2 : x * d = rndS (a * d) (b * c) m * c * y) : roundR x y c d m = ((x, y), 0) := by
  have hy : 0 < y := by have := okR_bd hxy; omega
  have e3 : x * d = rndS (a * d) (b * c) m * (y * c) := by rw [e2, Int.mul_assoc, Int.mul_comm c y]
  rw [roundR_eq hxy h2 hc hm, e3, rndS_exact m (Int.mul_pos hy (by omega)), ← roundR_eq h1 h2 hc hm, e]
theorem roundR_mono {a b a' b' c d m x y x' y' : Int} (h1 : okR a b = true) (h1' : okR a' b' = true) (h2 : okR c d = true) (hc : 1 ≤ c)
    (hxy : okR x y = true) (e2 : x * d = rndS (a * d) (b * c) m * c * y) (hxy' : okR x' y' = true) (e2' : x' * d = rndS (a' * d) (b' * c) m * c * y') : ¬ 0 < cmpR a b a' b' → cmpR x y x' y' ≤ 0 := by
  intro h
  have hb := okR_bd h1
  have hb' := okR_bd h1'
  have hd := okR_bd h2
  have hy := okR_bd hxy
  have hy' := okR_bd hxy'
  have hle : a * b' ≤ a' * b := by
    unfold cmpR at h
    rw [if_pos (by simp [h1, h1'])] at h
    split at h
    · omega
    · split at h <;> omega
  have hr : rndS (a * d) (b * c) m ≤ rndS (a' * d) (b' * c) m := by
    refine rndS_mono m (Int.mul_pos (by omega) (by omega)) (Int.mul_pos (by omega) (by omega)) ?_
    have e3 : a * d * (b' * c) = a * b' * (d * c) := by rw [Int.mul_assoc, Int.mul_left_comm d b' c, ← Int.mul_assoc]
    have e4 : a' * d * (b * c) = a' * b * (d * c) := by rw [Int.mul_assoc, Int.mul_left_comm d b c, ← Int.mul_assoc]
    rw [e3, e4]
    exact Int.mul_le_mul_of_nonneg_right hle (Int.mul_nonneg (by omega) (by omega))
  generalize rndS (a * d) (b * c) m = k at *
  generalize rndS (a' * d) (b' * c) m = k' at *
  have hfin : x * y' ≤ x' * y := by
    have g1 : x * y' * d = k * (c * (y * y')) := by rw [Int.mul_right_comm, e2, Int.mul_assoc, Int.mul_assoc]
    have g2 : x' * y * d = k' * (c * (y * y')) := by rw [Int.mul_right_comm, e2', Int.mul_assoc, Int.mul_assoc, Int.mul_comm y' y]
    have g3 : k * (c * (y * y')) ≤ k' * (c * (y * y')) := Int.mul_le_mul_of_nonneg_right hr (Int.mul_nonneg (by omega) (Int.mul_nonneg (by omega) (by omega)))
    rw [← g1, ← g2] at g3
    exact Int.le_of_mul_le_mul_right g3 (by omega)
  unfold cmpR
  split
  · split
    · omega
    · split <;> omega
  · omega
end Go.Proofs.Ytppjjhnaahgmhaa
