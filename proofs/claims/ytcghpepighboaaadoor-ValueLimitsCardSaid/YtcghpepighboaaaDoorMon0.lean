/- Plain: rounding is monotone. -/
import Derived.Test.YtcghpepighboaaaDoorRnd0
set_option linter.unusedSimpArgs false
set_option linter.unusedVariables false
namespace Go.Proofs.YtcghpepighboaaaDoor
theorem rndS_exact {k d : Int} (m : Int) (hd : 0 < d) : rndS (k * d) d m = k := by
  rw [rndS, if_pos (Int.mul_emod_left k d), Int.mul_ediv_cancel k (by omega)]
theorem rndS_mono {n1 d1 n2 d2 : Int} (m : Int) (h1 : 0 < d1) (h2 : 0 < d2) (h : n1 * d2 ≤ n2 * d1) : rndS n1 d1 m ≤ rndS n2 d2 m := by
  have a1 := Int.emod_add_mul_ediv n1 d1
  have a2 := Int.emod_add_mul_ediv n2 d2
  have b1 := Int.emod_nonneg n1 (show d1 ≠ 0 by omega)
  have b2 := Int.emod_nonneg n2 (show d2 ≠ 0 by omega)
  have c1 := Int.emod_lt_of_pos n1 h1
  have c2 := Int.emod_lt_of_pos n2 h2
  unfold rndS
  generalize n1 / d1 = q1 at *
  generalize n2 / d2 = q2 at *
  generalize n1 % d1 = r1 at *
  generalize n2 % d2 = r2 at *
  subst a1 a2
  have e1 : (r1 + d1 * q1) * d2 = r1 * d2 + d1 * d2 * q1 := by rw [Int.add_mul, Int.mul_right_comm]
  have e2 : (r2 + d2 * q2) * d1 = r2 * d1 + d1 * d2 * q2 := by rw [Int.add_mul, Int.mul_comm d2 q2, Int.mul_comm d1 d2, Int.mul_assoc, Int.mul_comm q2]
  rw [e1, e2] at h
  have f1 : 0 ≤ r1 * d2 := Int.mul_nonneg b1 (by omega)
  have f2 : r2 * d1 < d1 * d2 := by rw [Int.mul_comm d1 d2]; exact Int.mul_lt_mul_of_pos_right c2 h1
  have hdd : 0 < d1 * d2 := Int.mul_pos h1 h2
  have hq : q1 ≤ q2 := by
    apply Int.not_lt.1
    intro hlt
    have : d1 * d2 * (q2 + 1) ≤ d1 * d2 * q1 := Int.mul_le_mul_of_nonneg_left (by omega) (by omega)
    rw [Int.mul_add] at this
    omega
  by_cases hlt : q1 < q2
  · have u1 : (if r1 = 0 then q1 else if upS q1 (cmpS r1 (d1 - r1)) (decide (0 < r1 + d1 * q1)) m = true then q1 + 1 else q1) ≤ q1 + 1 := by
      split
      · omega
      · split <;> omega
    have u2 : q2 ≤ (if r2 = 0 then q2 else if upS q2 (cmpS r2 (d2 - r2)) (decide (0 < r2 + d2 * q2)) m = true then q2 + 1 else q2) := by
      split
      · omega
      · split <;> omega
    omega
  · have hqq : q1 = q2 := by omega
    subst hqq
    have hr : r1 * d2 ≤ r2 * d1 := by omega
    by_cases hr1 : r1 = 0
    · rw [if_pos hr1]
      split
      · omega
      · split <;> omega
    · have hr2 : r2 ≠ 0 := by
        intro h0
        subst h0
        have : 0 < r1 * d2 := Int.mul_pos (by omega) h2
        omega
      rw [if_neg hr1, if_neg hr2]
      have pos : ∀ r d : Int, 0 < r → r < d → (decide (0 < r + d * q1) = decide (0 ≤ q1)) := fun r d h3 h4 => by
        by_cases hq0 : 0 ≤ q1
        · have := Int.mul_nonneg (show 0 ≤ d by omega) hq0
          rw [decide_eq_true hq0, decide_eq_true (by omega)]
        · have : d * q1 ≤ d * (-1) := Int.mul_le_mul_of_nonneg_left (by omega) (by omega)
          rw [decide_eq_false hq0, decide_eq_false (by omega)]
      rw [pos r1 d1 (by omega) c1, pos r2 d2 (by omega) c2]
      have hs : cmpS r1 (d1 - r1) ≤ cmpS r2 (d2 - r2) ∧ (cmpS r1 (d1 - r1) = -1 ∨ cmpS r1 (d1 - r1) = 0 ∨ cmpS r1 (d1 - r1) = 1) ∧ (cmpS r2 (d2 - r2) = -1 ∨ cmpS r2 (d2 - r2) = 0 ∨ cmpS r2 (d2 - r2) = 1) := by
        have key : ∀ x y : Int, x * d2 ≤ y * d1 → (d1 ≤ x → d2 ≤ y) ∧ (d1 < x → d2 < y) := fun x y hxy => by
          constructor
          · intro hx
            apply Int.not_lt.1
            intro hy
            have k1 : d1 * d2 ≤ x * d2 := Int.mul_le_mul_of_nonneg_right hx (by omega)
            have k2 : y * d1 < d2 * d1 := Int.mul_lt_mul_of_pos_right hy h1
            rw [Int.mul_comm d2 d1] at k2
            omega
          · intro hx
            apply Int.not_le.1
            intro hy
            have k1 : d1 * d2 < x * d2 := Int.mul_lt_mul_of_pos_right hx h2
            have k2 : y * d1 ≤ d2 * d1 := Int.mul_le_mul_of_nonneg_right hy (by omega)
            rw [Int.mul_comm d2 d1] at k2
            omega
        have := key (2 * r1) (2 * r2) (by rw [Int.mul_assoc, Int.mul_assoc]; omega)
        unfold cmpS
        split <;> split <;> (try split) <;> (try split) <;> omega
      obtain ⟨s0, s1, s2⟩ := hs
      generalize cmpS r1 (d1 - r1) = t1 at *
      generalize cmpS r2 (d2 - r2) = t2 at *
      have : upS q1 t1 (decide (0 ≤ q1)) m = true → upS q1 t2 (decide (0 ≤ q1)) m = true := by
        unfold upS
        rcases s1 with rfl | rfl | rfl <;> rcases s2 with rfl | rfl | rfl <;> first | omega | (intro hx; simpa using hx) | skip
        all_goals (by_cases a1 : m = 0 <;> by_cases a2 : m = 1 <;> by_cases a3 : m = 2 <;> by_cases a4 : m = 3 <;> simp_all)
      split
      · rename_i hu; rw [if_pos (this hu)]; omega
      · split <;> omega
theorem rndS_cong {n1 d1 n2 d2 : Int} (m : Int) (h1 : 0 < d1) (h2 : 0 < d2) (h : n1 * d2 = n2 * d1) : rndS n1 d1 m = rndS n2 d2 m :=
  Int.le_antisymm (rndS_mono m h1 h2 (Int.le_of_eq h)) (rndS_mono m h2 h1 (Int.le_of_eq h.symm))
end Go.Proofs.YtcghpepighboaaaDoor
