/- Plain: fractions in lowest terms. -/
import Derived.Test.YtppjjhnaahgmhaaRnd0
set_option linter.unusedSimpArgs false
set_option linter.unusedVariables false
namespace Go.Proofs.Ytppjjhnaahgmhaa

theorem nat_red {N D N' D' : Nat} (hD : 0 < D) (hD' : 0 < D') (h : N * D' = N' * D) : N / Nat.gcd N D = N' / Nat.gcd N' D' ∧ D / Nat.gcd N D = D' / Nat.gcd N' D' := by
  have e1 : Nat.gcd (N * D') (D * D') = Nat.gcd N D * D' := Nat.gcd_mul_right N D' D
  have e2 : Nat.gcd (N' * D) (D' * D) = Nat.gcd N' D' * D := Nat.gcd_mul_right N' D D'
  have e3 : Nat.gcd N D * D' = Nat.gcd N' D' * D := by rw [← e1, ← e2, h, Nat.mul_comm D D']
  have g1 : 0 < Nat.gcd N D := Nat.gcd_pos_of_pos_right _ hD
  have g2 : 0 < Nat.gcd N' D' := Nat.gcd_pos_of_pos_right _ hD'
  obtain ⟨a, ha⟩ := Nat.gcd_dvd_left N D
  obtain ⟨b, hb⟩ := Nat.gcd_dvd_right N D
  obtain ⟨a', ha'⟩ := Nat.gcd_dvd_left N' D'
  obtain ⟨b', hb'⟩ := Nat.gcd_dvd_right N' D'
  rw [Nat.div_eq_of_eq_mul_right g1 ha, Nat.div_eq_of_eq_mul_right g1 hb, Nat.div_eq_of_eq_mul_right g2 ha', Nat.div_eq_of_eq_mul_right g2 hb']
  generalize Nat.gcd N D = g at *
  generalize Nat.gcd N' D' = g' at *
  have hbb : b = b' := by
    rw [hb, hb'] at e3
    have : g * g' * b' = g * g' * b := by
      rw [Nat.mul_assoc, e3, ← Nat.mul_assoc, Nat.mul_comm g' g]
    exact (Nat.eq_of_mul_eq_mul_left (Nat.mul_pos g1 g2) this).symm
  refine ⟨?_, hbb⟩
  subst hbb
  have hb0 : 0 < b := Nat.pos_of_ne_zero fun h0 => by subst h0; simp at hb; omega
  rw [ha, ha', hb, hb'] at h
  have : g * g' * b * a = g * g' * b * a' := by
    calc g * g' * b * a = g * a * (g' * b) := by rw [Nat.mul_assoc g, Nat.mul_assoc g, Nat.mul_assoc g]; congr 1; rw [Nat.mul_comm]
      _ = g' * a' * (g * b) := h
      _ = g * g' * b * a' := by
        rw [Nat.mul_comm (g' * a') (g * b), ← Nat.mul_assoc (g * b) g' a', Nat.mul_right_comm g b g']
  exact Nat.eq_of_mul_eq_mul_left (Nat.mul_pos (Nat.mul_pos g1 g2) hb0) this

def redN (n d : Int) : Nat := n.natAbs / Nat.gcd n.natAbs d.natAbs
def redD (n d : Int) : Nat := d.natAbs / Nat.gcd n.natAbs d.natAbs
theorem newS_eq {n d : Int} (hd : 0 < d) : newS n d = if 1000000000000 < redN n d ∨ 1000000 < redD n d then ((0, 0), 4) else ((if n < 0 then -(redN n d : Int) else redN n d, (redD n d : Int)), 0) := by
  have e0 : (decide (d < 0)) = false := decide_eq_false (by omega)
  have e1 : (n.natAbs : Int) / ((Int.gcd (n.natAbs : Int) (d.natAbs : Int) : Nat) : Int) = (redN n d : Int) := by simp [redN, Int.gcd]
  have e2 : (d.natAbs : Int) / ((Int.gcd (n.natAbs : Int) (d.natAbs : Int) : Nat) : Int) = (redD n d : Int) := by simp [redD, Int.gcd]
  rw [newS, if_neg (by omega), fitS, fitG, e1, e2, e0]
  by_cases hc : 1000000000000 < redN n d ∨ 1000000 < redD n d
  · rw [if_pos hc, if_pos (by omega)]
  · rw [if_neg hc, if_neg (by omega)]
    by_cases hn : n < 0 <;> simp [hn]
theorem newS_cong {n d n' d' : Int} (hd : 0 < d) (hd' : 0 < d') (h : n * d' = n' * d) : newS n d = newS n' d' := by
  have hs : n < 0 ↔ n' < 0 := by
    constructor
    · intro hn
      have : n * d' < 0 := Int.mul_neg_of_neg_of_pos hn hd'
      rw [h] at this
      exact Int.not_le.1 fun h0 => absurd (Int.mul_nonneg h0 (by omega : 0 ≤ d)) (by omega)
    · intro hn
      have : n' * d < 0 := Int.mul_neg_of_neg_of_pos hn hd
      rw [← h] at this
      exact Int.not_le.1 fun h0 => absurd (Int.mul_nonneg h0 (by omega : 0 ≤ d')) (by omega)
  have hN : n.natAbs * d'.natAbs = n'.natAbs * d.natAbs := by rw [← Int.natAbs_mul, ← Int.natAbs_mul, h]
  obtain ⟨e1, e2⟩ := nat_red (show 0 < d.natAbs by omega) (show 0 < d'.natAbs by omega) hN
  rw [newS_eq hd, newS_eq hd']
  have r1 : redN n d = redN n' d' := e1
  have r2 : redD n d = redD n' d' := e2
  rw [r1, r2]
  by_cases hn : n < 0
  · have := hs.1 hn; simp [hn, this]
  · have : ¬ n' < 0 := fun h => hn (hs.2 h)
    simp [hn, this]
theorem newS_of_ok {a b : Int} (h : okR a b = true) : newS a b = ((a, b), 0) := by
  obtain ⟨h1, h2, h3, h4⟩ := okR_bd h
  have hg : Nat.gcd a.natAbs b.natAbs = 1 := okR_gcd h
  have e1 : redN a b = a.natAbs := by simp [redN, hg]
  have e2 : redD a b = b.natAbs := by simp [redD, hg]
  rw [newS_eq (by omega), e1, e2, if_neg (by omega)]
  by_cases ha : a < 0
  · rw [if_pos ha]; congr 2 <;> omega
  · rw [if_neg ha]; congr 2 <;> omega
/-- a fraction equal to one in lowest terms -/
theorem newS_to {n d a b : Int} (hd : 0 < d) (h : okR a b = true) (e : n * b = a * d) : newS n d = ((a, b), 0) := by
  rw [newS_cong hd (show 0 < b by have := okR_bd h; omega) e, newS_of_ok h]
theorem newS_cases {n d : Int} (hd : 0 < d) : newS n d = ((0, 0), 4) ∨ ∃ a b, newS n d = ((a, b), 0) ∧ okR a b = true ∧ n * b = a * d := by
  rw [newS_eq hd]
  split
  · exact .inl rfl
  · rename_i hc
    refine .inr ⟨_, _, rfl, ?_, ?_⟩
    · have g1 : 0 < Nat.gcd n.natAbs d.natAbs := Nat.gcd_pos_of_pos_right _ (by omega)
      obtain ⟨a, ha⟩ := Nat.gcd_dvd_left n.natAbs d.natAbs
      obtain ⟨b, hb⟩ := Nat.gcd_dvd_right n.natAbs d.natAbs
      have q1 : redN n d = a := Nat.div_eq_of_eq_mul_right g1 ha
      have q2 : redD n d = b := Nat.div_eq_of_eq_mul_right g1 hb
      have hcop : Nat.gcd a b = 1 := by
        have e : Nat.gcd n.natAbs d.natAbs * Nat.gcd a b = Nat.gcd n.natAbs d.natAbs * 1 := by
          rw [← Nat.gcd_mul_left, ← ha, ← hb, Nat.mul_one]
        exact Nat.eq_of_mul_eq_mul_left g1 e
      have hb0 : 0 < b := Nat.pos_of_ne_zero fun h0 => by subst h0; simp at hb; omega
      rw [q1, q2] at hc ⊢
      simp only [okR, decide_eq_true_eq]
      refine ⟨by omega, by omega, ?_, ?_, ?_⟩
      · split <;> omega
      · split <;> omega
      · split <;> simp [Int.gcd, hcop]
    · have g1 : 0 < Nat.gcd n.natAbs d.natAbs := Nat.gcd_pos_of_pos_right _ (by omega)
      obtain ⟨a, ha⟩ := Nat.gcd_dvd_left n.natAbs d.natAbs
      obtain ⟨b, hb⟩ := Nat.gcd_dvd_right n.natAbs d.natAbs
      have q1 : redN n d = a := Nat.div_eq_of_eq_mul_right g1 ha
      have q2 : redD n d = b := Nat.div_eq_of_eq_mul_right g1 hb
      rw [q1, q2]
      generalize Nat.gcd n.natAbs d.natAbs = g at *
      have hN : n.natAbs * b = a * d.natAbs := by rw [ha, hb, Nat.mul_comm g a, Nat.mul_assoc]
      have hI : (n.natAbs : Int) * b = a * (d.natAbs : Int) := by exact_mod_cast hN
      have hd' : (d.natAbs : Int) = d := by omega
      rw [hd'] at hI
      by_cases hn : n < 0
      · rw [if_pos hn]
        have : (n.natAbs : Int) = -n := by omega
        rw [this] at hI
        rw [Int.neg_mul] at hI ⊢
        omega
      · rw [if_neg hn]
        have : (n.natAbs : Int) = n := by omega
        rw [this] at hI; exact hI
theorem newS_spec {n d : Int} (hd : 0 < d) (h : (newS n d).2 = 0) : okR (newS n d).1.1 (newS n d).1.2 = true ∧ n * (newS n d).1.2 = (newS n d).1.1 * d := by
  rcases newS_cases hd with e | ⟨a, b, e, h1, h2⟩
  · rw [e] at h; simp at h
  · rw [e]; exact ⟨h1, h2⟩
theorem newS_err4 {n d : Int} (hd : 0 < d) (h : (newS n d).2 ≠ 0) : newS n d = ((0, 0), 4) := by
  rcases newS_cases hd with e | ⟨a, b, e, h1, h2⟩
  · exact e
  · rw [e] at h; simp at h

theorem rndS_exact {k d : Int} (m : Int) (hd : 0 < d) : rndS (k * d) d m = k := by
  rw [rndS, if_pos (Int.mul_emod_left k d), Int.mul_ediv_cancel k (by omega)]
theorem rndS_mono {n1 d1 n2 d2 : Int} (m : Int) (h1 : 0 < d1) (h2 : 0 < d2) (h : n1 * d2 ≤ n2 * d1) : rndS n1 d1 m ≤ rndS n2 d2 m := by
  have a1 := Int.emod_add_mul_ediv n1 d1
  have a2 := Int.emod_add_mul_ediv n2 d2
  have b1 := Int.emod_nonneg n1 (show d1 ≠ 0 by omega)
  have b2 := Int.emod_nonneg n2 (show d2 ≠ 0 by omega)
  have c1 := Int.emod_lt_of_pos n1 h1
  have c2 := Int.emod_lt_of_pos n2 h2
  unfold rndS
  generalize n1 / d1 = q1 at *
  generalize n2 / d2 = q2 at *
  generalize n1 % d1 = r1 at *
  generalize n2 % d2 = r2 at *
  subst a1 a2
  have e1 : (r1 + d1 * q1) * d2 = r1 * d2 + d1 * d2 * q1 := by rw [Int.add_mul, Int.mul_right_comm]
  have e2 : (r2 + d2 * q2) * d1 = r2 * d1 + d1 * d2 * q2 := by rw [Int.add_mul, Int.mul_comm d2 q2, Int.mul_comm d1 d2, Int.mul_assoc, Int.mul_comm q2]
  rw [e1, e2] at h
  have f1 : 0 ≤ r1 * d2 := Int.mul_nonneg b1 (by omega)
  have f2 : r2 * d1 < d1 * d2 := by rw [Int.mul_comm d1 d2]; exact Int.mul_lt_mul_of_pos_right c2 h1
  have hdd : 0 < d1 * d2 := Int.mul_pos h1 h2
  have hq : q1 ≤ q2 := by
    apply Int.not_lt.1
    intro hlt
    have : d1 * d2 * (q2 + 1) ≤ d1 * d2 * q1 := Int.mul_le_mul_of_nonneg_left (by omega) (by omega)
    rw [Int.mul_add] at this
    omega
  by_cases hlt : q1 < q2
  · have u1 : (if r1 = 0 then q1 else if upS q1 (cmpS r1 (d1 - r1)) (decide (0 < r1 + d1 * q1)) m = true then q1 + 1 else q1) ≤ q1 + 1 := by
      split
      · omega
      · split <;> omega
    have u2 : q2 ≤ (if r2 = 0 then q2 else if upS q2 (cmpS r2 (d2 - r2)) (decide (0 < r2 + d2 * q2)) m = true then q2 + 1 else q2) := by
      split
      · omega
      · split <;> omega
    omega
  · have hqq : q1 = q2 := by omega
    subst hqq
    have hr : r1 * d2 ≤ r2 * d1 := by omega
    by_cases hr1 : r1 = 0
    · rw [if_pos hr1]
      split
      · omega
      · split <;> omega
    · have hr2 : r2 ≠ 0 := by
        intro h0
        subst h0
        have : 0 < r1 * d2 := Int.mul_pos (by omega) h2
        omega
      rw [if_neg hr1, if_neg hr2]
      have pos : ∀ r d : Int, 0 < r → r < d → (decide (0 < r + d * q1) = decide (0 ≤ q1)) := fun r d h3 h4 => by
        by_cases hq0 : 0 ≤ q1
        · have := Int.mul_nonneg (show 0 ≤ d by omega) hq0
          rw [decide_eq_true hq0, decide_eq_true (by omega)]
        · have : d * q1 ≤ d * (-1) := Int.mul_le_mul_of_nonneg_left (by omega) (by omega)
          rw [decide_eq_false hq0, decide_eq_false (by omega)]
      rw [pos r1 d1 (by omega) c1, pos r2 d2 (by omega) c2]
      have hs : cmpS r1 (d1 - r1) ≤ cmpS r2 (d2 - r2) ∧ (cmpS r1 (d1 - r1) = -1 ∨ cmpS r1 (d1 - r1) = 0 ∨ cmpS r1 (d1 - r1) = 1) ∧ (cmpS r2 (d2 - r2) = -1 ∨ cmpS r2 (d2 - r2) = 0 ∨ cmpS r2 (d2 - r2) = 1) := by
        have key : ∀ x y : Int, x * d2 ≤ y * d1 → (d1 ≤ x → d2 ≤ y) ∧ (d1 < x → d2 < y) := fun x y hxy => by
          constructor
          · intro hx
            apply Int.not_lt.1
            intro hy
            have k1 : d1 * d2 ≤ x * d2 := Int.mul_le_mul_of_nonneg_right hx (by omega)
            have k2 : y * d1 < d2 * d1 := Int.mul_lt_mul_of_pos_right hy h1
            rw [Int.mul_comm d2 d1] at k2
            omega
          · intro hx
            apply Int.not_le.1
            intro hy
            have k1 : d1 * d2 < x * d2 := Int.mul_lt_mul_of_pos_right hx h2
            have k2 : y * d1 ≤ d2 * d1 := Int.mul_le_mul_of_nonneg_right hy (by omega)
            rw [Int.mul_comm d2 d1] at k2
            omega
        have := key (2 * r1) (2 * r2) (by rw [Int.mul_assoc, Int.mul_assoc]; omega)
        unfold cmpS
        split <;> split <;> (try split) <;> (try split) <;> omega
      obtain ⟨s0, s1, s2⟩ := hs
      generalize cmpS r1 (d1 - r1) = t1 at *
      generalize cmpS r2 (d2 - r2) = t2 at *
      have : upS q1 t1 (decide (0 ≤ q1)) m = true → upS q1 t2 (decide (0 ≤ q1)) m = true := by
        unfold upS
        rcases s1 with rfl | rfl | rfl <;> rcases s2 with rfl | rfl | rfl <;> first | omega | (intro hx; simpa using hx) | skip
        all_goals (by_cases a1 : m = 0 <;> by_cases a2 : m = 1 <;> by_cases a3 : m = 2 <;> by_cases a4 : m = 3 <;> simp_all)
      split
      · rename_i hu; rw [if_pos (this hu)]; omega
      · split <;> omega
theorem rndS_cong {n1 d1 n2 d2 : Int} (m : Int) (h1 : 0 < d1) (h2 : 0 < d2) (h : n1 * d2 = n2 * d1) : rndS n1 d1 m = rndS n2 d2 m :=
  Int.le_antisymm (rndS_mono m h1 h2 (Int.le_of_eq h)) (rndS_mono m h2 h1 (Int.le_of_eq h.symm))
end Go.Proofs.Ytppjjhnaahgmhaa
