/- Plain: fractions in lowest terms. -/
import Derived.Test.YtcghpepighboaaaDoorMon0
set_option linter.unusedSimpArgs false
set_option linter.unusedVariables false
namespace Go.Proofs.YtcghpepighboaaaDoor

theorem nat_red {N D N' D' : Nat} (hD : 0 < D) (hD' : 0 < D') (h : N * D' = N' * D) : N / Nat.gcd N D = N' / Nat.gcd N' D' ∧ D / Nat.gcd N D = D' / Nat.gcd N' D' := by
  have e1 : Nat.gcd (N * D') (D * D') = Nat.gcd N D * D' := Nat.gcd_mul_right N D' D
  have e2 : Nat.gcd (N' * D) (D' * D) = Nat.gcd N' D' * D := Nat.gcd_mul_right N' D D'
  have e3 : Nat.gcd N D * D' = Nat.gcd N' D' * D := by rw [← e1, ← e2, h, Nat.mul_comm D D']
  have g1 : 0 < Nat.gcd N D := Nat.gcd_pos_of_pos_right _ hD
  have g2 : 0 < Nat.gcd N' D' := Nat.gcd_pos_of_pos_right _ hD'
  obtain ⟨a, ha⟩ := Nat.gcd_dvd_left N D
  obtain ⟨b, hb⟩ := Nat.gcd_dvd_right N D
  obtain ⟨a', ha'⟩ := Nat.gcd_dvd_left N' D'
  obtain ⟨b', hb'⟩ := Nat.gcd_dvd_right N' D'
  rw [Nat.div_eq_of_eq_mul_right g1 ha, Nat.div_eq_of_eq_mul_right g1 hb, Nat.div_eq_of_eq_mul_right g2 ha', Nat.div_eq_of_eq_mul_right g2 hb']
  generalize Nat.gcd N D = g at *
  generalize Nat.gcd N' D' = g' at *
  have hbb : b = b' := by
    rw [hb, hb'] at e3
    have : g * g' * b' = g * g' * b := by
      rw [Nat.mul_assoc, e3, ← Nat.mul_assoc, Nat.mul_comm g' g]
    exact (Nat.eq_of_mul_eq_mul_left (Nat.mul_pos g1 g2) this).symm
  refine ⟨?_, hbb⟩
  subst hbb
  have hb0 : 0 < b := Nat.pos_of_ne_zero fun h0 => by subst h0; simp at hb; omega
  rw [ha, ha', hb, hb'] at h
  have : g * g' * b * a = g * g' * b * a' := by
    calc g * g' * b * a = g * a * (g' * b) := by rw [Nat.mul_assoc g, Nat.mul_assoc g, Nat.mul_assoc g]; congr 1; rw [Nat.mul_comm]
      _ = g' * a' * (g * b) := h
      _ = g * g' * b * a' := by
        rw [Nat.mul_comm (g' * a') (g * b), ← Nat.mul_assoc (g * b) g' a', Nat.mul_right_comm g b g']
  exact Nat.eq_of_mul_eq_mul_left (Nat.mul_pos (Nat.mul_pos g1 g2) hb0) this

def redN (n d : Int) : Nat := n.natAbs / Nat.gcd n.natAbs d.natAbs
def redD (n d : Int) : Nat := d.natAbs / Nat.gcd n.natAbs d.natAbs
theorem newS_eq {n d : Int} (hd : 0 < d) : newS n d = if 1000000000000 < redN n d ∨ 1000000 < redD n d then ((0, 0), 4) else ((if n < 0 then -(redN n d : Int) else redN n d, (redD n d : Int)), 0) := by
  have e0 : (decide (d < 0)) = false := decide_eq_false (by omega)
  have e1 : (n.natAbs : Int) / ((Int.gcd (n.natAbs : Int) (d.natAbs : Int) : Nat) : Int) = (redN n d : Int) := by simp [redN, Int.gcd]
  have e2 : (d.natAbs : Int) / ((Int.gcd (n.natAbs : Int) (d.natAbs : Int) : Nat) : Int) = (redD n d : Int) := by simp [redD, Int.gcd]
  rw [newS, if_neg (by omega), fitS, fitG, e1, e2, e0]
  by_cases hc : 1000000000000 < redN n d ∨ 1000000 < redD n d
  · rw [if_pos hc, if_pos (by omega)]
  · rw [if_neg hc, if_neg (by omega)]
    by_cases hn : n < 0 <;> simp [hn]
theorem newS_cong {n d n' d' : Int} (hd : 0 < d) (hd' : 0 < d') (h : n * d' = n' * d) : newS n d = newS n' d' := by
  have hs : n < 0 ↔ n' < 0 := by
    constructor
    · intro hn
      have : n * d' < 0 := Int.mul_neg_of_neg_of_pos hn hd'
      rw [h] at this
      exact Int.not_le.1 fun h0 => absurd (Int.mul_nonneg h0 (by omega : 0 ≤ d)) (by omega)
    · intro hn
      have : n' * d < 0 := Int.mul_neg_of_neg_of_pos hn hd
      rw [← h] at this
      exact Int.not_le.1 fun h0 => absurd (Int.mul_nonneg h0 (by omega : 0 ≤ d')) (by omega)
  have hN : n.natAbs * d'.natAbs = n'.natAbs * d.natAbs := by rw [← Int.natAbs_mul, ← Int.natAbs_mul, h]
  obtain ⟨e1, e2⟩ := nat_red (show 0 < d.natAbs by omega) (show 0 < d'.natAbs by omega) hN
  rw [newS_eq hd, newS_eq hd']
  have r1 : redN n d = redN n' d' := e1
  have r2 : redD n d = redD n' d' := e2
  rw [r1, r2]
  by_cases hn : n < 0
  · have := hs.1 hn; simp [hn, this]
  · have : ¬ n' < 0 := fun h => hn (hs.2 h)
    simp [hn, this]
theorem newS_of_ok {a b : Int} (h : okR a b = true) : newS a b = ((a, b), 0) := by
  obtain ⟨h1, h2, h3, h4⟩ := okR_bd h
  have hg : Nat.gcd a.natAbs b.natAbs = 1 := okR_gcd h
  have e1 : redN a b = a.natAbs := by simp [redN, hg]
  have e2 : redD a b = b.natAbs := by simp [redD, hg]
  rw [newS_eq (by omega), e1, e2, if_neg (by omega)]
  by_cases ha : a < 0
  · rw [if_pos ha]; congr 2 <;> omega
  · rw [if_neg ha]; congr 2 <;> omega
/-- a fraction equal to one in lowest terms -/
theorem newS_to {n d a b : Int} (hd : 0 < d) (h : okR a b = true) (e : n * b = a * d) : newS n d = ((a, b), 0) := by
  rw [newS_cong hd (show 0 < b by have := okR_bd h; omega) e, newS_of_ok h]
theorem newS_cases {n d : Int} (hd : 0 < d) : newS n d = ((0, 0), 4) ∨ ∃ a b, newS n d = ((a, b), 0) ∧ okR a b = true ∧ n * b = a * d := by
  rw [newS_eq hd]
  split
  · exact .inl rfl
  · rename_i hc
    refine .inr ⟨_, _, rfl, ?_, ?_⟩
    · have g1 : 0 < Nat.gcd n.natAbs d.natAbs := Nat.gcd_pos_of_pos_right _ (by omega)
      obtain ⟨a, ha⟩ := Nat.gcd_dvd_left n.natAbs d.natAbs
      obtain ⟨b, hb⟩ := Nat.gcd_dvd_right n.natAbs d.natAbs
      have q1 : redN n d = a := Nat.div_eq_of_eq_mul_right g1 ha
      have q2 : redD n d = b := Nat.div_eq_of_eq_mul_right g1 hb
      have hcop : Nat.gcd a b = 1 := by
        have e : Nat.gcd n.natAbs d.natAbs * Nat.gcd a b = Nat.gcd n.natAbs d.natAbs * 1 := by
          rw [← Nat.gcd_mul_left, ← ha, ← hb, Nat.mul_one]
        exact Nat.eq_of_mul_eq_mul_left g1 e
      have hb0 : 0 < b := Nat.pos_of_ne_zero fun h0 => by subst h0; simp at hb; omega
      rw [q1, q2] at hc ⊢
      simp only [okR, decide_eq_true_eq]
      refine ⟨by omega, by omega, ?_, ?_, ?_⟩
      · split <;> omega
      · split <;> omega
      · split <;> simp [Int.gcd, hcop]
    · have g1 : 0 < Nat.gcd n.natAbs d.natAbs := Nat.gcd_pos_of_pos_right _ (by omega)
      obtain ⟨a, ha⟩ := Nat.gcd_dvd_left n.natAbs d.natAbs
      obtain ⟨b, hb⟩ := Nat.gcd_dvd_right n.natAbs d.natAbs
      have q1 : redN n d = a := Nat.div_eq_of_eq_mul_right g1 ha
      have q2 : redD n d = b := Nat.div_eq_of_eq_mul_right g1 hb
      rw [q1, q2]
      generalize Nat.gcd n.natAbs d.natAbs = g at *
      have hN : n.natAbs * b = a * d.natAbs := by rw [ha, hb, Nat.mul_comm g a, Nat.mul_assoc]
      have hI : (n.natAbs : Int) * b = a * (d.natAbs : Int) := by exact_mod_cast hN
      have hd' : (d.natAbs : Int) = d := by omega
      rw [hd'] at hI
      by_cases hn : n < 0
      · rw [if_pos hn]
        have : (n.natAbs : Int) = -n := by omega
        rw [this] at hI
        rw [Int.neg_mul] at hI ⊢
        omega
      · rw [if_neg hn]
        have : (n.natAbs : Int) = n := by omega
        rw [this] at hI; exact hI
theorem newS_spec {n d : Int} (hd : 0 < d) (h : (newS n d).2 = 0) : okR (newS n d).1.1 (newS n d).1.2 = true ∧ n * (newS n d).1.2 = (newS n d).1.1 * d := by
  rcases newS_cases hd with e | ⟨a, b, e, h1, h2⟩
  · rw [e] at h; simp at h
  · rw [e]; exact ⟨h1, h2⟩
theorem newS_err4 {n d : Int} (hd : 0 < d) (h : (newS n d).2 ≠ 0) : newS n d = ((0, 0), 4) := by
  rcases newS_cases hd with e | ⟨a, b, e, h1, h2⟩
  · exact e
  · rw [e] at h; simp at h

end Go.Proofs.YtcghpepighboaaaDoor
