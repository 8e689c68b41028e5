/- The calendar of months, plain: months and their first days. -/
import Derived.Test.YtpaeomgnmimjoaaDoorCal2
set_option linter.unusedSimpArgs false
set_option linter.unusedVariables false
set_option maxRecDepth 100000
namespace Go.Proofs.YtpaeomgnmimjoaaDoor
theorem remL_1 (y : Int) : remL y 1 = 365 + dl y := rfl
theorem remL_13 (y : Int) : remL y 13 = 0 := rfl
theorem dl_bd (y : Int) : 0 ≤ dl y ∧ dl y ≤ 1 := by unfold dl; split <;> omega
theorem cumS_rem (y : Int) : ∀ k : Nat, k ≤ 12 → cumS y k + remL y (k + 1) = 365 + dl y
  | 0, _ => by rw [cumS, show (((0 : Nat) : Int) + 1) = 1 from rfl, remL_1]; omega
  | k + 1, h => by
    have h1 := cumS_rem y k (by omega)
    have h2 := (rem_step y (m := (k : Int) + 1) (by omega) (by omega)).1
    rw [cumS, show (((k + 1 : Nat) : Int) + 1) = (k : Int) + 1 + 1 by omega]; omega
theorem cumS_12 (y : Int) : cumS y 12 = 365 + dl y := by
  have := cumS_rem y 12 (by omega)
  rw [show (((12 : Nat) : Int) + 1) = 13 from rfl, remL_13] at this
  omega
theorem monF_sp (y : Int) : ∀ (n : Nat) (r m : Int), 1 ≤ m → m ≤ 12 → 13 ≤ m + n → 0 ≤ r → r < remL y m →
    0 ≤ (monF y n r m).1 ∧ (monF y n r m).1 < lenS y (monF y n r m).2 ∧ 1 ≤ (monF y n r m).2 ∧ (monF y n r m).2 ≤ 12 ∧ (monF y n r m).1 + cumS y ((monF y n r m).2.toNat - 1) = r + cumS y (m.toNat - 1)
  | 0, r, m, h1, h2, h3, h4, h5 => by omega
  | n + 1, r, m, h1, h2, h3, h4, h5 => by
    have hs := (rem_step y h1 h2).1
    unfold monF
    split
    · rename_i hc
      have hm : m ≠ 12 := by
        rintro rfl
        rw [show (12 : Int) + 1 = 13 from rfl, remL_13] at hs
        omega
      have ih := monF_sp y n (r - lenS y m) (m + 1) (by omega) (by omega) (by omega) (by omega) (by omega)
      have e : cumS y ((m + 1).toNat - 1) = cumS y (m.toNat - 1) + lenS y m := by
        rw [show (m + 1).toNat - 1 = (m.toNat - 1) + 1 by omega, cumS]
        rw [show (((m.toNat - 1 : Nat) : Int) + 1) = m by omega]
      rw [e] at ih
      omega
    · dsimp only; omega
theorem begS_mono {y : Int} (h1 : 1970 ≤ y) : ∀ k : Nat, y + k ≤ 9000 → begS y ≤ begS (y + k)
  | 0, _ => by simp
  | k + 1, h => by
    have := begS_mono h1 k (by omega)
    have h2 := beg_step (y := y + k) (by omega) (by omega)
    have h3 := dl_bd (y + k)
    rw [show y + ((k + 1 : Nat) : Int) = y + k + 1 by omega]; omega
theorem beg_2200 : begS 2200 = 84006 := by decide +kernel
/-- what a date is -/
structure DateOk (d : Int) : Prop where
  sum : firstS (monthS d) + (dateS d).2.2 - 1 = d
  lo : 1 ≤ (dateS d).2.2
  hi : (dateS d).2.2 ≤ mlenS (monthS d)
  m0 : 0 ≤ monthS d
  m1 : monthS d ≤ 2759
theorem date_ok {d : Int} (h0 : 0 ≤ d) (h1 : d ≤ 84005) : DateOk d := by
  obtain ⟨y1, y2, y3, y4⟩ := yearS_spec h0 (by omega : d ≤ 90000)
  have hb := beg_step y3 (by omega)
  have hd := dl_bd (yearS d)
  have hs := monF_sp (yearS d) 13 (d - begS (yearS d)) 1 (by omega) (by omega) (by omega) (by omega) (by rw [remL_1]; omega)
  have hy : yearS d ≤ 2199 := by
    by_cases hc : yearS d ≤ 2199
    · exact hc
    · exfalso
      have := begS_mono (y := 2200) (by omega) (yearS d - 2200).toNat (by omega)
      rw [show (2200 : Int) + ((yearS d - 2200).toNat : Nat) = yearS d by omega, beg_2200] at this
      omega
  have e1 : (dateS d).1 = yearS d := rfl
  have e2 : (dateS d).2.1 = (monF (yearS d) 13 (d - begS (yearS d)) 1).2 := rfl
  have e3 : (dateS d).2.2 = (monF (yearS d) 13 (d - begS (yearS d)) 1).1 + 1 := rfl
  rw [← e2] at hs
  generalize hp : (monF (yearS d) 13 (d - begS (yearS d)) 1).1 = p at *
  have t1 : (monthS d).tdiv 12 = yearS d - 1970 := by unfold monthS; rw [e1, Int.tdiv_eq_ediv_of_nonneg (by omega)]; omega
  have t2 : (monthS d).tmod 12 = (dateS d).2.1 - 1 := by unfold monthS; rw [e1, Int.tmod_eq_emod_of_nonneg (by omega)]; omega
  have c0 : cumS (yearS d) ((1 : Int).toNat - 1) = 0 := rfl
  refine ⟨?_, by omega, ?_, by unfold monthS; omega, by unfold monthS; omega⟩
  · unfold firstS
    rw [t1, t2, e3, show 1970 + (yearS d - 1970) = yearS d by omega, show (dateS d).2.1 - 1 + 1 = (dateS d).2.1 by omega]
    omega
  · unfold mlenS
    rw [t1, t2, e3, show 1970 + (yearS d - 1970) = yearS d by omega, show (dateS d).2.1 - 1 + 1 = (dateS d).2.1 by omega]
    omega
theorem mlen_bd {n : Int} (h0 : 0 ≤ n) (h1 : n ≤ 2759) : 28 ≤ mlenS n ∧ mlenS n ≤ 31 := by
  obtain ⟨b1, b2, b3, b4⟩ := m12 h0 h1
  have := rem_step (1970 + n.tdiv 12) (m := n.tmod 12 + 1) (by omega) (by omega)
  unfold mlenS; omega
theorem first_succ {n : Int} (h0 : 0 ≤ n) (h1 : n ≤ 2759) : firstS (n + 1) = firstS n + mlenS n := by
  obtain ⟨b1, b2, b3, b4⟩ := m12 h0 h1
  unfold firstS mlenS
  have q1 : n.tdiv 12 = n / 12 := Int.tdiv_eq_ediv_of_nonneg h0
  have q2 : n.tmod 12 = n % 12 := Int.tmod_eq_emod_of_nonneg h0
  have q3 : (n + 1).tdiv 12 = (n + 1) / 12 := Int.tdiv_eq_ediv_of_nonneg (by omega)
  have q4 : (n + 1).tmod 12 = (n + 1) % 12 := Int.tmod_eq_emod_of_nonneg (by omega)
  rw [q1, q2] at *
  rw [q3, q4]
  by_cases hc : n % 12 = 11
  · rw [show (n + 1) / 12 = n / 12 + 1 by omega, show (n + 1) % 12 = 0 by omega, hc]
    rw [show 1970 + (n / 12 + 1) = (1970 + n / 12) + 1 by omega, beg_step (by omega) (by omega)]
    have h12 := cumS_12 (1970 + n / 12)
    have e0 : cumS (1970 + n / 12 + 1) (((0 : Int) + 1).toNat - 1) = 0 := rfl
    have e1 : cumS (1970 + n / 12) 12 = cumS (1970 + n / 12) (((11 : Int) + 1).toNat - 1) + lenS (1970 + n / 12) (11 + 1) := rfl
    omega
  · rw [show (n + 1) / 12 = n / 12 by omega, show (n + 1) % 12 = n % 12 + 1 by omega]
    have e1 : cumS (1970 + n / 12) ((n % 12 + 1 + 1).toNat - 1) = cumS (1970 + n / 12) ((n % 12 + 1).toNat - 1) + lenS (1970 + n / 12) (n % 12 + 1) := by
      rw [show (n % 12 + 1 + 1).toNat - 1 = ((n % 12 + 1).toNat - 1) + 1 by omega, cumS]
      rw [show ((((n % 12 + 1).toNat - 1 : Nat) : Int) + 1) = n % 12 + 1 by omega]
    omega
theorem first_mono {n : Int} (h0 : 0 ≤ n) : ∀ k : Nat, n + k ≤ 2760 → firstS n + 28 * k ≤ firstS (n + k)
  | 0, _ => by simp
  | k + 1, h => by
    have h1 := first_mono h0 k (by omega)
    have h2 := first_succ (n := n + k) (by omega) (by omega)
    have h3 := mlen_bd (n := n + k) (by omega) (by omega)
    rw [show n + ((k + 1 : Nat) : Int) = n + k + 1 by omega]; omega
theorem first_lt {a b : Int} (h0 : 0 ≤ a) (h : a < b) (h1 : b ≤ 2760) : firstS a + 28 ≤ firstS b := by
  have := first_mono h0 (b - a).toNat (by omega)
  rw [show a + ((b - a).toNat : Nat) = b by omega] at this
  omega
theorem first_0 : firstS 0 = 0 := by decide +kernel
theorem first_2759 : firstS 2759 = 83975 := by decide +kernel
theorem first_rng {n : Int} (h0 : 0 ≤ n) (h1 : n ≤ 2759) : 0 ≤ firstS n ∧ firstS n ≤ 83975 := by
  constructor
  · by_cases hc : n = 0
    · subst hc; rw [first_0]; omega
    · have := first_lt (a := 0) (b := n) (by omega) (by omega) (by omega); rw [first_0] at this; omega
  · by_cases hc : n = 2759
    · subst hc; rw [first_2759]; omega
    · have := first_lt (a := n) (b := 2759) (by omega) (by omega) (by omega); rw [first_2759] at this; omega
/-- a day lies in one month only -/
theorem month_uniq {d n : Int} (h0 : 0 ≤ d) (h1 : d ≤ 84005) (n0 : 0 ≤ n) (n1 : n ≤ 2759) (a : firstS n ≤ d) (b : d < firstS n + mlenS n) : monthS d = n := by
  obtain ⟨g1, g2, g3, g4, g5⟩ := date_ok h0 h1
  rcases Int.lt_trichotomy (monthS d) n with h | h | h
  · exfalso
    have h2 := first_succ g4 g5
    rcases (by omega : monthS d + 1 = n ∨ monthS d + 1 < n) with e | e
    · rw [e] at h2; omega
    · have := first_lt (by omega) e (by omega); omega
  · exact h
  · exfalso
    have h2 := first_succ n0 n1
    rcases (by omega : n + 1 = monthS d ∨ n + 1 < monthS d) with e | e
    · rw [e] at h2; omega
    · have := first_lt (by omega) e (by omega); omega
theorem month_first {n : Int} (n0 : 0 ≤ n) (n1 : n ≤ 2759) : monthS (firstS n) = n ∧ (dateS (firstS n)).2.2 = 1 := by
  obtain ⟨a, b⟩ := first_rng n0 n1
  have h := mlen_bd n0 n1
  have e := month_uniq a (by omega) n0 n1 (Int.le_refl _) (by omega)
  have g := (date_ok a (by omega)).sum
  rw [e] at g
  exact ⟨e, by omega⟩
theorem dd_one {d : Int} (h0 : 0 ≤ d) (h1 : d ≤ 84005) : (dateS d).2.2 = 1 ↔ firstS (monthS d) = d := by
  have := (date_ok h0 h1).sum
  omega
theorem month_mono {a b : Int} (h0 : 0 ≤ a) (h : a ≤ b) (h1 : b ≤ 84005) : monthS a ≤ monthS b := by
  obtain ⟨g1, g2, g3, g4, g5⟩ := date_ok h0 (by omega : a ≤ 84005)
  obtain ⟨k1, k2, k3, k4, k5⟩ := date_ok (by omega : 0 ≤ b) h1
  by_cases hc : monthS a ≤ monthS b
  · exact hc
  · exfalso
    have h2 := first_succ k4 k5
    rcases (by omega : monthS b + 1 = monthS a ∨ monthS b + 1 < monthS a) with e | e
    · rw [e] at h2; omega
    · have := first_lt (by omega) e (by omega); omega
end Go.Proofs.YtpaeomgnmimjoaaDoor
