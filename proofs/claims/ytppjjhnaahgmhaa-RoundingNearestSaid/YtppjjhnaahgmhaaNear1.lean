/- Plain: what RoundingNearest compares. -/
import Derived.Test.YtppjjhnaahgmhaaNear0
set_option linter.unusedSimpArgs false
set_option linter.unusedVariables false
namespace Go.Proofs.Ytppjjhnaahgmhaa
theorem near_link {a b c d Q x y D E : Int} (hy : 0 < y) (e2 : x * d = Q * c * y) (e3 : (x * b - a * y) * E = D * (y * b)) : D * (b * d) = (Q * (b * c) - a * d) * E := by
  refine Int.eq_of_mul_eq_mul_right (show y ≠ 0 by omega) ?_
  have s1 : D * (b * d) * y = D * (y * b) * d := by ac_rfl
  rw [s1, ← e3, Int.sub_mul, Int.sub_mul, Int.sub_mul, Int.sub_mul, show x * b * E * d = x * d * (b * E) by ac_rfl, e2]
  rw [show Q * c * y * (b * E) = Q * (b * c) * E * y by ac_rfl, show a * y * E * d = a * d * E * y by ac_rfl]
theorem newS_one {Q : Int} : newS Q 1 = ((0, 0), 4) ∨ newS Q 1 = ((Q, 1), 0) := by
  rcases newS_cases (n := Q) (d := 1) (by omega) with h | ⟨a, b, h1, h2, h3⟩
  · exact .inl h
  · refine .inr ?_
    have hb := okR_bd h2
    have hg := okR_gcd h2
    rw [Int.mul_one] at h3
    rw [← h3, Int.gcd_mul_left_left] at hg
    have : b = 1 := by omega
    rw [h1, ← h3, this, Int.mul_one]
theorem okR_abs {D E : Int} (h : okR D E = true) : okR (if D < 0 then -D else D) E = true := by
  split
  · simp only [okR, decide_eq_true_eq, Int.neg_gcd] at *; omega
  · exact h
structure NearW (a b c d M x y Q D E S : Int) : Prop where
  dv : newS (x * d) (y * c) = ((0, 0), 4) ∨ newS (x * d) (y * c) = ((Q, 1), 0)
  sok : okR S E = true
  cm : cmpR S E c d = -1
  m2 : M = 2 → D ≤ 0
  m3 : M = 3 → 0 ≤ D
  m0 : M = 0 → D = 0 ∨ (D < 0 ↔ 0 < a)
  m1 : M = 1 → D = 0 ∨ (0 < D ↔ 0 < a)
  tw : ∀ t e, okR t e = true → (S * E + S * E) * e = t * (E * E) → 4 ≤ M → cmpR t e c d = -1 ∨ (cmpR t e c d = 0 ∧ (M = 4 → (0 < D ↔ 0 < a)) ∧ (M = 5 → (D < 0 ↔ 0 < a)) ∧ (M = 6 → Q % 2 = 0))
theorem nearW {a b c d M x y D E : Int} (h1 : okR a b = true) (h2 : okR c d = true) (hc : 1 ≤ c) (m0 : 0 ≤ M) (m6 : M ≤ 6) (hxy : okR x y = true) (e2 : x * d = rndS (a * d) (b * c) M * c * y) (hDE : okR D E = true) (e3 : (x * b - a * y) * E = D * (y * b)) :
    NearW a b c d M x y (rndS (a * d) (b * c) M) D E (if D < 0 then -D else D) := by
  obtain ⟨b1, b2, a1, a2⟩ := okR_bd h1
  obtain ⟨d1, d2, c1, c2⟩ := okR_bd h2
  obtain ⟨y1, y2, x1, x2⟩ := okR_bd hxy
  obtain ⟨E1, E2, D1, D2⟩ := okR_bd hDE
  have pbd : 0 < b * d := Int.mul_pos (by omega) (by omega)
  have pbc : 0 < b * c := Int.mul_pos (by omega) (by omega)
  have K := near_link (show 0 < y by omega) e2 e3
  have F := nearQ (n := a * d) (den := b * c) (m := M) (by omega) m0 m6
  have dv := newS_cong (n := x * d) (d := y * c) (n' := rndS (a * d) (b * c) M) (d' := 1) (Int.mul_pos (by omega) (by omega)) (by omega) (by rw [e2, Int.mul_one, Int.mul_assoc, Int.mul_comm c y])
  generalize rndS (a * d) (b * c) M = Q at *
  obtain ⟨lo, hi, f2, f3, f0, f1, k1, k2, t4, t5, t6⟩ := F
  have an : 0 < a * d ↔ 0 < a := by
    have := tri (u := 0) (v := a * d) (p := 0) (q := a) (k := 1) (l := d) (by omega) (by omega) (by omega) (by omega)
    exact this
  rw [an] at f0 f1 t4 t5
  generalize hR : Q * (b * c) - a * d = R at *
  have sp : 0 < D ↔ 0 < R := tri (k := b * d) (l := E) pbd (by omega) (by omega) K
  have sn : D < 0 ↔ R < 0 := tri (k := b * d) (l := E) pbd (by omega) K (by omega)
  obtain ⟨T, hT⟩ : ∃ T, T = if D < 0 then -R else R := ⟨_, rfl⟩
  have hS : (if D < 0 then -D else D) * (b * d) = T * E := by
    rw [hT]; split
    · rw [Int.neg_mul, Int.neg_mul, K]
    · exact K
  have hTR : (T = R ∧ 0 ≤ R) ∨ (T = -R ∧ R < 0) := by
    rw [hT]
    by_cases h : D < 0
    · rw [if_pos h]; exact .inr ⟨rfl, sn.1 h⟩
    · rw [if_neg h]; exact .inl ⟨rfl, Int.not_lt.1 fun hr => h (sn.2 hr)⟩
  have hso := okR_abs hDE
  generalize (if D < 0 then -D else D) = S at *
  have c1 : S * d < c * E ↔ T < b * c := tri (k := b) (l := E) (by omega) (by omega) (by rw [← hS]; ac_rfl) (by ac_rfl)
  refine ⟨?_, hso, ?_, ?_, ?_, ?_, ?_, ?_⟩
  · rw [dv]; exact newS_one
  · rw [cmpR, if_pos (by rw [hso, h2]; rfl), if_pos (c1.2 (by omega))]
  · intro h; have := f2 h; exact Int.not_lt.1 fun hd => absurd (sp.1 hd) (by omega)
  · intro h; have := f3 h; exact Int.not_lt.1 fun hd => absurd (sn.1 hd) (by omega)
  · intro h
    rcases f0 h with h0 | h0
    · exact .inl (by have := sp; have := sn; omega)
    · exact .inr (sn.trans h0)
  · intro h
    rcases f1 h with h0 | h0
    · exact .inl (by have := sp; have := sn; omega)
    · exact .inr (sp.trans h0)
  · intro t e hte he hM
    obtain ⟨e1, e2', _, _⟩ := okR_bd hte
    have he2 : t * E = 2 * S * e := by
      refine Int.eq_of_mul_eq_mul_right (show E ≠ 0 by omega) ?_
      rw [show t * E * E = t * (E * E) by ac_rfl, ← he, ← Int.two_mul]; ac_rfl
    have u1 : t * d * (E * b) = 2 * T * (e * E) := by
      rw [show t * d * (E * b) = t * E * (b * d) by ac_rfl, he2, show 2 * S * e * (b * d) = 2 * (S * (b * d)) * e by ac_rfl, hS]; ac_rfl
    have u2 : c * e * (E * b) = b * c * (e * E) := by ac_rfl
    have pk : 0 < E * b := Int.mul_pos (by omega) (by omega)
    have pl : 0 < e * E := Int.mul_pos (by omega) (by omega)
    have v1 := tri pk pl u1 u2
    have v2 := tri pk pl u2 u1
    have w1 := k1 hM
    have w2 := k2 hM
    rw [cmpR, if_pos (by rw [hte, h2]; rfl)]
    by_cases hlt : 2 * T < b * c
    · rw [if_pos (v1.2 hlt)]; exact .inl rfl
    · rw [if_neg (fun h => hlt (v1.1 h)), if_neg (fun h => absurd (v2.1 h) (by omega))]
      have hh : 2 * R = b * c ∨ 2 * R = -(b * c) := by omega
      refine .inr ⟨rfl, fun h => sp.trans (t4 h hh), fun h => sn.trans (t5 h hh), fun h => t6 h hh⟩
end Go.Proofs.Ytppjjhnaahgmhaa
