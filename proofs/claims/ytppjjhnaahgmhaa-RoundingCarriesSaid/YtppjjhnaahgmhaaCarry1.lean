/- Plain: fractions over 21000, and carried remainders. -/
import Derived.Test.YtppjjhnaahgmhaaRnd1
set_option linter.unusedSimpArgs false
set_option linter.unusedVariables false
namespace Go.Proofs.Ytppjjhnaahgmhaa
def fr (P : Int) : Int × Int := (newS P 21000).1
structure FrOk (P a b : Int) : Prop where
  eq : newS P 21000 = ((a, b), 0)
  ok : okR a b = true
  val : P * b = a * 21000
theorem fr_ok (P : Int) (h1 : -1000000000000 ≤ P) (h2 : P ≤ 1000000000000) : FrOk P (fr P).1 (fr P).2 := by
  have h0 : (newS P 21000).2 = 0 := by
    rw [newS_eq (by omega), if_neg]
    have e1 : redN P 21000 ≤ P.natAbs := Nat.div_le_self _ _
    have e2 : redD P 21000 ≤ (21000 : Int).natAbs := Nat.div_le_self _ _
    have : (21000 : Int).natAbs = 21000 := rfl
    omega
  obtain ⟨h3, h4⟩ := newS_spec (n := P) (d := 21000) (by omega) h0
  refine ⟨?_, h3, h4⟩
  show newS P 21000 = (((newS P 21000).1.1, (newS P 21000).1.2), 0)
  rw [← h0]
theorem addF {P Q : Int} (p1 : -1000000000 ≤ P) (p2 : P ≤ 1000000000) (q1 : -1000000000 ≤ Q) (q2 : Q ≤ 1000000000) : addR (fr P).1 (fr P).2 (fr Q).1 (fr Q).2 = (fr (P + Q), 0) := by
  have hP := fr_ok P (by omega) (by omega)
  have hQ := fr_ok Q (by omega) (by omega)
  have hS := fr_ok (P + Q) (by omega) (by omega)
  have bp := okR_bd hP.ok
  have bq := okR_bd hQ.ok
  have e1 := hP.val
  have e2 := hQ.val
  have e3 := hS.eq
  generalize (fr P).1 = a at *
  generalize (fr P).2 = b at *
  generalize (fr Q).1 = c at *
  generalize (fr Q).2 = d at *
  rw [addR, if_pos (by simp [hP.ok, hQ.ok]), newS_cong (n' := P + Q) (d' := 21000) (Int.mul_pos (by omega) (by omega)) (by omega), e3]
  rw [Int.add_mul, Int.mul_right_comm a d, ← e1, Int.mul_right_comm c b, ← e2, Int.add_mul, Int.mul_assoc, Int.mul_assoc, Int.mul_comm d b]
theorem subF {P Q : Int} (p1 : -1000000000 ≤ P) (p2 : P ≤ 1000000000) (q1 : -1000000000 ≤ Q) (q2 : Q ≤ 1000000000) : subR (fr P).1 (fr P).2 (fr Q).1 (fr Q).2 = (fr (P - Q), 0) := by
  have hP := fr_ok P (by omega) (by omega)
  have hQ := fr_ok Q (by omega) (by omega)
  have hS := fr_ok (P - Q) (by omega) (by omega)
  have bp := okR_bd hP.ok
  have bq := okR_bd hQ.ok
  have e1 := hP.val
  have e2 := hQ.val
  have e3 := hS.eq
  generalize (fr P).1 = a at *
  generalize (fr P).2 = b at *
  generalize (fr Q).1 = c at *
  generalize (fr Q).2 = d at *
  rw [subR, if_pos (by simp [hP.ok, hQ.ok]), newS_cong (n' := P - Q) (d' := 21000) (Int.mul_pos (by omega) (by omega)) (by omega), e3]
  rw [Int.sub_mul, Int.mul_right_comm a d, ← e1, Int.mul_right_comm c b, ← e2, Int.sub_mul, Int.mul_assoc, Int.mul_assoc, Int.mul_comm d b]
theorem roundF {S U c d m : Int} (s1 : -100000000 ≤ S) (s2 : S ≤ 100000000) (u1 : 1 ≤ U) (u2 : U ≤ 100000000) (hc : 1 ≤ c) (hcd : okR c d = true) (hU : c * 21000 = U * d) (hm : modeB m = true) :
    roundR (fr S).1 (fr S).2 c d m = (fr (rndS S U m * U), 0) := by
  have hS := fr_ok S (by omega) (by omega)
  have bs := okR_bd hS.ok
  have bc := okR_bd hcd
  have e1 := hS.val
  have hn := rndS_near S U m u1
  have hF := fr_ok (rndS S U m * U) (by omega) (by omega)
  rw [roundR_eq hS.ok hcd hc hm]
  generalize (fr S).1 = a at *
  generalize (fr S).2 = b at *
  have hk : rndS (a * d) (b * c) m = rndS S U m := by
    refine rndS_cong m (Int.mul_pos (by omega) (by omega)) (by omega) ?_
    have : 21000 * (a * d * U) = 21000 * (S * (b * c)) := by
      have g1 : 21000 * (a * d * U) = (a * 21000) * (d * U) := by rw [Int.mul_assoc a d U, ← Int.mul_assoc, Int.mul_comm 21000 a]
      have g2 : 21000 * (S * (b * c)) = S * b * (c * 21000) := by rw [Int.mul_comm 21000, Int.mul_assoc S, Int.mul_assoc b, ← Int.mul_assoc S]
      rw [g1, g2, ← e1, hU, Int.mul_comm U d]
    exact Int.eq_of_mul_eq_mul_left (by omega) this
  rw [hk, newS_cong (n' := rndS S U m * U) (d' := 21000) (by omega) (by omega) (by rw [Int.mul_assoc, hU, Int.mul_assoc]), hF.eq]
theorem carryF {R N U c d m : Int} (r1 : -3000000 ≤ R) (r2 : R ≤ 3000000) (n1 : -30000000 ≤ N) (n2 : N ≤ 30000000) (u1 : 1 ≤ U) (u2 : U ≤ 2100000) (hc : 1 ≤ c) (hcd : okR c d = true) (hU : c * 21000 = U * d) (hm : modeB m = true) :
    ∃ k : Int, -U < R + N - k * U ∧ R + N - k * U < U ∧ carryR (fr R).1 (fr R).2 (fr N).1 (fr N).2 c d m = (fr (k * U), fr (R + N - k * U), 0) := by
  have hn := rndS_near (R + N) U m u1
  refine ⟨rndS (R + N) U m, by omega, by omega, ?_⟩
  have e1 := addF (P := R) (Q := N) (by omega) (by omega) (by omega) (by omega)
  have e2 := roundF (S := R + N) (U := U) (m := m) (by omega) (by omega) u1 (by omega) hc hcd hU hm
  have e3 := subF (P := R + N) (Q := rndS (R + N) U m * U) (by omega) (by omega) (by omega) (by omega)
  unfold carryR
  simp [e1, e2, e3]
theorem cmpF {R U c d : Int} (r1 : -3000000 ≤ R) (r2 : R ≤ 3000000) (hcd : okR c d = true) (hU : c * 21000 = U * d) (h : R < U) : cmpR (fr R).1 (fr R).2 c d = -1 := by
  have hR := fr_ok R (by omega) (by omega)
  have e1 := hR.val
  have br := okR_bd hR.ok
  have bc := okR_bd hcd
  rw [cmpR, if_pos (by simp [hR.ok, hcd]), if_pos]
  generalize (fr R).1 = a at *
  generalize (fr R).2 = b at *
  have g1 : a * d * 21000 = R * (b * d) := by rw [Int.mul_right_comm, ← e1, Int.mul_assoc]
  have g2 : c * b * 21000 = U * (b * d) := by rw [Int.mul_right_comm, hU, Int.mul_assoc, Int.mul_comm d b]
  have g3 : R * (b * d) < U * (b * d) := Int.mul_lt_mul_of_pos_right h (Int.mul_pos (by omega) (by omega))
  omega
theorem cmpF' {R U c d : Int} (r1 : -3000000 ≤ R) (r2 : R ≤ 3000000) (hcd : okR c d = true) (hU : c * 21000 = U * d) (h : -U < R) : cmpR (-c) d (fr R).1 (fr R).2 = -1 := by
  have hR := fr_ok R (by omega) (by omega)
  have e1 := hR.val
  have br := okR_bd hR.ok
  have bc := okR_bd hcd
  have hcd' : okR (-c) d = true := by
    simp only [okR, decide_eq_true_eq] at hcd ⊢
    refine ⟨hcd.1, hcd.2.1, by omega, by omega, by rw [Int.neg_gcd]; exact hcd.2.2.2.2⟩
  rw [cmpR, if_pos (by simp [hR.ok, hcd']), if_pos]
  generalize (fr R).1 = a at *
  generalize (fr R).2 = b at *
  have g1 : a * d * 21000 = R * (b * d) := by rw [Int.mul_right_comm, ← e1, Int.mul_assoc]
  have g2 : c * b * 21000 = U * (b * d) := by rw [Int.mul_right_comm, hU, Int.mul_assoc, Int.mul_comm d b]
  have g3 : -U * (b * d) < R * (b * d) := Int.mul_lt_mul_of_pos_right h (Int.mul_pos (by omega) (by omega))
  rw [Int.neg_mul] at g3 ⊢
  omega
/-- a small number over 3, 7, 100 or 1 -/
theorem newF (x q : Int) (x1 : -1000 ≤ x) (x2 : x ≤ 1000) (hq : q = 3 ∨ q = 7 ∨ q = 100 ∨ q = 1) : ∃ N, -30000000 ≤ N ∧ N ≤ 30000000 ∧ (newS x q).1 = fr N := by
  rcases hq with rfl | rfl | rfl | rfl
  · exact ⟨x * 7000, by omega, by omega, by rw [newS_cong (n' := x * 7000) (d' := 21000) (by omega) (by omega) (by omega)]; rfl⟩
  · exact ⟨x * 3000, by omega, by omega, by rw [newS_cong (n' := x * 3000) (d' := 21000) (by omega) (by omega) (by omega)]; rfl⟩
  · exact ⟨x * 210, by omega, by omega, by rw [newS_cong (n' := x * 210) (d' := 21000) (by omega) (by omega) (by omega)]; rfl⟩
  · exact ⟨x * 21000, by omega, by omega, by rw [newS_cong (n' := x * 21000) (d' := 21000) (by omega) (by omega) (by omega)]; rfl⟩
theorem unitF {c d : Int} (hcd : okR c d = true) (hc : 1 ≤ c) (hc2 : c ≤ 100) (hd : ∃ k, 1000 = d * k) : ∃ U, 1 ≤ U ∧ U ≤ 2100000 ∧ c * 21000 = U * d := by
  obtain ⟨k, hk⟩ := hd
  have bd := okR_bd hcd
  have k1 : 1 ≤ k := by
    apply Int.not_lt.1
    intro h
    have : d * k ≤ 0 := Int.mul_nonpos_of_nonneg_of_nonpos (by omega) (by omega)
    omega
  have k2 : k ≤ 1000 := by
    have : 1 * k ≤ d * k := Int.mul_le_mul_of_nonneg_right bd.1 (by omega)
    omega
  refine ⟨c * k * 21, ?_, ?_, ?_⟩
  · have : 1 * 1 ≤ c * k := Int.mul_le_mul hc k1 (by omega) (by omega)
    omega
  · have : c * k ≤ 100 * 1000 := Int.mul_le_mul hc2 k2 (by omega) (by omega)
    omega
  · have : c * k * 21 * d = c * 21 * (d * k) := by rw [Int.mul_right_comm c k 21, Int.mul_assoc, Int.mul_comm k d]
    rw [this, ← hk]; omega
end Go.Proofs.Ytppjjhnaahgmhaa
