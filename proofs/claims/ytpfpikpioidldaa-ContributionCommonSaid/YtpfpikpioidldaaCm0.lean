/- Joint employments in any order: plain. -/
import Derived.Test.YtpfpikpioidldaaJo28
import Derived.Test.YtpfpikpioidldaaYr28
set_option linter.unusedSimpArgs false
set_option linter.unusedVariables false
namespace Go.Proofs.Ytpfpikpioidldaa
theorem cum_eq {x : Sch} {n : Nat} {f g : Nat → Int} (h : ∀ i, i < n → f i = g i) : cumS x n f = cumS x n g := by
  unfold cumS
  rw [sumN_congr (f := cumT x f) (g := cumT x g) fun i hi => by unfold cumT; rw [h i hi]]
theorem lst_eq {x : Sch} {n : Nat} {f g : Nat → Int} (h : ∀ i, i < n → f i = g i) : lstS x n f = lstS x n g := by
  unfold lstS
  rw [cum_eq h, cum_eq (n := n - 1) fun i hi => h i (by omega)]
theorem sumN_split (a : Nat) (f : Nat → Int) : ∀ b, sumN (a + b) f = sumN a f + sumN b (fun i => f (a + i))
  | 0 => by simp [sumN]
  | b + 1 => by rw [← Nat.add_assoc, sumN, sumN_split a f b, sumN]; omega
/-- x[t:] and then x[:t] -/
def rotE (m t : Nat) (g : Nat → Emp) (a : Nat) : Emp := if a < m - t then g (t + a) else g (a - (m - t))
theorem rot_sum {m t : Nat} (ht : t ≤ m) (g : Nat → Emp) (f : Emp → Int) : sumN m (fun q => f (rotE m t g q)) = sumN m (fun q => f (g q)) := by
  have e1 := sumN_split (m - t) (fun q => f (rotE m t g q)) t
  have e2 := sumN_split t (fun q => f (g q)) (m - t)
  rw [show m - t + t = m by omega] at e1
  rw [show t + (m - t) = m by omega] at e2
  rw [e1, e2]
  have h1 : sumN (m - t) (fun q => f (rotE m t g q)) = sumN (m - t) (fun i => f (g (t + i))) := sumN_congr fun i hi => by unfold rotE; rw [if_pos hi]
  have h2 : sumN t (fun i => f (rotE m t g (m - t + i))) = sumN t (fun q => f (g q)) := sumN_congr fun i hi => by unfold rotE; rw [if_neg (by omega), show m - t + i - (m - t) = i by omega]
  rw [h1, h2]; omega
theorem rot_per {m t k : Nat} (ht : t ≤ m) (g : Nat → Emp) (a : Nat) : perI (rotE m t g) k m a = perI g k m a := by
  unfold perI
  split
  · exact rot_sum ht g (fun x => x.e a)
  · exact rot_sum ht g (fun x => x.b)
theorem rot_ok {m t : Nat} (ht : t < m) {g : Nat → Emp} {Q : Emp → Prop} (h : ∀ i, i < m → Q (g i)) : ∀ i, i < m → Q (rotE m t g i) := fun i hi => by
  unfold rotE
  split
  · exact h _ (by omega)
  · exact h _ (by omega)
/-- the first error is none -/
theorem je_zero {m k : Nat} {g : Nat → Emp} (h : JOk m g k) : jeS m g = 0 := by
  have h0 : (g 0).n = k := h.n 0 h.m1
  have := h.m1; have := h.m8; have := h.k60
  rw [jeS, if_neg (by omega), if_neg, if_neg, if_neg]
  · rw [Bool.not_eq_false]
    refine allR_iff.2 fun i hi => ?_
    unfold empB amtB
    rw [Bool.and_eq_true]
    exact ⟨by simpa using h.b i hi, okW_iff.2 fun a ha => h.e i hi a (by rw [h.n i hi] at ha; exact ha)⟩
  · rw [Bool.not_eq_false]
    exact allR_iff.2 fun i hi => by rw [h.n i hi, h0]; simp
  · rw [Bool.not_eq_false]
    exact allR_iff.2 fun i hi => by rw [h.n i hi]; simpa using h.k60
theorem sgn_bd {m : Nat} {t : Int} {w : Nat → Int} (hW : WOk m (sumN m w) w) (t0 : 0 ≤ t) (t1 : t ≤ 1000000000) {i : Nat} (hi : i < m) : -1000000000000 ≤ sgnP m t w i ∧ sgnP m t w i ≤ 1000000000000 := by
  unfold sgnP
  rw [if_pos t0]
  have := prt_bd hW t0 hi
  omega
theorem sgn_sum {m : Nat} {t : Int} {w : Nat → Int} (hW : WOk m (sumN m w) w) (t0 : 0 ≤ t) : sumN m (sgnP m t w) = t := by
  have : sumN m (sgnP m t w) = sumN m (prtS m t (sumN m w) w) := sumN_congr fun i _ => by unfold sgnP; rw [if_pos t0]
  rw [this, prt_sum hW]
theorem one_sum {m : Nat} (hm : 1 ≤ m) (t : Int) : sumN m (fun a => if a = 0 then t else 0) = t := by
  obtain ⟨m', rfl⟩ : ∃ m', m = 1 + m' := ⟨m - 1, by omega⟩
  rw [sumN_split 1]
  have : sumN m' (fun i => if 1 + i = 0 then t else 0) = sumN m' (fun _ => 0) := sumN_congr fun i _ => by rw [if_neg (by omega)]
  rw [this, sumN_const]
  simp [sumN]
/-- what is divided: all parts together are the whole -/
theorem div_sum {m : Nat} {l : L3} {w : Nat → Int} (hm : 1 ≤ m) (hm8 : m ≤ 8) (hw : ∀ i, i < m → 0 ≤ w i ∧ w i ≤ 1000000000) (l0 : 0 ≤ l.1 ∧ 0 ≤ l.2.1 ∧ 0 ≤ l.2.2) (l1 : ¬ (1000000000 < l.1 ∨ 1000000000 < l.2.1 ∨ 1000000000 < l.2.2)) :
    ∃ F : Nat → L3, divS m l w = ((m, F), 0) ∧ (∀ i, i < m → LB (F i)) ∧ sumL m F = l := by
  obtain ⟨la, lb, lc⟩ := l
  simp only at l0 l1
  rw [divS, if_neg l1]
  by_cases hs : sumN m w = 0
  · rw [if_pos hs]
    refine ⟨_, rfl, fun i hi => ?_, ?_⟩
    · by_cases e : i = 0
      · simp only [e, if_true]; exact ⟨by simp only; omega, by simp only; omega, by simp only; omega, by simp only; omega, by simp only; omega, by simp only; omega⟩
      · simp only [e, if_false]; exact ⟨by decide, by decide, by decide, by decide, by decide, by decide⟩
    · unfold sumL
      have e1 : ∀ (f : L3 → Int) (t : Int), f (la, lb, lc) = t → f (0, 0, 0) = 0 → sumN m (fun a => f (if a = 0 then (la, lb, lc) else (0, 0, 0))) = t := fun f t h1 h2 => by
        rw [← one_sum hm t]
        exact sumN_congr fun i _ => by split <;> simp [h1, h2]
      rw [e1 (fun x => x.1) la rfl rfl, e1 (fun x => x.2.1) lb rfl rfl, e1 (fun x => x.2.2) lc rfl rfl]
  · rw [if_neg hs]
    have hpos : 1 ≤ sumN m w := by have := sumN_nonneg (n := m) (f := w) fun i hi => (hw i hi).1; omega
    have hW : WOk m (sumN m w) w := ⟨by omega, fun i hi => (hw i hi).1, fun i hi => (hw i hi).2, rfl, hpos⟩
    refine ⟨_, rfl, fun i hi => ?_, ?_⟩
    · have b1 := sgn_bd (t := la) hW l0.1 (by omega) hi
      have b2 := sgn_bd (t := lb) hW l0.2.1 (by omega) hi
      have b3 := sgn_bd (t := lc) hW l0.2.2 (by omega) hi
      exact ⟨b1.1, b1.2, b2.1, b2.2, b3.1, b3.2⟩
    · unfold sumL
      simp only
      rw [sgn_sum hW l0.1, sgn_sum hW l0.2.1, sgn_sum hW l0.2.2]
/-- the insured earnings of a period: at most all ceilings -/
theorem lst_ce {x : Sch} {k : Nat} {g : Nat → Int} (hx : SOk x) (hg : ∀ i, i < k + 1 → 0 ≤ g i) (hb : ∀ i, i < k + 1 → g i ≤ 10000000000) (hk : k < 60) : (lstS x (k + 1) g).1 ≤ ((k : Int) + 1) * x.ce := by
  have h1 := (cum_bd hx (n := k) (g := g) (by omega) (fun i hi => ⟨hg i (by omega), hb i (by omega)⟩)).1
  have h2 : cumS x (k + 1) g ≤ ((k : Int) + 1) * x.ce := by
    unfold cumS
    rw [show ((k + 1 : Nat) : Int) = (k : Int) + 1 by omega]
    split <;> omega
  unfold lstS subL lvS
  simp only [Nat.add_sub_cancel]
  omega
end Go.Proofs.Ytpfpikpioidldaa
