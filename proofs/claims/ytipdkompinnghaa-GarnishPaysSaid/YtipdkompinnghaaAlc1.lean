/- Plain: what a division leaves to a weight without a rest. -/
import Derived.Test.YtipdkompinnghaaAlc
set_option linter.unusedSimpArgs false
set_option linter.unusedVariables false
namespace Go.Proofs.Ytipdkompinnghaa
theorem sum_cnt {n : Nat} {f : Nat → Int} {c : Int} (h : ∀ i, i < n → 0 ≤ f i ∧ f i ≤ c) : sumN n f ≤ c * ((List.range n).countP (fun i => decide (0 < f i)) : Nat) := by
  induction n with
  | zero => simp [sumN]
  | succ n ih =>
    have h1 := ih fun i hi => h i (by omega)
    have h2 := h n (by omega)
    rw [List.range_succ, List.countP_append, sumN]
    simp only [List.countP_cons, List.countP_nil, Nat.zero_add, Int.natCast_add, Int.mul_add]
    by_cases e : 0 < f n
    · simp [e]; omega
    · have e0 : f n = 0 := by omega
      simp [e0]; omega
theorem rest_zero {n : Nat} {s t : Int} {w : Nat → Int} (h : WOk n s w) {i : Nat} (hi : i < n) (h0 : rstS t s w i = 0) : ¬ (rk n (keyS t s w) i : Int) < misS n t s w := by
  intro hlt
  have hs := h.pos
  have h1 := h.mis (t := t)
  have h2 := sum_cnt (n := n) (f := rstS t s w) (c := s - 1) fun j _ => by have := h.rst (t := t) j; omega
  have h3 : (List.range n).countP (fun j => decide (0 < rstS t s w j)) ≤ rk n (keyS t s w) i := by
    refine List.countP_mono_left fun j _ hj => ?_
    rw [RBb_iff]
    have : 0 < rstS t s w j := by simpa using hj
    unfold RB keyS; omega
  have h4 : (s - 1) * ((List.range n).countP (fun j => decide (0 < rstS t s w j)) : Nat) ≤ (s - 1) * (misS n t s w - 1) := Int.mul_le_mul_of_nonneg_left (by omega) (by omega)
  have h5 : (s - 1) * (misS n t s w - 1) = s * misS n t s w - s - misS n t s w + 1 := by
    rw [Int.mul_sub, Int.sub_mul]; omega
  have h6 := h.mis_bd (t := t)
  omega
theorem prt_two {n : Nat} {s t : Int} {w : Nat → Int} (i : Nat) : prtS n t s w i = bseS t s w i ∨ prtS n t s w i = bseS t s w i + 1 := by
  unfold prtS; split
  · exact .inr rfl
  · exact .inl (Int.add_zero _)
theorem prt_zero {n : Nat} {s t : Int} {w : Nat → Int} (h : WOk n s w) {i : Nat} (hi : i < n) (h0 : rstS t s w i = 0) : prtS n t s w i = bseS t s w i := by
  rw [prtS, if_neg (rest_zero h hi h0), Int.add_zero]
end Go.Proofs.Ytipdkompinnghaa
