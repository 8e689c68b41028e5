/- Plain: maps that are filled in a row. -/
import Derived.Test.YtipdkompinnghaaPvMap
set_option linter.unusedSimpArgs false
set_option linter.unusedVariables false
namespace Go.Proofs.Ytipdkompinnghaa
section
variable {K : Type} [DecidableEq K]
theorem mget_put (k k' : K) (v : Int) : ∀ l : List (K × Int), mget (mset l k v) k' = if k = k' then some v else mget l k'
  | [] => by simp [mset, mget]
  | e :: l => by
    by_cases h : e.1 = k
    · rw [mset, if_pos h, mget]
      by_cases h2 : k = k'
      · rw [if_pos h2, if_pos h2]
      · rw [if_neg h2, if_neg h2, mget, if_neg (by rw [h]; exact h2)]
    · rw [mset, if_neg h, mget, mget_put k k' v l, mget]
      by_cases h2 : e.1 = k'
      · rw [if_pos h2, if_pos h2, if_neg (fun e2 => h (h2.trans e2.symm))]
      · rw [if_neg h2, if_neg h2]
/-- the last of i values at a key -/
def lastS (kf : Nat → K) (vf : Nat → Int) : Nat → K → Option Int
  | 0, _ => none
  | i + 1, k => if kf i = k then some (vf i) else lastS kf vf i k
/-- a map that holds these -/
def MapIs (l : List (K × Int)) (kf : Nat → K) (vf : Nat → Int) (i : Nat) : Prop := ∀ k, mget l k = lastS kf vf i k
theorem MapIs.start (kf : Nat → K) (vf : Nat → Int) : MapIs [] kf vf 0 := fun _ => rfl
theorem MapIs.step {l : List (K × Int)} {kf : Nat → K} {vf : Nat → Int} {i : Nat} (h : MapIs l kf vf i) : MapIs (mset l (kf i) (vf i)) kf vf (i + 1) := fun k => by
  rw [mget_put, h k, lastS]
theorem lastS_none {kf : Nat → K} {vf : Nat → Int} {i : Nat} {k : K} : lastS kf vf i k = none ↔ ∀ j, j < i → kf j ≠ k := by
  induction i with
  | zero => simp [lastS]
  | succ i ih =>
    rw [lastS]
    by_cases h : kf i = k
    · rw [if_pos h]; simp; exact ⟨i, by omega, h⟩
    · rw [if_neg h, ih]
      constructor
      · intro h2 j hj
        by_cases e : j = i
        · subst e; exact h
        · exact h2 j (by omega)
      · intro h2 j hj; exact h2 j (by omega)
theorem lastS_some {kf : Nat → K} {vf : Nat → Int} {i : Nat} {k : K} {v : Int} (h : lastS kf vf i k = some v) : ∃ j, j < i ∧ kf j = k ∧ vf j = v := by
  induction i with
  | zero => simp [lastS] at h
  | succ i ih =>
    rw [lastS] at h
    by_cases e : kf i = k
    · rw [if_pos e] at h; exact ⟨i, by omega, e, by simpa using h⟩
    · rw [if_neg e] at h
      obtain ⟨j, hj, e1, e2⟩ := ih h
      exact ⟨j, by omega, e1, e2⟩
/-- where the keys are apart -/
theorem lastS_at {kf : Nat → K} {vf : Nat → Int} {n : Nat} (hd : ∀ i j, i < n → j < n → kf i = kf j → i = j) {i j : Nat} (hi : i ≤ n) (hj : j < i) : lastS kf vf i (kf j) = some (vf j) := by
  cases h : lastS kf vf i (kf j) with
  | none => exact absurd rfl (lastS_none.1 h j hj)
  | some v =>
    obtain ⟨q, hq, e1, e2⟩ := lastS_some h
    rw [← e2, hd q j (by omega) (by omega) e1]
end
end Go.Proofs.Ytipdkompinnghaa
