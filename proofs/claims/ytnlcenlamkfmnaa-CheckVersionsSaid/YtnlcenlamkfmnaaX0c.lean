/- Plain: kids, types of operators. -/
import Derived.Test.YtnlcenlamkfmnaaX0
set_option linter.unusedSimpArgs false
set_option linter.unusedVariables false
set_option maxRecDepth 100000
namespace Go.Proofs.Ytnlcenlamkfmnaa
theorem kidsN_le (op : Int) : kidsN op ≤ 3 := by unfold kidsN; repeat' split
                                                 all_goals omega
theorem cT_cl : CellsCl cT := fun _ => ⟨trivial, trivial, trivial, trivial, trivial⟩
def kt (T : Nat → Ty × Int) (i j : Nat) : Ty := if j < i then (T j).1 else t0
/-- the operators, once the kids' types are known -/
def opK (N S P : List Df) (e : Ex) (T : Nat → Ty × Int) : Ty × Int := opS N S P e (kt T e.nk 0) (kt T e.nk 1) (kt T e.nk 2)
theorem typeS_succ (N S P : List Df) (n : Nat) (e : Ex) {T : Nat → Ty × Int} (hT : ∀ i, typeS N S P n (e.kf i) = T i) (h3 : e.nk ≤ 3) :
    (∀ i, i < e.nk → (∀ j, j < i → (T j).2 = 0) → (T i).2 ≠ 0 → typeS N S P (n + 1) e = (t0, (T i).2)) ∧ ((∀ j, j < e.nk → (T j).2 = 0) → typeS N S P (n + 1) e = opK N S P e T) := by
  constructor
  · intro i hi hj h
    rw [typeS]
    simp only [hT]
    rcases (by omega : i = 0 ∨ i = 1 ∨ i = 2) with rfl | rfl | rfl
    · rw [if_pos ⟨hi, h⟩]
    · rw [if_neg (by rintro ⟨_, h1⟩; exact h1 (hj 0 (by omega))), if_pos ⟨hi, h⟩]
    · rw [if_neg (by rintro ⟨_, h1⟩; exact h1 (hj 0 (by omega))), if_neg (by rintro ⟨_, h1⟩; exact h1 (hj 1 (by omega))), if_pos ⟨hi, h⟩]
  · intro h
    rw [typeS]
    simp only [hT]
    rw [if_neg (by rintro ⟨h0, h1⟩; exact h1 (h 0 h0)), if_neg (by rintro ⟨h0, h1⟩; exact h1 (h 1 h0)), if_neg (by rintro ⟨h0, h1⟩; exact h1 (h 2 h0))]
    rfl
abbrev vD (d : Df) : PV := .agg 21 (nthP (cD d))
end Go.Proofs.Ytnlcenlamkfmnaa
