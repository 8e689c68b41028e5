/- Plain: merging two sorted lists in place (symMerge), rotating. -/
import Derived.Test.YtppjjhnaahgmhaaSrt
set_option linter.unusedSimpArgs false
set_option linter.unusedVariables false
namespace Go.Proofs.Ytppjjhnaahgmhaa
theorem RB.ltk {key : Nat → Int} {a b : Nat} (h : key a < key b) : RB key a b := .inl h
/-- x of the left list, y of the right one: who comes first is told by the keys -/
theorem RB_left {key : Nat → Int} {x y : Nat} (hxy : x < y) (h : ¬ key y < key x) : RB key x y := by unfold RB; omega
theorem pw_mid {key : Nat → Int} {A : List Nat} (h : A.Pairwise (RB key)) {i : Nat} {x : Nat} (hi : i < A.length) (hx : x ∈ A.take (i + 1)) : x = A.getD i 0 ∨ RB key x (A.getD i 0) := by
  have e : A.getD i 0 = A[i] := by rw [List.getD_eq_getElem?_getD, List.getElem?_eq_getElem hi]; rfl
  rw [e]
  obtain ⟨j, hj, rfl⟩ := List.getElem_of_mem hx
  rw [List.getElem_take]
  simp only [List.length_take] at hj
  by_cases hji : j = i
  · subst hji; exact .inl rfl
  · exact .inr (List.pairwise_iff_getElem.1 h j i (by omega) hi (by omega))
theorem pw_from {key : Nat → Int} {A : List Nat} (h : A.Pairwise (RB key)) {i : Nat} {x : Nat} (hx : x ∈ A.drop i) : x = A.getD i 0 ∨ RB key (A.getD i 0) x := by
  obtain ⟨j, hj, rfl⟩ := List.getElem_of_mem hx
  simp only [List.length_drop] at hj
  rw [List.getElem_drop]
  have e : A.getD i 0 = A[i] := by rw [List.getD_eq_getElem?_getD, List.getElem?_eq_getElem (by omega)]; rfl
  rw [e]
  by_cases h0 : j = 0
  · subst h0; exact .inl rfl
  · exact .inr (List.pairwise_iff_getElem.1 h i (i + j) (by omega) (by omega) (by omega))
/-- A before i, B from j on: if the last of these comes before the first of those, all do -/
theorem cross {key : Nat → Int} {A B : List Nat} (hA : A.Pairwise (RB key)) (hB : B.Pairwise (RB key)) {i j : Nat} (hi : i ≤ A.length) (h : i = 0 ∨ B.length ≤ j ∨ RB key (A.getD (i - 1) 0) (B.getD j 0)) : ∀ x, x ∈ A.take i → ∀ y, y ∈ B.drop j → RB key x y := by
  intro x hx y hy
  rcases h with h | h | h
  · subst h; simp at hx
  · rw [List.drop_eq_nil_of_le h] at hy; simp at hy
  · have h0 : i ≠ 0 := by intro e; subst e; simp at hx
    have h1 := pw_mid hA (i := i - 1) (x := x) (by omega) (by rw [show i - 1 + 1 = i by omega]; exact hx)
    have h2 := pw_from hB hy
    rcases h1 with rfl | h1
    · rcases h2 with rfl | h2
      · exact h
      · exact h.trans h2
    · rcases h2 with rfl | h2
      · exact h1.trans h
      · exact (h1.trans h).trans h2
theorem glue {key : Nat → Int} {A1 A2 B1 B2 M1 M2 : List Nat} (hA : (A1 ++ A2).Pairwise (RB key)) (hB : (B1 ++ B2).Pairwise (RB key)) (h12 : ∀ x, x ∈ A1 → ∀ y, y ∈ B2 → RB key x y) (h21 : ∀ y, y ∈ B1 → ∀ x, x ∈ A2 → RB key y x)
    (p1 : M1.Perm (A1 ++ B1)) (s1 : M1.Pairwise (RB key)) (p2 : M2.Perm (A2 ++ B2)) (s2 : M2.Pairwise (RB key)) : (M1 ++ M2).Perm ((A1 ++ A2) ++ (B1 ++ B2)) ∧ (M1 ++ M2).Pairwise (RB key) := by
  constructor
  · refine (p1.append p2).trans ?_
    have : (A1 ++ B1 ++ (A2 ++ B2)).Perm (A1 ++ (A2 ++ (B1 ++ B2))) := by
      rw [List.append_assoc]
      refine List.Perm.append_left A1 ?_
      rw [← List.append_assoc, ← List.append_assoc]
      exact List.Perm.append_right B2 List.perm_append_comm
    rw [List.append_assoc A1 A2]
    exact this
  · rw [List.pairwise_append] at hA hB ⊢
    refine ⟨s1, s2, fun u hu v hv => ?_⟩
    have hu := p1.mem_iff.1 hu
    have hv := p2.mem_iff.1 hv
    rcases List.mem_append.1 hu with hu | hu <;> rcases List.mem_append.1 hv with hv | hv
    · exact hA.2.2 u hu v hv
    · exact h12 u hu v hv
    · exact h21 u hu v hv
    · exact hB.2.2 u hu v hv
/-- one element goes in where it belongs -/
theorem insert_left {key : Nat → Int} {x : Nat} {B : List Nat} {i : Nat} (hB : B.Pairwise (RB key)) (hi : i ≤ B.length) (hlt : ∀ y, y ∈ B → x < y) (h1 : i = 0 ∨ key (B.getD (i - 1) 0) < key x) (h2 : i = B.length ∨ ¬ key (B.getD i 0) < key x) :
    (B.take i ++ x :: B.drop i).Perm (x :: B) ∧ (B.take i ++ x :: B.drop i).Pairwise (RB key) := by
  have hx : [x].Pairwise (RB key) := by simp
  have hA : ([] ++ [x]).Pairwise (RB key) := hx
  have hBB : (B.take i ++ B.drop i).Pairwise (RB key) := by rw [List.take_append_drop]; exact hB
  have h21 : ∀ y, y ∈ B.take i → ∀ z, z ∈ [x] → RB key y z := fun y hy z hz => by
    obtain rfl : z = x := by simpa using hz
    have h0 : i ≠ 0 := by intro e; subst e; simp at hy
    have hk : key (B.getD (i - 1) 0) < key z := by rcases h1 with h | h; exact absurd h h0; exact h
    have := pw_mid hB (i := i - 1) (x := y) (by omega) (by rw [show i - 1 + 1 = i by omega]; exact hy)
    rcases this with rfl | h
    · exact .inl hk
    · unfold RB at h ⊢; omega
  have h12 : ∀ z, z ∈ [x] → ∀ y, y ∈ B.drop i → RB key z y := fun z hz y hy => by
    obtain rfl : z = x := by simpa using hz
    have hyB : y ∈ B := List.mem_of_mem_drop hy
    have hlen : i < B.length := by
      by_cases h : i < B.length
      · exact h
      · rw [List.drop_eq_nil_of_le (by omega)] at hy; simp at hy
    have hk : ¬ key (B.getD i 0) < key z := by rcases h2 with h | h; omega; exact h
    have := pw_from hB hy
    have hzy := hlt y hyB
    rcases this with rfl | h
    · exact RB_left hzy hk
    · unfold RB at h ⊢; omega
  constructor
  · have : (B.take i ++ x :: B.drop i).Perm (x :: (B.take i ++ B.drop i)) := List.perm_middle
    rw [List.take_append_drop] at this
    exact this
  · rw [List.pairwise_append] at hBB ⊢
    refine ⟨hBB.1, ?_, fun y hy z hz => ?_⟩
    · rw [List.pairwise_cons]
      exact ⟨fun y hy => h12 x (by simp) y hy, hBB.2.1⟩
    · rcases List.mem_cons.1 hz with rfl | hz
      · exact h21 y hy z (by simp)
      · exact hBB.2.2 y hy z hz
theorem insert_right {key : Nat → Int} {y : Nat} {A : List Nat} {i : Nat} (hA : A.Pairwise (RB key)) (hi : i ≤ A.length) (hlt : ∀ x, x ∈ A → x < y) (h1 : i = 0 ∨ ¬ key y < key (A.getD (i - 1) 0)) (h2 : i = A.length ∨ key y < key (A.getD i 0)) :
    (A.take i ++ y :: A.drop i).Perm (A ++ [y]) ∧ (A.take i ++ y :: A.drop i).Pairwise (RB key) := by
  have hAA : (A.take i ++ A.drop i).Pairwise (RB key) := by rw [List.take_append_drop]; exact hA
  have hb : ∀ x, x ∈ A.take i → RB key x y := fun x hx => by
    have h0 : i ≠ 0 := by intro e; subst e; simp at hx
    have hk : ¬ key y < key (A.getD (i - 1) 0) := by rcases h1 with h | h; exact absurd h h0; exact h
    have hxy := hlt x (List.mem_of_mem_take hx)
    have := pw_mid hA (i := i - 1) (x := x) (by omega) (by rw [show i - 1 + 1 = i by omega]; exact hx)
    rcases this with rfl | h
    · exact RB_left hxy hk
    · unfold RB at h ⊢; omega
  have ha : ∀ x, x ∈ A.drop i → RB key y x := fun x hx => by
    have hlen : i < A.length := by
      by_cases h : i < A.length
      · exact h
      · rw [List.drop_eq_nil_of_le (by omega)] at hx; simp at hx
    have hk : key y < key (A.getD i 0) := by rcases h2 with h | h; omega; exact h
    have := pw_from hA hx
    rcases this with rfl | h
    · exact .inl hk
    · unfold RB at h ⊢; omega
  constructor
  · have h3 : (A.take i ++ y :: A.drop i).Perm (y :: (A.take i ++ A.drop i)) := List.perm_middle
    rw [List.take_append_drop] at h3
    refine h3.trans ?_
    exact (List.perm_append_comm (l₁ := A) (l₂ := [y])).symm
  · rw [List.pairwise_append] at hAA ⊢
    refine ⟨hAA.1, ?_, fun x hx z hz => ?_⟩
    · rw [List.pairwise_cons]
      exact ⟨ha, hAA.2.1⟩
    · rcases List.mem_cons.1 hz with rfl | hz
      · exact hb x hx
      · exact hAA.2.2 x hx z hz
end Go.Proofs.Ytppjjhnaahgmhaa
