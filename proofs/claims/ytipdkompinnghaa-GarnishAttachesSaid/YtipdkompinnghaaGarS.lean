/- Plain: serving group by group; elements put in their order. -/
import Derived.Test.YtipdkompinnghaaGar6
set_option linter.unusedSimpArgs false
set_option linter.unusedVariables false
namespace Go.Proofs.Ytipdkompinnghaa
/-- the least key above κ of those of a sort, of the first i -/
def mnK (p : Nat → Bool) (key : Nat → Int) (κ : Int) : Nat → Int
  | 0 => 1000000
  | i + 1 => if (p i && decide (κ < key i) && decide (key i < mnK p key κ i)) = true then key i else mnK p key κ i
theorem mn_top (p : Nat → Bool) (key : Nat → Int) (κ : Int) : ∀ i, mnK p key κ i ≤ 1000000
  | 0 => Int.le_refl _
  | i + 1 => by
    have := mn_top p key κ i
    unfold mnK
    split
    · rename_i h; simp at h; omega
    · exact this
theorem mn_le {p : Nat → Bool} {key : Nat → Int} {κ : Int} : ∀ {i j : Nat}, j < i → p j = true → κ < key j → mnK p key κ i ≤ key j
  | 0, j, h, _, _ => by omega
  | i + 1, j, h, hp, hk => by
    unfold mnK
    by_cases e : j = i
    · subst e
      by_cases h2 : key j < mnK p key κ j
      · rw [if_pos (by simp [hp, hk, h2])]; exact Int.le_refl _
      · rw [if_neg (by simp [hp, hk, h2])]; omega
    · have := mn_le (i := i) (j := j) (by omega) hp hk
      split
      · rename_i h; simp at h; omega
      · exact this
theorem mn_mem {p : Nat → Bool} {key : Nat → Int} {κ : Int} : ∀ {i : Nat}, mnK p key κ i = 1000000 ∨ ∃ j, j < i ∧ p j = true ∧ κ < key j ∧ key j = mnK p key κ i
  | 0 => .inl rfl
  | i + 1 => by
    unfold mnK
    split
    · rename_i h
      simp at h
      exact .inr ⟨i, by omega, h.1.1, h.1.2, rfl⟩
    · rcases mn_mem (p := p) (key := key) (κ := κ) (i := i) with h | ⟨j, h1, h2⟩
      · exact .inl h
      · exact .inr ⟨j, by omega, h2⟩
def bP (p : Nat → Bool) (key : Nat → Int) (κ : Int) (j : Nat) : Bool := p j && decide (key j < κ + 1)
def TT (p : Nat → Bool) (key tk T0 : Nat → Int) (κ : Int) (j : Nat) : Int := if bP p key κ j = true then tk j else T0 j
def tkn (n : Nat) (p : Nat → Bool) (key tk : Nat → Int) (κ : Int) : Int := sumN n (ifS (bP p key κ) tk)
/-- in the middle of a group: the first i have been put -/
def TI3 (key : Nat → Int) (κ' : Int) (tk T : Nat → Int) (i j : Nat) : Int := if (decide (j < i) && (key j == κ')) = true then tk j else T j
theorem elt_congr {g : Nat → Ord} {T T' : Nat → Int} {m : Nat} (h : ∀ j, j < m → T j = T' j) : eltS g T m = eltS g T' m := by
  unfold eltS
  have e : (List.range m).filter (fun j => decide (0 < T j)) = (List.range m).filter (fun j => decide (0 < T' j)) := List.filter_congr fun x hx => by rw [h x (by simpa using hx)]
  rw [e]
  refine List.map_congr_left fun x hx => ?_
  rw [h x (by simp at hx; exact hx.1)]
theorem range_cut {i : Nat} : ∀ {n : Nat}, i < n → ∃ rest : List Nat, List.range n = List.range i ++ i :: rest ∧ ∀ x, x ∈ rest → i < x ∧ x < n
  | 0, h => by omega
  | n + 1, h => by
    by_cases e : i = n
    · subst e
      exact ⟨[], by rw [List.range_succ], by simp⟩
    · obtain ⟨rest, h1, h2⟩ := range_cut (i := i) (n := n) (by omega)
      refine ⟨rest ++ [n], by rw [List.range_succ, h1]; simp, fun x hx => ?_⟩
      rcases List.mem_append.1 hx with hx | hx
      · have := h2 x hx; omega
      · have : x = n := by simpa using hx
        omega
theorem elt_cut {n : Nat} {g : Nat → Ord} {T : Nat → Int} {i : Nat} (hi : i < n) : ∃ rest : List Nat, (∀ x, x ∈ rest → i < x ∧ x < n) ∧ ∀ T' : Nat → Int, eltS g T' n = eltS g T' i ++ ((if 0 < T' i then [⟨(g i).id, T' i⟩] else []) ++ (rest.filter (fun j => decide (0 < T' j))).map fun j => ⟨(g j).id, T' j⟩) := by
  obtain ⟨rest, h1, h2⟩ := range_cut hi
  refine ⟨rest, h2, fun T' => ?_⟩
  unfold eltS
  rw [h1, List.filter_append, List.map_append]
  congr 1
  by_cases h : 0 < T' i <;> simp [h, List.filter_cons]
theorem put_elt {n : Nat} {g : Nat → Ord} {T : Nat → Int} {i : Nat} {y : Int} (ha : AscO n g) (hi : i < n) (h0 : T i = 0) (hy : 0 < y) :
    (eltS g T i).length ≤ (eltS g T n).length ∧ (∀ q, q < (eltS g T i).length → ltS (lF dE (eltS g T n) q).cd (g i).id = true) ∧
    ((eltS g T i).length < (eltS g T n).length → ltS (lF dE (eltS g T n) (eltS g T i).length).cd (g i).id = false ∧ ((lF dE (eltS g T n) (eltS g T i).length).cd.toList == (g i).id.toList) = false) ∧
    putS (eltS g T n) ⟨(g i).id, y⟩ (eltS g T i).length = eltS g (fun j => if j = i then y else T j) n := by
  obtain ⟨rest, hr, hc⟩ := elt_cut (g := g) (T := T) hi
  have e1 := hc T
  rw [if_neg (by omega), List.nil_append] at e1
  have e2 := hc (fun j => if j = i then y else T j)
  simp only [if_true, hy] at e2
  obtain ⟨R, hR⟩ : ∃ R : List Elt, R = (rest.filter (fun j => decide (0 < T j))).map fun j => ⟨(g j).id, T j⟩ := ⟨_, rfl⟩
  have e3 : (rest.filter (fun j => decide (0 < if j = i then y else T j))).map (fun j => (⟨(g j).id, if j = i then y else T j⟩ : Elt)) = R := by
    rw [hR]
    have hne : ∀ x, x ∈ rest → (if x = i then y else T x) = T x := fun x hx => by have := hr x hx; rw [if_neg (by omega)]
    have e : rest.filter (fun j => decide (0 < if j = i then y else T j)) = rest.filter (fun j => decide (0 < T j)) := List.filter_congr fun x hx => by rw [hne x hx]
    rw [e]
    refine List.map_congr_left fun x hx => ?_
    rw [hne x (List.mem_filter.1 hx).1]
  have e4 : eltS g (fun j => if j = i then y else T j) i = eltS g T i := elt_congr fun j hj => by rw [if_neg (by omega)]
  rw [e3, e4] at e2
  rw [← hR] at e1
  rw [e2]
  have hm : ∀ q, q < (eltS g T i).length → ∃ j, j < i ∧ (lF dE (eltS g T n) q).cd = (g j).id := fun q hq => by
    rw [e1, lF_get (by simp; omega), List.getElem_append_left hq]
    obtain ⟨j, h1, _, h3⟩ := elt_mem (List.getElem_mem hq)
    exact ⟨j, h1, by rw [h3]⟩
  refine ⟨by rw [e1]; simp, fun q hq => ?_, fun hlt => ?_, ?_⟩
  · obtain ⟨j, h1, h2⟩ := hm q hq
    rw [h2]; exact ha j i h1 hi
  · have hRl : 0 < R.length := by rw [e1] at hlt; simp at hlt; exact hlt
    have e5 : lF dE (eltS g T n) (eltS g T i).length = R[0] := by
      rw [lF_get hlt]
      simp only [e1]
      rw [List.getElem_append_right (Nat.le_refl _)]
      simp
    have h6 : R[0] ∈ R := List.getElem_mem hRl
    rw [e5]
    have hRm : ∀ y, y ∈ R → ∃ j, (i < j ∧ j < n) ∧ y.cd = (g j).id := fun y hy => by
      rw [hR, List.mem_map] at hy
      obtain ⟨j, h7, h8⟩ := hy
      exact ⟨j, hr j (List.mem_filter.1 h7).1, by rw [← h8]⟩
    obtain ⟨j, h9, h10⟩ := hRm _ h6
    rw [h10]
    have := ha i j h9.1 h9.2
    exact ⟨lt_asym this, (lt_ne this).2⟩
  · unfold putS
    rw [e1, List.take_left, List.drop_left]; simp
theorem gl_pre (key : Nat → Int) (κ : Int) {m : Nat} : ∀ {n : Nat}, m ≤ n → ∃ r, glS n key κ = glS m key κ ++ r
  | 0, h => by have : m = 0 := by omega
               subst this; exact ⟨[], by simp⟩
  | n + 1, h => by
    by_cases e : m = n + 1
    · subst e; exact ⟨[], by simp⟩
    · obtain ⟨r, hr⟩ := gl_pre key κ (m := m) (n := n) (by omega)
      have : glS (n + 1) key κ = glS n key κ ++ (if (key n == κ) = true then [n] else []) := ixS_succ _ n
      exact ⟨r ++ (if (key n == κ) = true then [n] else []), by rw [this, hr]; simp⟩
theorem gl_at {n : Nat} {key : Nat → Int} {κ : Int} {i : Nat} (hi : i < n) (hk : key i = κ) : (glS i key κ).length < (glS n key κ).length ∧ (glS n key κ).getD (glS i key κ).length 0 = i := by
  obtain ⟨r, hr⟩ := gl_pre key κ (m := i + 1) (n := n) (by omega)
  have h1 : glS (i + 1) key κ = glS i key κ ++ [i] := by
    have : glS (i + 1) key κ = glS i key κ ++ (if (key i == κ) = true then [i] else []) := ixS_succ _ i
    rw [this, if_pos (by simp [hk])]
  rw [hr, h1]
  constructor
  · simp
  · simp [List.getD_eq_getElem?_getD]
theorem gl_succ {key : Nat → Int} {κ : Int} {i : Nat} : glS (i + 1) key κ = glS i key κ ++ (if key i = κ then [i] else []) := by
  have : glS (i + 1) key κ = glS i key κ ++ (if (key i == κ) = true then [i] else []) := ixS_succ _ i
  rw [this]
  by_cases h : key i = κ <;> simp [h]
/-- what the a-th of a group takes -/
theorem tk_at {n : Nat} {key cl : Nat → Int} (p : Nat → Bool) (A κ : Int) {a : Nat} (ha : a < (glS n key κ).length) : tkS n key cl p A ((glS n key κ).getD a 0) = if sumL cl (glS n key κ) ≤ mx0 (A - befS n key cl p κ) then cl ((glS n key κ).getD a 0) else prtS (glS n key κ).length (mx0 (A - befS n key cl p κ)) (sumL cl (glS n key κ)) (fun a => cl ((glS n key κ).getD a 0)) a := by
  have hm : (glS n key κ).getD a 0 ∈ glS n key κ := by rw [List.getD_eq_getElem?_getD, List.getElem?_eq_getElem ha]; exact List.getElem_mem ha
  have hk := (gl_mem.1 hm).2
  have hnd : (glS n key κ).Nodup := (gl_asc n key κ).imp fun h => Nat.ne_of_lt h
  have hidx : (glS n key κ).idxOf ((glS n key κ).getD a 0) = a := by
    rw [List.getD_eq_getElem?_getD, List.getElem?_eq_getElem ha]
    simp only [Option.getD_some]
    exact hnd.idxOf_getElem a ha
  unfold tkS
  rw [hk, hidx]
/-- nothing lies between κ and the next group -/
theorem bP_next {n : Nat} {p : Nat → Bool} {key : Nat → Int} {κ : Int} {j : Nat} (hj : j < n) (hlt : κ < mnK p key κ n) : bP p key κ j = (p j && decide (key j < mnK p key κ n)) := by
  unfold bP
  by_cases hp : p j = true
  · by_cases h : key j < κ + 1
    · rw [decide_eq_true h, decide_eq_true (show key j < mnK p key κ n by omega)]
    · have := mn_le (κ := κ) hj hp (show κ < key j by omega)
      rw [decide_eq_false h, decide_eq_false (show ¬ key j < mnK p key κ n by omega)]
  · simp [hp]
theorem left_eq {n : Nat} {key cl : Nat → Int} (h : GOk n key cl) {p : Nat → Bool} (hkey : ∀ i j, i < n → j < n → key i = key j → p i = p j) (hk0 : ∀ i, i < n → 0 ≤ key i) {A κ : Int} (hA : 0 ≤ A) (hlt : κ < mnK p key κ n) (h0 : 0 ≤ mnK p key κ n) : A - tkn n p key (tkS n key cl p A) κ = mx0 (A - befS n key cl p (mnK p key κ n)) := by
  obtain ⟨m, hm⟩ := Int.eq_ofNat_of_zero_le h0
  have h1 := tk_below h hkey hk0 hA m
  rw [← hm, sumL_ix] at h1
  have h2 : tkn n p key (tkS n key cl p A) κ = sumN n (ifS (fun j => p j && decide (key j < mnK p key κ n)) (tkS n key cl p A)) := by
    unfold tkn
    refine sumN_congr fun j hj => ?_
    unfold ifS
    rw [bP_next hj hlt]
  rw [h2, h1]
  unfold mx0
  split <;> split <;> omega
theorem TT_next {n : Nat} {key : Nat → Int} {p : Nat → Bool} (hkey : ∀ i j, i < n → j < n → key i = key j → p i = p j) {κ : Int} (tk T0 : Nat → Int) (hK : mnK p key κ n ≠ 1000000) {j : Nat} (hj : j < n) : TI3 key (mnK p key κ n) tk (TT p key tk T0 κ) n j = TT p key tk T0 (mnK p key κ n) j := by
  rcases mn_mem (p := p) (key := key) (κ := κ) (i := n) with h | ⟨a, ha, pa, ka, ea⟩
  · exact absurd h hK
  · unfold TI3 TT
    rw [bP_next hj (by omega)]
    by_cases e : key j = mnK p key κ n
    · have hp : p j = true := by rw [hkey j a hj ha (by rw [e, ea])]; exact pa
      have h1 : bP p key (mnK p key κ n) j = true := by unfold bP; simp [hp]; omega
      rw [if_pos (by simp [hj, e]), if_pos h1]
    · rw [if_neg (by simp [e])]
      have h1 : bP p key (mnK p key κ n) j = (p j && decide (key j < mnK p key κ n)) := by
        unfold bP
        by_cases h2 : key j < mnK p key κ n
        · rw [decide_eq_true h2, decide_eq_true (show key j < mnK p key κ n + 1 by omega)]
        · rw [decide_eq_false h2, decide_eq_false (show ¬ key j < mnK p key κ n + 1 by omega)]
      rw [h1]
theorem tkn_next {n : Nat} {key : Nat → Int} {p : Nat → Bool} (hkey : ∀ i j, i < n → j < n → key i = key j → p i = p j) {κ : Int} (tk : Nat → Int) (hK : mnK p key κ n ≠ 1000000) : tkn n p key tk κ + sumN n (ifS (fun j => key j == mnK p key κ n) tk) = tkn n p key tk (mnK p key κ n) := by
  unfold tkn
  rw [← sumN_add]
  refine sumN_congr fun j hj => ?_
  rcases mn_mem (p := p) (key := key) (κ := κ) (i := n) with h | ⟨a, ha, pa, ka, ea⟩
  · exact absurd h hK
  · unfold ifS
    rw [bP_next hj (by omega)]
    by_cases e : key j = mnK p key κ n
    · have hp : p j = true := by rw [hkey j a hj ha (by rw [e, ea])]; exact pa
      have h1 : bP p key (mnK p key κ n) j = true := by unfold bP; simp [hp]; omega
      rw [if_neg (by simp [e]), if_pos (by simp [e]), if_pos h1]; omega
    · have h1 : bP p key (mnK p key κ n) j = (p j && decide (key j < mnK p key κ n)) := by
        unfold bP
        by_cases h2 : key j < mnK p key κ n
        · rw [decide_eq_true h2, decide_eq_true (show key j < mnK p key κ n + 1 by omega)]
        · rw [decide_eq_false h2, decide_eq_false (show ¬ key j < mnK p key κ n + 1 by omega)]
      rw [h1]
      have h3 : (key j == mnK p key κ n) = false := by simpa using e
      simp only [h3]
      simp
theorem bP_end {n : Nat} {p : Nat → Bool} {key : Nat → Int} {κ : Int} {j : Nat} (hj : j < n) (hk1 : key j < 1000000) (hK : mnK p key κ n = 1000000) : bP p key κ j = p j := by
  unfold bP
  by_cases hp : p j = true
  · by_cases h : key j < κ + 1
    · simp [h, hp]
    · have := mn_le (κ := κ) hj hp (show κ < key j by omega)
      omega
  · simp [hp]
theorem bP_start {n : Nat} {p : Nat → Bool} {key : Nat → Int} {κ : Int} {j : Nat} (hk0 : 0 ≤ key j) (h : κ < -1) : bP p key κ j = false := by
  unfold bP
  simp
  intro _
  omega
end Go.Proofs.Ytipdkompinnghaa
