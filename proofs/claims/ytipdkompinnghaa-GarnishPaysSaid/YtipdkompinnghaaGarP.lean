/- Plain: how claims are served in the order of their keys. -/
import Derived.Test.YtipdkompinnghaaAlc0
set_option linter.unusedSimpArgs false
set_option linter.unusedVariables false
namespace Go.Proofs.Ytipdkompinnghaa
def sumL (cl : Nat → Int) : List Nat → Int
  | [] => 0
  | x :: l => cl x + sumL cl l
theorem sumL_app (cl : Nat → Int) : ∀ (a b : List Nat), sumL cl (a ++ b) = sumL cl a + sumL cl b
  | [], b => by simp [sumL]
  | x :: a, b => by simp only [List.cons_append, sumL, sumL_app cl a b]; omega
theorem sumL_perm (cl : Nat → Int) {a b : List Nat} (h : a.Perm b) : sumL cl a = sumL cl b := by
  induction h with
  | nil => rfl
  | cons x _ ih => simp only [sumL, ih]
  | swap x y l => simp only [sumL]; omega
  | trans _ _ h1 h2 => rw [h1, h2]
theorem sumL_nonneg {cl : Nat → Int} : ∀ {l : List Nat}, (∀ x, x ∈ l → 0 ≤ cl x) → 0 ≤ sumL cl l
  | [], _ => Int.le_refl _
  | x :: l, h => by
    have := h x (by simp)
    have := sumL_nonneg (l := l) fun y hy => h y (by simp [hy])
    simp only [sumL]; omega
theorem sumL_le {cl : Nat → Int} {c : Int} : ∀ {l : List Nat}, (∀ x, x ∈ l → cl x ≤ c) → sumL cl l ≤ l.length * c
  | [], _ => by simp [sumL]
  | x :: l, h => by
    have h1 := h x (by simp)
    have h2 := sumL_le (l := l) fun y hy => h y (by simp [hy])
    simp only [sumL, List.length_cons]
    have : ((l.length + 1 : Nat) : Int) * c = l.length * c + c := by rw [Int.natCast_add, Int.add_mul]; simp
    rw [this]; omega
theorem sumN_sumL (cl : Nat → Int) (l : List Nat) : sumN l.length (fun a => cl (l.getD a 0)) = sumL cl l := by
  have key : ∀ (l : List Nat) (k : Nat), k ≤ l.length → sumN k (fun a => cl (l.getD a 0)) = sumL cl (l.take k) := by
    intro l k
    induction k with
    | zero => intro _; simp [sumN, sumL]
    | succ k ih =>
      intro hk
      rw [sumN, ih (by omega), List.take_add_one, sumL_app]
      have : l[k]? = some (l.getD k 0) := by rw [List.getD_eq_getElem?_getD, List.getElem?_eq_getElem (by omega)]; rfl
      rw [this]; simp [sumL]
  rw [key l l.length (Nat.le_refl _), List.take_length]
/-- two ascending lists of the same numbers are the same -/
theorem asc_eq : ∀ {a b : List Nat}, a.Pairwise (· < ·) → b.Pairwise (· < ·) → (∀ x, x ∈ a ↔ x ∈ b) → a = b
  | [], [], _, _, _ => rfl
  | [], y :: b, _, _, h => by have := (h y).2 (by simp); simp at this
  | x :: a, [], _, _, h => by have := (h x).1 (by simp); simp at this
  | x :: a, y :: b, ha, hb, h => by
    rw [List.pairwise_cons] at ha hb
    have e : x = y := by
      have h1 := (h x).1 (by simp)
      have h2 := (h y).2 (by simp)
      rcases List.mem_cons.1 h1 with h1 | h1
      · exact h1
      · rcases List.mem_cons.1 h2 with h2 | h2
        · exact h2.symm
        · have := ha.1 y h2; have := hb.1 x h1; omega
    subst e
    rw [asc_eq ha.2 hb.2 fun z => ?_]
    constructor
    · intro hz
      rcases List.mem_cons.1 ((h z).1 (by simp [hz])) with e | e
      · subst e; have := ha.1 z hz; omega
      · exact e
    · intro hz
      rcases List.mem_cons.1 ((h z).2 (by simp [hz])) with e | e
      · subst e; have := hb.1 z hz; omega
      · exact e
/-- who has a key -/
def glS (n : Nat) (key : Nat → Int) (κ : Int) : List Nat := (List.range n).filter (fun j => key j == κ)
theorem gl_mem {n : Nat} {key : Nat → Int} {κ : Int} {j : Nat} : j ∈ glS n key κ ↔ j < n ∧ key j = κ := by simp [glS]
theorem gl_asc (n : Nat) (key : Nat → Int) (κ : Int) : (glS n key κ).Pairwise (· < ·) := List.Pairwise.filter _ List.pairwise_lt_range
/-- those of a sort -/
def ixS (n : Nat) (p : Nat → Bool) : List Nat := (List.range n).filter p
theorem ix_mem {n : Nat} {p : Nat → Bool} {j : Nat} : j ∈ ixS n p ↔ j < n ∧ p j = true := by simp [ixS]
theorem ix_asc (n : Nat) (p : Nat → Bool) : (ixS n p).Pairwise (· < ·) := List.Pairwise.filter _ List.pairwise_lt_range
def befS (n : Nat) (key cl : Nat → Int) (p : Nat → Bool) (κ : Int) : Int := sumL cl (ixS n (fun j => p j && decide (key j < κ)))
def mx0 (x : Int) : Int := if x < 0 then 0 else x
/-- what one takes of an amount A -/
def tkS (n : Nat) (key cl : Nat → Int) (p : Nat → Bool) (A : Int) (i : Nat) : Int :=
  if sumL cl (glS n key (key i)) ≤ mx0 (A - befS n key cl p (key i)) then cl i
  else prtS (glS n key (key i)).length (mx0 (A - befS n key cl p (key i))) (sumL cl (glS n key (key i))) (fun a => cl ((glS n key (key i)).getD a 0)) ((glS n key (key i)).idxOf i)
/-- s: those of the sort in the order of their keys; s1: those served; the next ones -/
structure SrtInv (n : Nat) (key : Nat → Int) (p : Nat → Bool) (s s1 s2 : List Nat) : Prop where
  perm : s.Perm (ixS n p)
  srt : s.Pairwise (RB key)
  app : s = s1 ++ s2
  lt : ∀ a, a ∈ s1 → ∀ b, b ∈ s2 → key a < key b
theorem SrtInv.bef {n : Nat} {key : Nat → Int} {p : Nat → Bool} {s s1 s2 : List Nat} {x : Nat} (h : SrtInv n key p s s1 (x :: s2)) (cl : Nat → Int) : befS n key cl p (key x) = sumL cl s1 := by
  obtain ⟨hp, hs, rfl, hl⟩ := h
  unfold befS
  refine sumL_perm cl ?_
  have hnd : (s1 ++ x :: s2).Nodup := hp.nodup_iff.2 ((ix_asc n p).imp fun h => Nat.ne_of_lt h)
  rw [List.pairwise_append] at hs
  rw [List.perm_ext_iff_of_nodup ((ix_asc n _).imp fun h => Nat.ne_of_lt h) (List.nodup_append.1 hnd).1]
  intro a
  rw [ix_mem]
  have hmem : a ∈ s1 ++ x :: s2 ↔ a < n ∧ p a = true := by rw [hp.mem_iff, ix_mem]
  simp only [Bool.and_eq_true, decide_eq_true_eq]
  constructor
  · rintro ⟨h1, h2, h3⟩
    rcases List.mem_append.1 (hmem.2 ⟨h1, h2⟩) with h | h
    · exact h
    · rcases List.mem_cons.1 h with rfl | h
      · omega
      · have := (List.pairwise_cons.1 hs.2.1).1 a h
        unfold RB at this; omega
  · intro ha
    have := hmem.1 (List.mem_append_left _ ha)
    exact ⟨this.1, this.2, hl a ha x (by simp)⟩
theorem SrtInv.grp {n : Nat} {key : Nat → Int} {p : Nat → Bool} {s s1 grp s3 : List Nat} {κ : Int} (h : SrtInv n key p s s1 (grp ++ s3)) (hkey : ∀ i j, i < n → j < n → key i = key j → p i = p j) (hg : ∀ a, a ∈ grp → key a = κ) (hne : grp ≠ []) (h3 : ∀ a, a ∈ s3 → key a ≠ κ) : grp = glS n key κ ∧ SrtInv n key p s (s1 ++ grp) s3 := by
  obtain ⟨hp, hs, rfl, hl⟩ := h
  obtain ⟨x, hx⟩ := List.exists_mem_of_ne_nil grp hne
  have hmem : ∀ a, a ∈ s1 ++ (grp ++ s3) ↔ a < n ∧ p a = true := fun a => by rw [hp.mem_iff, ix_mem]
  have hxp := (hmem x).1 (by simp [hx])
  have hs' := hs
  rw [List.pairwise_append, List.pairwise_append] at hs'
  obtain ⟨q1, ⟨q2, q3, q4⟩, q5⟩ := hs'
  refine ⟨asc_eq ?_ (gl_asc n key κ) fun a => ?_, ⟨hp, hs, by simp, fun a ha b hb => ?_⟩⟩
  · refine List.Pairwise.imp_of_mem (fun {a b} ha hb hab => ?_) q2
    have := hg a ha; have := hg b hb
    unfold RB at hab; omega
  · rw [gl_mem]
    constructor
    · intro ha
      exact ⟨((hmem a).1 (by simp [ha])).1, hg a ha⟩
    · rintro ⟨h1, h2⟩
      have hpa : p a = true := by rw [hkey a x h1 hxp.1 (by rw [h2, hg x hx])]; exact hxp.2
      have := (hmem a).2 ⟨h1, hpa⟩
      simp only [List.mem_append] at this
      rcases this with h | h | h
      · have := hl a h x (by simp [hx]); rw [hg x hx] at this; omega
      · exact h
      · exact absurd h2 (h3 a h)
  · rcases List.mem_append.1 ha with ha | ha
    · exact hl a ha b (by simp [hb])
    · have h1 := q4 a ha b hb
      have h2 := hg a ha
      have h4 := h3 b hb
      unfold RB at h1; omega
/-- what the next ones take -/
theorem SrtInv.tk {n : Nat} {key : Nat → Int} {p : Nat → Bool} {s s1 grp s3 : List Nat} {κ : Int} (h : SrtInv n key p s s1 (grp ++ s3)) (hkey : ∀ i j, i < n → j < n → key i = key j → p i = p j) (hg : ∀ a, a ∈ grp → key a = κ) (hne : grp ≠ []) (h3 : ∀ a, a ∈ s3 → key a ≠ κ) (cl : Nat → Int) (A : Int) {q : Nat} (hq : q < grp.length) :
    tkS n key cl p A (grp.getD q 0) = if sumL cl grp ≤ mx0 (A - sumL cl s1) then cl (grp.getD q 0) else prtS grp.length (mx0 (A - sumL cl s1)) (sumL cl grp) (fun a => cl (grp.getD a 0)) q := by
  obtain ⟨e1, _⟩ := h.grp hkey hg hne h3
  have hmq : grp.getD q 0 ∈ grp := by rw [List.getD_eq_getElem?_getD, List.getElem?_eq_getElem hq]; exact List.getElem_mem hq
  have hk := hg _ hmq
  have hb : befS n key cl p κ = sumL cl s1 := by
    cases grp with
    | nil => exact absurd rfl hne
    | cons x gr => rw [← hg x (by simp)]; exact SrtInv.bef h cl
  have hnd : grp.Nodup := by rw [e1]; exact (gl_asc n key κ).imp fun h => Nat.ne_of_lt h
  have hidx : grp.idxOf (grp.getD q 0) = q := by
    rw [List.getD_eq_getElem?_getD, List.getElem?_eq_getElem hq]
    simp only [Option.getD_some]
    exact hnd.idxOf_getElem q hq
  unfold tkS
  rw [hk, hb, ← e1, hidx]
theorem cut3 (s : List Nat) (f k : Nat) : s.drop f = (s.drop f).take k ++ s.drop (f + k) := by
  rw [← List.drop_drop, List.take_append_drop]
theorem cut_get {s : List Nat} {f k a : Nat} (ha : a < k) : ((s.drop f).take k).getD a 0 = s.getD (f + a) 0 := by
  simp [List.getD_eq_getElem?_getD, List.getElem?_take, List.getElem?_drop, ha]
theorem cut_len {s : List Nat} {f k : Nat} (h : f + k ≤ s.length) : ((s.drop f).take k).length = k := by simp; omega
theorem sumN_grp (cl : Nat → Int) {s : List Nat} {f k : Nat} (h : f + k ≤ s.length) : sumN k (fun a => cl (s.getD (f + a) 0)) = sumL cl ((s.drop f).take k) := by
  rw [← sumN_sumL, cut_len h]
  exact sumN_congr fun a ha => by rw [cut_get ha]
/-- behind the last one with the key: all keys are greater -/
theorem rest_ne {key : Nat → Int} {s : List Nat} {f k : Nat} (hs : s.Pairwise (RB key)) (hk : 0 < k) (h : f + k ≤ s.length) (he : s.length ≤ f + k ∨ key (s.getD (f + k) 0) ≠ key (s.getD f 0)) : ∀ a, a ∈ s.drop (f + k) → key a ≠ key (s.getD f 0) := by
  intro a ha
  rcases he with he | he
  · rw [List.drop_eq_nil_of_le he] at ha; simp at ha
  · by_cases hl : s.length ≤ f + k
    · rw [List.drop_eq_nil_of_le hl] at ha; simp at ha
    · obtain ⟨i, hi, rfl⟩ := List.getElem_of_mem ha
      simp only [List.length_drop] at hi
      rw [List.getElem_drop]
      have e1 : s.getD f 0 = s[f] := by rw [List.getD_eq_getElem?_getD, List.getElem?_eq_getElem (by omega)]; rfl
      have e2 : s.getD (f + k) 0 = s[f + k] := by rw [List.getD_eq_getElem?_getD, List.getElem?_eq_getElem (by omega)]; rfl
      rw [e1, e2] at he
      rw [e1]
      have h1 := List.pairwise_iff_getElem.1 hs f (f + k) (by omega) (by omega) (by omega)
      by_cases h0 : i = 0
      · subst h0; simpa using he
      · have h2 := List.pairwise_iff_getElem.1 hs (f + k) (f + k + i) (by omega) (by omega) (by omega)
        unfold RB at h1 h2
        omega
/-- the first i of the group have been written -/
def wrS (grp : List Nat) (P T : Nat → Int) (i j : Nat) : Int := if j ∈ grp.take i then P (grp.idxOf j) else T j
theorem wrS_step {grp : List Nat} {P T : Nat → Int} {i : Nat} (hnd : grp.Nodup) (hi : i < grp.length) (j : Nat) : (if j = grp.getD i 0 then P i else wrS grp P T i j) = wrS grp P T (i + 1) j := by
  have e1 : grp.getD i 0 = grp[i] := by rw [List.getD_eq_getElem?_getD, List.getElem?_eq_getElem hi]; rfl
  rw [e1]
  unfold wrS
  have ht : grp.take (i + 1) = grp.take i ++ [grp[i]] := by rw [List.take_add_one, List.getElem?_eq_getElem hi]; rfl
  by_cases h : j = grp[i]
  · rw [if_pos h, if_pos (by rw [ht]; exact List.mem_append_right _ (List.mem_singleton.2 h)), h, hnd.idxOf_getElem i hi]
  · rw [if_neg h]
    have : j ∈ grp.take (i + 1) ↔ j ∈ grp.take i := by rw [ht, List.mem_append]; simp [h]
    simp only [this]
theorem prt_congr {n : Nat} {t s : Int} {w w' : Nat → Int} (h : ∀ i, i < n → w i = w' i) {i : Nat} (hi : i < n) : prtS n t s w i = prtS n t s w' i := by
  have h1 : ∀ j, j < n → keyS t s w j = keyS t s w' j := fun j hj => by unfold keyS rstS; rw [h j hj]
  have h2 : rk n (keyS t s w) i = rk n (keyS t s w') i := by
    unfold rk
    refine List.countP_congr fun j hj => ?_
    have hj : j < n := by simpa using hj
    unfold RBb
    rw [h1 j hj, h1 i hi]
  have h3 : misS n t s w = misS n t s w' := by
    unfold misS
    rw [sumN_congr (f := bseS t s w) (g := bseS t s w') fun j hj => by unfold bseS; rw [h j hj]]
  unfold prtS
  rw [h2, h3]
  unfold bseS
  rw [h i hi]
end Go.Proofs.Ytipdkompinnghaa
