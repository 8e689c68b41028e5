/- Plain: what is attached settles. -/
import Derived.Test.YtipdkompinnghaaStl
import Derived.Test.YtipdkompinnghaaGar7
set_option linter.unusedSimpArgs false
set_option linter.unusedVariables false
set_option maxRecDepth 100000
namespace Go.Proofs.Ytipdkompinnghaa
section
variable {n : Nat} {g : Nat → Ord} {T : Nat → Int}
theorem elt_at {E : List Elt} (hE : E = eltS g T n) {t : Nat} (ht : t < E.length) : ∃ j, j < n ∧ 0 < T j ∧ lF dE E t = ⟨(g j).id, T j⟩ := by
  rw [lF_get ht]
  exact elt_mem (hE ▸ List.getElem_mem ht)
theorem elt_has {j : Nat} (hj : j < n) (h : 0 < T j) : (⟨(g j).id, T j⟩ : Elt) ∈ eltS g T n := by
  unfold eltS
  rw [List.mem_map]
  exact ⟨j, by simp [hj, h], rfl⟩
theorem elt_pair (hd : ∀ i j, i < n → j < n → (g i).id = (g j).id → i = j) : (eltS g T n).Pairwise (fun a b => a.cd ≠ b.cd) := by
  unfold eltS
  rw [List.pairwise_map]
  have h : ((List.range n).filter fun j => decide (0 < T j)).Pairwise (· < ·) := List.pairwise_lt_range.sublist List.filter_sublist
  refine h.imp_of_mem fun ha hb hlt he => ?_
  simp only [List.mem_filter, List.mem_range] at ha hb
  have := hd _ _ ha.1 hb.1 he
  omega
theorem elt_nodup (hd : ∀ i j, i < n → j < n → (g i).id = (g j).id → i = j) {E : List Elt} (hE : E = eltS g T n) : ¬ dupP E.length (lF dE E) := fun ⟨i, j, hij, hj, he⟩ => by
  have hp := elt_pair (T := T) hd
  rw [← hE] at hp
  have := List.pairwise_iff_getElem.1 hp i j (by omega) hj hij
  rw [lF_get hj, lF_get (by omega)] at he
  exact this he
theorem elt_tk (hd : ∀ i j, i < n → j < n → (g i).id = (g j).id → i = j) (hT : ∀ i, i < n → 0 ≤ T i) {E : List Elt} (hE : E = eltS g T n) {i : Nat} (hi : i < n) : tkF (lF dE E) E.length (g i).id = T i := by
  unfold tkF
  have hnd := nodup_dist (elt_nodup hd hE)
  by_cases h : 0 < T i
  · obtain ⟨t, ht, he⟩ := List.mem_iff_getElem.1 (hE ▸ elt_has hi h : (⟨(g i).id, T i⟩ : Elt) ∈ E)
    have e1 : lF dE E t = ⟨(g i).id, T i⟩ := by rw [lF_get ht, he]
    have e2 : (g i).id = cdF (lF dE E) t := by show _ = (lF dE E t).cd; rw [e1]
    rw [e2, lastS_at hnd (Nat.le_refl _) ht]
    show (lF dE E t).am = _
    rw [e1]
  · have : lastS (cdF (lF dE E)) (amF (lF dE E)) E.length (g i).id = none := lastS_none.2 fun t ht he => by
      obtain ⟨j, hj, hp, e⟩ := elt_at hE ht
      have he : (lF dE E t).cd = (g i).id := he
      rw [e] at he
      have := hd j i hj hi he
      subst this
      exact h hp
    rw [this]
    have := hT i hi
    show (0 : Int) = _
    omega
theorem elt_stl (ho : ordsB n g = true) (hT : ∀ i, i < n → 0 ≤ T i ∧ T i ≤ (g i).tt) {E : List Elt} (hE : E = eltS g T n) : stlS n g E.length (lF dE E) = (restS g (lF dE E) E.length n, 0) := by
  have hd := ids_dist ho
  refine stl0 ho (elt_nodup hd hE) (fun ⟨t, ht, h⟩ => ?_) (fun ⟨t, j, ht, hj, h1, h2⟩ => ?_)
  · obtain ⟨j, hj, _, e⟩ := elt_at hE ht
    exact h j hj (by rw [e])
  · obtain ⟨j', hj', hp, e⟩ := elt_at hE ht
    rw [e] at h1 h2
    have := hd j j' hj hj' h1
    subst this
    have := hT j hj
    simp only at h2
    omega
theorem rest_sum (e : Nat → Elt) (m : Nat) {tk : Nat → Int} (hk : ∀ i, i < n → tkF e m (g i).id = tk i) : ∀ i, i ≤ n → sumN (restS g e m i).length (fun a => (lF dO (restS g e m i) a).tt) = sumN i (fun a => (g a).tt) - sumN i tk
  | 0, _ => rfl
  | i + 1, hi => by
    have ih := rest_sum e m hk i (by omega)
    have ht : (leftO e m (g i)).tt = (g i).tt - tk i := by show (g i).tt - tkF e m (g i).id = _; rw [hk i (by omega)]
    rw [restS]
    split
    · rename_i h
      rw [ih]; simp only [sumN]; omega
    · rw [List.length_append, List.length_singleton, sumN]
      have e1 : sumN (restS g e m i).length (fun a => (lF dO (restS g e m i ++ [leftO e m (g i)]) a).tt) = sumN (restS g e m i).length (fun a => (lF dO (restS g e m i) a).tt) := sumN_congr fun a ha => by rw [lF_lt ha]
      rw [e1, ih, lF_at, ht]
      simp only [sumN]; omega
end
theorem rest_ids (l : List Ord) (e : Nat → Elt) (m : Nat) : ∀ i, i ≤ l.length → ((restS (lF dO l) e m i).map Ord.id).Sublist ((l.take i).map Ord.id)
  | 0, _ => by simp [restS]
  | i + 1, hi => by
    have ih := rest_ids l e m i (by omega)
    rw [List.take_add_one, List.getElem?_eq_getElem (show i < l.length by omega), Option.toList_some, List.map_append, restS]
    split
    · exact ih.trans (List.sublist_append_left _ _)
    · rw [List.map_append]
      refine ih.append ?_
      rw [lF_get (show i < l.length by omega)]
      exact List.Sublist.refl _
theorem rest_mem {g : Nat → Ord} {e : Nat → Elt} {m : Nat} {o : Ord} : ∀ i, o ∈ restS g e m i → ∃ j, j < i ∧ o = leftO e m (g j)
  | 0, h => by simp [restS] at h
  | i + 1, h => by
    rw [restS] at h
    split at h
    · obtain ⟨j, hj, e1⟩ := rest_mem i h; exact ⟨j, by omega, e1⟩
    · rcases List.mem_append.1 h with h | h
      · obtain ⟨j, hj, e1⟩ := rest_mem i h; exact ⟨j, by omega, e1⟩
      · exact ⟨i, by omega, by simpa using h⟩
theorem rest_ols {l : List Ord} (hl : OLs 5 l) {e : Nat → Elt} {m : Nat} (hk : ∀ i, i < l.length → 0 ≤ tkF e m (lF dO l i).id ∧ tkF e m (lF dO l i).id ≤ (lF dO l i).tt) : OLs 5 (restS (lF dO l) e m l.length) := by
  refine ⟨?_, fun o ho => ?_⟩
  · have := rest_ids l e m l.length (Nat.le_refl _)
    rw [List.take_length] at this
    exact this.trans hl.ids
  · obtain ⟨j, hj, rfl⟩ := rest_mem _ ho
    have h := hl.gd _ (List.getElem_mem hj)
    rw [← lF_get (d := dO) hj] at h
    have := hk j hj
    have q1 := h.t0
    have q2 := h.t1
    exact { h with t0 := by show _ ≤ (lF dO l j).tt - _; omega, t1 := by show (lF dO l j).tt - _ ≤ _; omega }
end Go.Proofs.Ytipdkompinnghaa
