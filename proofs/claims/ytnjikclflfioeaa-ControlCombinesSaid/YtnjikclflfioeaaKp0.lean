/- Plain: what combining keeps. -/
import Derived.Test.YtnjikclflfioeaaCt2
set_option linter.unusedSimpArgs false
set_option linter.unusedVariables false
namespace Go.Proofs.Ytnjikclflfioeaa
theorem sumN_take (f : Pay → Int) (L : List Pay) : ∀ k, k ≤ L.length → sumN k (fun i => f (lF dP L i)) = ((L.take k).map f).sum
  | 0, _ => rfl
  | k + 1, h => by
    rw [sumN, sumN_take f L k (by omega), List.take_succ_eq_append_getElem (show k < L.length by omega), List.map_append, List.sum_append]
    have : lF dP L k = L[k] := by unfold lF; rw [List.getD_eq_getElem?_getD, List.getElem?_eq_getElem (show k < L.length by omega)]; rfl
    simp [this]
theorem sumN_lF (f : Pay → Int) (L : List Pay) : sumN L.length (fun i => f (lF dP L i)) = (L.map f).sum := by
  rw [sumN_take f L L.length (Nat.le_refl _), List.take_length]
theorem pick_none {q : Int} : ∀ {L : List Pay}, (∀ p, p ∈ L → p.1 ≠ q) → (L.map fun p => if p.1 = q then p.2 else 0).sum = 0
  | [], _ => rfl
  | p :: L, h => by
    rw [List.map_cons, List.sum_cons, if_neg (h p (by simp)), pick_none fun x hx => h x (by simp [hx])]; rfl
theorem pick_one {p : Pay} : ∀ {L : List Pay}, (L.map (·.1)).Nodup → p ∈ L → (L.map fun x => if x.1 = p.1 then x.2 else 0).sum = p.2
  | [], _, h => by simp at h
  | x :: L, hn, h => by
    simp only [List.map_cons, List.nodup_cons] at hn
    rw [List.map_cons, List.sum_cons]
    rcases List.mem_cons.1 h with rfl | h
    · rw [if_pos rfl, pick_none fun y hy e => hn.1 (List.mem_map.2 ⟨y, hy, e⟩)]; omega
    · rw [if_neg (fun e => hn.1 (by rw [e]; exact List.mem_map.2 ⟨p, h, rfl⟩)), pick_one hn.2 h]; omega
theorem sumE_list (L : List Pay) (q : Int) : sumE L.length (lF dP L) q = (L.map fun p => if p.1 = q then p.2 else 0).sum := sumN_lF (fun p => if p.1 = q then p.2 else 0) L
theorem CombR.nd {n : Nat} {g : Nat → Pay} {L : List Pay} (h : CombR n g L) : (L.map (·.1)).Nodup := h.srt.imp fun h => by omega
theorem CombR.sumE {n : Nat} {g : Nat → Pay} {L : List Pay} (h : CombR n g L) (q : Int) : sumE L.length (lF dP L) q = Go.Proofs.Ytnjikclflfioeaa.sumE n g q := by
  rw [sumE_list]
  by_cases hq : q ∈ L.map (·.1)
  · obtain ⟨p, hp, rfl⟩ := List.mem_map.1 hq
    rw [pick_one h.nd hp, (h.val p hp).1]
  · rw [pick_none fun p hp e => hq (List.mem_map.2 ⟨p, hp, e⟩), sumE_none fun ho => hq ((h.occ q).2 ho)]
theorem occ_list (L : List Pay) (k : Int) : occE L.length (lF dP L) k ↔ k ∈ L.map (·.1) := by
  have e : ∀ i (hi : i < L.length), lF dP L i = L[i] := fun i hi => by unfold lF; rw [List.getD_eq_getElem?_getD, List.getElem?_eq_getElem hi]; rfl
  constructor
  · rintro ⟨i, hi, rfl⟩
    rw [e i hi]; exact List.mem_map.2 ⟨_, List.getElem_mem hi, rfl⟩
  · intro h
    obtain ⟨p, hp, rfl⟩ := List.mem_map.1 h
    obtain ⟨i, hi, hpi⟩ := List.getElem_of_mem hp
    exact ⟨i, hi, by rw [e i hi, hpi]⟩
/-- combining again changes nothing -/
theorem CombR.again {n : Nat} {g : Nat → Pay} {L : List Pay} (h : CombR n g L) : CombR L.length (lF dP L) L :=
  ⟨h.srt, fun k => (occ_list L k).symm, fun p hp => ⟨by rw [h.sumE]; exact (h.val p hp).1, (h.val p hp).2⟩⟩
theorem sum_add {α : Type} (f g : α → Int) : ∀ l : List α, (l.map fun x => f x + g x).sum = (l.map f).sum + (l.map g).sum
  | [] => rfl
  | x :: l => by simp only [List.map_cons, List.sum_cons, sum_add f g l]; omega
theorem one_key {v q : Int} : ∀ {ks : List Int}, ks.Nodup → q ∈ ks → (ks.map fun k => if q = k then v else 0).sum = v
  | [], _, h => by simp at h
  | k :: ks, hn, h => by
    simp only [List.nodup_cons] at hn
    rw [List.map_cons, List.sum_cons]
    have no : q ∉ ks → (ks.map fun k => if q = k then v else 0).sum = 0 := fun hq => by
      have : ∀ ks : List Int, q ∉ ks → (ks.map fun k => if q = k then v else 0).sum = 0 := fun ks => by
        induction ks with
        | nil => intro _; rfl
        | cons x ks ih =>
          intro hx
          simp only [List.mem_cons, not_or] at hx
          rw [List.map_cons, List.sum_cons, if_neg hx.1, ih hx.2]; rfl
      exact this ks hq
    rcases List.mem_cons.1 h with rfl | h
    · rw [if_pos rfl, no hn.1]; omega
    · rw [if_neg (fun e : q = k => hn.1 (by rw [← e]; exact h)), one_key hn.2 h]; omega
theorem tot (g : Nat → Pay) (ks : List Int) (hn : ks.Nodup) : ∀ n, (∀ i, i < n → (g i).1 ∈ ks) → (ks.map (sumE n g)).sum = sumN n (fun i => (g i).2)
  | 0, _ => by
    have : ∀ ks : List Int, (ks.map (sumE 0 g)).sum = 0 := fun ks => by
      induction ks with
      | nil => rfl
      | cons k ks ih => rw [List.map_cons, List.sum_cons, ih]; rfl
    exact this ks
  | n + 1, h => by
    have e : ks.map (sumE (n + 1) g) = ks.map fun k => sumE n g k + (if (g n).1 = k then (g n).2 else 0) := rfl
    rw [e, sum_add, tot g ks hn n fun i hi => h i (by omega), one_key hn (h n (by omega))]; rfl
/-- the sum is kept -/
theorem CombR.total {n : Nat} {g : Nat → Pay} {L : List Pay} (h : CombR n g L) : sumN L.length (fun i => (lF dP L i).2) = sumN n (fun i => (g i).2) := by
  rw [sumN_lF (fun p => p.2) L, ← tot g (L.map (·.1)) h.nd n fun i hi => (h.occ _).2 ⟨i, hi, rfl⟩, List.map_map]
  congr 1
  exact List.map_congr_left fun p hp => (h.val p hp).1
theorem CombR.len {n : Nat} {g : Nat → Pay} {L : List Pay} (h : CombR n g L) : L.length ≤ n := by
  have : (L.map (·.1)).length ≤ ((List.range n).map fun i => (g i).1).length := h.nd.length_le_of_subset fun k hk => by
    obtain ⟨i, hi, e⟩ := (h.occ k).1 hk
    exact List.mem_map.2 ⟨i, by simpa using hi, e⟩
  simpa using this
theorem CombR.ok {n : Nat} {g : Nat → Pay} {L : List Pay} (h : CombR n g L) (hg : ∀ i, i < n → payOk (g i) = true) : ∀ i, i < L.length → payOk (lF dP L i) = true := fun i hi => by
  have e : lF dP L i = L[i] := by unfold lF; rw [List.getD_eq_getElem?_getD, List.getElem?_eq_getElem hi]; rfl
  rw [e]
  have hp := List.getElem_mem hi
  generalize L[i] = p at *
  obtain ⟨j, hj, hje⟩ := (h.occ p.1).1 (List.mem_map.2 ⟨p, hp, rfl⟩)
  have h1 := payOk_iff.1 (hg j hj)
  have h2 := h.val p hp
  have h3 := sumN_one (n := n) (f := fun i => if (g i).1 = p.1 then (g i).2 else 0) (fun i hi => by have := payOk_iff.1 (hg i hi); show 0 ≤ (if (g i).1 = p.1 then (g i).2 else 0); split <;> omega) hj
  simp only [hje, if_true] at h3
  have h4 : Go.Proofs.Ytnjikclflfioeaa.sumE n g p.1 = sumN n (fun i => if (g i).1 = p.1 then (g i).2 else 0) := rfl
  rw [payOk_iff]; omega
theorem CombR.lt {n : Nat} {g : Nat → Pay} {L : List Pay} (h : CombR n g L) {i : Nat} (hi : i + 1 < L.length) : (lF dP L i).1 < (lF dP L (i + 1)).1 := by
  have e : ∀ i (hi : i < L.length), lF dP L i = L[i] := fun i hi => by unfold lF; rw [List.getD_eq_getElem?_getD, List.getElem?_eq_getElem hi]; rfl
  rw [e i (by omega), e (i + 1) hi]
  have := List.pairwise_iff_getElem.1 h.srt i (i + 1) (by simp; omega) (by simpa using hi) (by omega)
  simpa using this
end Go.Proofs.Ytnjikclflfioeaa
