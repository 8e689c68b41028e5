/- Plain: what all orders take, as elements. -/
import Derived.Test.YtipdkompinnghaaGarQ
import Derived.Test.YtipdkompinnghaaGar5
import Derived.Test.YtipdkompinnghaaMo31
set_option linter.unusedSimpArgs false
set_option linter.unusedVariables false
namespace Go.Proofs.Ytipdkompinnghaa
theorem OOk.g {n : Nat} {g : Nat → Ord} (h : OOk n g) : GOk n (keyO g) (clO g) := ⟨h.n16, fun i hi => (h.cl hi).1, fun i hi => (h.cl hi).2⟩
theorem OOk.k0 {n : Nat} {g : Nat → Ord} (h : OOk n g) : ∀ i, i < n → 0 ≤ keyO g i := fun i hi => by
  have := h.r0 i hi; have := h.d0 i hi
  unfold keyO; omega
theorem OOk.k1 {n : Nat} {g : Nat → Ord} (h : OOk n g) : ∀ i, i < n → keyO g i < (1000000 : Nat) := fun i hi => by
  have := h.r9 i hi; have := h.d1 i hi
  unfold keyO; omega
theorem tk1_eq {x : Shd} {net k : Int} {n : Nat} {g : Nat → Ord} {i : Nat} (hi : i < n) : tk1S x net k n g i = ifS (pP g) (tkS n (keyO g) (clO g) (pP g) (net - lwS x net k)) i := by
  unfold tk1S ifS
  simp only [ix_mem, hi, true_and]
theorem tkA_eq {x : Shd} {net k : Int} {n : Nat} {g : Nat → Ord} {i : Nat} (hi : i < n) : tkA x net k n g i = if (g i).rk = 0 then tkS n (keyO g) (clO g) (pP g) (net - lwS x net k) i else tkS n (keyO g) (clO g) (pO g) (freeS x net k n g) i := by
  unfold tkA tk1S
  simp only [ix_mem, hi, true_and]
  by_cases h : (g i).rk = 0 <;> simp [pP, pO, h]
theorem tkA_bd {x : Shd} {net k : Int} {n : Nat} {g : Nat → Ord} (hO : OOk n g) {i : Nat} (hi : i < n) : 0 ≤ tkA x net k n g i ∧ tkA x net k n g i ≤ clO g i := by
  rw [tkA_eq hi]
  split
  · exact tk_le hO.g _ _ hi
  · exact tk_le hO.g _ _ hi
def wantS (n : Nat) (g : Nat → Ord) : Int := sumN n (ifS (pP g) (clO g))
def othS (n : Nat) (g : Nat → Ord) : Int := sumN n (ifS (pO g) (clO g))
def aS (x : Shd) (net k : Int) (n : Nat) (g : Nat → Ord) : Int := sumN n (ifS (pP g) (tkA x net k n g))
def bS (x : Shd) (net k : Int) (n : Nat) (g : Nat → Ord) : Int := sumN n (ifS (pO g) (tkA x net k n g))
theorem ab_sum (x : Shd) (net k : Int) (n : Nat) (g : Nat → Ord) : aS x net k n g + bS x net k n g = sumN n (tkA x net k n g) := by
  unfold aS bS
  rw [← sumN_add]
  refine sumN_congr fun i _ => ?_
  unfold ifS
  by_cases h : (g i).rk = 0 <;> simp [pP, pO, h]
theorem a_sum (x : Shd) (net k : Int) (n : Nat) (g : Nat → Ord) : sumN n (tk1S x net k n g) = aS x net k n g := by
  unfold aS
  refine sumN_congr fun i hi => ?_
  rw [tk1_eq hi]
  unfold ifS
  rw [tkA_eq hi]
  by_cases h : (g i).rk = 0 <;> simp [pP, pO, h]
theorem a_eq {x : Shd} {net k : Int} {n : Nat} {g : Nat → Ord} (hO : OOk n g) (hC : COk x net k) : aS x net k n g = if wantS n g ≤ net - lwS x net k then wantS n g else net - lwS x net k := by
  rw [← a_sum, sumN_congr (fun i hi => tk1_eq hi)]
  have := lw_bd hC
  exact tk_all hO.g (key_p hO) hO.k0 hO.k1 (by omega)
theorem b_eq {x : Shd} {net k : Int} {n : Nat} {g : Nat → Ord} (hO : OOk n g) : bS x net k n g = if othS n g ≤ mx0 (net - ptS x net k - aS x net k n g) then othS n g else mx0 (net - ptS x net k - aS x net k n g) := by
  have e : bS x net k n g = sumN n (ifS (pO g) (tkS n (keyO g) (clO g) (pO g) (freeS x net k n g))) := by
    unfold bS
    refine sumN_congr fun i hi => ?_
    unfold ifS
    rw [tkA_eq hi]
    by_cases h : (g i).rk = 0 <;> simp [pP, pO, h]
  rw [e, tk_all hO.g (key_o hO) hO.k0 hO.k1 (by unfold freeS; exact mx0_nn _)]
  unfold freeS
  rw [a_sum]
  rfl
theorem want_nn {n : Nat} {g : Nat → Ord} (hO : OOk n g) : 0 ≤ wantS n g ∧ 0 ≤ othS n g := by
  constructor <;> refine sumN_nonneg fun i hi => ?_ <;> unfold ifS <;> split <;> first | exact (hO.cl hi).1 | exact Int.le_refl _
theorem want_le {n : Nat} {g : Nat → Ord} (hO : OOk n g) (q : Nat → Bool) {m : Nat} (hm : m ≤ n) : 0 ≤ sumN m (ifS q (clO g)) ∧ sumN m (ifS q (clO g)) ≤ m * 1000000000 := by
  have hb : ∀ i, i < m → 0 ≤ ifS q (clO g) i ∧ ifS q (clO g) i ≤ 1000000000 := fun i hi => by
    have := hO.cl (i := i) (by omega)
    unfold ifS; split <;> omega
  refine ⟨sumN_nonneg fun i hi => (hb i hi).1, ?_⟩
  have := sumN_le (n := m) (f := ifS q (clO g)) (g := fun _ => 1000000000) fun i hi => (hb i hi).2
  rw [sumN_const] at this; exact this
/-- a greater net amount: never less for all together -/
theorem all_mono {x : Shd} {net net' k : Int} {n : Nat} {g : Nat → Ord} (hO : OOk n g) (hC : COk x net k) (hC' : COk x net' k) (h : net ≤ net') : sumN n (tkA x net k n g) ≤ sumN n (tkA x net' k n g) := by
  have hdk : 0 ≤ x.dp * k := Int.mul_nonneg hC.x.d0 hC.k0
  have m1 := pt_mono (m := net') hC.x hdk hC.n0 h
  have l1 := lw_pt (n := net) hC.x hdk hC.n0
  have l2 := lw_pt (n := net') hC.x hdk hC'.n0
  have hl : net - lwS x net k ≤ net' - lwS x net' k := by unfold lwS; repeat' split <;> omega
  have hw := want_nn hO
  rw [← ab_sum, ← ab_sum, b_eq hO, b_eq hO, a_eq hO hC, a_eq hO hC']
  generalize wantS n g = W at *
  generalize othS n g = O at *
  generalize ptS x net k = p at *
  generalize ptS x net' k = p' at *
  generalize lwS x net k = w at *
  generalize lwS x net' k = w' at *
  unfold mx0
  by_cases h1 : W ≤ net - w
  · rw [if_pos h1, if_pos (show W ≤ net' - w' by omega)]
    repeat' split
    all_goals omega
  · rw [if_neg h1]
    by_cases h2 : W ≤ net' - w'
    · rw [if_pos h2]
      repeat' split
      all_goals omega
    · rw [if_neg h2]
      repeat' split
      all_goals omega
theorem atE_right {c : ByteArray} {r : List Elt} : ∀ {l : List Elt}, (∀ y, y ∈ l → (y.cd.toList == c.toList) = false) → atE c (l ++ r) = atE c r
  | [], _ => rfl
  | x :: l, h => by rw [List.cons_append, atE, if_neg (by rw [h x (by simp)]; simp), atE_right fun y hy => h y (by simp [hy])]
theorem atE_left {c : ByteArray} {r : List Elt} (h : ∀ y, y ∈ r → (y.cd.toList == c.toList) = false) : ∀ {l : List Elt}, atE c (l ++ r) = atE c l
  | [] => by
    have := atE_right (c := c) (r := []) (l := r) h
    simpa using this
  | x :: l => by rw [List.cons_append, atE, atE, atE_left h]
theorem elt_mem {g : Nat → Ord} {T : Nat → Int} {m : Nat} {y : Elt} (h : y ∈ eltS g T m) : ∃ j, j < m ∧ 0 < T j ∧ y = ⟨(g j).id, T j⟩ := by
  unfold eltS at h
  rw [List.mem_map] at h
  obtain ⟨j, hj, rfl⟩ := h
  simp only [List.mem_filter, List.mem_range, decide_eq_true_eq] at hj
  exact ⟨j, hj.1, hj.2, rfl⟩
def DistO (n : Nat) (g : Nat → Ord) : Prop := ∀ i j, i < n → j < n → i ≠ j → ((g i).id.toList == (g j).id.toList) = false
theorem at_elt {n : Nat} {g : Nat → Ord} {T : Nat → Int} (hd : DistO n g) (hT : ∀ i, i < n → 0 ≤ T i) {i : Nat} (hi : i < n) : ∀ m, m ≤ n → atE (g i).id (eltS g T m) = if i < m then T i else 0
  | 0, _ => rfl
  | m + 1, hm => by
    rw [eltS_succ]
    by_cases h : i = m
    · subst h
      rw [atE_right (fun y hy => by
        obtain ⟨j, hj, _, rfl⟩ := elt_mem hy
        exact hd j i (by omega) hi (by omega)), if_pos (show i < i + 1 by omega)]
      have := hT i hi
      split
      · simp [atE]
      · simp only [atE]; omega
    · rw [atE_left (fun y hy => by
        split at hy
        · simp only [List.mem_singleton] at hy
          subst hy
          exact hd m i (by omega) hi (by omega)
        · simp at hy), at_elt hd hT hi m (by omega)]
      by_cases h2 : i < m
      · rw [if_pos h2, if_pos (by omega)]
      · rw [if_neg h2, if_neg (by omega)]
def sE : List Elt → Int
  | [] => 0
  | x :: l => x.am + sE l
theorem sE_app : ∀ (l r : List Elt), sE (l ++ r) = sE l + sE r
  | [], r => by simp [sE]
  | x :: l, r => by rw [List.cons_append, sE, sE, sE_app l r]; omega
theorem lF_get {α : Type} {d : α} {l : List α} {i : Nat} (hi : i < l.length) : lF d l i = l[i] := by unfold lF; rw [List.getD_eq_getElem?_getD, List.getElem?_eq_getElem hi]; rfl
theorem sE_sumN (l : List Elt) : sumN l.length (fun i => (lF dE l i).am) = sE l := by
  have key : ∀ k, k ≤ l.length → sumN k (fun i => (lF dE l i).am) = sE (l.take k) := by
    intro k
    induction k with
    | zero => intro _; simp [sumN, sE]
    | succ k ih =>
      intro hk
      rw [sumN, ih (by omega), List.take_add_one, sE_app, List.getElem?_eq_getElem (by omega), lF_get (by omega)]
      simp [sE]
  rw [key _ (Nat.le_refl _), List.take_length]
theorem sE_elt {n : Nat} {g : Nat → Ord} {T : Nat → Int} (hT : ∀ i, i < n → 0 ≤ T i) : ∀ m, m ≤ n → sE (eltS g T m) = sumN m T
  | 0, _ => rfl
  | m + 1, hm => by
    rw [eltS_succ, sE_app, sE_elt hT m (by omega), sumN]
    have := hT m (by omega)
    split
    · simp [sE]
    · simp only [sE]; omega
theorem elt_len (g : Nat → Ord) (T : Nat → Int) (m : Nat) : (eltS g T m).length ≤ m := by
  unfold eltS; rw [List.length_map]; exact Nat.le_trans (List.length_filter_le _ _) (by simp)
theorem names_ne : namesO.Pairwise (fun a b => (a.toList == b.toList) = false ∧ (b.toList == a.toList) = false) := by decide +kernel
theorem OLs.dist {j : Nat} {l : List Ord} (h : OLs j l) : DistO l.length (lF dO l) := by
  have hp : (l.map Ord.id).Pairwise (fun a b => (a.toList == b.toList) = false ∧ (b.toList == a.toList) = false) := (names_ne.sublist (List.take_sublist j _)).sublist h.ids
  rw [List.pairwise_map] at hp
  intro a b ha hb hab
  rw [lF_get ha, lF_get hb]
  rcases Nat.lt_or_gt_of_ne hab with h1 | h1
  · exact (List.pairwise_iff_getElem.1 hp a b ha hb h1).1
  · exact (List.pairwise_iff_getElem.1 hp b a hb ha h1).2
theorem OLs.sz {j : Nat} {l : List Ord} (h : OLs j l) : ∀ i, i < l.length → (lF dO l i).id.size ≤ 9223372036854775807 := fun i hi => by
  rw [lF_get hi]
  have := (names_ok _ (h.gd _ (List.getElem_mem hi)).id).2
  omega
/-- the answer of Attach for a deck's orders -/
theorem att_ok {x : Shd} {net k : Int} {l : List Ord} (hl : OLs 5 l) (hC : COk x net k) : attS x net k l.length (lF dO l) = (eltS (lF dO l) (tkA x net k l.length (lF dO l)) l.length, 0) := by
  have h0 := chk_iff.2 hC
  rw [attS, if_neg (by rw [hl.ords, shdB_iff.2 hC.x]; simp), if_neg (by simp [h0])]
end Go.Proofs.Ytipdkompinnghaa
