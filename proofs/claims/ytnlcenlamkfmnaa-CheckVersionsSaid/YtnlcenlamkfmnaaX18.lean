/- Agreements without problems (plain). -/
import Derived.Test.YtnlcenlamkfmnaaX9
set_option linter.unusedSimpArgs false
set_option linter.unusedVariables false
set_option maxRecDepth 100000
namespace Go.Proofs.Ytnlcenlamkfmnaa
/-- names, kinds, types -/
def tabL : List (ByteArray × Int × Ty) := [(n_h, 1, tH), (n_g, 1, t0), (n_f, 1, tB), (n_gross, 5, tM), (n_time, 5, tH), (n_w, 2, tR), (n_s, 2, t0), (n_r1, 3, tR), (n_r2, 3, tM), (n_r3, 3, tB), (n_r4, 3, t0), (n_a, 4, t0), (n_b, 4, t0)]
def neds : List ByteArray := [n_h, n_g, n_f, n_gross, n_time, n_w, n_s, n_r1, n_r2, n_r3, n_r4, n_a]
/-- a made definition -/
structure GD (hh : Nat) (d : Df) : Prop where
  tab : (d.nm, d.kind, d.ty) ∈ tabL
  df : defS d = true
  bd : BdD d
  wt : d.kind = 3 ∨ d.kind = 4 → EOk hh (tyD d) d.body
  dy : d.kind = 3 → d.day = 20454 ∨ d.day = 20459
/-- an agreement whose definitions are made ones, in any order -/
structure AGood (hh : Nat) (l : List Df) : Prop where
  all : ∀ d, d ∈ l → GD hh d
  key : (l.map fun d => (d.nm.toList, d.day)).Nodup
  has : ∀ n, n ∈ neds → n ∈ l.map Df.nm
  len : l.length ≤ 30
theorem tab_one : ∀ a, a ∈ tabL → ∀ b, b ∈ tabL → a.1.toList = b.1.toList → a.2 = b.2 := by decide +kernel
theorem tab_nm : ∀ a, a ∈ tabL → nameS a.1 = true := by decide +kernel
theorem ba_loop (bs : ByteArray) : ∀ k i r, bs.size - i = k → ByteArray.toList.loop bs i r = r.reverse ++ bs.data.toList.drop i := by
  intro k
  induction k with
  | zero =>
    intro i r h
    rw [ByteArray.toList.loop, if_neg (by omega), List.drop_eq_nil_of_le (by simp only [Array.length_toList]; show bs.data.size ≤ i; have : bs.size = bs.data.size := rfl; omega)]
    simp
  | succ k ih =>
    intro i r h
    rw [ByteArray.toList.loop, if_pos (by omega), ih _ _ (by omega)]
    have hi : i < bs.data.toList.length := by simp only [Array.length_toList]; have : bs.size = bs.data.size := rfl; omega
    rw [List.drop_eq_getElem_cons hi]
    simp only [List.reverse_cons, List.append_assoc, List.singleton_append]
    congr 2
    have hi2 : i < bs.data.size := by simpa using hi
    show bs.data[i]! = _
    rw [getElem!_pos bs.data i hi2]; simp
theorem ba_eq {a b : ByteArray} (h : a.toList = b.toList) : a = b := by
  unfold ByteArray.toList at h
  rw [ba_loop _ _ 0 [] rfl, ba_loop _ _ 0 [] rfl] at h
  simp at h
  cases a; cases b
  simp only at h
  rw [h]
/-- what a name leads to -/
theorem find_good {l : List Df} {nm : ByteArray} {k : Int} {t : Ty} (p : Df → Bool) (hall : ∀ d, d ∈ l → (d.nm, d.kind, d.ty) ∈ tabL) (ht : (nm, k, t) ∈ tabL) (hp : ∀ d, d ∈ l → d.kind = k → p d = true) (hm : nm ∈ l.map Df.nm) : findS (l.filter p) nm = (if k = 4 then tM else t, 0) := by
  induction l with
  | nil => simp at hm
  | cons d l ih =>
    have hd := hall d (List.mem_cons_self ..)
    by_cases hn : d.nm.toList = nm.toList
    · have := tab_one _ hd _ ht hn
      simp only [Prod.mk.injEq] at this
      rw [List.filter_cons_of_pos (hp d (List.mem_cons_self ..) this.1)]
      unfold findS
      rw [if_pos hn, this.1, this.2]
      split <;> rfl
    · have hm' : nm ∈ l.map Df.nm := by
        rw [List.map_cons, List.mem_cons] at hm
        rcases hm with rfl | hm
        · exact absurd rfl hn
        · exact hm
      have ih' := ih (fun d' hd' => hall d' (List.mem_cons_of_mem _ hd')) (fun d' hd' => hp d' (List.mem_cons_of_mem _ hd')) hm'
      cases hpd : p d
      · rw [List.filter_cons_of_neg (by simp [hpd])]; exact ih'
      · rw [List.filter_cons_of_pos hpd]
        unfold findS
        rw [if_neg hn]; exact ih'
theorem mm {P : Prop} (h : P := by (first | unfold tabL | unfold neds); repeat' (first | exact List.Mem.head _ | refine List.Mem.tail _ ?_)) : P := h
theorem env_good {l : List Df} (hall : ∀ d, d ∈ l → (d.nm, d.kind, d.ty) ∈ tabL) (has : ∀ n, n ∈ neds → n ∈ l.map Df.nm) : Env (l.filter isNm) (l.filter isSc) (l.filter isPa) := by
  have hN : ∀ {nm : ByteArray} {k : Int} {t : Ty}, k = 1 ∨ k = 3 ∨ k = 4 → (nm, k, t) ∈ tabL → nm ∈ neds → findS (l.filter isNm) nm = (if k = 4 then tM else t, 0) := fun hk ht hn => find_good isNm hall ht (fun d _ hd => by simp [isNm, hd, hk]) (has _ hn)
  have hS : ∀ {nm : ByteArray} {t : Ty}, (nm, (2 : Int), t) ∈ tabL → nm ∈ neds → findS (l.filter isSc) nm = (t, 0) := fun ht hn => find_good isSc hall ht (fun d _ hd => by simp [isSc, hd]) (has _ hn)
  have hP : ∀ {nm : ByteArray} {t : Ty}, (nm, (5 : Int), t) ∈ tabL → nm ∈ neds → findS (l.filter isPa) nm = (t, 0) := fun ht hn => find_good isPa hall ht (fun d _ hd => by simp [isPa, hd]) (has _ hn)
  exact ⟨hN (k := 1) (t := tH) (by decide) mm mm, hN (k := 1) (t := t0) (by decide) mm mm, hN (k := 1) (t := tB) (by decide) mm mm, hN (k := 3) (t := tR) (by decide) mm mm, hN (k := 3) (t := tM) (by decide) mm mm, hN (k := 3) (t := tB) (by decide) mm mm, hN (k := 3) (t := t0) (by decide) mm mm, hN (k := 4) (t := t0) (by decide) mm mm, hS mm mm, hS mm mm, hP mm mm, hP mm mm⟩
theorem agreeS_self (t : Ty) : agreeS t t = 0 := by
  unfold agreeS
  rw [if_neg (by simp), if_neg (by simp)]
/-- the body of a made definition is of its type -/
theorem body_good {hh : Nat} {l : List Df} {d : Df} {t : Ty} (hE : Env (l.filter isNm) (l.filter isSc) (l.filter isPa)) (he : EOk hh t d.body) (h32 : hh ≤ 32) (ht : tyD d = t) : bodyS (l.filter isNm) (l.filter isSc) (l.filter isPa) d = 0 := by
  unfold bodyS
  rw [he.wt _ _ _ hE 32 h32, ht]
  simp [agreeS_self]
theorem coll_no {a b : Df} (ha : (a.nm, a.kind, a.ty) ∈ tabL) (hb : (b.nm, b.kind, b.ty) ∈ tabL) (hk : ¬ (a.nm.toList = b.nm.toList ∧ a.day = b.day)) (h1 : a.kind = 1 → a.day = 0) (h2 : b.kind = 1 → b.day = 0) (h5 : a.kind = 5 → a.day = 0) (h6 : b.kind = 5 → b.day = 0) : collS a b = false := by
  unfold collS
  cases hn : (a.nm.toList == b.nm.toList)
  · rfl
  · rw [beq_iff_eq] at hn
    have := tab_one _ ha _ hb hn
    simp only [Prod.mk.injEq] at this
    have hd : ¬ a.day = b.day := fun h => hk ⟨hn, h⟩
    have e5 : ¬ (a.kind = 5 ∨ b.kind = 5) := by
      rintro (h | h)
      · exact hd ((h5 h).trans (h6 (this.1 ▸ h)).symm)
      · exact hd ((h5 (this.1.trans h)).trans (h6 h).symm)
    have e1 : ¬ a.kind = 1 := fun h => hd ((h1 h).trans (h2 (this.1 ▸ h)).symm)
    rw [if_neg e5]
    simp [this.1, hd, tyD, this.2]
    rw [← this.1]; exact e1
theorem day0 {d : Df} (h : defS d = true) (hk : d.kind = 1 ∨ d.kind = 5) : d.day = 0 := by
  rcases hk with hk | hk <;> simp [defS, hk] at h
  · exact h.2.1
  · exact h.2.1
theorem lF_take {l : List Df} {n : Nat} (hn : n < l.length) : lF dD l n = l[n] := by unfold lF; rw [List.getD_eq_getElem?_getD, List.getElem?_eq_getElem hn]; rfl
theorem mem_take_get {l : List Df} {n : Nat} {b : Df} (hb : b ∈ l.take n) : ∃ i, ∃ hi : i < l.length, i < n ∧ l[i] = b := by
  obtain ⟨i, hi, he⟩ := List.getElem_of_mem hb
  simp only [List.length_take] at hi
  refine ⟨i, by omega, by omega, ?_⟩
  rw [← he, List.getElem_take]
/-- a list of made definitions with different keys, in which all needed names occur: no problem -/
theorem err_good {hh : Nat} {l : List Df} (hall : ∀ d, d ∈ l → GD hh d) (hkey : (l.map fun d => (d.nm.toList, d.day)).Nodup) (hE : Env (l.filter isNm) (l.filter isSc) (l.filter isPa)) (h32 : hh ≤ 32) (hpast : ∀ n, n ∈ l → isNm n = true → ∀ d, d ∈ l → d.kind = 5 → n.nm.toList ≠ d.nm.toList) {n : Nat} (hn : n < l.length) : errD l (l.take n) (lF dD l n) = 0 := by
  rw [lF_take hn]
  have hm : l[n] ∈ l := List.getElem_mem hn
  have hd := hall _ hm
  unfold errD
  have h0 : (l.take n).any (fun b => collS b l[n]) = false := by
    rw [Bool.eq_false_iff]
    intro h
    obtain ⟨b, hb, hc⟩ := List.any_eq_true.1 h
    obtain ⟨i, hi, hin, rfl⟩ := mem_take_get hb
    have hib := hall _ (List.getElem_mem hi)
    have hne := List.pairwise_iff_getElem.1 hkey i n (by simpa using hi) (by simpa using hn) hin
    simp only [List.getElem_map] at hne
    rw [coll_no hib.tab hd.tab (fun ⟨a, b⟩ => hne (by rw [a, b])) (fun h => day0 hib.df (.inl h)) (fun h => day0 hd.df (.inl h)) (fun h => day0 hib.df (.inr h)) (fun h => day0 hd.df (.inr h))] at hc
    cases hc
  rw [h0, if_neg (by simp)]
  by_cases h5 : l[n].kind = 5
  · rw [if_pos h5]
    unfold pastS
    have : (l.filter isNm).find? (fun x => x.nm.toList == l[n].nm.toList) = none := by
      rw [List.find?_eq_none]
      intro x hx
      rw [List.mem_filter] at hx
      simpa using hpast x hx.1 hx.2 _ hm h5
    rw [this]
  · rw [if_neg h5]
    split
    · rename_i h34
      exact body_good hE (hd.wt h34) h32 rfl
    · rfl
theorem probS_nil {l : List Df} : ∀ (n : Nat), (∀ i, i < n → errD l (l.take i) (lF dD l i) = 0) → probS l n = []
  | 0, _ => rfl
  | n + 1, h => by
    unfold probS
    rw [if_pos (h n (by omega))]
    exact probS_nil n fun i hi => h i (by omega)
theorem AGood.env {hh : Nat} {l : List Df} (h : AGood hh l) : Env (l.filter isNm) (l.filter isSc) (l.filter isPa) := env_good (fun d hd => (h.all d hd).tab) h.has
theorem AGood.past {hh : Nat} {l : List Df} (h : ∀ d, d ∈ l → GD hh d) : ∀ n, n ∈ l → isNm n = true → ∀ d, d ∈ l → d.kind = 5 → n.nm.toList ≠ d.nm.toList := fun n hn hi d hd h5 he => by
  have := tab_one _ (h n hn).tab _ (h d hd).tab he
  simp only [Prod.mk.injEq] at this
  simp [isNm, this.1, h5] at hi
/-- such agreements have no problem -/
theorem AGood.chk {hh : Nat} {l : List Df} (h : AGood hh l) (h32 : hh ≤ 32) {nm : ByteArray} (hnm : nameS nm = true) : chkL nm l = ([], 0) := by
  unfold chkL
  have ha : agrS nm l = true := by
    unfold agrS
    have := h.len
    rw [hnm, decide_eq_true (by omega : l.length ≤ 128), List.all_eq_true.2 fun d hd => by rw [tab_nm _ (h.all d hd).tab, (h.all d hd).df]; rfl]
    rfl
  rw [if_pos ha, probS_nil _ fun i hi => err_good h.all h.key h.env h32 (AGood.past h.all) hi]
/-- the order does not matter -/
theorem AGood.perm {hh : Nat} {l l' : List Df} (h : AGood hh l) (hp : l.Perm l') : AGood hh l' :=
  ⟨fun d hd => h.all d (hp.mem_iff.2 hd), (hp.map _).nodup_iff.1 h.key, fun n hn => (hp.map _).mem_iff.1 (h.has n hn), by rw [← hp.length_eq]; exact h.len⟩
end Go.Proofs.Ytnlcenlamkfmnaa
