/- Plain: what the orders take together, and in their order. -/
import Derived.Test.YtipdkompinnghaaGar4
import Derived.Test.YtipdkompinnghaaAlc1
set_option linter.unusedSimpArgs false
set_option linter.unusedVariables false
namespace Go.Proofs.Ytipdkompinnghaa
def ifS (q : Nat → Bool) (f : Nat → Int) (j : Nat) : Int := if q j = true then f j else 0
theorem sumL_ix (f : Nat → Int) (q : Nat → Bool) : ∀ n, sumL f (ixS n q) = sumN n (ifS q f)
  | 0 => rfl
  | n + 1 => by
    rw [ixS_succ, sumL_app, sumL_ix f q n, sumN]
    congr 1
    unfold ifS
    by_cases h : q n = true <;> simp [sumL, h]
theorem sumL_congr {f g : Nat → Int} : ∀ {l : List Nat}, (∀ x, x ∈ l → f x = g x) → sumL f l = sumL g l
  | [], _ => rfl
  | x :: l, h => by rw [sumL, sumL, h x (by simp), sumL_congr fun y hy => h y (by simp [hy])]
theorem prt_le {n : Nat} {s t : Int} {w : Nat → Int} (h : WOk n s w) (t0 : 0 ≤ t) (ht : t < s) {i : Nat} (hi : i < n) : 0 ≤ prtS n t s w i ∧ prtS n t s w i ≤ w i := by
  refine ⟨(prt_bd h t0 hi).1, ?_⟩
  have hw := h.lo i hi
  have hr := h.rst (t := t) i
  have e : s * bseS t s w i + rstS t s w i = t * w i := by
    have := Int.emod_add_mul_ediv (t * w i) s
    unfold bseS rstS; omega
  have h1 : t * w i ≤ (s - 1) * w i := Int.mul_le_mul_of_nonneg_right (by omega) hw
  have h2 : (s - 1) * w i = s * w i - w i := by rw [Int.sub_mul]; omega
  have hle : bseS t s w i ≤ w i := by
    apply Int.not_lt.1
    intro hlt
    have : s * (w i + 1) ≤ s * bseS t s w i := Int.mul_le_mul_of_nonneg_left (by omega) (by omega)
    rw [Int.mul_add] at this
    omega
  by_cases h0 : rstS t s w i = 0
  · rw [prt_zero h hi h0]; exact hle
  · have hlt : bseS t s w i < w i := by
      apply Int.not_le.1
      intro hle2
      have : s * w i ≤ s * bseS t s w i := Int.mul_le_mul_of_nonneg_left hle2 (by omega)
      omega
    rcases prt_two (n := n) (s := s) (t := t) (w := w) i with e | e <;> omega
/-- a group's weights -/
structure GOk (n : Nat) (key cl : Nat → Int) : Prop where
  n16 : n ≤ 16
  c0 : ∀ i, i < n → 0 ≤ cl i
  c1 : ∀ i, i < n → cl i ≤ 1000000000
theorem GOk.w {n : Nat} {key cl : Nat → Int} (h : GOk n key cl) (κ : Int) (hs : 1 ≤ sumL cl (glS n key κ)) : WOk (glS n key κ).length (sumL cl (glS n key κ)) (fun a => cl ((glS n key κ).getD a 0)) := by
  obtain ⟨gl, hgl⟩ : ∃ gl, gl = glS n key κ := ⟨_, rfl⟩
  rw [← hgl] at hs ⊢
  have hln : gl.length ≤ 16 := by rw [hgl]; unfold glS; exact Nat.le_trans (List.length_filter_le _ _) (by simpa using h.n16)
  have hg : ∀ a, a < gl.length → gl.getD a 0 < n := fun a ha => by
    have h1 : gl.getD a 0 ∈ gl := by rw [List.getD_eq_getElem?_getD, List.getElem?_eq_getElem ha]; exact List.getElem_mem ha
    have h2 : ∀ x, x ∈ gl → x < n := fun x hx => by rw [hgl, gl_mem] at hx; exact hx.1
    exact h2 _ h1
  exact ⟨by omega, fun a ha => h.c0 _ (hg a ha), fun a ha => h.c1 _ (hg a ha), sumN_sumL cl gl, hs⟩
theorem gl_idx {n : Nat} {key : Nat → Int} {i : Nat} (hi : i < n) : (glS n key (key i)).idxOf i < (glS n key (key i)).length ∧ (glS n key (key i)).getD ((glS n key (key i)).idxOf i) 0 = i := by
  have hm : i ∈ glS n key (key i) := gl_mem.2 ⟨hi, rfl⟩
  have hl := List.idxOf_lt_length_of_mem hm
  refine ⟨hl, ?_⟩
  rw [List.getD_eq_getElem?_getD, List.getElem?_eq_getElem hl]
  simp
theorem mx0_nn (x : Int) : 0 ≤ mx0 x := by unfold mx0; split <;> omega
theorem tk_le {n : Nat} {key cl : Nat → Int} (h : GOk n key cl) (p : Nat → Bool) (A : Int) {i : Nat} (hi : i < n) : 0 ≤ tkS n key cl p A i ∧ tkS n key cl p A i ≤ cl i := by
  have h0 := mx0_nn (A - befS n key cl p (key i))
  have hc := h.c0 i hi
  unfold tkS
  split
  · omega
  · rename_i hgt
    obtain ⟨e1, e2⟩ := gl_idx (key := key) hi
    have := prt_le (h.w (key i) (by omega)) h0 (by omega) e1
    simp only [e2] at this
    exact this
/-- a group together -/
theorem tk_grp {n : Nat} {key cl : Nat → Int} (h : GOk n key cl) (p : Nat → Bool) (A κ : Int) : sumL (tkS n key cl p A) (glS n key κ) = if sumL cl (glS n key κ) ≤ mx0 (A - befS n key cl p κ) then sumL cl (glS n key κ) else mx0 (A - befS n key cl p κ) := by
  have h0 := mx0_nn (A - befS n key cl p κ)
  by_cases hc : sumL cl (glS n key κ) ≤ mx0 (A - befS n key cl p κ)
  · rw [if_pos hc]
    refine sumL_congr fun x hx => ?_
    have hk := (gl_mem.1 hx).2
    unfold tkS
    rw [hk, if_pos hc]
  · rw [if_neg hc]
    have hW := h.w κ (by omega)
    rw [← prt_sum (t := mx0 (A - befS n key cl p κ)) hW, ← sumN_sumL]
    refine sumN_congr fun a ha => ?_
    have hm : (glS n key κ).getD a 0 ∈ glS n key κ := by rw [List.getD_eq_getElem?_getD, List.getElem?_eq_getElem ha]; exact List.getElem_mem ha
    have hk := (gl_mem.1 hm).2
    have hnd : (glS n key κ).Nodup := (gl_asc n key κ).imp fun h => Nat.ne_of_lt h
    have hidx : (glS n key κ).idxOf ((glS n key κ).getD a 0) = a := by
      rw [List.getD_eq_getElem?_getD, List.getElem?_eq_getElem ha]
      simp only [Option.getD_some]
      exact hnd.idxOf_getElem a ha
    unfold tkS
    rw [hk, if_neg hc, hidx]
theorem bef_step (n : Nat) (key f : Nat → Int) (p : Nat → Bool) (κ : Int) : sumL f (ixS n (fun j => p j && decide (key j < κ + 1))) = sumL f (ixS n (fun j => p j && decide (key j < κ))) + sumL f (ixS n (fun j => p j && (key j == κ))) := by
  rw [sumL_ix, sumL_ix, sumL_ix, ← sumN_add]
  refine sumN_congr fun i _ => ?_
  unfold ifS
  by_cases h : p i = true
  · by_cases h1 : key i < κ
    · have h2 : key i < κ + 1 := by omega
      have h3 : ¬ key i = κ := by omega
      rw [if_pos (by simp [h, h2]), if_pos (by simp [h, h1]), if_neg (by simp [h, h3])]; omega
    · by_cases h3 : key i = κ
      · have h2 : key i < κ + 1 := by omega
        rw [if_pos (by simp [h, h2]), if_neg (by simp [h, h1]), if_pos (by simp [h, h3])]; omega
      · have h2 : ¬ key i < κ + 1 := by omega
        rw [if_neg (by simp [h, h2]), if_neg (by simp [h, h1]), if_neg (by simp [h, h3])]; omega
  · simp [h]
theorem grp_or {n : Nat} {key : Nat → Int} {p : Nat → Bool} (hkey : ∀ i j, i < n → j < n → key i = key j → p i = p j) (κ : Int) : ixS n (fun j => p j && (key j == κ)) = [] ∨ ixS n (fun j => p j && (key j == κ)) = glS n key κ := by
  by_cases h : ∃ x, x < n ∧ p x = true ∧ key x = κ
  · obtain ⟨x, hx, px, kx⟩ := h
    refine .inr (asc_eq (ix_asc n _) (gl_asc n key κ) fun a => ?_)
    rw [ix_mem, gl_mem]
    simp only [Bool.and_eq_true, beq_iff_eq]
    constructor
    · rintro ⟨h1, _, h3⟩; exact ⟨h1, h3⟩
    · rintro ⟨h1, h3⟩; exact ⟨h1, by rw [hkey a x h1 hx (by rw [h3, kx])]; exact px, h3⟩
  · refine .inl (List.eq_nil_iff_forall_not_mem.2 fun a ha => ?_)
    rw [ix_mem] at ha
    simp only [Bool.and_eq_true, beq_iff_eq] at ha
    exact h ⟨a, ha.1, ha.2.1, ha.2.2⟩
theorem tk_below {n : Nat} {key cl : Nat → Int} (h : GOk n key cl) {p : Nat → Bool} (hkey : ∀ i j, i < n → j < n → key i = key j → p i = p j) (hk0 : ∀ i, i < n → 0 ≤ key i) {A : Int} (hA : 0 ≤ A) : ∀ m : Nat, sumL (tkS n key cl p A) (ixS n (fun j => p j && decide (key j < m))) = if befS n key cl p m ≤ A then befS n key cl p m else A
  | 0 => by
    have e : ∀ f, sumL f (ixS n (fun j => p j && decide (key j < (0 : Nat)))) = 0 := fun f => by
      rw [sumL_ix]
      have : sumN n (ifS (fun j => p j && decide (key j < (0 : Nat))) f) = sumN n (fun _ => 0) := sumN_congr fun i hi => by
        have := hk0 i hi
        unfold ifS
        rw [if_neg]
        simp
        omega
      rw [this, sumN_const]; omega
    unfold befS
    rw [e, e, if_pos hA]
  | m + 1 => by
    have ih := tk_below h hkey hk0 hA m
    have e1 := bef_step n key (tkS n key cl p A) p m
    have e2 := bef_step n key cl p m
    rw [show ((m + 1 : Nat) : Int) = (m : Int) + 1 by omega, e1, ih]
    have e3 : befS n key cl p ((m : Int) + 1) = befS n key cl p m + sumL cl (ixS n (fun j => p j && (key j == (m : Int)))) := e2
    rw [e3]
    rcases grp_or hkey (m : Int) with e | e
    · rw [e]; simp [sumL]
    · rw [e, tk_grp h]
      have hnn : 0 ≤ sumL cl (glS n key m) := sumL_nonneg fun x hx => h.c0 x (gl_mem.1 hx).1
      generalize sumL cl (glS n key m) = S at *
      generalize befS n key cl p m = B at *
      unfold mx0
      repeat' split
      all_goals omega
theorem ifS_all {n : Nat} {key f : Nat → Int} {p : Nat → Bool} {m : Nat} (hm : ∀ i, i < n → key i < m) : sumL f (ixS n (fun j => p j && decide (key j < m))) = sumN n (ifS p f) := by
  rw [sumL_ix]
  refine sumN_congr fun i hi => ?_
  have := hm i hi
  unfold ifS
  simp [this]
/-- those of a sort together take what there is or what they claim -/
theorem tk_all {n : Nat} {key cl : Nat → Int} (h : GOk n key cl) {p : Nat → Bool} (hkey : ∀ i j, i < n → j < n → key i = key j → p i = p j) (hk0 : ∀ i, i < n → 0 ≤ key i) (hk1 : ∀ i, i < n → key i < (1000000 : Nat)) {A : Int} (hA : 0 ≤ A) : sumN n (ifS p (tkS n key cl p A)) = if sumN n (ifS p cl) ≤ A then sumN n (ifS p cl) else A := by
  have h1 := tk_below h hkey hk0 hA 1000000
  unfold befS at h1
  rw [ifS_all hk1, ifS_all hk1] at h1
  exact h1
theorem bef_mono {n : Nat} {key cl : Nat → Int} (h : GOk n key cl) {p : Nat → Bool} (hkey : ∀ i j, i < n → j < n → key i = key j → p i = p j) {i j : Nat} (hi : i < n) (hj : j < n) (pi : p i = true) (hlt : key i < key j) : befS n key cl p (key i) + sumL cl (glS n key (key i)) ≤ befS n key cl p (key j) := by
  have e1 : befS n key cl p (key i + 1) = befS n key cl p (key i) + sumL cl (ixS n (fun j => p j && (key j == key i))) := bef_step n key cl p (key i)
  rcases grp_or hkey (key i) with e | e
  · have : i ∈ ixS n (fun j => p j && (key j == key i)) := ix_mem.2 ⟨hi, by simp [pi]⟩
    rw [e] at this; simp at this
  · rw [e] at e1
    rw [← e1]
    unfold befS
    rw [sumL_ix, sumL_ix]
    refine sumN_le fun a ha => ?_
    have hc := h.c0 a ha
    unfold ifS
    by_cases h1 : p a = true
    · by_cases h2 : key a < key i + 1
      · have h3 : key a < key j := by omega
        simp [h1, h2, h3]
      · by_cases h3 : key a < key j
        · simp [h1, h2, h3, hc]
        · simp [h1, h2, h3]
    · simp [h1]
/-- one gets something only if those before are satisfied -/
theorem tk_rank {n : Nat} {key cl : Nat → Int} (h : GOk n key cl) {p : Nat → Bool} (hkey : ∀ i j, i < n → j < n → key i = key j → p i = p j) {A : Int} {i j : Nat} (hi : i < n) (hj : j < n) (pi : p i = true) (hlt : key i < key j) (hpos : 0 < tkS n key cl p A j) : tkS n key cl p A i = cl i := by
  have hb := bef_mono h hkey hi hj pi hlt
  have hj0 : 0 < mx0 (A - befS n key cl p (key j)) := by
    apply Int.not_le.1
    intro hle
    have h0 : mx0 (A - befS n key cl p (key j)) = 0 := by have := mx0_nn (A - befS n key cl p (key j)); omega
    have hg := tk_grp h p A (key j)
    rw [h0] at hg
    have hs : 0 ≤ sumL cl (glS n key (key j)) := sumL_nonneg fun x hx => h.c0 x (gl_mem.1 hx).1
    have hz : sumL (tkS n key cl p A) (glS n key (key j)) = 0 := by rw [hg]; split <;> omega
    have e : glS n key (key j) = ixS n (fun a => key a == key j) := rfl
    rw [e, sumL_ix] at hz
    have := sumN_one (n := n) (f := ifS (fun a => key a == key j) (tkS n key cl p A)) (fun a ha => by unfold ifS; split; exact (tk_le h p A ha).1; exact Int.le_refl _) hj
    have e2 : ifS (fun a => key a == key j) (tkS n key cl p A) j = tkS n key cl p A j := by unfold ifS; rw [if_pos (by simp)]
    omega
  have hA : befS n key cl p (key j) < A := by unfold mx0 at hj0; split at hj0 <;> omega
  unfold tkS
  rw [if_pos]
  unfold mx0
  split <;> omega
/-- within a group: in proportion to the claims -/
theorem tk_share {n : Nat} {key cl : Nat → Int} (h : GOk n key cl) (p : Nat → Bool) (A : Int) {i j : Nat} (hi : i < n) (hj : j < n) (hk : key i = key j) : tkS n key cl p A i * cl j - tkS n key cl p A j * cl i ≤ cl i + cl j := by
  have hci := h.c0 i hi
  have hcj := h.c0 j hj
  have h0 := mx0_nn (A - befS n key cl p (key i))
  obtain ⟨a1, a2⟩ := gl_idx (key := key) hi
  obtain ⟨b1, b2⟩ := gl_idx (key := key) hj
  unfold tkS
  rw [← hk] at b1 b2 ⊢
  by_cases hc : sumL cl (glS n key (key i)) ≤ mx0 (A - befS n key cl p (key i))
  · rw [if_pos hc, if_pos hc, Int.mul_comm]; omega
  · rw [if_neg hc, if_neg hc]
    have hW := h.w (key i) (by omega)
    generalize glS n key (key i) = gl at *
    generalize mx0 (A - befS n key cl p (key i)) = t at *
    obtain ⟨s, hs⟩ : ∃ s, s = sumL cl gl := ⟨_, rfl⟩
    rw [← hs] at hW hc ⊢
    have hs1 := hW.pos
    obtain ⟨w, hw⟩ : ∃ w : Nat → Int, w = fun a => cl (gl.getD a 0) := ⟨_, rfl⟩
    rw [← hw] at hW ⊢
    have wi : w (gl.idxOf i) = cl i := by rw [hw]; simp only [a2]
    have wj : w (gl.idxOf j) = cl j := by rw [hw]; simp only [b2]
    have ei : s * bseS t s w (gl.idxOf i) + rstS t s w (gl.idxOf i) = t * cl i := by
      have := Int.emod_add_mul_ediv (t * w (gl.idxOf i)) s
      rw [← wi]; unfold bseS rstS; omega
    have ej : s * bseS t s w (gl.idxOf j) + rstS t s w (gl.idxOf j) = t * cl j := by
      have := Int.emod_add_mul_ediv (t * w (gl.idxOf j)) s
      rw [← wj]; unfold bseS rstS; omega
    have ri := hW.rst (t := t) (gl.idxOf i)
    have rj := hW.rst (t := t) (gl.idxOf j)
    have pi := prt_two (n := gl.length) (s := s) (t := t) (w := w) (gl.idxOf i)
    have pj := prt_two (n := gl.length) (s := s) (t := t) (w := w) (gl.idxOf j)
    generalize prtS gl.length t s w (gl.idxOf i) = a at *
    generalize prtS gl.length t s w (gl.idxOf j) = b at *
    have u1 : s * a ≤ t * cl i + s := by
      have : s * a ≤ s * (bseS t s w (gl.idxOf i) + 1) := Int.mul_le_mul_of_nonneg_left (by omega) (by omega)
      rw [Int.mul_add] at this; omega
    have u2 : t * cl j - s ≤ s * b := by
      have : s * bseS t s w (gl.idxOf j) ≤ s * b := Int.mul_le_mul_of_nonneg_left (by omega) (by omega)
      omega
    have v1 : s * a * cl j ≤ (t * cl i + s) * cl j := Int.mul_le_mul_of_nonneg_right u1 hcj
    have v2 : (t * cl j - s) * cl i ≤ s * b * cl i := Int.mul_le_mul_of_nonneg_right u2 hci
    have v3 : s * (a * cl j - b * cl i) ≤ s * (cl i + cl j) := by
      rw [Int.mul_sub, Int.mul_add, ← Int.mul_assoc, ← Int.mul_assoc]
      rw [Int.add_mul] at v1
      rw [Int.sub_mul] at v2
      have c1 : t * cl i * cl j = t * cl j * cl i := by rw [Int.mul_assoc, Int.mul_assoc, Int.mul_comm (cl i)]
      omega
    exact Int.le_of_mul_le_mul_left v3 (by omega)
end Go.Proofs.Ytipdkompinnghaa
