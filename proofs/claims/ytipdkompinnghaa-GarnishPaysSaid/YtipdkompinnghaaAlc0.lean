/- Plain: division of a total by weights. -/
import Derived.Test.YtipdkompinnghaaSrt
import Derived.Test.YtipdkompinnghaaSum0
set_option linter.unusedSimpArgs false
set_option linter.unusedVariables false
namespace Go.Proofs.Ytipdkompinnghaa

def RBb (key : Nat → Int) (a b : Nat) : Bool := decide (key a < key b ∨ (key a = key b ∧ a < b))
theorem RBb_iff {key : Nat → Int} {a b : Nat} : RBb key a b = true ↔ RB key a b := by simp [RBb, RB]
/-- how many come before i -/
def rk (n : Nat) (key : Nat → Int) (i : Nat) : Nat := (List.range n).countP (fun j => RBb key j i)
theorem countP_lt {l : List Nat} {p q : Nat → Bool} (h : ∀ x, x ∈ l → p x = true → q x = true) {y : Nat} (hy : y ∈ l) (hq : q y = true) (hp : p y = false) : l.countP p < l.countP q := by
  induction l with
  | nil => simp at hy
  | cons x l ih =>
    simp only [List.countP_cons]
    have hm : l.countP p ≤ l.countP q := List.countP_mono_left fun z hz hpz => h z (by simp [hz]) hpz
    rcases List.mem_cons.1 hy with rfl | hy
    · rw [hp, hq]; simp; omega
    · have := ih (fun z hz => h z (by simp [hz])) hy
      have hx : (if p x = true then 1 else 0) ≤ (if q x = true then 1 else 0) := by
        by_cases e : p x = true
        · rw [if_pos e, if_pos (h x (by simp) e)]; exact Nat.le_refl _
        · rw [if_neg e]; exact Nat.zero_le _
      omega
theorem rk_lt {n : Nat} {key : Nat → Int} {i j : Nat} (hi : i < n) (h : RB key i j) : rk n key i < rk n key j := by
  refine countP_lt (fun x _ hx => RBb_iff.2 ((RBb_iff.1 hx).trans h)) (y := i) (by simpa using hi) (RBb_iff.2 h) ?_
  cases hb : RBb key i i
  · rfl
  · have := RBb_iff.1 hb; unfold RB at this; omega
theorem RB_total (key : Nat → Int) (i j : Nat) : i = j ∨ RB key i j ∨ RB key j i := by unfold RB; omega
theorem rk_inj {n : Nat} {key : Nat → Int} {i j : Nat} (hi : i < n) (hj : j < n) (h : rk n key i = rk n key j) : i = j := by
  rcases RB_total key i j with e | e | e
  · exact e
  · have := rk_lt hi e; omega
  · have := rk_lt hj e; omega
theorem min_exists (key : Nat → Int) : ∀ l : List Nat, l ≠ [] → ∃ x, x ∈ l ∧ ∀ y, y ∈ l → y = x ∨ RB key x y
  | [], h => absurd rfl h
  | [x], _ => ⟨x, by simp, fun y hy => .inl (by simpa using hy)⟩
  | x :: y :: l, _ => by
    obtain ⟨z, hz, hmin⟩ := min_exists key (y :: l) (by simp)
    rcases RB_total key x z with e | e | e
    · subst e
      exact ⟨x, by simp, fun w hw => by
        rcases List.mem_cons.1 hw with h | h
        · exact .inl h
        · exact hmin w h⟩
    · refine ⟨x, by simp, fun w hw => ?_⟩
      rcases List.mem_cons.1 hw with h | h
      · exact .inl h
      · rcases hmin w h with rfl | h
        · exact .inr e
        · exact .inr (e.trans h)
    · refine ⟨z, List.mem_cons_of_mem _ hz, fun w hw => ?_⟩
      rcases List.mem_cons.1 hw with rfl | h
      · exact .inr e
      · exact hmin w h
/-- the first of those that are left has the rank q -/
theorem rk_step {n : Nat} {key : Nat → Int} {q x : Nat} (hcnt : (List.range n).countP (fun i => decide (rk n key i < q)) = q) (hx : x < n) (hxq : ¬ rk n key x < q) (hmin : ∀ y, y < n → ¬ rk n key y < q → y = x ∨ RB key x y) : rk n key x = q := by
  rw [← hcnt, rk]
  apply List.countP_congr
  intro j hj
  have hj : j < n := by simpa using hj
  rw [decide_eq_true_iff, RBb_iff]
  constructor
  · intro h
    apply Decidable.byContradiction
    intro hn
    rcases hmin j hj hn with rfl | h2
    · unfold RB at h; omega
    · unfold RB at *; omega
  · intro h
    rcases RB_total key j x with rfl | e | e
    · exact absurd h hxq
    · exact e
    · have := rk_lt hx e; omega
theorem cnt_rk (n : Nat) (key : Nat → Int) : ∀ q, q ≤ n → (List.range n).countP (fun i => decide (rk n key i < q)) = q
  | 0, _ => by simp
  | q + 1, h => by
    have ih := cnt_rk n key q (by omega)
    -- one is left
    have hne : (List.range n).filter (fun i => !decide (rk n key i < q)) ≠ [] := by
      intro h0
      have hall : ∀ i, i ∈ List.range n → decide (rk n key i < q) = true := fun i hi => by
        cases hd : decide (rk n key i < q)
        · have : i ∈ (List.range n).filter (fun i => !decide (rk n key i < q)) := List.mem_filter.2 ⟨hi, by simp only [hd]; rfl⟩
          rw [h0] at this; simp at this
        · rfl
      have := List.countP_eq_length.2 hall
      simp at this
      omega
    obtain ⟨x, hx, hmin⟩ := min_exists key _ hne
    obtain ⟨hx1, hx2⟩ := List.mem_filter.1 hx
    have hxn : x < n := by simpa using hx1
    have hxq : ¬ rk n key x < q := by simpa using hx2
    have hrk := rk_step ih hxn hxq (fun y hy hyq => hmin y (List.mem_filter.2 ⟨by simpa using hy, by simpa using hyq⟩))
    have hsplit : (List.range n).countP (fun i => decide (rk n key i < q + 1)) = (List.range n).countP (fun i => decide (rk n key i < q)) + (List.range n).countP (fun i => decide (i = x)) := by
      have : ∀ l : List Nat, (∀ i, i ∈ l → i < n) → l.countP (fun i => decide (rk n key i < q + 1)) = l.countP (fun i => decide (rk n key i < q)) + l.countP (fun i => decide (i = x)) := by
        intro l
        induction l with
        | nil => intro _; rfl
        | cons a l ihl =>
          intro hl
          have ha := hl a (by simp)
          simp only [List.countP_cons]
          rw [ihl fun i hi => hl i (by simp [hi])]
          by_cases e : a = x
          · subst e; simp [hrk]; omega
          · have hne : rk n key a ≠ q := fun h => e (rk_inj ha hxn (h.trans hrk.symm))
            by_cases e2 : rk n key a < q
            · simp [e, e2, show rk n key a < q + 1 by omega]; omega
            · simp [e, e2, show ¬ rk n key a < q + 1 by omega]
      exact this _ fun i hi => by simpa using hi
    have hone : (List.range n).countP (fun i => decide (i = x)) = 1 := by
      have h1 : ∀ m, x < m → (List.range m).countP (fun i => decide (i = x)) = 1 := by
        intro m
        induction m with
        | zero => intro h; omega
        | succ m ihm =>
          intro hm
          rw [List.range_succ, List.countP_append]
          by_cases e : x = m
          · subst e
            have : (List.range x).countP (fun i => decide (i = x)) = 0 := by
              rw [List.countP_eq_zero]; intro i hi; have : i < x := by simpa using hi
              simp; omega
            rw [this]; simp
          · rw [ihm (by omega)]; simp; omega
      exact h1 n hxn
    rw [hsplit, ih, hone]
/-- what stands among the first m of the sorted list -/
theorem mem_take_rk {n m : Nat} {key : Nat → Int} {l : List Nat} (hp : l.Perm (List.range n)) (hs : l.Pairwise (RB key)) (hm : m ≤ n) {i : Nat} (hi : i < n) : i ∈ l.take m ↔ rk n key i < m := by
  have hlen : l.length = n := by rw [hp.length_eq]; simp
  have hrk : rk n key i = (l.take m).countP (fun j => RBb key j i) + (l.drop m).countP (fun j => RBb key j i) := by
    rw [rk, ← hp.countP_eq, ← List.countP_append, List.take_append_drop]
  have hs' := hs
  rw [← List.take_append_drop m l, List.pairwise_append] at hs'
  obtain ⟨_, _, h3⟩ := hs'
  have hil : i ∈ l := hp.mem_iff.2 (by simpa using hi)
  have htl : (l.take m).length = m := by simp; omega
  constructor
  · intro h
    have e1 : (l.drop m).countP (fun j => RBb key j i) = 0 := by
      rw [List.countP_eq_zero]
      intro j hj hb
      have := h3 i h j hj
      have := RBb_iff.1 hb
      unfold RB at *; omega
    have e2 : (l.take m).countP (fun j => RBb key j i) < (l.take m).countP (fun _ => true) := by
      refine countP_lt (fun _ _ _ => rfl) h rfl ?_
      cases hb : RBb key i i
      · rfl
      · have := RBb_iff.1 hb; unfold RB at this; omega
    have e3 : (l.take m).countP (fun _ => true) = m := by
      rw [List.countP_eq_length.2 (fun _ _ => rfl), htl]
    omega
  · intro h
    apply Decidable.byContradiction
    intro hn
    have hd : i ∈ l.drop m := by
      rw [← List.take_append_drop m l] at hil
      rcases List.mem_append.1 hil with h | h
      · exact absurd h hn
      · exact h
    have e1 : (l.take m).countP (fun j => RBb key j i) = (l.take m).length := List.countP_eq_length.2 fun j hj => RBb_iff.2 (h3 j hj i hd)
    omega

/-- the parts of a total that is not negative -/
def bseS (t s : Int) (w : Nat → Int) (i : Nat) : Int := t * w i / s
def rstS (t s : Int) (w : Nat → Int) (i : Nat) : Int := t * w i % s
def keyS (t s : Int) (w : Nat → Int) (i : Nat) : Int := - rstS t s w i
def misS (n : Nat) (t s : Int) (w : Nat → Int) : Int := t - sumN n (bseS t s w)
def prtS (n : Nat) (t s : Int) (w : Nat → Int) (i : Nat) : Int := bseS t s w i + if (rk n (keyS t s w) i : Int) < misS n t s w then 1 else 0
structure WOk (n : Nat) (s : Int) (w : Nat → Int) : Prop where
  n0 : n ≤ 1024
  lo : ∀ i, i < n → 0 ≤ w i
  hi : ∀ i, i < n → w i ≤ 1000000000
  sum : sumN n w = s
  pos : 1 ≤ s
theorem WOk.le {n : Nat} {s : Int} {w : Nat → Int} (h : WOk n s w) : s ≤ 1024000000000 := by
  have := sumN_le (n := n) (f := w) (g := fun _ => 1000000000) h.hi
  rw [sumN_const, h.sum] at this
  have := h.n0
  omega
theorem WOk.n1 {n : Nat} {s : Int} {w : Nat → Int} (h : WOk n s w) : 1 ≤ n := by
  have h1 := h.sum
  have h2 := h.pos
  cases n with
  | zero => simp [sumN] at h1; omega
  | succ n => omega
theorem WOk.mul {n : Nat} {s t : Int} {w : Nat → Int} (h : WOk n s w) (t0 : 0 ≤ t) (t1 : t ≤ 1000000000) {i : Nat} (hi : i < n) : 0 ≤ t * w i ∧ t * w i ≤ 1000000000000000000 := by
  have h1 := h.lo i hi
  have h2 := h.hi i hi
  have e1 := Int.mul_nonneg t0 h1
  have e2 : t * w i ≤ 1000000000 * 1000000000 := Int.mul_le_mul t1 h2 h1 (by omega)
  omega
theorem WOk.bse {n : Nat} {s t : Int} {w : Nat → Int} (h : WOk n s w) (t0 : 0 ≤ t) {i : Nat} (hi : i < n) : 0 ≤ bseS t s w i ∧ bseS t s w i ≤ t := by
  have h1 := h.lo i hi
  have h2 : w i ≤ s := by rw [← h.sum]; exact sumN_one h.lo hi
  refine ⟨Int.ediv_nonneg (Int.mul_nonneg t0 h1) (by have := h.pos; omega), ?_⟩
  exact Int.ediv_le_of_le_mul (by have := h.pos; omega) (Int.mul_le_mul_of_nonneg_left h2 t0)
theorem WOk.rst {n : Nat} {s t : Int} {w : Nat → Int} (h : WOk n s w) (i : Nat) : 0 ≤ rstS t s w i ∧ rstS t s w i < s :=
  ⟨Int.emod_nonneg _ (by have := h.pos; omega), Int.emod_lt_of_pos _ (by have := h.pos; omega)⟩
theorem WOk.mis {n : Nat} {s t : Int} {w : Nat → Int} (h : WOk n s w) : s * misS n t s w = sumN n (rstS t s w) := by
  have e1 : sumN n (fun i => t * w i) = sumN n (fun i => s * bseS t s w i + rstS t s w i) := sumN_congr fun i _ => by
    have := Int.emod_add_mul_ediv (t * w i) s
    unfold bseS rstS; omega
  rw [sumN_mul, h.sum, sumN_add, sumN_mul] at e1
  unfold misS
  rw [Int.mul_sub, Int.mul_comm s t]; omega
theorem WOk.mis_bd {n : Nat} {s t : Int} {w : Nat → Int} (h : WOk n s w) : 0 ≤ misS n t s w ∧ misS n t s w < n := by
  have e := h.mis (t := t)
  have h1 := sumN_nonneg (n := n) (f := rstS t s w) fun i _ => (h.rst i).1
  have h2 := sumN_le (n := n) (f := rstS t s w) (g := fun _ => s - 1) fun i _ => by have := h.rst (t := t) i; omega
  rw [sumN_const] at h2
  have hn := h.n1
  have hs := h.pos
  constructor
  · apply Int.not_lt.1
    intro hneg
    have : s * misS n t s w < 0 := Int.mul_neg_of_pos_of_neg (by omega) hneg
    omega
  · apply Int.not_le.1
    intro hle
    have h3 : s * n ≤ s * misS n t s w := Int.mul_le_mul_of_nonneg_left hle (by omega)
    rw [Int.mul_sub, Int.mul_comm (n : Int) s] at h2
    omega
theorem prt_sum {n : Nat} {s t : Int} {w : Nat → Int} (h : WOk n s w) : sumN n (prtS n t s w) = t := by
  have hb := h.mis_bd (t := t)
  obtain ⟨m, hm⟩ := Int.eq_ofNat_of_zero_le hb.1
  have hcnt := cnt_rk n (keyS t s w) m (by omega)
  have e1 : sumN n (prtS n t s w) = sumN n (bseS t s w) + sumN n (fun i => if (rk n (keyS t s w) i : Int) < misS n t s w then 1 else 0) := sumN_add n _ _
  have e2 : ∀ k, sumN k (fun i => if (rk n (keyS t s w) i : Int) < misS n t s w then (1 : Int) else 0) = ((List.range k).countP (fun i => decide (rk n (keyS t s w) i < m)) : Nat) := by
    intro k
    induction k with
    | zero => rfl
    | succ k ih =>
      rw [sumN, ih, List.range_succ, List.countP_append, hm]
      simp only [List.countP_cons, List.countP_nil, Nat.zero_add, decide_eq_true_eq, Int.natCast_add]
      by_cases e : rk n (keyS t s w) k < m
      · simp [e, show (rk n (keyS t s w) k : Int) < (m : Int) by omega]
      · simp [e, show ¬ (rk n (keyS t s w) k : Int) < (m : Int) by omega]
  rw [e1, e2 n, hcnt]
  unfold misS at hm; omega
end Go.Proofs.Ytipdkompinnghaa
