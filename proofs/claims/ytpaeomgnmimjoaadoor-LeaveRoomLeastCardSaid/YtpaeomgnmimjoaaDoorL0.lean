/- Leave accounts, plain. -/
import Derived.Test.YtpaeomgnmimjoaaDoorCalP
set_option linter.unusedSimpArgs false
set_option linter.unusedVariables false
namespace Go.Proofs.YtpaeomgnmimjoaaDoor
/-- rules of leave -/
structure LR where
  mon : Int
  car : Int
  mth : Int
  day : Int
  deb : Int
  frm : Int
  too : Int
  opn : Int
structure LOk (r : LR) : Prop where
  mon : 0 ≤ r.mon ∧ r.mon ≤ 1000000
  car : 0 ≤ r.car ∧ r.car ≤ 1000000
  deb : 0 ≤ r.deb ∧ r.deb ≤ 1000000
  opn : 0 ≤ r.opn ∧ r.opn ≤ 1000000
  mth : 1 ≤ r.mth ∧ r.mth ≤ 12
  day : 1 ≤ r.day ∧ r.day ≤ 28
  frm : 1 ≤ r.frm ∧ r.frm ≤ r.too
  too : r.too ≤ 84005
/-- accounts -/
structure Acc where
  car : Int
  cur : Int
  los : Int
  tak : Int
deriving DecidableEq
def t1S (r : LR) (a : Acc) (d : Int) : Acc :=
  if (dateS d).2.1 = 1 ∧ (dateS d).2.2 = 1 ∧ d ≠ r.frm then
    (if 0 < a.cur then ⟨(if r.car < a.cur then r.car else a.cur), 0, a.los + a.car + (a.cur - (if r.car < a.cur then r.car else a.cur)), a.tak⟩ else ⟨0, a.cur, a.los + a.car, a.tak⟩)
  else a
def t2S (r : LR) (a : Acc) (d : Int) : Acc :=
  if (dateS (d - 1)).2.1 = r.mth ∧ (dateS (d - 1)).2.2 = r.day then ⟨0, a.cur, a.los + a.car, a.tak⟩ else a
def t3S (r : LR) (a : Acc) (d : Int) : Acc :=
  if (dateS d).2.2 = 1 ∧ d ≤ r.too then ⟨a.car, a.cur + r.mon, a.los, a.tak⟩ else a
def turnS (r : LR) (a : Acc) (d : Int) : Acc := t3S r (t2S r (t1S r a d) d) d
def bookA (a : Acc) (m : Int) : Acc := ⟨a.car - (if a.car < m then a.car else m), a.cur - (m - (if a.car < m then a.car else m)), a.los, a.tak + m⟩
def stepA (r : LR) (B : Int → Int) (a : Acc) (d : Int) : Acc := bookA (turnS r a d) (B d)
def passS (r : LR) (B : Int → Int) : Acc → List Int → Acc × Bool
  | a, [] => (a, true)
  | a, d :: l => if 0 < B d ∧ (stepA r B a d).cur < -r.deb then (stepA r B a d, false) else passS r B (stepA r B a d) l
/-- minutes of a day -/
def bkS : List (Int × Int) → Int → Int
  | [], _ => 0
  | b :: l, d => (if b.1 = d then b.2 else 0) + bkS l d
def m0S (r : LR) : Int := if monthS r.frm - 1 < 0 then 0 else monthS r.frm - 1
def evN (r : LR) : Nat → List Int
  | 0 => []
  | k + 1 => evN r k ++ [firstS (m0S r + k), firstS (m0S r + k) + r.day]
/-- days that the calendar brings -/
def evS (r : LR) (last : Int) : List Int := evN r (monthS last + 1 - m0S r).toNat
def dsS (r : LR) (K : List Int) (last : Int) : List Int := ((List.range (last + 1 - r.frm).toNat).map fun i => r.frm + (i : Nat)).filter fun d => decide (d ∈ evS r last) || decide (d ∈ K)
def acc0 (r : LR) : Acc := ⟨r.opn, 0, 0, 0⟩
def balS (r : LR) (l : List (Int × Int)) (day : Int) : Acc × Int :=
  if (passS r (bkS l) (acc0 r) (dsS r (l.map (·.1)) day)).2 = true then ((passS r (bkS l) (acc0 r) (dsS r (l.map (·.1)) day)).1, 0) else (⟨0, 0, 0, 0⟩, 20)
theorem mem_evN (r : LR) (x : Int) : ∀ k : Nat, x ∈ evN r k ↔ ∃ j : Nat, j < k ∧ (x = firstS (m0S r + j) ∨ x = firstS (m0S r + j) + r.day)
  | 0 => by simp [evN]
  | k + 1 => by
    rw [evN, List.mem_append, mem_evN r x k]
    constructor
    · rintro (⟨j, h1, h2⟩ | h)
      · exact ⟨j, by omega, h2⟩
      · exact ⟨k, by omega, by simpa using h⟩
    · rintro ⟨j, h1, h2⟩
      by_cases e : j = k
      · subst e; exact .inr (by simpa using h2)
      · exact .inl ⟨j, by omega, h2⟩
theorem mem_ds {r : LR} {K : List Int} {last x : Int} : x ∈ dsS r K last ↔ r.frm ≤ x ∧ x ≤ last ∧ (x ∈ evS r last ∨ x ∈ K) := by
  unfold dsS
  rw [List.mem_filter, List.mem_map]
  simp only [List.mem_range, Bool.or_eq_true, decide_eq_true_eq]
  constructor
  · rintro ⟨⟨i, h1, rfl⟩, h2⟩
    exact ⟨by omega, by omega, h2⟩
  · rintro ⟨h1, h2, h3⟩
    exact ⟨⟨(x - r.frm).toNat, by omega, by omega⟩, h3⟩
theorem ds_sorted (r : LR) (K : List Int) (last : Int) : (dsS r K last).Pairwise (· < ·) := by
  unfold dsS
  refine List.Pairwise.filter _ ?_
  rw [List.pairwise_map]
  exact List.pairwise_lt_range.imp fun h => by omega
theorem sorted_ext {L M : List Int} (h1 : L.Pairwise (· < ·)) (h2 : M.Pairwise (· < ·)) (h : ∀ x, x ∈ L ↔ x ∈ M) : L = M := by
  have hp : L.Perm M := (List.perm_ext_iff_of_nodup (h1.imp fun h => by omega) (h2.imp fun h => by omega)).2 h
  exact hp.eq_of_pairwise (le := fun a b => a < b) (fun a b _ _ h1 h2 => by omega) h1 h2
theorem ds_uniq {r : LR} {K L : List Int} {last : Int} (h1 : L.Pairwise (· < ·)) (h : ∀ x, x ∈ L ↔ r.frm ≤ x ∧ x ≤ last ∧ (x ∈ evS r last ∨ x ∈ K)) : L = dsS r K last :=
  sorted_ext h1 (ds_sorted r K last) fun x => by rw [h, mem_ds]
theorem ds_congr {r : LR} {K K' : List Int} {last : Int} (h : ∀ x, x ∈ K ↔ x ∈ K') : dsS r K last = dsS r K' last :=
  ds_uniq (ds_sorted _ _ _) fun x => by rw [mem_ds, h]
theorem ds_len (r : LR) (K : List Int) (last : Int) : (dsS r K last).length ≤ (last + 1 - r.frm).toNat := by
  unfold dsS
  refine Nat.le_trans (List.length_filter_le _ _) ?_
  simp
/-- what holds of an account behind k days -/
structure AInv (a : Acc) (k : Nat) : Prop where
  car : 0 ≤ a.car
  los : 0 ≤ a.los
  ct : 0 ≤ a.cur + a.tak
  t0 : 0 ≤ a.tak
  t1 : a.tak ≤ 2000000000 * k
  sum : a.car + a.cur + a.los + a.tak ≤ 1000000 * (k + 1)
theorem inv_t1 {r : LR} {a : Acc} {k : Nat} {d : Int} (hr : LOk r) (h : AInv a k) : AInv (t1S r a d) k := by
  obtain ⟨h1, h2, h3, h4, h5, h6⟩ := h
  have := hr.car
  unfold t1S
  split
  · split
    · split <;> refine ⟨?_, ?_, ?_, ?_, ?_, ?_⟩ <;> simp only <;> omega
    · refine ⟨?_, ?_, ?_, ?_, ?_, ?_⟩ <;> simp only <;> omega
  · exact ⟨h1, h2, h3, h4, h5, h6⟩
theorem inv_t2 {r : LR} {a : Acc} {k : Nat} {d : Int} (h : AInv a k) : AInv (t2S r a d) k := by
  obtain ⟨h1, h2, h3, h4, h5, h6⟩ := h
  unfold t2S
  split
  · refine ⟨?_, ?_, ?_, ?_, ?_, ?_⟩ <;> simp only <;> omega
  · exact ⟨h1, h2, h3, h4, h5, h6⟩
theorem inv_turn {r : LR} {a : Acc} {k : Nat} {d : Int} (hr : LOk r) (h : AInv a k) : 0 ≤ (turnS r a d).car ∧ 0 ≤ (turnS r a d).los ∧ 0 ≤ (turnS r a d).cur + (turnS r a d).tak ∧ 0 ≤ (turnS r a d).tak ∧ (turnS r a d).tak ≤ 2000000000 * k ∧ (turnS r a d).car + (turnS r a d).cur + (turnS r a d).los + (turnS r a d).tak ≤ 1000000 * (k + 2) := by
  obtain ⟨h1, h2, h3, h4, h5, h6⟩ := inv_t2 (r := r) (d := d) (inv_t1 (d := d) hr h)
  have := hr.mon
  unfold turnS t3S
  split <;> (try dsimp only) <;> omega
theorem inv_step {r : LR} {B : Int → Int} {a : Acc} {k : Nat} {d : Int} (hr : LOk r) (h : AInv a k) (b0 : 0 ≤ B d) (b1 : B d ≤ 2000000000) : AInv (stepA r B a d) (k + 1) := by
  obtain ⟨h1, h2, h3, h4, h5, h6⟩ := inv_turn (d := d) hr h
  unfold stepA bookA
  split <;> refine ⟨?_, ?_, ?_, ?_, ?_, ?_⟩ <;> simp only <;> omega
theorem inv_0 {r : LR} (hr : LOk r) : AInv (acc0 r) 0 := by
  have := hr.opn
  refine ⟨?_, ?_, ?_, ?_, ?_, ?_⟩ <;> simp only [acc0] <;> omega
/-- the sum of an account -/
def sumA (a : Acc) : Int := a.car + a.cur + a.los + a.tak
theorem sum_turn (r : LR) (a : Acc) (d : Int) : sumA (turnS r a d) = sumA a + (if (dateS d).2.2 = 1 ∧ d ≤ r.too then r.mon else 0) := by
  have e1 : sumA (t1S r a d) = sumA a := by unfold t1S sumA; split <;> (try split) <;> (try dsimp only) <;> omega
  have e2 : sumA (t2S r (t1S r a d) d) = sumA (t1S r a d) := by unfold t2S sumA; split <;> (try dsimp only) <;> omega
  unfold turnS
  rw [← e1, ← e2]
  unfold t3S sumA
  split <;> (try dsimp only) <;> omega
theorem tak_turn (r : LR) (a : Acc) (d : Int) : (turnS r a d).tak = a.tak := by
  unfold turnS t3S t2S t1S
  split <;> (try split) <;> (try split) <;> (try split) <;> (try split) <;> rfl
theorem sum_step (r : LR) (B : Int → Int) (a : Acc) (d : Int) : sumA (stepA r B a d) = sumA a + (if (dateS d).2.2 = 1 ∧ d ≤ r.too then r.mon else 0) := by
  rw [← sum_turn]; unfold stepA bookA sumA; simp only; omega
theorem tak_step (r : LR) (B : Int → Int) (a : Acc) (d : Int) : (stepA r B a d).tak = a.tak + B d := by
  unfold stepA bookA; simp only; rw [tak_turn]
def sumL : List Int → Int
  | [] => 0
  | x :: l => x + sumL l
/-- a covered pass -/
theorem pass_spec {r : LR} {B : Int → Int} (hr : LOk r) : ∀ (L : List Int) (a : Acc) (k : Nat), AInv a k → (∀ d, d ∈ L → 0 ≤ B d ∧ B d ≤ 2000000000) → (passS r B a L).2 = true →
    0 ≤ (passS r B a L).1.car ∧ 0 ≤ (passS r B a L).1.los ∧ sumA (passS r B a L).1 = sumA a + sumL (L.map fun d => if (dateS d).2.2 = 1 ∧ d ≤ r.too then r.mon else 0) ∧ (passS r B a L).1.tak = a.tak + sumL (L.map B)
  | [], a, k, h, _, _ => by
    unfold passS
    exact ⟨h.car, h.los, by simp [sumL], by simp [sumL]⟩
  | d :: L, a, k, h, hb, hc => by
    unfold passS at hc ⊢
    have hbd := hb d (by simp)
    split at hc
    · cases hc
    · rename_i hn
      rw [if_neg hn]
      have ih := pass_spec hr L (stepA r B a d) (k + 1) (inv_step hr h hbd.1 hbd.2) (fun x hx => hb x (by simp [hx])) hc
      rw [sum_step, tak_step] at ih
      simp only [List.map_cons, sumL]
      refine ⟨ih.1, ih.2.1, ?_, ?_⟩
      · rw [ih.2.2.1]; omega
      · rw [ih.2.2.2]; omega
/-- a pass hangs on the minutes alone -/
theorem pass_congr {r : LR} {B B' : Int → Int} : ∀ (L : List Int) (a : Acc), (∀ d, d ∈ L → B d = B' d) → passS r B a L = passS r B' a L
  | [], a, _ => rfl
  | d :: L, a, h => by
    have hd := h d (by simp)
    have e : stepA r B a d = stepA r B' a d := by unfold stepA; rw [hd]
    unfold passS
    rw [e, hd, pass_congr L _ fun x hx => h x (by simp [hx])]
theorem bal_congr {r : LR} {l l' : List (Int × Int)} {day : Int} (h1 : ∀ d, bkS l d = bkS l' d) (h2 : ∀ x, x ∈ l.map (·.1) ↔ x ∈ l'.map (·.1)) : balS r l day = balS r l' day := by
  unfold balS
  rw [ds_congr h2, pass_congr _ _ fun d _ => h1 d]
/-- a day that brings nothing -/
theorem step_idle {r : LR} {B : Int → Int} {a : Acc} {k : Nat} {d : Int} (h : AInv a k) (hb : B d = 0) (h1 : (dateS d).2.2 ≠ 1) (h2 : ¬ ((dateS (d - 1)).2.1 = r.mth ∧ (dateS (d - 1)).2.2 = r.day)) : stepA r B a d = a := by
  have e1 : t1S r a d = a := if_neg fun h => h1 h.2.1
  have e2 : t2S r a d = a := if_neg h2
  have e3 : t3S r a d = a := if_neg fun h => h1 h.1
  unfold stepA turnS
  rw [e1, e2, e3, hb]
  unfold bookA
  have := h.car
  by_cases hc : a.car < 0
  · omega
  · rw [if_neg hc]; simp
theorem pass_idle {r : LR} {B : Int → Int} (hr : LOk r) {x : Int} (hb : B x = 0) (h1 : (dateS x).2.2 ≠ 1) (h2 : ¬ ((dateS (x - 1)).2.1 = r.mth ∧ (dateS (x - 1)).2.2 = r.day)) {p q : Int → Bool} (hpq : ∀ d, d ≠ x → p d = q d) (hB : ∀ d, 0 ≤ B d ∧ B d ≤ 2000000000) : ∀ (L : List Int) (a : Acc) (k : Nat), AInv a k → passS r B a (L.filter p) = passS r B a (L.filter q)
  | [], a, k, _ => rfl
  | d :: L, a, k, h => by
    by_cases e : d = x
    · subst e
      have ih := pass_idle hr hb h1 h2 hpq hB L a k h
      have hid := step_idle (r := r) (B := B) h hb h1 h2
      have one : ∀ (M : List Int), passS r B a (d :: M) = passS r B a M := fun M => by
        rw [passS, hid, if_neg (by rw [hb]; omega)]
      rw [List.filter_cons, List.filter_cons]
      split <;> split
      · rw [one, one, ih]
      · rw [one, ih]
      · rw [one, ih]
      · exact ih
    · rw [List.filter_cons, List.filter_cons, hpq d e]
      split
      · unfold passS
        rw [pass_idle hr hb h1 h2 hpq hB L _ (k + 1) (inv_step hr h (hB d).1 (hB d).2)]
      · exact pass_idle hr hb h1 h2 hpq hB L a k h
end Go.Proofs.YtpaeomgnmimjoaaDoor
