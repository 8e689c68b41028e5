/- Plain: means, lookups, the values of expressions. -/
import Derived.Test.YtcghpepighboaaaDoorX0c
import Derived.Test.YtcghpepighboaaaDoorMul
set_option linter.unusedSimpArgs false
set_option linter.unusedVariables false
namespace Go.Proofs.YtcghpepighboaaaDoor
structure In where
  nm : ByteArray
  n : Int
  d : Int
abbrev cIn (x : In) : List PV := [vs x.nm, vi x.n, vi x.d]
theorem cIn_cl : CellsCl cIn := fun _ => ⟨trivial, trivial, trivial, trivial⟩
structure Pa where
  nm : ByteArray
  k : Nat
  f : Nat → Int × Int
abbrev cPa (x : Pa) : List PV := [vs x.nm, .vsl x.k 2 (tF cPr x.f)]
theorem cPa_cl : CellsCl cPa := fun _ => ⟨trivial, trivial, trivial⟩
def sumR (f : Nat → Int × Int) : Nat → RE
  | 0 => (f 0, 0)
  | n + 1 => if (sumR f n).2 = 0 then addR (sumR f n).1.1 (sumR f n).1.2 (f (n + 1)).1 (f (n + 1)).2 else sumR f n
def meanS (k : Nat) (f : Nat → Int × Int) : RE :=
  if 120 < k then ((0, 0), 3) else if allK k (fun i => okR (f i).1 (f i).2) = false then ((0, 0), 1) else if k = 0 then ((0, 0), 16)
  else if (sumR f (k - 1)).2 = 0 then divR (sumR f (k - 1)).1.1 (sumR f (k - 1)).1.2 k 1 else ((0, 0), (sumR f (k - 1)).2)
def bestS (ef : Nat → En) (a b : Int) : Nat → Int
  | 0 => -1
  | n + 1 => if cmpR (ef n).1 1 a b ≤ 0 ∧ (bestS ef a b n < 0 ∨ (ef (bestS ef a b n).toNat).1 < (ef n).1) then n else bestS ef a b n
def entB (x : En) : Bool := okR x.2.1 x.2.2 && decide (-1000000000000 ≤ x.1 ∧ x.1 ≤ 1000000000000)
def lookS (n : Nat) (ef : Nat → En) (a b : Int) : RE :=
  if 64 < n then ((0, 0), 3) else if okR a b = false ∨ allK n (fun i => entB (ef i)) = false then ((0, 0), 1)
  else if bestS ef a b n < 0 then ((0, 0), 16) else ((ef (bestS ef a b n).toNat).2, 0)
def findPa (l : List Pa) (s : ByteArray) : Option Pa := l.find? fun p => p.nm.toList == s.toList
def avgS (P : List Pa) (s : ByteArray) (n : Int) : RE :=
  if n < 1 ∨ 120 < n then ((0, 0), 2) else match findPa P s with
  | none => ((0, 0), 16)
  | some p => meanS (min n.toNat p.k) p.f
def lastS' (P : List Pa) (s : ByteArray) (n : Int) : RE :=
  if n < 1 ∨ 120 < n then ((0, 0), 2) else match findPa P s with
  | none => ((0, 0), 16)
  | some p => if (p.k : Int) < n then ((0, 0), 16) else if okR (p.f (n.toNat - 1)).1 (p.f (n.toNat - 1)).2 = true then (p.f (n.toNat - 1), 0) else ((0, 0), 1)
def inS (N : List In) (s : ByteArray) : RE := match N.find? fun x => x.nm.toList == s.toList with
  | none => ((0, 0), 16)
  | some x => if okR x.n x.d = true then ((x.n, x.d), 0) else ((0, 0), 1)
def scaS (S : List Df) (s : ByteArray) (a b : Int) : RE := match S.find? fun d => decide (d.kind = 2) && (d.nm.toList == s.toList) with
  | none => ((0, 0), 16)
  | some d => lookS d.ne d.ef a b
def truS (b : Bool) : Int × Int := if b then (1, 1) else (0, 1)
def combS (op : Int) (a b : Int × Int) : RE :=
  if op = 5 then addR a.1 a.2 b.1 b.2 else if op = 6 then subR a.1 a.2 b.1 b.2 else if op = 7 then mulR a.1 a.2 b.1 b.2 else if op = 8 then divR a.1 a.2 b.1 b.2
  else if op = 9 then (truS (decide (cmpR a.1 a.2 b.1 b.2 < 0)), 0) else if op = 10 then (truS (decide (cmpR a.1 a.2 b.1 b.2 ≤ 0)), 0) else if op = 11 then (truS (decide (cmpR a.1 a.2 b.1 b.2 = 0)), 0)
  else if op = 14 then (if 0 < cmpR a.1 a.2 b.1 b.2 then b else a, 0) else (if cmpR a.1 a.2 b.1 b.2 < 0 then b else a, 0)
def evS (N : List In) (S : List Df) (P : List Pa) : Nat → Ex → RE
  | 0, _ => ((0, 0), 1)
  | n + 1, e =>
    if e.op = 1 then ((e.vn, e.vd), 0) else if e.op = 2 then ((e.cnt, 1), 0) else if e.op = 3 then inS N e.nm else if e.op = 20 then avgS P e.nm e.cnt else if e.op = 21 then lastS' P e.nm e.cnt
    else if (evS N S P n (e.kf 0)).2 ≠ 0 then ((0, 0), (evS N S P n (e.kf 0)).2)
    else if e.op = 4 then scaS S e.nm (evS N S P n (e.kf 0)).1.1 (evS N S P n (e.kf 0)).1.2
    else if e.op = 16 then negR (evS N S P n (e.kf 0)).1.1 (evS N S P n (e.kf 0)).1.2
    else if e.op = 17 then (truS (decide ((evS N S P n (e.kf 0)).1.1 = 0)), 0)
    else if e.op = 19 then roundR (evS N S P n (e.kf 0)).1.1 (evS N S P n (e.kf 0)).1.2 e.vn e.vd e.mode
    else if e.op = 18 then (if (evS N S P n (e.kf 0)).1.1 ≠ 0 then evS N S P n (e.kf 1) else evS N S P n (e.kf 2))
    else if e.op = 12 then (if (evS N S P n (e.kf 0)).1.1 = 0 then ((0, 1), 0) else evS N S P n (e.kf 1))
    else if e.op = 13 then (if (evS N S P n (e.kf 0)).1.1 ≠ 0 then ((1, 1), 0) else evS N S P n (e.kf 1))
    else if (evS N S P n (e.kf 1)).2 ≠ 0 then ((0, 0), (evS N S P n (e.kf 1)).2)
    else combS e.op (evS N S P n (e.kf 0)).1 (evS N S P n (e.kf 1)).1
def evalS (N : List In) (S : List Df) (P : List Pa) (e : Ex) : RE := if validS 32 e = true then evS N S P 32 e else ((0, 0), 1)
/-! ### what has no error is a fraction -/
def OkE (r : RE) : Prop := r.2 = 0 → okR r.1.1 r.1.2 = true
theorem fitG_zero2 (neg neg' : Bool) (m g : Int) : fitG neg 0 m g = fitG neg' 0 m g := by
  unfold fitG
  rw [Int.zero_ediv]
  cases neg <;> cases neg' <;> rfl
theorem newS_neg {n d : Int} (hd : d < 0) : newS n d = newS (-n) (-d) := by
  rw [newS, if_neg (by omega), newS, if_neg (by omega), Int.natAbs_neg, Int.natAbs_neg]
  by_cases hn : n = 0
  · subst hn; exact fitG_zero2 _ _ _ _
  · congr 1
    rw [decide_eq_true hd, decide_eq_false (show ¬ -d < 0 by omega)]
    by_cases h : n < 0
    · rw [decide_eq_true h, decide_eq_false (show ¬ -n < 0 by omega)]; rfl
    · rw [decide_eq_false h, decide_eq_true (show -n < 0 by omega)]; rfl
theorem newS_ok (n d : Int) (hd : d ≠ 0) : OkE (newS n d) := fun h => by
  rcases Int.lt_or_gt_of_ne hd with hd | hd
  · rw [newS_neg hd] at h ⊢; exact (newS_spec (by omega) h).1
  · exact (newS_spec hd h).1
theorem err_ok {a : Int × Int} {e : Int} (he : e ≠ 0) : OkE (a, e) := fun h => absurd h he
theorem addR_ok (a b c d : Int) : OkE (addR a b c d) := by
  unfold addR; split
  · rename_i h; simp at h
    obtain ⟨b1, b2, _, _⟩ := okR_bd h.1
    obtain ⟨d1, d2, _, _⟩ := okR_bd h.2
    exact newS_ok _ _ (Int.mul_ne_zero (by omega) (by omega))
  · exact err_ok (by decide)
theorem subR_ok (a b c d : Int) : OkE (subR a b c d) := by
  unfold subR; split
  · rename_i h; simp at h
    obtain ⟨b1, b2, _, _⟩ := okR_bd h.1
    obtain ⟨d1, d2, _, _⟩ := okR_bd h.2
    exact newS_ok _ _ (Int.mul_ne_zero (by omega) (by omega))
  · exact err_ok (by decide)
theorem mulR_ok (a b c d : Int) : OkE (mulR a b c d) := by
  unfold mulR; split
  · rename_i h; simp at h
    obtain ⟨b1, b2, _, _⟩ := okR_bd h.1
    obtain ⟨d1, d2, _, _⟩ := okR_bd h.2
    exact newS_ok _ _ (Int.mul_ne_zero (by omega) (by omega))
  · exact err_ok (by decide)
theorem divR_ok (a b c d : Int) : OkE (divR a b c d) := by
  unfold divR; split
  · rename_i h; simp at h
    obtain ⟨b1, b2, _, _⟩ := okR_bd h.1
    split
    · exact err_ok (by decide)
    · rename_i hc; exact newS_ok _ _ (Int.mul_ne_zero (by omega) hc)
  · exact err_ok (by decide)
theorem negR_ok (a b : Int) : OkE (negR a b) := by
  unfold negR; split
  · rename_i h
    intro _
    simp only [okR, decide_eq_true_eq] at h ⊢
    obtain ⟨h1, h2, h3, h4, h5⟩ := h
    exact ⟨h1, h2, by omega, by omega, by rw [Int.neg_gcd]; exact h5⟩
  · exact err_ok (by decide)
theorem roundR_ok (a b c d m : Int) : OkE (roundR a b c d m) := by
  unfold roundR; split
  · rename_i h; simp at h
    obtain ⟨d1, d2, _, _⟩ := okR_bd h.2
    split
    · exact err_ok (by decide)
    · exact newS_ok _ _ (by omega)
  · exact err_ok (by decide)
theorem truS_ok (b : Bool) : OkE (truS b, 0) := by cases b <;> exact fun _ => by decide
theorem sumR_ok (f : Nat → Int × Int) (n : Nat) (h : okR (f 0).1 (f 0).2 = true) : OkE (sumR f n) := by
  induction n with
  | zero => exact fun _ => h
  | succ n ih => unfold sumR; split; exact addR_ok _ _ _ _; exact ih
theorem meanS_ok (k : Nat) (f : Nat → Int × Int) : OkE (meanS k f) := by
  unfold meanS
  repeat' split
  · exact err_ok (by decide)
  · exact err_ok (by decide)
  · exact err_ok (by decide)
  · exact divR_ok _ _ _ _
  · rename_i h; exact err_ok h
theorem bestS_bd (ef : Nat → En) (a b : Int) (n : Nat) : -1 ≤ bestS ef a b n ∧ bestS ef a b n < n ∨ bestS ef a b n = -1 := by
  induction n with
  | zero => right; rfl
  | succ n ih => unfold bestS; split <;> omega
theorem lookS_ok (n : Nat) (ef : Nat → En) (a b : Int) : OkE (lookS n ef a b) := by
  unfold lookS
  split
  · exact err_ok (by decide)
  split
  · exact err_ok (by decide)
  split
  · exact err_ok (by decide)
  · rename_i h2 h3
    intro _
    have hb := bestS_bd ef a b n
    have h4 : allK n (fun i => entB (ef i)) = true := by cases h : allK n (fun i => entB (ef i)); exact absurd (Or.inr h) h2; rfl
    have := allK_iff.1 h4 (bestS ef a b n).toNat (by omega)
    simp only [entB, Bool.and_eq_true] at this
    exact this.1
theorem avgS_ok (P : List Pa) (s : ByteArray) (n : Int) : OkE (avgS P s n) := by
  unfold avgS
  split
  · exact err_ok (by decide)
  · split
    · exact err_ok (by decide)
    · exact meanS_ok _ _
theorem lastS_ok (P : List Pa) (s : ByteArray) (n : Int) : OkE (lastS' P s n) := by
  unfold lastS'
  split
  · exact err_ok (by decide)
  · split
    · exact err_ok (by decide)
    · split
      · exact err_ok (by decide)
      · split
        · rename_i h; exact fun _ => h
        · exact err_ok (by decide)
theorem inS_ok (N : List In) (s : ByteArray) : OkE (inS N s) := by
  unfold inS
  split
  · exact err_ok (by decide)
  · split
    · rename_i h; exact fun _ => h
    · exact err_ok (by decide)
theorem scaS_ok (S : List Df) (s : ByteArray) (a b : Int) : OkE (scaS S s a b) := by
  unfold scaS
  split
  · exact err_ok (by decide)
  · exact lookS_ok _ _ _ _
theorem combS_ok (op : Int) (a b : Int × Int) (ha : okR a.1 a.2 = true) (hb : okR b.1 b.2 = true) : OkE (combS op a b) := by
  unfold combS
  repeat' split
  · exact addR_ok _ _ _ _
  · exact subR_ok _ _ _ _
  · exact mulR_ok _ _ _ _
  · exact divR_ok _ _ _ _
  · exact truS_ok _
  · exact truS_ok _
  · exact truS_ok _
  · exact fun _ => hb
  · exact fun _ => ha
  · exact fun _ => hb
  · exact fun _ => ha
theorem validS_k {n : Nat} {e : Ex} {i : Nat} (h : validS (n + 1) e = true) (hi : i < e.nk) : validS n (e.kf i) = true := by
  unfold validS at h
  simp only [Bool.and_eq_true] at h
  exact allK_iff.1 h.2.2 i hi
theorem validS_nk {n : Nat} {e : Ex} (h : validS (n + 1) e = true) : (e.nk : Int) = kidsN e.op := by
  unfold validS at h
  simp only [Bool.and_eq_true, decide_eq_true_eq] at h
  exact h.1
theorem validS_f {n : Nat} {e : Ex} (h : validS (n + 1) e = true) : fieldS e = true := by
  unfold validS at h
  simp only [Bool.and_eq_true, decide_eq_true_eq] at h
  exact h.2.1
theorem evS_ok (N : List In) (S : List Df) (P : List Pa) : ∀ (n : Nat) (e : Ex), validS n e = true → OkE (evS N S P n e) := by
  intro n
  induction n with
  | zero => intro e h; simp [validS] at h
  | succ n ih =>
    intro e h
    have hn := validS_nk h
    have hf := validS_f h
    have hk : ∀ i, i < e.nk → OkE (evS N S P n (e.kf i)) := fun i hi => ih _ (validS_k h hi)
    unfold evS
    by_cases h1 : e.op = 1
    · rw [if_pos h1]
      intro _
      unfold fieldS at hf
      rw [if_pos h1] at hf
      simp only [Bool.and_eq_true] at hf
      have := hf.1
      unfold decS at this
      simp only [Bool.and_eq_true] at this
      exact this.1
    rw [if_neg h1]
    by_cases h2 : e.op = 2
    · rw [if_pos h2]
      unfold fieldS at hf
      simp only [Bool.and_eq_true] at hf
      have := hf.2.2.2.1
      rw [if_pos h2] at this
      simp at this
      rcases this with h | h <;> rw [h] <;> exact fun _ => by decide
    rw [if_neg h2]
    by_cases h3 : e.op = 3
    · rw [if_pos h3]; exact inS_ok _ _
    rw [if_neg h3]
    by_cases h20 : e.op = 20
    · rw [if_pos h20]; exact avgS_ok _ _ _
    rw [if_neg h20]
    by_cases h21 : e.op = 21
    · rw [if_pos h21]; exact lastS_ok _ _ _
    rw [if_neg h21]
    by_cases he : (evS N S P n (e.kf 0)).2 ≠ 0
    · rw [if_pos he]; exact err_ok he
    rw [if_neg he]
    have nk1 : 1 ≤ e.nk := by
      unfold kidsN at hn
      rw [if_neg (by omega)] at hn
      split at hn
      · omega
      split at hn
      · omega
      split at hn
      · omega
      · omega
    have k0 := hk 0 (by omega) (Decidable.not_not.1 he)
    by_cases h4 : e.op = 4
    · rw [if_pos h4]; exact scaS_ok _ _ _ _
    rw [if_neg h4]
    by_cases h16 : e.op = 16
    · rw [if_pos h16]; exact negR_ok _ _
    rw [if_neg h16]
    by_cases h17 : e.op = 17
    · rw [if_pos h17]; exact truS_ok _
    rw [if_neg h17]
    by_cases h19 : e.op = 19
    · rw [if_pos h19]; exact roundR_ok _ _ _ _ _
    rw [if_neg h19]
    have nk2 : 2 ≤ e.nk := by
      unfold kidsN at hn
      rw [if_neg (by omega), if_neg (by omega)] at hn
      split at hn
      · omega
      split at hn
      · omega
      · omega
    by_cases h18 : e.op = 18
    · rw [if_pos h18]
      have nk3 : e.nk = 3 := by
        have : kidsN e.op = 3 := by rw [h18]; rfl
        omega
      by_cases hc : (evS N S P n (e.kf 0)).1.1 ≠ 0
      · rw [if_pos hc]; exact hk 1 (by omega)
      · rw [if_neg hc]; exact hk 2 (by omega)
    rw [if_neg h18]
    by_cases h12 : e.op = 12
    · rw [if_pos h12]
      by_cases hc : (evS N S P n (e.kf 0)).1.1 = 0
      · rw [if_pos hc]; exact fun _ => by decide
      · rw [if_neg hc]; exact hk 1 (by omega)
    rw [if_neg h12]
    by_cases h13 : e.op = 13
    · rw [if_pos h13]
      by_cases hc : (evS N S P n (e.kf 0)).1.1 ≠ 0
      · rw [if_pos hc]; exact fun _ => by decide
      · rw [if_neg hc]; exact hk 1 (by omega)
    rw [if_neg h13]
    by_cases he1 : (evS N S P n (e.kf 1)).2 ≠ 0
    · rw [if_pos he1]; exact err_ok he1
    rw [if_neg he1]
    exact combS_ok _ _ _ k0 (hk 1 (by omega) (Decidable.not_not.1 he1))
end Go.Proofs.YtcghpepighboaaaDoor
