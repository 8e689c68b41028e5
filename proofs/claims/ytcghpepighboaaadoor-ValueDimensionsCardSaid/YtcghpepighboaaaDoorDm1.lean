/- Plain: an expression in another measure. -/
import Derived.Test.YtcghpepighboaaaDoorDm0
set_option linter.unusedSimpArgs false
set_option linter.unusedVariables false
set_option maxRecDepth 100000
namespace Go.Proofs.YtcghpepighboaaaDoor
def itN {α : Type} (f : α → α) : Nat → α → α
  | 0, x => x
  | n + 1, x => itN f n (f x)
def dblS (x : Int × Int) : Int × Int := if (newS (2 * x.1) x.2).2 = 0 then (newS (2 * x.1) x.2).1 else x
def hlfS (x : Int × Int) : Int × Int := if (newS x.1 (2 * x.2)).2 = 0 then (newS x.1 (2 * x.2)).1 else x
def scS (x : Int × Int) (k : Int) : Int × Int := itN hlfS (-k).toNat (itN dblS k.toNat x)
theorem lit_tab : ∀ x ∈ decL, ∀ k ∈ ([-3, -2, -1, 0, 1, 2, 3] : List Int), okR x.1 x.2 = true ∧ okR (scS x k).1 (scS x k).2 = true ∧ decS (scS x k).1 (scS x k).2 = true ∧ (0 < x.1 → 0 < (scS x k).1) ∧ (scS x k).1 * x.2 * q2 k = x.1 * (scS x k).2 * p2 k := by decide +kernel
theorem lit_at {x : Int × Int} {k : Int} (hx : x ∈ decL) (h1 : -3 ≤ k) (h2 : k ≤ 3) : okR x.1 x.2 = true ∧ okR (scS x k).1 (scS x k).2 = true ∧ decS (scS x k).1 (scS x k).2 = true ∧ (0 < x.1 → 0 < (scS x k).1) ∧ Vs k x (scS x k) := by
  refine lit_tab x hx k ?_
  rcases (by omega : k = -3 ∨ k = -2 ∨ k = -1 ∨ k = 0 ∨ k = 1 ∨ k = 2 ∨ k = 3) with rfl | rfl | rfl | rfl | rfl | rfl | rfl <;> simp
def meaS : Nat → Ex → Ex
  | 0, e => e
  | _ + 1, .nil => .nil
  | n + 1, .mk op vn vd um uh ud nm cnt mode nk kf => .mk op (if op = 1 ∨ op = 19 then (scS (vn, vd) uh).1 else vn) (if op = 1 ∨ op = 19 then (scS (vn, vd) uh).2 else vd) um uh ud nm cnt mode nk (fun i => meaS n (kf i))
theorem mea_op (n : Nat) (e : Ex) : (meaS (n + 1) e).op = e.op := by cases e <;> rfl
theorem mea_um (n : Nat) (e : Ex) : (meaS (n + 1) e).um = e.um := by cases e <;> rfl
theorem mea_uh (n : Nat) (e : Ex) : (meaS (n + 1) e).uh = e.uh := by cases e <;> rfl
theorem mea_ud (n : Nat) (e : Ex) : (meaS (n + 1) e).ud = e.ud := by cases e <;> rfl
theorem mea_nm (n : Nat) (e : Ex) : (meaS (n + 1) e).nm = e.nm := by cases e <;> rfl
theorem mea_cnt (n : Nat) (e : Ex) : (meaS (n + 1) e).cnt = e.cnt := by cases e <;> rfl
theorem mea_mode (n : Nat) (e : Ex) : (meaS (n + 1) e).mode = e.mode := by cases e <;> rfl
theorem mea_nk (n : Nat) (e : Ex) : (meaS (n + 1) e).nk = e.nk := by cases e <;> rfl
theorem mea_kf (n : Nat) (e : Ex) (i : Nat) : (meaS (n + 1) e).kf i = meaS n (e.kf i) := by
  cases e with
  | nil => cases n <;> rfl
  | mk => rfl
theorem mea_vn (n : Nat) (e : Ex) : (meaS (n + 1) e).vn = if e.op = 1 ∨ e.op = 19 then (scS (e.vn, e.vd) e.uh).1 else e.vn := by cases e <;> rfl
theorem mea_vd (n : Nat) (e : Ex) : (meaS (n + 1) e).vd = if e.op = 1 ∨ e.op = 19 then (scS (e.vn, e.vd) e.uh).2 else e.vd := by cases e <;> rfl
theorem Lit.l {e : Ex} (h : Lit e) : e.op = 1 ∨ e.op = 19 → (e.vn, e.vd) ∈ decL := by cases h with | mk h _ => exact h
theorem Lit.k {e : Ex} (h : Lit e) {i : Nat} (hi : i < e.nk) : Lit (e.kf i) := by cases h with | mk _ h => exact h i hi
theorem unit_of {e : Ex} (h : fieldS e = true) (ho : e.op = 1 ∨ e.op = 19) : -3 ≤ e.uh ∧ e.uh ≤ 3 := by
  unfold fieldS at h
  simp only [Bool.and_eq_true] at h
  have := h.2.1
  rw [if_pos ho] at this
  simp only [unitS, Bool.and_eq_true, decide_eq_true_eq] at this
  exact this.2.1
theorem mea_valid : ∀ (n : Nat) (e : Ex), Lit e → validS n e = true → validS n (meaS n e) = true
  | 0, e, _, h => h
  | n + 1, e, hl, h => by
    have hf := validS_f h
    have hnk := validS_nk h
    have hk : ∀ i, i < e.nk → validS n (meaS n (e.kf i)) = true := fun i hi => mea_valid n _ (hl.k hi) (validS_k h hi)
    unfold validS
    rw [mea_nk, mea_op, decide_eq_true hnk, Bool.true_and]
    simp only [Bool.and_eq_true]
    refine ⟨?_, allK_iff.2 fun i hi => by rw [mea_kf]; exact hk i hi⟩
    have hu := unit_of hf
    unfold fieldS at hf ⊢
    rw [mea_op, mea_um, mea_uh, mea_ud, mea_nm, mea_cnt, mea_mode, mea_vn, mea_vd]
    simp only [Bool.and_eq_true] at hf ⊢
    refine ⟨?_, hf.2⟩
    have hf1 := hf.1
    by_cases h1 : e.op = 1
    · obtain ⟨_, _, t3, _, _⟩ := lit_at (hl.l (.inl h1)) (hu (.inl h1)).1 (hu (.inl h1)).2
      rw [if_pos h1, if_pos (.inl h1), if_pos (.inl h1)]; exact t3
    · by_cases h2 : e.op = 19
      · obtain ⟨_, _, t3, t4, _⟩ := lit_at (hl.l (.inr h2)) (hu (.inr h2)).1 (hu (.inr h2)).2
        rw [if_neg h1, if_pos h2] at hf1 ⊢
        rw [if_pos (.inr h2), if_pos (.inr h2)]
        simp only [Bool.and_eq_true, decide_eq_true_eq] at hf1 ⊢
        exact ⟨t3, t4 hf1.2⟩
      · rw [if_neg h1, if_neg h2] at hf1 ⊢
        rw [if_neg (by omega), if_neg (by omega)]; exact hf1
def okTy (t : Ty) : Prop := t.b = true → t.h = 0
theorem okTy_f {m h d : Int} : okTy ⟨false, m, h, d⟩ := fun h => by cases h
theorem res_inv {t t' : Ty} {e : Int} (h : resS t e = (t', 0)) : e = 0 ∧ t = t' := by
  unfold resS at h
  split at h
  · rename_i h0; simp at h; exact ⟨h0, h⟩
  · rename_i h0; simp at h; exact absurd h.2 h0
theorem equ_inv {a b : Ty} (h : equS a b = 0) : a.b = false ∧ b.b = false ∧ a.h = b.h := by
  unfold equS at h
  split at h
  · cases h
  · rename_i h1
    split at h
    · rename_i h2
      refine ⟨?_, ?_, h2.2.1⟩
      · cases e : a.b; rfl; exact absurd (Or.inl e) h1
      · cases e : b.b; rfl; exact absurd (Or.inr e) h1
    · cases h
theorem mulT_inv {a b t : Ty} {s : Int} (h : mulT a b s = (t, 0)) : t.b = false ∧ t.h = a.h + s * b.h := by
  unfold mulT at h
  split at h
  · simp at h; rw [← h]; exact ⟨rfl, rfl⟩
  · simp at h
structure EnvS (NL SL PL : List Df) (N N' : List In) (S S' : List Df) (P P' : List Pa) : Prop where
  nm : ∀ s t, findS NL s = (t, 0) → okTy t ∧ ScR t.h (inS N s) (inS N' s)
  sc : ∀ s t, findS SL s = (t, 0) → t.b = false ∧ ∀ a b, okR a b = true → ScR t.h (scaS S s a b) (scaS S' s a b)
  pa : ∀ s t, findS PL s = (t, 0) → t.b = false ∧ ∀ c, ScR t.h (avgS P s c) (avgS P' s c) ∧ ScR t.h (lastS' P s c) (lastS' P' s c)
theorem sc_comb {op : Int} {k : Int} {x x' y y' : Int × Int} (hx : okR x.1 x.2 = true) (hx' : okR x'.1 x'.2 = true) (hy : okR y.1 y.2 = true) (hy' : okR y'.1 y'.2 = true) (h1 : Vs k x x') (h2 : Vs k y y') (hop : op = 5 ∨ op = 6 ∨ op = 14 ∨ op = 15) : ScR k (combS op x y) (combS op x' y') := by
  have hc := cmp_vs hx hx' hy hy' h1 h2
  rcases hop with rfl | rfl | rfl | rfl
  · simp only [combS, Int.reduceEq, reduceIte]; exact sc_add hx hx' hy hy' h1 h2
  · simp only [combS, Int.reduceEq, reduceIte]; exact sc_sub hx hx' hy hy' h1 h2
  · simp only [combS, Int.reduceEq, reduceIte, hc]
    split
    · exact sc_val hy hy' h2
    · exact sc_val hx hx' h1
  · simp only [combS, Int.reduceEq, reduceIte, hc]
    split
    · exact sc_val hy hy' h2
    · exact sc_val hx hx' h1
theorem sc_cmp {op : Int} {k : Int} {x x' y y' : Int × Int} (hx : okR x.1 x.2 = true) (hx' : okR x'.1 x'.2 = true) (hy : okR y.1 y.2 = true) (hy' : okR y'.1 y'.2 = true) (h1 : Vs k x x') (h2 : Vs k y y') (hop : op = 9 ∨ op = 10 ∨ op = 11) : ScR 0 (combS op x y) (combS op x' y') := by
  have hc := cmp_vs hx hx' hy hy' h1 h2
  rcases hop with rfl | rfl | rfl
  all_goals
    simp only [combS, Int.reduceEq, reduceIte, hc]
    exact sc_same (truS_ok _)
theorem kt_lt {T : Nat → Ty × Int} {n j : Nat} (h : j < n) : kt T n j = (T j).1 := by unfold kt; rw [if_pos h]
set_option maxHeartbeats 2000000 in
theorem evB_sc {NL SL PL : List Df} {N N' : List In} {S S' : List Df} {P P' : List Pa} (hE : EnvS NL SL PL N N' S S' P P') {e e' : Ex} {V V' : Nat → RE} {T : Nat → Ty × Int} {t : Ty} (hf : fieldS e = true) (hnk : (e.nk : Int) = kidsN e.op) (hl : e.op = 1 ∨ e.op = 19 → (e.vn, e.vd) ∈ decL)
    (hop : e'.op = e.op) (hnm : e'.nm = e.nm) (hcnt : e'.cnt = e.cnt) (hmode : e'.mode = e.mode) (hvn : e'.vn = if e.op = 1 ∨ e.op = 19 then (scS (e.vn, e.vd) e.uh).1 else e.vn) (hvd : e'.vd = if e.op = 1 ∨ e.op = 19 then (scS (e.vn, e.vd) e.uh).2 else e.vd)
    (ih : ∀ i, i < e.nk → okTy (T i).1 ∧ ScR (T i).1.h (V i) (V' i)) (ht : opS NL SL PL e (kt T e.nk 0) (kt T e.nk 1) (kt T e.nk 2) = (t, 0)) : okTy t ∧ ScR t.h (evB N S P V e) (evB N' S' P' V' e') := by
  have hu := unit_of hf
  have hc := kids_op hnk
  unfold evB
  rw [hop, hnm, hcnt, hmode, hvn, hvd]
  clear hop hnm hcnt hmode hvn hvd hnk
  rcases hc with h | ⟨h, hn⟩ | ⟨h, hn⟩ | ⟨h1, h2, hn⟩
  · rcases h with h | h | h | h | h
    · obtain ⟨t1, t2, t3, t4, t5⟩ := lit_at (hl (.inl h)) (hu (.inl h)).1 (hu (.inl h)).2
      simp only [opS, h, Int.reduceEq, reduceIte, or_false, true_or, Prod.mk.injEq, and_true] at ht ⊢
      subst ht
      exact ⟨okTy_f, sc_val t1 t2 t5⟩
    · simp only [opS, h, Int.reduceEq, reduceIte, or_false, true_or, Prod.mk.injEq, and_true] at ht ⊢
      subst ht
      refine ⟨fun _ => rfl, sc_same fun _ => ?_⟩
      unfold fieldS at hf
      simp only [Bool.and_eq_true] at hf
      have := hf.2.2.2.1
      rw [if_pos h] at this
      simp at this
      rcases this with h | h <;> rw [h] <;> decide
    · simp only [opS, h, Int.reduceEq, reduceIte, or_false, true_or] at ht ⊢
      exact hE.nm _ _ ht
    · simp only [opS, h, Int.reduceEq, reduceIte, or_false, true_or, or_true] at ht ⊢
      obtain ⟨p1, p2⟩ := hE.pa _ _ ht
      exact ⟨fun hb => Bool.noConfusion (p1.symm.trans hb), (p2 _).1⟩
    · simp only [opS, h, Int.reduceEq, reduceIte, or_false, true_or, or_true] at ht ⊢
      obtain ⟨p1, p2⟩ := hE.pa _ _ ht
      exact ⟨fun hb => Bool.noConfusion (p1.symm.trans hb), (p2 _).2⟩
  · obtain ⟨o0, s0⟩ := ih 0 (by omega)
    rw [kt_lt (by omega : 0 < e.nk)] at ht
    rcases h with h | h | h | h
    · simp only [opS, h, Int.reduceEq, reduceIte, or_false, true_or, or_true] at ht ⊢
      split at ht
      · rename_i hx; simp at ht; exact absurd ht.2 hx
      rename_i hx
      obtain ⟨r1, r2⟩ := res_inv ht
      obtain ⟨q1, q2, q3⟩ := equ_inv r1
      obtain ⟨c1, c2⟩ := hE.sc e.nm t (Prod.ext r2 (Decidable.not_not.1 hx))
      refine ⟨fun hb => Bool.noConfusion (c1.symm.trans hb), sc_if s0 fun a1 a2 a3 a4 a5 => ?_⟩
      rw [q3] at a5
      have := vs_zero a3 a4 a5
      rw [this]
      exact c2 _ _ a3
    · simp only [opS, h, Int.reduceEq, reduceIte, or_false, true_or, or_true, false_or] at ht ⊢
      split at ht
      · simp at ht
      simp only [Prod.mk.injEq, and_true] at ht
      subst ht
      exact ⟨o0, sc_if s0 fun a1 a2 a3 a4 a5 => sc_neg a3 a4 a5⟩
    · simp only [opS, h, Int.reduceEq, reduceIte, or_false, true_or, or_true, false_or] at ht ⊢
      split at ht
      · simp only [Prod.mk.injEq, and_true] at ht
        subst ht
        refine ⟨fun _ => rfl, sc_if s0 fun a1 a2 a3 a4 a5 => ?_⟩
        have := vs_iff0 a3 a4 a5
        rw [show decide ((V' 0).1.1 = 0) = decide ((V 0).1.1 = 0) from by rw [decide_eq_decide]; exact this.symm]
        exact sc_same (truS_ok _)
      · simp at ht
    · obtain ⟨t1, t2, t3, t4, t5⟩ := lit_at (hl (.inr h)) (hu (.inr h)).1 (hu (.inr h)).2
      simp only [opS, h, Int.reduceEq, reduceIte, or_false, true_or, or_true, false_or] at ht ⊢
      obtain ⟨r1, r2⟩ := res_inv ht
      obtain ⟨q1, q2, q3⟩ := equ_inv r1
      subst r2
      refine ⟨o0, sc_if s0 fun a1 a2 a3 a4 a5 => ?_⟩
      have q3 : (T 0).1.h = e.uh := q3
      rw [← q3] at t5
      rw [← q3] at t2
      rw [← q3]
      exact sc_round _ a3 a4 t1 t2 a5 t5
  · obtain ⟨o0, s0⟩ := ih 0 (by omega)
    obtain ⟨o1, s1⟩ := ih 1 (by omega)
    obtain ⟨o2, s2⟩ := ih 2 (by omega)
    rw [kt_lt (by omega : 0 < e.nk), kt_lt (by omega : 1 < e.nk), kt_lt (by omega : 2 < e.nk)] at ht
    simp only [opS, h, Int.reduceEq, reduceIte, or_false, true_or, or_true, false_or] at ht ⊢
    split at ht
    · have key : okTy t ∧ t.h = (T 1).1.h ∧ t.h = (T 2).1.h := by
        split at ht
        · rename_i hb
          simp only [Prod.mk.injEq, and_true] at ht
          subst ht
          exact ⟨o1, rfl, by rw [o1 hb.1, o2 hb.2]⟩
        · obtain ⟨r1, r2⟩ := res_inv ht
          obtain ⟨q1, q2, q3⟩ := equ_inv r1
          subst r2
          exact ⟨o1, rfl, q3⟩
      obtain ⟨k1, k2, k3⟩ := key
      refine ⟨k1, sc_if s0 fun a1 a2 a3 a4 a5 => ?_⟩
      have h0 := vs_iff0 a3 a4 a5
      by_cases hz : (V 0).1.1 = 0
      · rw [if_neg (by simp [hz]), if_neg (by simp [h0.1 hz]), k3]; exact s2
      · rw [if_pos hz, if_pos (fun hz' => hz (h0.2 hz')), k2]; exact s1
    · simp at ht
  · obtain ⟨o0, s0⟩ := ih 0 (by omega)
    obtain ⟨o1, s1⟩ := ih 1 (by omega)
    rw [kt_lt (by omega : 0 < e.nk), kt_lt (by omega : 1 < e.nk)] at ht
    clear ih hl hu hn hf
    have hop : e.op = 5 ∨ e.op = 6 ∨ e.op = 7 ∨ e.op = 8 ∨ e.op = 9 ∨ e.op = 10 ∨ e.op = 11 ∨ e.op = 12 ∨ e.op = 13 ∨ e.op = 14 ∨ e.op = 15 := by omega
    rcases hop with h | h | h | h | h | h | h | h | h | h | h
    · simp only [opS, h, Int.reduceEq, reduceIte, or_false, true_or, or_true, false_or] at ht ⊢
      obtain ⟨r1, r2⟩ := res_inv ht
      obtain ⟨q1, q2, q3⟩ := equ_inv r1
      subst r2
      exact ⟨o0, sc_if s0 fun a1 a2 a3 a4 a5 => sc_if s1 fun b1 b2 b3 b4 b5 => sc_comb a3 a4 b3 b4 a5 (by rw [q3]; exact b5) (by simp)⟩
    · simp only [opS, h, Int.reduceEq, reduceIte, or_false, true_or, or_true, false_or] at ht ⊢
      obtain ⟨r1, r2⟩ := res_inv ht
      obtain ⟨q1, q2, q3⟩ := equ_inv r1
      subst r2
      exact ⟨o0, sc_if s0 fun a1 a2 a3 a4 a5 => sc_if s1 fun b1 b2 b3 b4 b5 => sc_comb a3 a4 b3 b4 a5 (by rw [q3]; exact b5) (by simp)⟩
    · simp only [opS, h, Int.reduceEq, reduceIte, or_false, true_or, or_true, false_or] at ht ⊢
      split at ht
      · simp at ht
      obtain ⟨r1, r2⟩ := mulT_inv ht
      refine ⟨fun hb => Bool.noConfusion (r1.symm.trans hb), sc_if s0 fun a1 a2 a3 a4 a5 => sc_if s1 fun b1 b2 b3 b4 b5 => ?_⟩
      rw [r2, Int.one_mul]
      simp only [combS, Int.reduceEq, reduceIte]
      exact sc_mul a3 a4 b3 b4 a5 b5
    · simp only [opS, h, Int.reduceEq, reduceIte, or_false, true_or, or_true, false_or] at ht ⊢
      split at ht
      · simp at ht
      obtain ⟨r1, r2⟩ := mulT_inv ht
      refine ⟨fun hb => Bool.noConfusion (r1.symm.trans hb), sc_if s0 fun a1 a2 a3 a4 a5 => sc_if s1 fun b1 b2 b3 b4 b5 => ?_⟩
      rw [r2, show (T 0).1.h + -1 * (T 1).1.h = (T 0).1.h - (T 1).1.h by omega]
      simp only [combS, Int.reduceEq, reduceIte]
      exact sc_div a3 a4 b3 b4 a5 b5
    · simp only [opS, h, Int.reduceEq, reduceIte, or_false, true_or, or_true, false_or] at ht ⊢
      obtain ⟨r1, r2⟩ := res_inv ht
      obtain ⟨q1, q2, q3⟩ := equ_inv r1
      subst r2
      exact ⟨fun _ => rfl, sc_if s0 fun a1 a2 a3 a4 a5 => sc_if s1 fun b1 b2 b3 b4 b5 => sc_cmp a3 a4 b3 b4 a5 (by rw [q3]; exact b5) (by simp)⟩
    · simp only [opS, h, Int.reduceEq, reduceIte, or_false, true_or, or_true, false_or] at ht ⊢
      obtain ⟨r1, r2⟩ := res_inv ht
      obtain ⟨q1, q2, q3⟩ := equ_inv r1
      subst r2
      exact ⟨fun _ => rfl, sc_if s0 fun a1 a2 a3 a4 a5 => sc_if s1 fun b1 b2 b3 b4 b5 => sc_cmp a3 a4 b3 b4 a5 (by rw [q3]; exact b5) (by simp)⟩
    · simp only [opS, h, Int.reduceEq, reduceIte, or_false, true_or, or_true, false_or] at ht ⊢
      have key : t = tB ∧ (T 0).1.h = (T 1).1.h := by
        split at ht
        · rename_i hb
          simp only [Prod.mk.injEq, and_true] at ht
          exact ⟨ht.symm, by rw [o0 hb.1, o1 hb.2]⟩
        · obtain ⟨r1, r2⟩ := res_inv ht
          obtain ⟨q1, q2, q3⟩ := equ_inv r1
          exact ⟨r2.symm, q3⟩
      obtain ⟨rfl, q3⟩ := key
      exact ⟨fun _ => rfl, sc_if s0 fun a1 a2 a3 a4 a5 => sc_if s1 fun b1 b2 b3 b4 b5 => sc_cmp a3 a4 b3 b4 a5 (by rw [q3]; exact b5) (by simp)⟩
    · simp only [opS, h, Int.reduceEq, reduceIte, or_false, true_or, or_true, false_or] at ht ⊢
      split at ht
      · rename_i hb
        simp only [Prod.mk.injEq, and_true] at ht
        subst ht
        refine ⟨fun _ => rfl, sc_if s0 fun a1 a2 a3 a4 a5 => ?_⟩
        have h0 := vs_iff0 a3 a4 a5
        have s1 : ScR 0 (V 1) (V' 1) := by have := s1; rw [o1 hb.2] at this; exact this
        by_cases hz : (V 0).1.1 = 0
        · rw [if_pos hz, if_pos (h0.1 hz)]; exact sc_same fun _ => by decide
        · rw [if_neg hz, if_neg (fun hz' => hz (h0.2 hz'))]; exact s1
      · simp at ht
    · simp only [opS, h, Int.reduceEq, reduceIte, or_false, true_or, or_true, false_or] at ht ⊢
      split at ht
      · rename_i hb
        simp only [Prod.mk.injEq, and_true] at ht
        subst ht
        refine ⟨fun _ => rfl, sc_if s0 fun a1 a2 a3 a4 a5 => ?_⟩
        have h0 := vs_iff0 a3 a4 a5
        have s1 : ScR 0 (V 1) (V' 1) := by have := s1; rw [o1 hb.2] at this; exact this
        by_cases hz : (V 0).1.1 = 0
        · rw [if_neg (by simp [hz]), if_neg (by simp [h0.1 hz])]; exact s1
        · rw [if_pos hz, if_pos (fun hz' => hz (h0.2 hz'))]; exact sc_same fun _ => by decide
      · simp at ht
    · simp only [opS, h, Int.reduceEq, reduceIte, or_false, true_or, or_true, false_or] at ht ⊢
      obtain ⟨r1, r2⟩ := res_inv ht
      obtain ⟨q1, q2, q3⟩ := equ_inv r1
      subst r2
      exact ⟨o0, sc_if s0 fun a1 a2 a3 a4 a5 => sc_if s1 fun b1 b2 b3 b4 b5 => sc_comb a3 a4 b3 b4 a5 (by rw [q3]; exact b5) (by simp)⟩
    · simp only [opS, h, Int.reduceEq, reduceIte, or_false, true_or, or_true, false_or] at ht ⊢
      obtain ⟨r1, r2⟩ := res_inv ht
      obtain ⟨q1, q2, q3⟩ := equ_inv r1
      subst r2
      exact ⟨o0, sc_if s0 fun a1 a2 a3 a4 a5 => sc_if s1 fun b1 b2 b3 b4 b5 => sc_comb a3 a4 b3 b4 a5 (by rw [q3]; exact b5) (by simp)⟩
theorem ev_sc {NL SL PL : List Df} {N N' : List In} {S S' : List Df} {P P' : List Pa} (hE : EnvS NL SL PL N N' S S' P P') : ∀ (n : Nat) (e : Ex), Lit e → validS n e = true → ∀ t, typeS NL SL PL n e = (t, 0) → okTy t ∧ ScR t.h (evS N S P n e) (evS N' S' P' n (meaS n e))
  | 0, e, _, h, _, _ => by cases h
  | n + 1, e, hl, h, t, ht => by
    have hnk := validS_nk h
    have hkt : ∀ i, i < e.nk → (typeS NL SL PL n (e.kf i)).2 = 0 := fun i hi => typeS_kid hnk (by rw [ht]) hi
    have ht2 := (typeS_succ NL SL PL n e (T := fun i => typeS NL SL PL n (e.kf i)) (fun _ => rfl) (by have := kidsN_le e.op; omega)).2 hkt
    rw [ht] at ht2
    rw [evS_B, evS_B]
    exact evB_sc hE (validS_f h) hnk hl.l (mea_op n e) (mea_nm n e) (mea_cnt n e) (mea_mode n e) (mea_vn n e) (mea_vd n e) (T := fun i => typeS NL SL PL n (e.kf i)) (fun i hi => by
      rw [mea_kf]
      exact ev_sc hE n (e.kf i) (hl.k hi) (validS_k h hi) _ (Prod.ext rfl (hkt i hi))) ht2.symm
end Go.Proofs.YtcghpepighboaaaDoor
