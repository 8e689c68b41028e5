/- Means, lookups, averages, last values: package value and its reference. -/
import Derived.Test.YtcghpepighboaaaDoorVal0
import Derived.Test.YtcghpepighboaaaDoorPvTap
set_option linter.unusedSimpArgs false
set_option linter.unusedVariables false
set_option maxRecDepth 100000
namespace Go.Proofs.YtcghpepighboaaaDoor
theorem find_at {α : Type} {d : α} (p : α → Bool) : ∀ (l : List α) (i : Nat), i < l.length → (∀ j, j < i → p (lF d l j) = false) → p (lF d l i) = true → l.find? p = some (lF d l i)
  | [], i, h, _, _ => absurd h (Nat.not_lt_zero _)
  | a :: l, 0, _, _, h => by
    have h' : p a = true := h
    rw [List.find?_cons_of_pos h']; rfl
  | a :: l, i + 1, hi, hj, h => by
    have h0 : p a = false := hj 0 (Nat.succ_pos _)
    rw [List.find?_cons_of_neg (by rw [h0]; decide)]
    exact find_at p l i (Nat.lt_of_succ_lt_succ hi) (fun j hj' => hj (j + 1) (Nat.succ_lt_succ hj')) h
theorem find_no {α : Type} {d : α} (p : α → Bool) (l : List α) (h : ∀ j, j < l.length → p (lF d l j) = false) : l.find? p = none := by
  rw [List.find?_eq_none]
  intro x hx
  obtain ⟨i, hi, rfl⟩ := List.getElem_of_mem hx
  have := h i hi
  unfold lF at this
  rw [List.getD_eq_getElem?_getD, List.getElem?_eq_getElem hi] at this
  simpa using this
theorem nv_t {b : Bool} (h : (!b) = true) : b = false := by cases b; rfl; cases h
theorem nv_f {b : Bool} (h : (!b) = false) : b = true := by cases b; cases h; rfl
abbrev rR (n d : Int) : Row := ⟨.own, true, 1, 2, fun _ => nthP [vi n, vi d]⟩
theorem integer_c (n : Int) : PureC G.P 35 [vi n] (fun r => r = vr n 1) := by
  refine pure_of (G := G.toPg) (fn := Tryd.f35) Tryd.func35 rfl rfl rfl ?_; intro Γ hk
  repeat' (first | refine yo ?_ ?_ | refine yw ?_ ?_ | refine yk ?_ ?_ | exact trivial | with_reducible refine wA ?_ ?_ | refine ys ?_ ?_ | refine xs_done ?_ | refine yl ?_ ?_ | refine w8 ?_ | refine w9 ?_ | refine w1 ?_ | refine w2 ?_ | refine w3 ?_ | refine w4 ?_ | refine w5 ?_ | refine w6 ?_ | refine w7 ?_ | refine yo0 ?_ ?_ | refine yw0 ?_ ?_ | exact qq | fail)
  exact kretv rfl ⟨Nat.zero_lt_one, trivial⟩ rfl rfl
theorem sumR_bd (f : Nat → Int × Int) (n : Nat) (h : ∀ i, i ≤ n → okR (f i).1 (f i).2 = true) : -1000000000000 ≤ (sumR f n).1.1 ∧ (sumR f n).1.1 ≤ 1000000000000 := by
  induction n with
  | zero => exact (okR_bd (h 0 (by omega))).2.2
  | succ n ih => unfold sumR; split; exact addR_bd _ _ _ _; exact ih fun i hi => h i (by omega)
theorem sumR_stop (f : Nat → Int × Int) {n m : Nat} (h : (sumR f n).2 ≠ 0) (hm : n ≤ m) : sumR f m = sumR f n := by
  induction m with
  | zero => rw [show n = 0 by omega]
  | succ m ih =>
    by_cases e : n = m + 1
    · rw [e]
    · rw [sumR, ih (by omega), if_neg h]
set_option maxHeartbeats 4000000 in
theorem mean_c (k : Nat) (f : Nat → Int × Int) (hk0 : k ≤ 1000000000) (hb : ∀ i, i < k → -9223372036854775808 ≤ (f i).1 ∧ (f i).1 ≤ 9223372036854775807) : PureC G.P 9 [.vsl k 2 (tF cPr f)] (fun r => r = vRE (meanS k f)) := by
  refine pure_of (G := G.toPg) (fn := Tryd.f9) Tryd.func9 rfl rfl rfl ?_; intro Γ hk
  repeat' (first | refine yo ?_ ?_ | refine yw ?_ ?_ | refine yk ?_ ?_ | exact trivial | with_reducible refine wA ?_ ?_ | refine ys ?_ ?_ | refine xs_done ?_ | refine yl ?_ ?_ | refine w8 ?_ | refine w9 ?_ | refine w1 ?_ | refine w2 ?_ | refine w3 ?_ | refine w4 ?_ | refine w5 ?_ | refine w6 ?_ | refine w7 ?_ | refine yo0 ?_ ?_ | refine yw0 ?_ ?_ | exact qq | fail)
  refine pcond rfl ?_ ?_ <;> intro hc <;> simp at hc
  · repeat' (first | refine yo ?_ ?_ | refine yw ?_ ?_ | refine yk ?_ ?_ | exact trivial | with_reducible refine wA ?_ ?_ | refine ys ?_ ?_ | refine xs_done ?_ | refine yl ?_ ?_ | refine w8 ?_ | refine w9 ?_ | refine w1 ?_ | refine w2 ?_ | refine w3 ?_ | refine w4 ?_ | refine w5 ?_ | refine w6 ?_ | refine w7 ?_ | refine yo0 ?_ ?_ | refine yw0 ?_ ?_ | exact qq | fail)
    refine kretv rfl ⟨Nat.zero_lt_one, trivial, trivial⟩ rfl ?_
    rw [meanS, if_pos (by omega)]; rfl
  · repeat' (first | refine yo ?_ ?_ | refine yw ?_ ?_ | refine yk ?_ ?_ | exact trivial | with_reducible refine wA ?_ ?_ | refine ys ?_ ?_ | refine xs_done ?_ | refine yl ?_ ?_ | refine w8 ?_ | refine w9 ?_ | refine w1 ?_ | refine w2 ?_ | refine w3 ?_ | refine w4 ?_ | refine w5 ?_ | refine w6 ?_ | refine w7 ?_ | refine yo0 ?_ ?_ | refine yw0 ?_ ?_ | exact qq | fail)
    refine pcan (st' := ⟨[(0, .vsl k 2 (tF cPr f)), (2, .ptr 0 0 0), (15, .vsl k 2 (tF cPr f)), (16, vi k), (17, vi ((0 : Nat) : Int))], [rR 0 0]⟩) (can_rowsv [0] (k0_sel hk rfl) rfl (by (repeat (refine SelV.cons rfl rqq ?_)); exact SelV.nil) tmq) ?_
    refine ploop (fun q st => ∃ i : Nat, i ≤ k ∧ (∀ j, j < i → okR (f j).1 (f j).2 = true) ∧ q = k - i ∧ st = ⟨[(0, .vsl k 2 (tF cPr f)), (2, .ptr 0 0 0), (15, .vsl k 2 (tF cPr f)), (16, vi k), (17, vi i)], [rR 0 0]⟩) k ⟨0, by omega, fun j hj => by omega, by omega, rfl⟩ ?_
    rintro _ _ ⟨i, hi, hv, rfl, rfl⟩
    repeat' (first | refine yo ?_ ?_ | refine yw ?_ ?_ | refine yk ?_ ?_ | exact trivial | with_reducible refine wA ?_ ?_ | refine ys ?_ ?_ | refine xs_done ?_ | refine yl ?_ ?_ | refine w8 ?_ | refine w9 ?_ | refine w1 ?_ | refine w2 ?_ | refine w3 ?_ | refine w4 ?_ | refine w5 ?_ | refine w6 ?_ | refine w7 ?_ | refine yo0 ?_ ?_ | refine yw0 ?_ ?_ | exact qq | fail)
    refine pcond rfl ?_ ?_ <;> intro hl <;> simp at hl
    · have c1 := ratioValid_c (f i).1 (f i).2 (hb i hl).1 (hb i hl).2
      repeat' (first | refine yo ?_ ?_ | refine yw ?_ ?_ | refine yk ?_ ?_ | exact trivial | with_reducible refine wA ?_ ?_ | refine ys ?_ ?_ | refine xs_done ?_ | refine yl ?_ ?_ | refine z1 c1 ?_ | refine z2 c1 ?_ | refine z3 c1 ?_ | refine z4 c1 ?_ | refine z5 c1 ?_ | refine w8 ?_ | refine w9 ?_ | refine w1 ?_ | refine w2 ?_ | refine w3 ?_ | refine w4 ?_ | refine w5 ?_ | refine w6 ?_ | refine w7 ?_ | refine yo0 ?_ ?_ | refine yw0 ?_ ?_ | exact qq | fail)
      refine pcond rfl ?_ ?_ <;> intro h1
      · have h1 := nv_t h1
        repeat' (first | refine yo ?_ ?_ | refine yw ?_ ?_ | refine yk ?_ ?_ | exact trivial | with_reducible refine wA ?_ ?_ | refine ys ?_ ?_ | refine xs_done ?_ | refine yl ?_ ?_ | refine w8 ?_ | refine w9 ?_ | refine w1 ?_ | refine w2 ?_ | refine w3 ?_ | refine w4 ?_ | refine w5 ?_ | refine w6 ?_ | refine w7 ?_ | refine yo0 ?_ ?_ | refine yw0 ?_ ?_ | exact qq | fail)
        refine kretv rfl ⟨Nat.zero_lt_one, trivial, trivial⟩ rfl ?_
        rw [meanS, if_neg (by omega), if_pos (allK_no hl h1)]; rfl
      · have h1 := nv_f h1
        repeat' (first | refine yo ?_ ?_ | refine yw ?_ ?_ | refine yk ?_ ?_ | exact trivial | with_reducible refine wA ?_ ?_ | refine ys ?_ ?_ | refine xs_done ?_ | refine yl ?_ ?_ | refine w8 ?_ | refine w9 ?_ | refine w1 ?_ | refine w2 ?_ | refine w3 ?_ | refine w4 ?_ | refine w5 ?_ | refine w6 ?_ | refine w7 ?_ | refine yo0 ?_ ?_ | refine yw0 ?_ ?_ | exact qq | fail)
        rw [show IntKind.i64.wrap ((i : Int) + 1) = ((i + 1 : Nat) : Int) from w64 (by omega) (by omega)]
        exact kloop_next (st' := ⟨[(0, .vsl k 2 (tF cPr f)), (2, .ptr 0 0 0), (15, .vsl k 2 (tF cPr f)), (16, vi k), (17, vi ((i + 1 : Nat) : Int))], [rR 0 0]⟩) (k - (i + 1)) (can_rowsv [0] (k0_sel hk rfl) rfl (by (repeat (refine SelV.cons rfl rqq ?_)); exact SelV.nil) tmq) (by omega) ⟨i + 1, by omega, fun j hj => by
          by_cases e : j = i
          · subst e; exact h1
          · exact hv j (by omega), rfl, rfl⟩
    · obtain rfl : i = k := by omega
      have ha : allK i (fun i => okR (f i).1 (f i).2) = true := allK_iff.2 hv
      repeat' (first | refine yo ?_ ?_ | refine yw ?_ ?_ | refine yk ?_ ?_ | exact trivial | with_reducible refine wA ?_ ?_ | refine ys ?_ ?_ | refine xs_done ?_ | refine yl ?_ ?_ | refine w8 ?_ | refine w9 ?_ | refine w1 ?_ | refine w2 ?_ | refine w3 ?_ | refine w4 ?_ | refine w5 ?_ | refine w6 ?_ | refine w7 ?_ | refine yo0 ?_ ?_ | refine yw0 ?_ ?_ | exact qq | fail)
      refine pcond rfl ?_ ?_ <;> intro h0 <;> simp at h0
      · repeat' (first | refine yo ?_ ?_ | refine yw ?_ ?_ | refine yk ?_ ?_ | exact trivial | with_reducible refine wA ?_ ?_ | refine ys ?_ ?_ | refine xs_done ?_ | refine yl ?_ ?_ | refine w8 ?_ | refine w9 ?_ | refine w1 ?_ | refine w2 ?_ | refine w3 ?_ | refine w4 ?_ | refine w5 ?_ | refine w6 ?_ | refine w7 ?_ | refine yo0 ?_ ?_ | refine yw0 ?_ ?_ | exact qq | fail)
        refine kretv rfl ⟨Nat.zero_lt_one, trivial, trivial⟩ rfl ?_
        rw [meanS, if_neg (by omega), if_neg (by rw [ha]; decide), if_pos h0]; rfl
      · repeat' (first | refine yo ?_ ?_ | refine yw ?_ ?_ | refine yk ?_ ?_ | exact trivial | with_reducible refine wA ?_ ?_ | refine ys ?_ ?_ | refine xs_done ?_ | refine yl ?_ ?_ | refine w8 ?_ | refine w9 ?_ | refine w1 ?_ | refine w2 ?_ | refine w3 ?_ | refine w4 ?_ | refine w5 ?_ | refine w6 ?_ | refine w7 ?_ | refine yo0 ?_ ?_ | refine yw0 ?_ ?_ | exact qq | fail)
        · exact ⟨trivial, trivial, by omega, by omega, by omega⟩
        have hM' : ((i : Int) - 1).toNat = i - 1 := by omega
        refine pcan (st' := ⟨[(0, .vsl i 2 (tF cPr f)), (2, .ptr 0 0 0), (6, .ptr 1 0 0), (34, .vsl ((i : Int) - 1).toNat 2 (fun a => tF cPr f (1 + a))), (35, vi (((i : Int) - 1).toNat : Nat)), (36, vi ((0 : Nat) : Int))], [rR 0 0, rR (f 0).1 (f 0).2]⟩) (can_rowsv [0,1] (k0_sel hk rfl) rfl (by (repeat (refine SelV.cons rfl rqq ?_)); exact SelV.nil) tmq) ?_
        refine ploop (fun q st => ∃ n : Nat, n ≤ ((i : Int) - 1).toNat ∧ (sumR f n).2 = 0 ∧ q = ((i : Int) - 1).toNat - n ∧ st = ⟨[(0, .vsl i 2 (tF cPr f)), (2, .ptr 0 0 0), (6, .ptr 1 0 0), (34, .vsl ((i : Int) - 1).toNat 2 (fun a => tF cPr f (1 + a))), (35, vi (((i : Int) - 1).toNat : Nat)), (36, vi n)], [rR 0 0, rR (sumR f n).1.1 (sumR f n).1.2]⟩) ((i : Int) - 1).toNat ⟨0, by omega, rfl, by omega, rfl⟩ ?_
        rintro _ _ ⟨n, hn, hs, rfl, rfl⟩
        have sb := sumR_bd f n fun j hj => hv j (by omega)
        repeat' (first | refine yo ?_ ?_ | refine yw ?_ ?_ | refine yk ?_ ?_ | exact trivial | with_reducible refine wA ?_ ?_ | refine ys ?_ ?_ | refine xs_done ?_ | refine yl ?_ ?_ | refine w8 ?_ | refine w9 ?_ | refine w1 ?_ | refine w2 ?_ | refine w3 ?_ | refine w4 ?_ | refine w5 ?_ | refine w6 ?_ | refine w7 ?_ | refine yo0 ?_ ?_ | refine yw0 ?_ ?_ | exact qq | fail)
        refine pcond rfl ?_ ?_ <;> intro hl2 <;> simp at hl2
        · have c1 := ratioAdd_c (sumR f n).1.1 (sumR f n).1.2 (f (1 + n)).1 (f (1 + n)).2 (by omega) (by omega) (hb (1 + n) (by omega)).1 (hb (1 + n) (by omega)).2
          have e1 : sumR f (n + 1) = addR (sumR f n).1.1 (sumR f n).1.2 (f (1 + n)).1 (f (1 + n)).2 := by rw [sumR, if_pos hs, Nat.add_comm n 1]
          rw [← e1] at c1
          repeat' (first | refine yo ?_ ?_ | refine yw ?_ ?_ | refine yk ?_ ?_ | exact trivial | with_reducible refine wA ?_ ?_ | refine ys ?_ ?_ | refine xs_done ?_ | refine yl ?_ ?_ | refine z1 c1 ?_ | refine z2 c1 ?_ | refine z3 c1 ?_ | refine z4 c1 ?_ | refine z5 c1 ?_ | refine w8 ?_ | refine w9 ?_ | refine w1 ?_ | refine w2 ?_ | refine w3 ?_ | refine w4 ?_ | refine w5 ?_ | refine w6 ?_ | refine w7 ?_ | refine yo0 ?_ ?_ | refine yw0 ?_ ?_ | exact qq | fail)
          refine pcond rfl ?_ ?_ <;> intro h2 <;> simp at h2
          · repeat' (first | refine yo ?_ ?_ | refine yw ?_ ?_ | refine yk ?_ ?_ | exact trivial | with_reducible refine wA ?_ ?_ | refine ys ?_ ?_ | refine xs_done ?_ | refine yl ?_ ?_ | refine w8 ?_ | refine w9 ?_ | refine w1 ?_ | refine w2 ?_ | refine w3 ?_ | refine w4 ?_ | refine w5 ?_ | refine w6 ?_ | refine w7 ?_ | refine yo0 ?_ ?_ | refine yw0 ?_ ?_ | exact qq | fail)
            refine kretv rfl ⟨Nat.zero_lt_one, trivial, trivial⟩ rfl ?_
            rw [meanS, if_neg (by omega), if_neg (by rw [ha]; decide), if_neg h0, sumR_stop f (m := i - 1) h2 (by omega), if_neg h2]; rfl
          · repeat' (first | refine yo ?_ ?_ | refine yw ?_ ?_ | refine yk ?_ ?_ | exact trivial | with_reducible refine wA ?_ ?_ | refine ys ?_ ?_ | refine xs_done ?_ | refine yl ?_ ?_ | refine w8 ?_ | refine w9 ?_ | refine w1 ?_ | refine w2 ?_ | refine w3 ?_ | refine w4 ?_ | refine w5 ?_ | refine w6 ?_ | refine w7 ?_ | refine yo0 ?_ ?_ | refine yw0 ?_ ?_ | exact qq | fail)
            rw [show IntKind.i64.wrap ((n : Int) + 1) = ((n + 1 : Nat) : Int) from w64 (by omega) (by omega)]
            exact kloop_next (st' := ⟨[(0, .vsl i 2 (tF cPr f)), (2, .ptr 0 0 0), (6, .ptr 1 0 0), (34, .vsl ((i : Int) - 1).toNat 2 (fun a => tF cPr f (1 + a))), (35, vi (((i : Int) - 1).toNat : Nat)), (36, vi ((n + 1 : Nat) : Int))], [rR 0 0, rR (sumR f (n + 1)).1.1 (sumR f (n + 1)).1.2]⟩) (((i : Int) - 1).toNat - (n + 1)) (can_rowsv [0,1] (k0_sel hk rfl) rfl (by (repeat (refine SelV.cons rfl rqq ?_)); exact SelV.nil) tmq) (by omega) ⟨n + 1, by omega, h2, rfl, rfl⟩
        · have hn2 : n = ((i : Int) - 1).toNat := by omega
          have c1 := integer_c i
          have c2 := ratioDiv_f (sumR f n).1.1 (sumR f n).1.2 i 1 (by omega) (by omega) (by omega) (by omega)
          repeat' (first | refine yo ?_ ?_ | refine yw ?_ ?_ | refine yk ?_ ?_ | exact trivial | with_reducible refine wA ?_ ?_ | refine ys ?_ ?_ | refine xs_done ?_ | refine yl ?_ ?_ | refine xs_start (id := 20) true [.take 0, .take 1, .take 2, .one 3, .one 4, .take 5, .take 6, .one 7, .take 8] 0 rfl rfl (by kernel_rfl) ?_ | refine z1 c1 ?_ | refine z2 c1 ?_ | refine z3 c1 ?_ | refine z4 c1 ?_ | refine z5 c1 ?_ | refine z1 c2 ?_ | refine z2 c2 ?_ | refine z3 c2 ?_ | refine z4 c2 ?_ | refine z5 c2 ?_ | refine w8 ?_ | refine w9 ?_ | refine w1 ?_ | refine w2 ?_ | refine w3 ?_ | refine w4 ?_ | refine w5 ?_ | refine w6 ?_ | refine w7 ?_ | refine yo0 ?_ ?_ | refine yw0 ?_ ?_ | exact qq | fail)
          refine kretv rfl ⟨Nat.zero_lt_one, trivial, trivial⟩ rfl ?_
          rw [meanS, if_neg (by omega), if_neg (by rw [ha]; decide), if_neg h0, ← hM', ← hn2, if_pos hs]; rfl


set_option maxHeartbeats 4000000 in
theorem mean22_c (k : Nat) (f : Nat → Int × Int) (hk0 : k ≤ 1000000000) (hb : ∀ i, i < k → -9223372036854775808 ≤ (f i).1 ∧ (f i).1 ≤ 9223372036854775807) : PureC G.P 10 [.vsl k 2 (tF cPr f)] (fun r => r = vRE (meanS k f)) := by
  refine pure_of (G := G.toPg) (fn := Tryd.f10) Tryd.func10 rfl rfl rfl ?_; intro Γ hk
  repeat' (first | refine yo ?_ ?_ | refine yw ?_ ?_ | refine yk ?_ ?_ | exact trivial | with_reducible refine wA ?_ ?_ | refine ys ?_ ?_ | refine xs_done ?_ | refine yl ?_ ?_ | refine w8 ?_ | refine w9 ?_ | refine w1 ?_ | refine w2 ?_ | refine w3 ?_ | refine w4 ?_ | refine w5 ?_ | refine w6 ?_ | refine w7 ?_ | refine yo0 ?_ ?_ | refine yw0 ?_ ?_ | exact qq | fail)
  refine pcond rfl ?_ ?_ <;> intro hc <;> simp at hc
  · repeat' (first | refine yo ?_ ?_ | refine yw ?_ ?_ | refine yk ?_ ?_ | exact trivial | with_reducible refine wA ?_ ?_ | refine ys ?_ ?_ | refine xs_done ?_ | refine yl ?_ ?_ | refine w8 ?_ | refine w9 ?_ | refine w1 ?_ | refine w2 ?_ | refine w3 ?_ | refine w4 ?_ | refine w5 ?_ | refine w6 ?_ | refine w7 ?_ | refine yo0 ?_ ?_ | refine yw0 ?_ ?_ | exact qq | fail)
    refine kretv rfl ⟨Nat.zero_lt_one, trivial, trivial⟩ rfl ?_
    rw [meanS, if_pos (by omega)]; rfl
  · repeat' (first | refine yo ?_ ?_ | refine yw ?_ ?_ | refine yk ?_ ?_ | exact trivial | with_reducible refine wA ?_ ?_ | refine ys ?_ ?_ | refine xs_done ?_ | refine yl ?_ ?_ | refine w8 ?_ | refine w9 ?_ | refine w1 ?_ | refine w2 ?_ | refine w3 ?_ | refine w4 ?_ | refine w5 ?_ | refine w6 ?_ | refine w7 ?_ | refine yo0 ?_ ?_ | refine yw0 ?_ ?_ | exact qq | fail)
    refine pcan (st' := ⟨[(0, .vsl k 2 (tF cPr f)), (2, .ptr 0 0 0), (4, vi ((0 : Nat) : Int))], [rR 0 0]⟩) (can_rowsv [0] (k0_sel hk rfl) rfl (by (repeat (refine SelV.cons rfl rqq ?_)); exact SelV.nil) tmq) ?_
    refine ploop (fun q st => ∃ i : Nat, i ≤ k ∧ (∀ j, j < i → okR (f j).1 (f j).2 = true) ∧ q = k - i ∧ st = ⟨[(0, .vsl k 2 (tF cPr f)), (2, .ptr 0 0 0), (4, vi i)], [rR 0 0]⟩) k ⟨0, by omega, fun j hj => by omega, by omega, rfl⟩ ?_
    rintro _ _ ⟨i, hi, hv, rfl, rfl⟩
    repeat' (first | refine yo ?_ ?_ | refine yw ?_ ?_ | refine yk ?_ ?_ | exact trivial | with_reducible refine wA ?_ ?_ | refine ys ?_ ?_ | refine xs_done ?_ | refine yl ?_ ?_ | refine w8 ?_ | refine w9 ?_ | refine w1 ?_ | refine w2 ?_ | refine w3 ?_ | refine w4 ?_ | refine w5 ?_ | refine w6 ?_ | refine w7 ?_ | refine yo0 ?_ ?_ | refine yw0 ?_ ?_ | exact qq | fail)
    refine pcond rfl ?_ ?_ <;> intro hl <;> simp at hl
    · have c1 := ref1Valid_c (f i).1 (f i).2 (hb i hl).1 (hb i hl).2
      repeat' (first | refine yo ?_ ?_ | refine yw ?_ ?_ | refine yk ?_ ?_ | exact trivial | with_reducible refine wA ?_ ?_ | refine ys ?_ ?_ | refine xs_done ?_ | refine yl ?_ ?_ | refine z1 c1 ?_ | refine z2 c1 ?_ | refine z3 c1 ?_ | refine z4 c1 ?_ | refine z5 c1 ?_ | refine w8 ?_ | refine w9 ?_ | refine w1 ?_ | refine w2 ?_ | refine w3 ?_ | refine w4 ?_ | refine w5 ?_ | refine w6 ?_ | refine w7 ?_ | refine yo0 ?_ ?_ | refine yw0 ?_ ?_ | exact qq | fail)
      refine pcond rfl ?_ ?_ <;> intro h1
      · have h1 := nv_t h1
        repeat' (first | refine yo ?_ ?_ | refine yw ?_ ?_ | refine yk ?_ ?_ | exact trivial | with_reducible refine wA ?_ ?_ | refine ys ?_ ?_ | refine xs_done ?_ | refine yl ?_ ?_ | refine w8 ?_ | refine w9 ?_ | refine w1 ?_ | refine w2 ?_ | refine w3 ?_ | refine w4 ?_ | refine w5 ?_ | refine w6 ?_ | refine w7 ?_ | refine yo0 ?_ ?_ | refine yw0 ?_ ?_ | exact qq | fail)
        refine kretv rfl ⟨Nat.zero_lt_one, trivial, trivial⟩ rfl ?_
        rw [meanS, if_neg (by omega), if_pos (allK_no hl h1)]; rfl
      · have h1 := nv_f h1
        repeat' (first | refine yo ?_ ?_ | refine yw ?_ ?_ | refine yk ?_ ?_ | exact trivial | with_reducible refine wA ?_ ?_ | refine ys ?_ ?_ | refine xs_done ?_ | refine yl ?_ ?_ | refine w8 ?_ | refine w9 ?_ | refine w1 ?_ | refine w2 ?_ | refine w3 ?_ | refine w4 ?_ | refine w5 ?_ | refine w6 ?_ | refine w7 ?_ | refine yo0 ?_ ?_ | refine yw0 ?_ ?_ | exact qq | fail)
        rw [show IntKind.i64.wrap ((i : Int) + 1) = ((i + 1 : Nat) : Int) from w64 (by omega) (by omega)]
        exact kloop_next (st' := ⟨[(0, .vsl k 2 (tF cPr f)), (2, .ptr 0 0 0), (4, vi ((i + 1 : Nat) : Int))], [rR 0 0]⟩) (k - (i + 1)) (can_rowsv [0] (k0_sel hk rfl) rfl (by (repeat (refine SelV.cons rfl rqq ?_)); exact SelV.nil) tmq) (by omega) ⟨i + 1, by omega, fun j hj => by
          by_cases e : j = i
          · subst e; exact h1
          · exact hv j (by omega), rfl, rfl⟩
    · obtain rfl : i = k := by omega
      have ha : allK i (fun i => okR (f i).1 (f i).2) = true := allK_iff.2 hv
      repeat' (first | refine yo ?_ ?_ | refine yw ?_ ?_ | refine yk ?_ ?_ | exact trivial | with_reducible refine wA ?_ ?_ | refine ys ?_ ?_ | refine xs_done ?_ | refine yl ?_ ?_ | refine w8 ?_ | refine w9 ?_ | refine w1 ?_ | refine w2 ?_ | refine w3 ?_ | refine w4 ?_ | refine w5 ?_ | refine w6 ?_ | refine w7 ?_ | refine yo0 ?_ ?_ | refine yw0 ?_ ?_ | exact qq | fail)
      refine pcond rfl ?_ ?_ <;> intro h0 <;> simp at h0
      · repeat' (first | refine yo ?_ ?_ | refine yw ?_ ?_ | refine yk ?_ ?_ | exact trivial | with_reducible refine wA ?_ ?_ | refine ys ?_ ?_ | refine xs_done ?_ | refine yl ?_ ?_ | refine w8 ?_ | refine w9 ?_ | refine w1 ?_ | refine w2 ?_ | refine w3 ?_ | refine w4 ?_ | refine w5 ?_ | refine w6 ?_ | refine w7 ?_ | refine yo0 ?_ ?_ | refine yw0 ?_ ?_ | exact qq | fail)
        refine kretv rfl ⟨Nat.zero_lt_one, trivial, trivial⟩ rfl ?_
        rw [meanS, if_neg (by omega), if_neg (by rw [ha]; decide), if_pos h0]; rfl
      · repeat' (first | refine yo ?_ ?_ | refine yw ?_ ?_ | refine yk ?_ ?_ | exact trivial | with_reducible refine wA ?_ ?_ | refine ys ?_ ?_ | refine xs_done ?_ | refine yl ?_ ?_ | refine w8 ?_ | refine w9 ?_ | refine w1 ?_ | refine w2 ?_ | refine w3 ?_ | refine w4 ?_ | refine w5 ?_ | refine w6 ?_ | refine w7 ?_ | refine yo0 ?_ ?_ | refine yw0 ?_ ?_ | exact qq | fail)
        refine pcan (st' := ⟨[(0, .vsl i 2 (tF cPr f)), (2, .ptr 0 0 0), (5, .ptr 1 0 0), (6, vi ((0 + 1 : Nat) : Int))], [rR 0 0, rR (f 0).1 (f 0).2]⟩) (can_rowsv [0,1] (k0_sel hk rfl) rfl (by (repeat (refine SelV.cons rfl rqq ?_)); exact SelV.nil) tmq) ?_
        refine ploop (fun q st => ∃ n : Nat, n ≤ i - 1 ∧ (sumR f n).2 = 0 ∧ q = i - 1 - n ∧ st = ⟨[(0, .vsl i 2 (tF cPr f)), (2, .ptr 0 0 0), (5, .ptr 1 0 0), (6, vi ((n + 1 : Nat) : Int))], [rR 0 0, rR (sumR f n).1.1 (sumR f n).1.2]⟩) (i - 1) ⟨0, by omega, rfl, by omega, rfl⟩ ?_
        rintro _ _ ⟨n, hn, hs, rfl, rfl⟩
        have sb := sumR_bd f n fun j hj => hv j (by omega)
        repeat' (first | refine yo ?_ ?_ | refine yw ?_ ?_ | refine yk ?_ ?_ | exact trivial | with_reducible refine wA ?_ ?_ | refine ys ?_ ?_ | refine xs_done ?_ | refine yl ?_ ?_ | refine w8 ?_ | refine w9 ?_ | refine w1 ?_ | refine w2 ?_ | refine w3 ?_ | refine w4 ?_ | refine w5 ?_ | refine w6 ?_ | refine w7 ?_ | refine yo0 ?_ ?_ | refine yw0 ?_ ?_ | exact qq | fail)
        refine pcond rfl ?_ ?_ <;> intro hl2 <;> simp at hl2
        · have c1 := ref1Add_c (sumR f n).1.1 (sumR f n).1.2 (f (n + 1)).1 (f (n + 1)).2 (by omega) (by omega) (hb (n + 1) (by omega)).1 (hb (n + 1) (by omega)).2
          have e1 : sumR f (n + 1) = addR (sumR f n).1.1 (sumR f n).1.2 (f (n + 1)).1 (f (n + 1)).2 := by rw [sumR, if_pos hs]
          rw [← e1] at c1
          repeat' (first | refine yo ?_ ?_ | refine yw ?_ ?_ | refine yk ?_ ?_ | exact trivial | with_reducible refine wA ?_ ?_ | refine ys ?_ ?_ | refine xs_done ?_ | refine yl ?_ ?_ | refine xs_start (id := 14) true [.take 0, .take 1, .take 2, .take 3, .take 4, .take 5, .take 6, .take 7, .take 8, .one 9, .one 10, .take 11] 0 rfl rfl (by kernel_rfl) ?_ | refine z1 c1 ?_ | refine z2 c1 ?_ | refine z3 c1 ?_ | refine z4 c1 ?_ | refine z5 c1 ?_ | refine w8 ?_ | refine w9 ?_ | refine w1 ?_ | refine w2 ?_ | refine w3 ?_ | refine w4 ?_ | refine w5 ?_ | refine w6 ?_ | refine w7 ?_ | refine yo0 ?_ ?_ | refine yw0 ?_ ?_ | exact qq | fail)
          refine pcond rfl ?_ ?_ <;> intro h2 <;> simp at h2
          · repeat' (first | refine yo ?_ ?_ | refine yw ?_ ?_ | refine yk ?_ ?_ | exact trivial | with_reducible refine wA ?_ ?_ | refine ys ?_ ?_ | refine xs_done ?_ | refine yl ?_ ?_ | refine w8 ?_ | refine w9 ?_ | refine w1 ?_ | refine w2 ?_ | refine w3 ?_ | refine w4 ?_ | refine w5 ?_ | refine w6 ?_ | refine w7 ?_ | refine yo0 ?_ ?_ | refine yw0 ?_ ?_ | exact qq | fail)
            refine kretv rfl ⟨Nat.zero_lt_one, trivial, trivial⟩ rfl ?_
            rw [meanS, if_neg (by omega), if_neg (by rw [ha]; decide), if_neg h0, sumR_stop f (m := i - 1) h2 (by omega), if_neg h2]; rfl
          · repeat' (first | refine yo ?_ ?_ | refine yw ?_ ?_ | refine yk ?_ ?_ | exact trivial | with_reducible refine wA ?_ ?_ | refine ys ?_ ?_ | refine xs_done ?_ | refine yl ?_ ?_ | refine w8 ?_ | refine w9 ?_ | refine w1 ?_ | refine w2 ?_ | refine w3 ?_ | refine w4 ?_ | refine w5 ?_ | refine w6 ?_ | refine w7 ?_ | refine yo0 ?_ ?_ | refine yw0 ?_ ?_ | exact qq | fail)
            rw [show IntKind.i64.wrap (((n + 1 : Nat) : Int) + 1) = ((n + 1 + 1 : Nat) : Int) from w64 (by omega) (by omega)]
            exact kloop_next (st' := ⟨[(0, .vsl i 2 (tF cPr f)), (2, .ptr 0 0 0), (5, .ptr 1 0 0), (6, vi ((n + 1 + 1 : Nat) : Int))], [rR 0 0, rR (sumR f (n + 1)).1.1 (sumR f (n + 1)).1.2]⟩) (i - 1 - (n + 1)) (can_rowsv [0,1] (k0_sel hk rfl) rfl (by (repeat (refine SelV.cons rfl rqq ?_)); exact SelV.nil) tmq) (by omega) ⟨n + 1, by omega, h2, rfl, rfl⟩
        · have hn2 : n = i - 1 := by omega
          have c2 := ref1Div_c (sumR f n).1.1 (sumR f n).1.2 i 1 (by omega) (by omega) (by omega) (by omega)
          repeat' (first | refine yo ?_ ?_ | refine yw ?_ ?_ | refine yk ?_ ?_ | exact trivial | with_reducible refine wA ?_ ?_ | refine ys ?_ ?_ | refine xs_done ?_ | refine yl ?_ ?_ | refine xs_start (id := 14) true [.take 0, .take 1, .take 2, .take 3, .take 4, .take 5, .take 6, .take 7, .take 8, .one 9, .one 10, .take 11] 0 rfl rfl (by kernel_rfl) ?_ | refine z1 c2 ?_ | refine z2 c2 ?_ | refine z3 c2 ?_ | refine z4 c2 ?_ | refine z5 c2 ?_ | refine w8 ?_ | refine w9 ?_ | refine w1 ?_ | refine w2 ?_ | refine w3 ?_ | refine w4 ?_ | refine w5 ?_ | refine w6 ?_ | refine w7 ?_ | refine yo0 ?_ ?_ | refine yw0 ?_ ?_ | exact qq | fail)
          refine kretv rfl ⟨Nat.zero_lt_one, trivial, trivial⟩ rfl ?_
          rw [meanS, if_neg (by omega), if_neg (by rw [ha]; decide), if_neg h0, ← hn2, if_pos hs]; rfl
end Go.Proofs.YtcghpepighboaaaDoor
