/- Elements: Put. -/
import Derived.Test.YtipdkompinnghaaGarR
set_option linter.unusedSimpArgs false
set_option linter.unusedVariables false
set_option maxRecDepth 100000
namespace Go.Proofs.Ytipdkompinnghaa
theorem bl_irr : ∀ a : List UInt8, Op.bytesLess a a = false
  | [] => rfl
  | x :: a => by
    unfold Op.bytesLess
    have : ¬ x < x := UInt8.lt_irrefl x
    simp [this, bl_irr a]
theorem bl_trans : ∀ {a b c : List UInt8}, Op.bytesLess a b = true → Op.bytesLess b c = true → Op.bytesLess a c = true
  | _, _, [], _, h => by simp [Op.bytesLess] at h
  | [], _, z :: c, _, _ => rfl
  | x :: a, [], z :: c, h, _ => by simp [Op.bytesLess] at h
  | x :: a, y :: b, z :: c, h1, h2 => by
    simp only [Op.bytesLess, Bool.or_eq_true, decide_eq_true_eq, Bool.and_eq_true, beq_iff_eq] at h1 h2 ⊢
    rcases h1 with h1 | ⟨rfl, h1⟩
    · rcases h2 with h2 | ⟨rfl, h2⟩
      · exact .inl (UInt8.lt_trans h1 h2)
      · exact .inl h1
    · rcases h2 with h2 | ⟨rfl, h2⟩
      · exact .inl h2
      · exact .inr ⟨rfl, bl_trans h1 h2⟩
theorem lt_asym {a b : ByteArray} (h : ltS a b = true) : ltS b a = false := by
  cases h2 : ltS b a with
  | false => rfl
  | true => have := bl_trans h h2; rw [bl_irr] at this; cases this
theorem lt_ne {a b : ByteArray} (h : ltS a b = true) : (a.toList == b.toList) = false ∧ (b.toList == a.toList) = false := by
  have hne : a.toList ≠ b.toList := fun e => by unfold ltS at h; rw [e, bl_irr] at h; cases h
  exact ⟨by simpa using hne, by simpa using fun e => hne e.symm⟩
def AscO (n : Nat) (g : Nat → Ord) : Prop := ∀ i j, i < j → j < n → ltS (g i).id (g j).id = true
theorem asc_of {n : Nat} {g : Nat → Ord} (h : ordsB n g = true) : AscO n g := by
  obtain ⟨_, h2⟩ := ordsB_iff.1 h
  intro i j
  induction j with
  | zero => intro h; omega
  | succ j ih =>
    intro hij hj
    have h3 := h2 (j + 1) hj
    simp only [ordB, Bool.and_eq_true, Bool.or_eq_true, decide_eq_true_eq] at h3
    have h4 : ltS (g j).id (g (j + 1)).id = true := by
      rcases h3.1.1.1.1.2 with h | h
      · omega
      · exact h
    by_cases e : i = j
    · subst e; exact h4
    · exact bl_trans (ih (by omega) (by omega)) h4
def rE (e : Elt) : Row := ⟨.own, true, 1, 2, fun _ => nthP (cE e)⟩
theorem rE_cl (x : Elt) : rowCl (rE x) := fun _ _ j _ => clL_nth _ j ⟨trivial, trivial, trivial⟩
/-- e is put into l at k (the first that is not less), where no code is e's -/
def putS (l : List Elt) (e : Elt) (k : Nat) : List Elt := l.take k ++ e :: l.drop k
theorem put_len {l : List Elt} {e : Elt} {k : Nat} (hk : k ≤ l.length) : (putS l e k).length = l.length + 1 := by
  unfold putS; simp; omega
theorem put_get {l : List Elt} {e : Elt} {k : Nat} (hk : k ≤ l.length) {a : Nat} (ha : a < l.length + 1) : lF dE (putS l e k) a = if a < k then lF dE l a else if a = k then e else lF dE l (a - 1) := by
  have hl : (l.take k).length = k := by simp; omega
  rw [lF_get (by rw [put_len hk]; exact ha)]
  unfold putS
  by_cases h1 : a < k
  · rw [if_pos h1, List.getElem_append_left (by omega), List.getElem_take, lF_get (by omega)]
  · rw [if_neg h1]
    by_cases h2 : a = k
    · subst h2
      rw [if_pos rfl, List.getElem_append_right (by omega)]
      simp [hl]
    · rw [if_neg h2, List.getElem_append_right (by omega), lF_get (by omega)]
      have : a - (l.take k).length = (a - 1 - k) + 1 := by omega
      simp only [this, List.getElem_cons_succ, List.getElem_drop]
      congr 1; omega
theorem put_cells {l : List Elt} {e : Elt} {k N : Nat} {F : Nat → Nat → PV} (hk : k ≤ l.length) (hN : N = l.length + 1) (hF : F = appF (k + 1) (fun x => appF k (fun x => tF cE (lF dE (l.take k)) (0 + x)) (fun x b => nthP (cE e) ((0 + x) * 2 + b)) (0 + x)) (fun a => tF cE (lF dE l) (k + a))) : ∀ a, a < N → ∀ b, b < 2 → F (0 + a) b = tF cE (lF dE (putS l e k)) a b ∧ Cl (tF cE (lF dE (putS l e k)) a b) := by
  intro a ha b hb
  refine ⟨?_, tF_cl cE_cl _ _ _⟩
  have hl : (l.take k).length = k := by simp; omega
  unfold tF
  rw [put_get hk (by omega), hF, Nat.zero_add]
  by_cases h1 : a < k
  · rw [if_pos h1, appF_lt _ _ (by omega), Nat.zero_add, appF_lt _ _ h1]
    simp only [tF, Nat.zero_add]
    rw [lF_get (by omega), List.getElem_take, lF_get (by omega)]
  · rw [if_neg h1]
    by_cases h2 : a = k
    · subst h2
      rw [if_pos rfl, appF_lt _ _ (by omega), Nat.zero_add, appF_ge _ _ (by omega)]
      simp
    · rw [if_neg h2, appF_ge _ _ (by omega)]
      simp only [tF]
      rw [show k + (a - (k + 1)) = a - 1 by omega]
theorem vsl_eq {n m sz : Nat} {f : Nat → Nat → PV} (h : n = m) : PV.vsl n sz f = PV.vsl m sz f := by rw [h]
set_option maxHeartbeats 2000000 in
theorem put_c (l : List Elt) (e : Elt) (k : Nat) (hl : l.length ≤ 1000) (hkl : k ≤ l.length) (hlt : ∀ i, i < k → ltS (lF dE l i).cd e.cd = true) (hge : k < l.length → ltS (lF dE l k).cd e.cd = false ∧ ((lF dE l k).cd.toList == e.cd.toList) = false) :
    PureC G.P 68 [vEs l, .agg 2 (nthP (cE e))] (fun r => r = vEs (putS l e k)) := by
  have tk : ∀ i, i < l.length → l.take (i + 1) = l.take i ++ [lF dE l i] := fun i hi => by rw [List.take_add_one, List.getElem?_eq_getElem hi, lF_get hi]; rfl
  refine pure_of (G := G.toPg) (fn := Try.f68) Try.func68 rfl rfl rfl ?_; intro Γ hk
  repeat' (first | refine xo 4000 rfl ?_ ?_ | refine xw 4000 rfl ?_ ?_ | refine xk 4000 rfl ?_ ?_ | exact trivial | ((with_reducible (show AllP (_ :: _))); refine And.intro ?_ ?_) | refine xs rfl ?_ ?_ | refine xs_done ?_ | refine pcond_t rfl ?_ | refine pcond_f rfl ?_ | refine kround_exit ?_ | refine kround_ret ?_ | refine kround_next ?_ | refine kloop_ret ?_ | refine kloop_exit ?_ | refine kcut_ret ?_ | refine kcut_exit ?_ | refine xo0 4000 rfl ?_ ?_ | refine xw0 4000 rfl ?_ ?_ | exact qq | fail)
  refine pcan (can_virt (vRow cE 2 0 (lF dE (l.take 0))) rfl) ?_
  refine pcan (st' := ⟨[(0, vEs l), (3, .ptr 0 0 0), (5, slP 0 1), (6, vi 0)], [rE e, vRow cE 2 0 (lF dE (l.take 0))]⟩) (can_rowsv [0,1] (k0_sel hk rfl) rfl (by (repeat (refine SelV.cons rfl rqq ?_)); exact SelV.nil) tmq) ?_
  refine ploop (fun q st => ∃ i : Nat, i ≤ k ∧ (l.take i).length = i ∧ q = k - i ∧ st = ⟨[(0, vEs l), (3, .ptr 0 0 0), (5, slP i 1), (6, vi i)], [rE e, vRow cE 2 i (lF dE (l.take i))]⟩) k ⟨0, by omega, rfl, rfl, rfl⟩ ?_
  rintro _ _ ⟨i, hi, hli, rfl, rfl⟩
  repeat' (first | refine xo 4000 rfl ?_ ?_ | refine xw 4000 rfl ?_ ?_ | refine xk 4000 rfl ?_ ?_ | exact trivial | ((with_reducible (show AllP (_ :: _))); refine And.intro ?_ ?_) | refine xs rfl ?_ ?_ | refine xs_done ?_ | refine xs_start (id := 3) true [.take 0, .take 1, .take 2, .take 3, .take 4, .take 5, .take 6, .take 7, .take 8, .take 9, .take 10, .take 11, .take 12, .take 13] 0 rfl rfl (by kernel_rfl) ?_ | refine xs_start (id := 6) true [.take 0, .take 1, .take 2, .take 3, .take 4, .take 5, .take 6, .take 7, .take 8, .take 9, .take 10, .take 11, .take 12, .take 13] 0 rfl rfl (by kernel_rfl) ?_ | refine xs_start (id := 7) true [.take 0, .take 2, .take 3, .take 4, .take 5, .take 6, .one 1, .take 7, .take 8, .one 9] 0 rfl rfl (by kernel_rfl) ?_ | refine pcond_t rfl ?_ | refine pcond_f rfl ?_ | refine kround_exit ?_ | refine kround_ret ?_ | refine kround_next ?_ | refine kloop_ret ?_ | refine kloop_exit ?_ | refine kcut_ret ?_ | refine kcut_exit ?_ | refine xo0 4000 rfl ?_ ?_ | refine xw0 4000 rfl ?_ ?_ | exact qq | fail)
  refine pcond (b := decide (i < k)) ?_ ?_ ?_
  · refine eqB ?_
    by_cases h : i < k
    · have h1 : (i : Int) < (l.length : Int) := by omega
      rw [decide_eq_true h1, decide_eq_true h]
      exact hlt i h
    · have hik : i = k := by omega
      subst hik
      by_cases h2 : i < l.length
      · rw [decide_eq_false h, decide_eq_true (show (i : Int) < (l.length : Int) by omega)]
        exact (hge h2).1
      · rw [decide_eq_false h, decide_eq_false (show ¬ (i : Int) < (l.length : Int) by omega)]
        rfl
  · intro h
    have h : i < k := by simpa using h
    have hw : IntKind.i64.wrap ((i : Int) + 1) = ((i + 1 : Nat) : Int) := w64 (by omega) (by omega)
    have e1 := tk i (by omega)
    have hlen' : (l.take i ++ [lF dE l i]).length = i + 1 := by rw [List.length_append, hli]; rfl
    rcases i with _ | i
    · repeat' (first | refine xo 4000 rfl ?_ ?_ | refine xw 4000 rfl ?_ ?_ | refine xk 4000 rfl ?_ ?_ | exact trivial | ((with_reducible (show AllP (_ :: _))); refine And.intro ?_ ?_) | refine xs rfl ?_ ?_ | refine xs_done ?_ | refine pcond_t rfl ?_ | refine pcond_f rfl ?_ | refine kround_exit ?_ | refine kround_ret ?_ | refine kround_next ?_ | refine kloop_ret ?_ | refine kloop_exit ?_ | refine kcut_ret ?_ | refine kcut_exit ?_ | refine xo0 4000 rfl ?_ ?_ | refine xw0 4000 rfl ?_ ?_ | exact qq | fail)
      rw [hw]
      exact kloop_next (st' := ⟨[(0, vEs l), (3, .ptr 0 0 0), (5, slP (0 + 1) 1), (6, vi ((0 + 1 : Nat) : Int))], [rE e, vRow cE 2 (0 + 1) (lF dE (l.take 0 ++ [lF dE l 0]))]⟩) (k - (0 + 1)) (can_rowsv [0,3] (k0_sel hk rfl) rfl (by (repeat (refine SelV.cons rfl rqq ?_)); exact SelV.nil) tmq) (by omega) ⟨0 + 1, by omega, by rw [e1]; exact hlen', rfl, by rw [e1]⟩
    · repeat' (first | refine xo 4000 rfl ?_ ?_ | refine xw 4000 rfl ?_ ?_ | refine xk 4000 rfl ?_ ?_ | exact trivial | ((with_reducible (show AllP (_ :: _))); refine And.intro ?_ ?_) | refine xs rfl ?_ ?_ | refine xs_done ?_ | refine pcond_t rfl ?_ | refine pcond_f rfl ?_ | refine kround_exit ?_ | refine kround_ret ?_ | refine kround_next ?_ | refine kloop_ret ?_ | refine kloop_exit ?_ | refine kcut_ret ?_ | refine kcut_exit ?_ | refine xo0 4000 rfl ?_ ?_ | refine xw0 4000 rfl ?_ ?_ | exact qq | fail)
      rw [hw]
      exact kloop_next (st' := ⟨[(0, vEs l), (3, .ptr 0 0 0), (5, slP (i + 1 + 1) 1), (6, vi ((i + 1 + 1 : Nat) : Int))], [rE e, vRow cE 2 (i + 1 + 1) (lF dE (l.take (i + 1) ++ [lF dE l (i + 1)]))]⟩) (k - (i + 1 + 1)) (can_rowsv [0,3] (k0_sel hk rfl) rfl (by (repeat (refine SelV.cons rfl rqq ?_)); exact SelV.nil) tmq) (by omega) ⟨i + 1 + 1, by omega, by rw [e1]; exact hlen', rfl, by rw [e1]⟩
  · intro h
    have hik : i = k := by have : ¬ i < k := by simpa using h
                           omega
    subst hik
    repeat' (first | refine xo 4000 rfl ?_ ?_ | refine xw 4000 rfl ?_ ?_ | refine xk 4000 rfl ?_ ?_ | exact trivial | ((with_reducible (show AllP (_ :: _))); refine And.intro ?_ ?_) | refine xs rfl ?_ ?_ | refine xs_done ?_ | refine xs_start (id := 3) true [.take 0, .take 1, .take 2, .take 3, .take 4, .take 5, .take 6, .take 7, .take 8, .take 9, .take 10, .take 11, .take 12, .take 13] 0 rfl rfl (by kernel_rfl) ?_ | refine xs_start (id := 6) true [.take 0, .take 1, .take 2, .take 3, .take 4, .take 5, .take 6, .take 7, .take 8, .take 9, .take 10, .take 11, .take 12, .take 13] 0 rfl rfl (by kernel_rfl) ?_ | refine xs_start (id := 7) true [.take 0, .take 2, .take 3, .take 4, .take 5, .take 6, .one 1, .take 7, .take 8, .one 9] 0 rfl rfl (by kernel_rfl) ?_ | refine pcond_t rfl ?_ | refine pcond_f rfl ?_ | refine kround_exit ?_ | refine kround_ret ?_ | refine kround_next ?_ | refine kloop_ret ?_ | refine kloop_exit ?_ | refine kcut_ret ?_ | refine kcut_exit ?_ | refine xo0 4000 rfl ?_ ?_ | refine xw0 4000 rfl ?_ ?_ | exact qq | fail)
    refine pcond (b := false) ?_ ?_ ?_
    · refine eqB ?_
      by_cases h2 : i < l.length
      · rw [decide_eq_true (show (i : Int) < (l.length : Int) by omega)]
        exact (hge h2).2
      · rw [decide_eq_false (show ¬ (i : Int) < (l.length : Int) by omega)]
        rfl
    · intro h; cases h
    · intro _
      rcases i with _ | i
      · repeat' (first | refine xo 4000 rfl ?_ ?_ | refine xw 4000 rfl ?_ ?_ | refine xk 4000 rfl ?_ ?_ | exact trivial | ((with_reducible (show AllP (_ :: _))); refine And.intro ?_ ?_) | refine xs rfl ?_ ?_ | refine xs_done ?_ | exact (show True ∧ True ∧ (_ : Int) ≤ _ ∧ (_ : Int) ≤ _ ∧ (_ : Int) ≤ _ from ⟨trivial, trivial, (by omega), (by omega), (by omega)⟩) | exact (show True ∧ _ ∧ _ ∧ (_ : Nat) * 24 ≤ 140737488355328 ∧ (_ : Nat) ≤ 9223372036854775807 from ⟨trivial, (by rw [hk]; exact Nat.le_of_ble_eq_true rfl), Nat.le_of_eq (Nat.zero_add _), (by omega), (by omega)⟩) | refine pcond_t rfl ?_ | refine pcond_f rfl ?_ | refine kround_exit ?_ | refine kround_ret ?_ | refine kround_next ?_ | refine kloop_ret ?_ | refine kloop_exit ?_ | refine kcut_ret ?_ | refine kcut_exit ?_ | refine xo0 4000 rfl ?_ ?_ | refine xw0 4000 rfl ?_ ?_ | exact qq | fail)
        refine xdone ?_
        have hN : 0 + 1 + ((l.length : Int) - ((0 : Nat) : Int)).toNat = l.length + 1 := by omega
        refine kret [4] rfl ⟨trivial, trivial⟩ (qs := [.vsl _ 2 (tF cE (lF dE (putS l e 0)))]) ⟨argLsl (r := ⟨.own, false, _, 2, _⟩) rfl trivial (List.Mem.head _) (Nat.le_of_eq (Nat.zero_add _)) (put_cells hkl hN rfl), trivial⟩ ?_
        exact vsl_eq (by rw [put_len hkl]; exact hN)
      · repeat' (first | refine xo 4000 rfl ?_ ?_ | refine xw 4000 rfl ?_ ?_ | refine xk 4000 rfl ?_ ?_ | exact trivial | ((with_reducible (show AllP (_ :: _))); refine And.intro ?_ ?_) | refine xs rfl ?_ ?_ | refine xs_done ?_ | exact (show True ∧ True ∧ (_ : Int) ≤ _ ∧ (_ : Int) ≤ _ ∧ (_ : Int) ≤ _ from ⟨trivial, trivial, (by omega), (by omega), (by omega)⟩) | exact (show True ∧ _ ∧ _ ∧ (_ : Nat) * 24 ≤ 140737488355328 ∧ (_ : Nat) ≤ 9223372036854775807 from ⟨trivial, (by rw [hk]; exact Nat.le_of_ble_eq_true rfl), Nat.le_of_eq (Nat.zero_add _), (by omega), (by omega)⟩) | refine pcond_t rfl ?_ | refine pcond_f rfl ?_ | refine kround_exit ?_ | refine kround_ret ?_ | refine kround_next ?_ | refine kloop_ret ?_ | refine kloop_exit ?_ | refine kcut_ret ?_ | refine kcut_exit ?_ | refine xo0 4000 rfl ?_ ?_ | refine xw0 4000 rfl ?_ ?_ | exact qq | fail)
        refine xdone ?_
        have hN : i + 1 + 1 + ((l.length : Int) - ((i + 1 : Nat) : Int)).toNat = l.length + 1 := by omega
        refine kret [4] rfl ⟨trivial, trivial⟩ (qs := [.vsl _ 2 (tF cE (lF dE (putS l e (i + 1))))]) ⟨argLsl (r := ⟨.own, false, _, 2, _⟩) rfl trivial (List.Mem.head _) (Nat.le_of_eq (Nat.zero_add _)) (put_cells hkl hN rfl), trivial⟩ ?_
        exact vsl_eq (by rw [put_len hkl]; exact hN)
end Go.Proofs.Ytipdkompinnghaa
