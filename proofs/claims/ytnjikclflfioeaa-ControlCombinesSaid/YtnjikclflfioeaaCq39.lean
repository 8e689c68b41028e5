/- payrollref39.Combine. -/
import Derived.Test.YtnjikclflfioeaaCq0
set_option linter.unusedSimpArgs false
set_option linter.unusedVariables false
set_option maxRecDepth 100000
namespace Go.Proofs.Ytnjikclflfioeaa
/-- behind a store of an element -/
theorem upd_v {τ : Nat → Option Nat} {g g' : Nat → Pay} {j j' n : Nat} {y : Pay} {L : List PV} (hL : L = cP y) (hj : j = j') (h : ∀ a, a < n + 1 → g' a = if a = j' then y else g a) : RowEq (Row.ren τ ⟨.own, false, n + 1, 2, updR (tF cP g) j L⟩) (vRow cP 2 (n + 1) g') := o_eq cP_cl (Nat.le_refl _) (fun a ha b hb => by
  subst hL hj
  rw [h a ha]
  unfold updR
  by_cases e : a = j
  · subst e; simp
  · have : Nat.beq a j = false := by cases hb2 : Nat.beq a j; rfl; exact absurd (Nat.eq_of_beq_eq_true hb2) e
    simp only [this, if_neg e, cond_false]; rfl)
def shF (f : Nat → Pay) (m a : Nat) : Pay := if m < a then f (a - 1) else f a
set_option maxHeartbeats 2000000 in
theorem comb39_c (n : Nat) (g : Nat → Pay) (hn : n ≤ 9223372036854775807) : PureC G.P 20 [vPs n g] (fun r => ∃ L e, r = .tup 2 (nthP [vPs L.length (lF dP L), vi e]) ∧ CombP n g L e) := by
  have ho := of39_c n g hn
  obtain ⟨X, hX⟩ : ∃ X, X = ofS n g := ⟨_, rfl⟩
  rw [← hX] at ho
  refine pure_of (G := G.toPg) (fn := Try.f20) Try.func20 rfl rfl rfl ?_; intro Γ hk
  repeat' (first | refine xo 4000 rfl ?_ ?_ | refine xw 4000 rfl ?_ ?_ | refine xk 4000 rfl ?_ ?_ | exact trivial | ((with_reducible (show AllP (_ :: _))); refine And.intro ?_ ?_) | refine xs rfl ?_ ?_ | refine xs_done ?_ | refine pop_callv rfl rfl rfl rfl rfl (ho) rfl rfl rfl ?_ | refine xs_call rfl rfl rfl rfl rfl rfl (ho) rfl rfl rfl ?_ | refine xs_one (ch := []) rfl rfl rfl (pst_callv rfl rfl rfl rfl rfl (ho) rfl rfl rfl ?_) | refine pop_callgv rfl rfl rfl rfl rfl rfl (fun _ => ho) (by first | exact fun h => ⟨h, trivial⟩ | exact fun _ => trivial | exact fun h => ⟨h, h, trivial⟩) rfl rfl rfl ?_ | refine xs_one (ch := []) rfl rfl rfl (pst_callgv rfl rfl rfl rfl rfl rfl (fun _ => ho) (by first | exact fun h => ⟨h, trivial⟩ | exact fun _ => trivial | exact fun h => ⟨h, h, trivial⟩) rfl rfl rfl ?_) | refine pcond_t rfl ?_ | refine pcond_f rfl ?_ | refine kround_exit ?_ | refine kround_ret ?_ | refine kround_next ?_ | refine kloop_ret ?_ | refine kloop_exit ?_ | refine kcut_ret ?_ | refine kcut_exit ?_ | refine xo0 4000 rfl ?_ ?_ | refine xw0 4000 rfl ?_ ?_ | exact qq | fail)
  refine pcond rfl ?_ ?_ <;> intro hc
  · have h0 : X.2 ≠ 0 := by simpa using hc
    repeat' (first | refine xo 4000 rfl ?_ ?_ | refine xw 4000 rfl ?_ ?_ | refine xk 4000 rfl ?_ ?_ | exact trivial | ((with_reducible (show AllP (_ :: _))); refine And.intro ?_ ?_) | refine xs rfl ?_ ?_ | refine xs_done ?_ | refine pcond_t rfl ?_ | refine pcond_f rfl ?_ | refine kround_exit ?_ | refine kround_ret ?_ | refine kround_next ?_ | refine kloop_ret ?_ | refine kloop_exit ?_ | refine kcut_ret ?_ | refine kcut_exit ?_ | refine xo0 4000 rfl ?_ ?_ | refine xw0 4000 rfl ?_ ?_ | exact qq | fail)
    refine xdone ?_
    refine kret [] rfl ⟨trivial, trivial, trivial⟩ (qs := [vPs 0 (lF dP []), vi X.2]) ⟨argNil, argVal, trivial⟩ ?_
    exact ⟨[], X.2, rfl, .inl ⟨by rw [← hX]; exact h0, by rw [hX], rfl⟩⟩
  · have h0 : X.2 = 0 := by simpa using hc
    obtain ⟨hn1, hok⟩ := ofS_zero (hX ▸ h0)
    repeat' (first | refine xo 4000 rfl ?_ ?_ | refine xw 4000 rfl ?_ ?_ | refine xk 4000 rfl ?_ ?_ | exact trivial | ((with_reducible (show AllP (_ :: _))); refine And.intro ?_ ?_) | refine xs rfl ?_ ?_ | refine xs_done ?_ | refine pcond_t rfl ?_ | refine pcond_f rfl ?_ | refine kround_exit ?_ | refine kround_ret ?_ | refine kround_next ?_ | refine kloop_ret ?_ | refine kloop_exit ?_ | refine kcut_ret ?_ | refine kcut_exit ?_ | refine xo0 4000 rfl ?_ ?_ | refine xw0 4000 rfl ?_ ?_ | exact qq | fail)
    refine pcan (can_virt (vRow cP 2 0 (lF dP [])) rfl) ?_
    refine pcan (st' := ⟨[(0, vPs n g), (6, slP 0 0), (7, vi ((0 : Nat) : Int))], [vRow cP 2 0 (lF dP [])]⟩) (can_rowsv [1] (k0_sel hk rfl) rfl (by (repeat (refine SelV.cons rfl rqq ?_)); exact SelV.nil) tmq) ?_
    refine ploop (fun q st => ∃ (i : Nat) (L : List Pay) (k : Nat), i ≤ n ∧ L.length = k ∧ CombQ i g L ∧ q = n - i ∧ st = ⟨[(0, vPs n g), (6, slP k 0), (7, vi i)], [vRow cP 2 k (lF dP L)]⟩) n ⟨0, [], 0, by omega, rfl, .start g, rfl, rfl⟩ ?_
    rintro _ _ ⟨i, L, k, hi, hlk, hQ, rfl, rfl⟩
    repeat' (first | refine xo 4000 rfl ?_ ?_ | refine xw 4000 rfl ?_ ?_ | refine xk 4000 rfl ?_ ?_ | exact trivial | ((with_reducible (show AllP (_ :: _))); refine And.intro ?_ ?_) | refine xs rfl ?_ ?_ | refine xs_done ?_ | refine pcond_t rfl ?_ | refine pcond_f rfl ?_ | refine kround_exit ?_ | refine kround_ret ?_ | refine kround_next ?_ | refine kloop_ret ?_ | refine kloop_exit ?_ | refine kcut_ret ?_ | refine kcut_exit ?_ | refine xo0 4000 rfl ?_ ?_ | refine xw0 4000 rfl ?_ ?_ | exact qq | fail)
    refine pcond rfl ?_ ?_ <;> intro hc2 <;> simp at hc2
    · have hw : IntKind.i64.wrap ((i : Int) + 1) = ((i + 1 : Nat) : Int) := w64 (by omega) (by omega)
      rcases k with _ | k
      · repeat' (first | refine xo 4000 rfl ?_ ?_ | refine xw 4000 rfl ?_ ?_ | refine xk 4000 rfl ?_ ?_ | exact trivial | ((with_reducible (show AllP (_ :: _))); refine And.intro ?_ ?_) | refine xs rfl ?_ ?_ | refine xs_done ?_ | refine xs_start (id := 9) true [.take 0, .take 1, .take 2, .take 3, .take 4, .take 5, .take 6, .take 7, .take 8, .take 9, .take 10, .take 11, .take 12, .take 13, .take 14, .take 15, .take 16] 0 rfl rfl (by kernel_rfl) ?_ | refine xs_start (id := 11) true [.take 0, .take 1, .take 2, .take 3, .take 4, .take 5, .take 6, .take 7, .take 8, .take 9, .take 10, .take 11, .take 12, .take 13, .take 14, .take 15, .take 16] 0 rfl rfl (by kernel_rfl) ?_ | refine xs_start (id := 12) true [.take 0, .take 1, .take 2, .take 3, .take 5, .take 6, .take 7, .take 8, .take 9, .one 4, .take 10, .take 11, .take 12, .one 13] 0 rfl rfl (by kernel_rfl) ?_ | refine pcond_t rfl ?_ | refine pcond_f rfl ?_ | refine kround_exit ?_ | refine kround_ret ?_ | refine kround_next ?_ | refine kloop_ret ?_ | refine kloop_exit ?_ | refine kcut_ret ?_ | refine kcut_exit ?_ | refine xo0 4000 rfl ?_ ?_ | refine xw0 4000 rfl ?_ ?_ | exact qq | fail)
        refine ploopN 1 ?_
        repeat' (first | refine xo 4000 rfl ?_ ?_ | refine xw 4000 rfl ?_ ?_ | refine xk 4000 rfl ?_ ?_ | exact trivial | ((with_reducible (show AllP (_ :: _))); refine And.intro ?_ ?_) | refine xs rfl ?_ ?_ | refine xs_done ?_ | refine xs_start (id := 9) true [.take 0, .take 1, .take 2, .take 3, .take 4, .take 5, .take 6, .take 7, .take 8, .take 9, .take 10, .take 11, .take 12, .take 13, .take 14, .take 15, .take 16] 0 rfl rfl (by kernel_rfl) ?_ | refine xs_start (id := 11) true [.take 0, .take 1, .take 2, .take 3, .take 4, .take 5, .take 6, .take 7, .take 8, .take 9, .take 10, .take 11, .take 12, .take 13, .take 14, .take 15, .take 16] 0 rfl rfl (by kernel_rfl) ?_ | refine xs_start (id := 12) true [.take 0, .take 1, .take 2, .take 3, .take 5, .take 6, .take 7, .take 8, .take 9, .one 4, .take 10, .take 11, .take 12, .one 13] 0 rfl rfl (by kernel_rfl) ?_ | exact fun h => absurd h (by decide) | refine pcond_t rfl ?_ | refine pcond_f rfl ?_ | refine kround_exit ?_ | refine kround_ret ?_ | refine kround_next ?_ | refine kloop_ret ?_ | refine kloop_exit ?_ | refine kcut_ret ?_ | refine kcut_exit ?_ | refine xo0 4000 rfl ?_ ?_ | refine xw0 4000 rfl ?_ ?_ | exact qq | fail)
        refine ploopN 1 ?_
        repeat' (first | refine xo 4000 rfl ?_ ?_ | refine xw 4000 rfl ?_ ?_ | refine xk 4000 rfl ?_ ?_ | exact trivial | ((with_reducible (show AllP (_ :: _))); refine And.intro ?_ ?_) | refine xs rfl ?_ ?_ | refine xs_done ?_ | refine xs_start (id := 9) true [.take 0, .take 1, .take 2, .take 3, .take 4, .take 5, .take 6, .take 7, .take 8, .take 9, .take 10, .take 11, .take 12, .take 13, .take 14, .take 15, .take 16] 0 rfl rfl (by kernel_rfl) ?_ | refine xs_start (id := 11) true [.take 0, .take 1, .take 2, .take 3, .take 4, .take 5, .take 6, .take 7, .take 8, .take 9, .take 10, .take 11, .take 12, .take 13, .take 14, .take 15, .take 16] 0 rfl rfl (by kernel_rfl) ?_ | refine xs_start (id := 12) true [.take 0, .take 1, .take 2, .take 3, .take 5, .take 6, .take 7, .take 8, .take 9, .one 4, .take 10, .take 11, .take 12, .one 13] 0 rfl rfl (by kernel_rfl) ?_ | refine pcond_t rfl ?_ | refine pcond_f rfl ?_ | refine kround_exit ?_ | refine kround_ret ?_ | refine kround_next ?_ | refine kloop_ret ?_ | refine kloop_exit ?_ | refine kcut_ret ?_ | refine kcut_exit ?_ | refine xo0 4000 rfl ?_ ?_ | refine xw0 4000 rfl ?_ ?_ | exact qq | fail)
        have hL : L = [] := List.length_eq_zero_iff.1 hlk
        subst hL
        rw [hw]
        refine kloop_next (st' := ⟨[(0, vPs n g), (6, slP (0 + 1) 0), (7, vi ((i + 1 : Nat) : Int))], [vRow cP 2 (0 + 1) (lF dP (insP (g i) []))]⟩) (n - (i + 1)) (can_rowsv [2] (k0_sel hk rfl) rfl (.cons rfl (o_eq cP_cl (Nat.le_refl _) (fun a ha b hb => ?_)) .nil) tmq) (by omega) ⟨i + 1, insP (g i) [], 0 + 1, by omega, rfl, hQ.step, rfl, rfl⟩
        have hb : b < 2 := hb
        obtain rfl : a = 0 := by omega
        rcases (by omega : b = 0 ∨ b = 1) with rfl | rfl <;> rfl
      · repeat' (first | refine xo 4000 rfl ?_ ?_ | refine xw 4000 rfl ?_ ?_ | refine xk 4000 rfl ?_ ?_ | exact trivial | ((with_reducible (show AllP (_ :: _))); refine And.intro ?_ ?_) | refine xs rfl ?_ ?_ | refine xs_done ?_ | refine pcond_t rfl ?_ | refine pcond_f rfl ?_ | refine kround_exit ?_ | refine kround_ret ?_ | refine kround_next ?_ | refine kloop_ret ?_ | refine kloop_exit ?_ | refine kcut_ret ?_ | refine kcut_exit ?_ | refine xo0 4000 rfl ?_ ?_ | refine xw0 4000 rfl ?_ ?_ | exact qq | fail)
        refine pcan (st' := ⟨[(0, vPs n g), (6, slP (k + 1) 0), (7, vi i), (8, vi ((0 : Nat) : Int))], [vRow cP 2 (k + 1) (lF dP L)]⟩) (can_rowsv [0] (k0_sel hk rfl) rfl (by (repeat (refine SelV.cons rfl rqq ?_)); exact SelV.nil) tmq) ?_
        refine ploop (fun q st => ∃ j : Nat, j ≤ k + 1 ∧ (∀ a, a < j → (lF dP L a).1 < (g i).1) ∧ q = k + 1 - j ∧ st = ⟨[(0, vPs n g), (6, slP (k + 1) 0), (7, vi i), (8, vi j)], [vRow cP 2 (k + 1) (lF dP L)]⟩) (k + 1) ⟨0, by omega, fun a ha => by omega, by omega, rfl⟩ ?_
        rintro _ _ ⟨j, hj, hlt, rfl, rfl⟩
        have hQl := hQ.len
        have hwj : IntKind.i64.wrap ((j : Int) + 1) = ((j + 1 : Nat) : Int) := w64 (by omega) (by omega)
        repeat' (first | refine xo 4000 rfl ?_ ?_ | refine xw 4000 rfl ?_ ?_ | refine xk 4000 rfl ?_ ?_ | exact trivial | ((with_reducible (show AllP (_ :: _))); refine And.intro ?_ ?_) | refine xs rfl ?_ ?_ | refine xs_done ?_ | refine xs_start (id := 9) true [.take 0, .take 1, .take 2, .take 3, .take 4, .take 5, .take 6, .take 7, .take 8, .take 9, .take 10, .take 11, .take 12, .take 13, .take 14, .take 15, .take 16] 0 rfl rfl (by kernel_rfl) ?_ | refine xs_start (id := 11) true [.take 0, .take 1, .take 2, .take 3, .take 4, .take 5, .take 6, .take 7, .take 8, .take 9, .take 10, .take 11, .take 12, .take 13, .take 14, .take 15, .take 16] 0 rfl rfl (by kernel_rfl) ?_ | refine xs_start (id := 12) true [.take 0, .take 1, .take 2, .take 3, .take 5, .take 6, .take 7, .take 8, .take 9, .one 4, .take 10, .take 11, .take 12, .one 13] 0 rfl rfl (by kernel_rfl) ?_ | refine pcond_t rfl ?_ | refine pcond_f rfl ?_ | refine kround_exit ?_ | refine kround_ret ?_ | refine kround_next ?_ | refine kloop_ret ?_ | refine kloop_exit ?_ | refine kcut_ret ?_ | refine kcut_exit ?_ | refine xo0 4000 rfl ?_ ?_ | refine xw0 4000 rfl ?_ ?_ | exact qq | fail)
        refine pcond (b := decide (j < k + 1 ∧ (lF dP L j).1 < (g i).1)) ?_ ?_ ?_
        · refine eqB ?_
          show (bif decide ((j : Int) < ((k + 1 : Nat) : Int)) then decide ((lF dP L (0 + j)).1 < (g i).1) else false) = _
          rw [Nat.zero_add]
          by_cases h1 : j < k + 1
          · rw [decide_eq_true (show (j : Int) < ((k + 1 : Nat) : Int) by omega)]; simp [h1]
          · rw [decide_eq_false (show ¬ (j : Int) < ((k + 1 : Nat) : Int) by omega)]; simp [h1]
        · intro h
          have h : j < k + 1 ∧ (lF dP L j).1 < (g i).1 := by simpa using h
          repeat' (first | refine xo 4000 rfl ?_ ?_ | refine xw 4000 rfl ?_ ?_ | refine xk 4000 rfl ?_ ?_ | exact trivial | ((with_reducible (show AllP (_ :: _))); refine And.intro ?_ ?_) | refine xs rfl ?_ ?_ | refine xs_done ?_ | refine xs_start (id := 9) true [.take 0, .take 1, .take 2, .take 3, .take 4, .take 5, .take 6, .take 7, .take 8, .take 9, .take 10, .take 11, .take 12, .take 13, .take 14, .take 15, .take 16] 0 rfl rfl (by kernel_rfl) ?_ | refine xs_start (id := 11) true [.take 0, .take 1, .take 2, .take 3, .take 4, .take 5, .take 6, .take 7, .take 8, .take 9, .take 10, .take 11, .take 12, .take 13, .take 14, .take 15, .take 16] 0 rfl rfl (by kernel_rfl) ?_ | refine xs_start (id := 12) true [.take 0, .take 1, .take 2, .take 3, .take 5, .take 6, .take 7, .take 8, .take 9, .one 4, .take 10, .take 11, .take 12, .one 13] 0 rfl rfl (by kernel_rfl) ?_ | refine pcond_t rfl ?_ | refine pcond_f rfl ?_ | refine kround_exit ?_ | refine kround_ret ?_ | refine kround_next ?_ | refine kloop_ret ?_ | refine kloop_exit ?_ | refine kcut_ret ?_ | refine kcut_exit ?_ | refine xo0 4000 rfl ?_ ?_ | refine xw0 4000 rfl ?_ ?_ | exact qq | fail)
          rw [hwj]
          exact kloop_next (st' := ⟨[(0, vPs n g), (6, slP (k + 1) 0), (7, vi i), (8, vi ((j + 1 : Nat) : Int))], [vRow cP 2 (k + 1) (lF dP L)]⟩) (k + 1 - (j + 1)) (can_rowsv [0] (k0_sel hk rfl) rfl (by (repeat (refine SelV.cons rfl rqq ?_)); exact SelV.nil) tmq) (by omega) ⟨j + 1, by omega, fun a ha => by
            by_cases e : a = j
            · subst e; exact h.2
            · exact hlt a (by omega), rfl, rfl⟩
        · intro h
          have h : ¬ (j < k + 1 ∧ (lF dP L j).1 < (g i).1) := by simpa using h
          repeat' (first | refine xo 4000 rfl ?_ ?_ | refine xw 4000 rfl ?_ ?_ | refine xk 4000 rfl ?_ ?_ | exact trivial | ((with_reducible (show AllP (_ :: _))); refine And.intro ?_ ?_) | refine xs rfl ?_ ?_ | refine xs_done ?_ | refine xs_start (id := 9) true [.take 0, .take 1, .take 2, .take 3, .take 4, .take 5, .take 6, .take 7, .take 8, .take 9, .take 10, .take 11, .take 12, .take 13, .take 14, .take 15, .take 16] 0 rfl rfl (by kernel_rfl) ?_ | refine xs_start (id := 11) true [.take 0, .take 1, .take 2, .take 3, .take 4, .take 5, .take 6, .take 7, .take 8, .take 9, .take 10, .take 11, .take 12, .take 13, .take 14, .take 15, .take 16] 0 rfl rfl (by kernel_rfl) ?_ | refine xs_start (id := 12) true [.take 0, .take 1, .take 2, .take 3, .take 5, .take 6, .take 7, .take 8, .take 9, .one 4, .take 10, .take 11, .take 12, .one 13] 0 rfl rfl (by kernel_rfl) ?_ | refine pcond_t rfl ?_ | refine pcond_f rfl ?_ | refine kround_exit ?_ | refine kround_ret ?_ | refine kround_next ?_ | refine kloop_ret ?_ | refine kloop_exit ?_ | refine kcut_ret ?_ | refine kcut_exit ?_ | refine xo0 4000 rfl ?_ ?_ | refine xw0 4000 rfl ?_ ?_ | exact qq | fail)
          refine pcond (b := decide (j < k + 1 ∧ (lF dP L j).1 = (g i).1)) ?_ ?_ ?_
          · refine eqB ?_
            show (bif decide ((j : Int) < ((k + 1 : Nat) : Int)) then ((lF dP L (0 + j)).1 == (g i).1) else false) = _
            rw [Nat.zero_add]
            by_cases h1 : j < k + 1
            · rw [decide_eq_true (show (j : Int) < ((k + 1 : Nat) : Int) by omega)]; rw [Bool.eq_iff_iff]; simp [h1]
            · rw [decide_eq_false (show ¬ (j : Int) < ((k + 1 : Nat) : Int) by omega)]; simp [h1]
          · intro h2
            have h2 : j < k + 1 ∧ (lF dP L j).1 = (g i).1 := by simpa using h2
            have hs := hQ.val _ (hQ.at (a := j) (by omega))
            have hb := sumE_bd (n := i) (g := g) (fun q hq => hok q (by omega)) (lF dP L j).1
            have hp := payOk_iff.1 (hok i hc2)
            have hwa : IntKind.i64.wrap ((lF dP L j).2 + (g i).2) = (lF dP L j).2 + (g i).2 := w64 (by omega) (by omega)
            have hins := insP_eq (g i) L j (by omega) hlt h2.2
            repeat' (first | refine xo 4000 rfl ?_ ?_ | refine xw 4000 rfl ?_ ?_ | refine xk 4000 rfl ?_ ?_ | exact trivial | ((with_reducible (show AllP (_ :: _))); refine And.intro ?_ ?_) | refine xs rfl ?_ ?_ | refine xs_done ?_ | refine xs_start (id := 9) true [.take 0, .take 1, .take 2, .take 3, .take 4, .take 5, .take 6, .take 7, .take 8, .take 9, .take 10, .take 11, .take 12, .take 13, .take 14, .take 15, .take 16] 0 rfl rfl (by kernel_rfl) ?_ | refine xs_start (id := 11) true [.take 0, .take 1, .take 2, .take 3, .take 4, .take 5, .take 6, .take 7, .take 8, .take 9, .take 10, .take 11, .take 12, .take 13, .take 14, .take 15, .take 16] 0 rfl rfl (by kernel_rfl) ?_ | refine xs_start (id := 12) true [.take 0, .take 1, .take 5, .take 6, .take 7, .take 8, .take 9, .one 2, .one 3, .one 4, .take 10, .one 11, .one 12, .one 13] 0 rfl rfl (by kernel_rfl) ?_ | refine pcond_t rfl ?_ | refine pcond_f rfl ?_ | refine kround_exit ?_ | refine kround_ret ?_ | refine kround_next ?_ | refine kloop_ret ?_ | refine kloop_exit ?_ | refine kcut_ret ?_ | refine kcut_exit ?_ | refine xo0 4000 rfl ?_ ?_ | refine xw0 4000 rfl ?_ ?_ | exact qq | fail)
            rw [hw]
            refine kloop_next (st' := ⟨[(0, vPs n g), (6, slP (k + 1) 0), (7, vi ((i + 1 : Nat) : Int))], [vRow cP 2 (k + 1) (lF dP (insP (g i) L))]⟩) (n - (i + 1)) (can_rowsv [0] (k0_sel hk rfl) rfl (.cons rfl (upd_v (y := ((lF dP L j).1, (lF dP L j).2 + (g i).2)) ?_ (j' := j) (Nat.zero_add _) (fun a ha => ?_)) .nil) tmq) (by omega) ⟨i + 1, insP (g i) L, k + 1, by omega, by rw [hins, List.length_set, hlk], hQ.step, rfl, rfl⟩
            · show [vi (lF dP L (0 + j)).1, vi (IntKind.i64.wrap ((lF dP L (0 + j)).2 + (g i).2))] = _
              rw [Nat.zero_add, hwa]
            · rw [hins, lF_set _ _ _ _ (by omega)]; rfl
          · intro h2
            have h2 : ¬ (j < k + 1 ∧ (lF dP L j).1 = (g i).1) := by simpa using h2
            have hins := insP_ins (g i) L j (by omega) hlt (fun h3 => by omega)
            repeat' (first | refine xo 4000 rfl ?_ ?_ | refine xw 4000 rfl ?_ ?_ | refine xk 4000 rfl ?_ ?_ | exact trivial | ((with_reducible (show AllP (_ :: _))); refine And.intro ?_ ?_) | refine xs rfl ?_ ?_ | refine xs_done ?_ | refine xs_start (id := 9) true [.take 0, .take 1, .take 2, .take 3, .take 4, .take 5, .take 6, .take 7, .take 8, .take 9, .take 10, .take 11, .take 12, .take 13, .take 14, .take 15, .take 16] 0 rfl rfl (by kernel_rfl) ?_ | refine xs_start (id := 11) true [.take 0, .take 1, .take 2, .take 3, .take 4, .take 5, .take 6, .take 7, .take 8, .take 9, .take 10, .take 11, .take 12, .take 13, .take 14, .take 15, .take 16] 0 rfl rfl (by kernel_rfl) ?_ | refine xs_start (id := 12) true [.take 0, .take 1, .take 2, .take 3, .take 5, .take 6, .take 7, .take 8, .take 9, .one 4, .take 10, .take 11, .take 12, .one 13] 0 rfl rfl (by kernel_rfl) ?_ | refine pcond_t rfl ?_ | refine pcond_f rfl ?_ | refine kround_exit ?_ | refine kround_ret ?_ | refine kround_next ?_ | refine kloop_ret ?_ | refine kloop_exit ?_ | refine kcut_ret ?_ | refine kcut_exit ?_ | refine xo0 4000 rfl ?_ ?_ | refine xw0 4000 rfl ?_ ?_ | exact qq | fail)
            rw [show IntKind.i64.wrap (((k + 1 + 1 : Nat) : Int) - 1) = ((k + 1 : Nat) : Int) from by rw [w64 (by omega) (by omega)]; omega]
            refine pcan (st' := ⟨[(0, vPs n g), (6, slP (k + 1 + 1) 0), (7, vi i), (8, vi j), (9, vi ((k + 1 : Nat) : Int))], [vRow cP 2 (k + 1 + 1) (lF dP (L ++ [dP]))]⟩) (can_rowsv [2] (k0_sel hk rfl) rfl (by (repeat (refine SelV.cons rfl rqq ?_)); exact SelV.nil) tmq) ?_
            obtain ⟨f, hf⟩ : ∃ f, f = lF dP (L ++ [dP]) := ⟨_, rfl⟩
            have hfL : ∀ a, a < k + 1 → f a = lF dP L a := fun a ha => by rw [hf, lF_lt (by omega)]
            rw [← hf]
            refine pcan (st' := ⟨[(0, vPs n g), (6, slP (k + 1 + 1) 0), (7, vi i), (8, vi j), (9, vi ((k + 1 : Nat) : Int))], [vRow cP 2 (k + 1 + 1) (shF f (k + 1))]⟩) (can_rowsv [0] (k0_sel hk rfl) rfl (.cons rfl (o_eq cP_cl (Nat.le_refl _) (fun a ha b hb => by
              show nthP (cP (f a)) b = nthP (cP (shF f (k + 1) a)) b
              unfold shF; rw [if_neg (by omega)])) .nil) tmq) ?_
            refine ploop (fun q st => ∃ m : Nat, j ≤ m ∧ m ≤ k + 1 ∧ q = m - j ∧ st = ⟨[(0, vPs n g), (6, slP (k + 1 + 1) 0), (7, vi i), (8, vi j), (9, vi m)], [vRow cP 2 (k + 1 + 1) (shF f m)]⟩) (k + 1 - j) ⟨k + 1, by omega, by omega, rfl, rfl⟩ ?_
            rintro _ _ ⟨m, hm1, hm2, rfl, rfl⟩
            repeat' (first | refine xo 4000 rfl ?_ ?_ | refine xw 4000 rfl ?_ ?_ | refine xk 4000 rfl ?_ ?_ | exact trivial | ((with_reducible (show AllP (_ :: _))); refine And.intro ?_ ?_) | refine xs rfl ?_ ?_ | refine xs_done ?_ | refine pcond_t rfl ?_ | refine pcond_f rfl ?_ | refine kround_exit ?_ | refine kround_ret ?_ | refine kround_next ?_ | refine kloop_ret ?_ | refine kloop_exit ?_ | refine kcut_ret ?_ | refine kcut_exit ?_ | refine xo0 4000 rfl ?_ ?_ | refine xw0 4000 rfl ?_ ?_ | exact qq | fail)
            refine pcond rfl ?_ ?_ <;> intro hc3 <;> simp at hc3
            · obtain ⟨m, rfl⟩ : ∃ m', m = m' + 1 := ⟨m - 1, by omega⟩
              have hwm : IntKind.i64.wrap (((m + 1 : Nat) : Int) - 1) = (m : Int) := by rw [w64 (by omega) (by omega)]; omega
              repeat' (first | refine xo 4000 rfl ?_ ?_ | refine xw 4000 rfl ?_ ?_ | refine xk 4000 rfl ?_ ?_ | exact trivial | ((with_reducible (show AllP (_ :: _))); refine And.intro ?_ ?_) | refine xs rfl ?_ ?_ | refine xs_done ?_ | refine xs_start (id := 9) true [.take 0, .take 1, .take 2, .take 3, .take 4, .take 5, .take 6, .take 7, .take 8, .take 9, .take 10, .take 11, .take 12, .take 13, .take 14, .take 15, .take 16] 0 rfl rfl (by kernel_rfl) ?_ | refine xs_start (id := 11) true [.take 0, .take 1, .take 2, .take 3, .take 4, .take 5, .take 6, .take 7, .take 8, .take 9, .take 10, .take 11, .take 12, .take 13, .take 14, .take 15, .take 16] 0 rfl rfl (by kernel_rfl) ?_ | refine xs_start (id := 12) true [.take 0, .take 1, .take 2, .take 3, .take 5, .take 6, .take 7, .take 8, .take 9, .one 4, .take 10, .take 11, .take 12, .one 13] 0 rfl rfl (by kernel_rfl) ?_ | refine pcond_t rfl ?_ | refine pcond_f rfl ?_ | refine kround_exit ?_ | refine kround_ret ?_ | refine kround_next ?_ | refine kloop_ret ?_ | refine kloop_exit ?_ | refine kcut_ret ?_ | refine kcut_exit ?_ | refine xo0 4000 rfl ?_ ?_ | refine xw0 4000 rfl ?_ ?_ | exact qq | fail)
              all_goals first
                | (rw [hwm]; exact ⟨by omega, by omega⟩)
                | (rw [hwm]; omega)
                | skip
              rw [hwm]
              refine kloop_next (st' := ⟨[(0, vPs n g), (6, slP (k + 1 + 1) 0), (7, vi i), (8, vi j), (9, vi m)], [vRow cP 2 (k + 1 + 1) (shF f m)]⟩) (m - j) (can_rowsv [0] (k0_sel hk rfl) rfl (.cons rfl (upd_v (y := f m) ?_ (j' := m + 1) (Nat.zero_add _) (fun a ha => ?_)) .nil) tmq) (by omega) ⟨m, by omega, by omega, rfl, rfl⟩
              · show cP (shF f (m + 1) (0 + m)) = _
                unfold shF; rw [if_neg (by omega), Nat.zero_add]
              · unfold shF
                by_cases e : a = m + 1
                · subst e; rw [if_pos (by omega), if_pos rfl]; rfl
                · rw [if_neg e]
                  by_cases e2 : m + 1 < a
                  · rw [if_pos e2, if_pos (by omega)]
                  · rw [if_neg e2, if_neg (by omega)]
            · obtain rfl : m = j := by omega
              repeat' (first | refine xo 4000 rfl ?_ ?_ | refine xw 4000 rfl ?_ ?_ | refine xk 4000 rfl ?_ ?_ | exact trivial | ((with_reducible (show AllP (_ :: _))); refine And.intro ?_ ?_) | refine xs rfl ?_ ?_ | refine xs_done ?_ | refine pcond_t rfl ?_ | refine pcond_f rfl ?_ | refine kround_exit ?_ | refine kround_ret ?_ | refine kround_next ?_ | refine kloop_ret ?_ | refine kloop_exit ?_ | refine kcut_ret ?_ | refine kcut_exit ?_ | refine xo0 4000 rfl ?_ ?_ | refine xw0 4000 rfl ?_ ?_ | exact qq | fail)
              rw [hw]
              refine kloop_next (st' := ⟨[(0, vPs n g), (6, slP (k + 1 + 1) 0), (7, vi ((i + 1 : Nat) : Int))], [vRow cP 2 (k + 1 + 1) (lF dP (insP (g i) L))]⟩) (n - (i + 1)) (can_rowsv [0] (k0_sel hk rfl) rfl (.cons rfl (upd_v (y := g i) rfl (j' := m) (Nat.zero_add _) (fun a ha => ?_)) .nil) tmq) (by omega) ⟨i + 1, insP (g i) L, k + 1 + 1, by omega, by rw [hins]; simp; omega, hQ.step, rfl, rfl⟩
              rw [hins, lF_ins _ _ _ (by omega)]
              unfold insF shF
              by_cases e : a = m
              · subst e; rw [if_neg (by omega), if_pos rfl, if_pos rfl]
              · rw [if_neg e, if_neg e]
                by_cases e2 : a < m
                · rw [if_pos e2, if_neg (by omega), hfL _ (by omega)]
                · rw [if_neg e2, if_pos (by omega), hfL _ (by omega)]
    · have hin : i = n := by omega
      subst hin
      repeat' (first | refine xo 4000 rfl ?_ ?_ | refine xw 4000 rfl ?_ ?_ | refine xk 4000 rfl ?_ ?_ | exact trivial | ((with_reducible (show AllP (_ :: _))); refine And.intro ?_ ?_) | refine xs rfl ?_ ?_ | refine xs_done ?_ | refine pcond_t rfl ?_ | refine pcond_f rfl ?_ | refine kround_exit ?_ | refine kround_ret ?_ | refine kround_next ?_ | refine kloop_ret ?_ | refine kloop_exit ?_ | refine kcut_ret ?_ | refine kcut_exit ?_ | refine xo0 4000 rfl ?_ ?_ | refine xw0 4000 rfl ?_ ?_ | exact qq | fail)
      rcases k with _ | k
      · refine ploopN 1 ?_
        repeat' (first | refine xo 4000 rfl ?_ ?_ | refine xw 4000 rfl ?_ ?_ | refine xk 4000 rfl ?_ ?_ | exact trivial | ((with_reducible (show AllP (_ :: _))); refine And.intro ?_ ?_) | refine xs rfl ?_ ?_ | refine xs_done ?_ | refine pcond_t rfl ?_ | refine pcond_f rfl ?_ | refine kround_exit ?_ | refine kround_ret ?_ | refine kround_next ?_ | refine kloop_ret ?_ | refine kloop_exit ?_ | refine kcut_ret ?_ | refine kcut_exit ?_ | refine xo0 4000 rfl ?_ ?_ | refine xw0 4000 rfl ?_ ?_ | exact qq | fail)
        refine xdone ?_
        have hL : L = [] := List.length_eq_zero_iff.1 hlk
        subst hL
        refine kret [] rfl ⟨trivial, trivial, trivial⟩ (qs := [vPs 0 (lF dP []), vi 0]) ⟨argNil, argVal, trivial⟩ ?_
        exact ⟨[], 0, rfl, .inr ⟨hX ▸ h0, .inl ⟨rfl, hQ.srt, hQ.occ, fun p hp => by simp at hp⟩⟩⟩
      · refine pcan (st' := ⟨[(6, slP (k + 1) 0), (10, vi ((0 : Nat) : Int))], [vRow cP 2 (k + 1) (lF dP L)]⟩) (can_rowsv [0] (k0_sel hk rfl) rfl (by (repeat (refine SelV.cons rfl rqq ?_)); exact SelV.nil) tmq) ?_
        refine ploop (fun q st => ∃ j : Nat, j ≤ k + 1 ∧ (∀ a, a < j → (lF dP L a).2 ≤ 1000000000000) ∧ q = k + 1 - j ∧ st = ⟨[(6, slP (k + 1) 0), (10, vi j)], [vRow cP 2 (k + 1) (lF dP L)]⟩) (k + 1) ⟨0, by omega, fun a ha => by omega, by omega, rfl⟩ ?_
        rintro _ _ ⟨j, hj, hle, rfl, rfl⟩
        have hQl := hQ.len
        have hwj : IntKind.i64.wrap ((j : Int) + 1) = ((j + 1 : Nat) : Int) := w64 (by omega) (by omega)
        repeat' (first | refine xo 4000 rfl ?_ ?_ | refine xw 4000 rfl ?_ ?_ | refine xk 4000 rfl ?_ ?_ | exact trivial | ((with_reducible (show AllP (_ :: _))); refine And.intro ?_ ?_) | refine xs rfl ?_ ?_ | refine xs_done ?_ | refine pcond_t rfl ?_ | refine pcond_f rfl ?_ | refine kround_exit ?_ | refine kround_ret ?_ | refine kround_next ?_ | refine kloop_ret ?_ | refine kloop_exit ?_ | refine kcut_ret ?_ | refine kcut_exit ?_ | refine xo0 4000 rfl ?_ ?_ | refine xw0 4000 rfl ?_ ?_ | exact qq | fail)
        refine pcond rfl ?_ ?_ <;> intro hc3 <;> simp at hc3
        · repeat' (first | refine xo 4000 rfl ?_ ?_ | refine xw 4000 rfl ?_ ?_ | refine xk 4000 rfl ?_ ?_ | exact trivial | ((with_reducible (show AllP (_ :: _))); refine And.intro ?_ ?_) | refine xs rfl ?_ ?_ | refine xs_done ?_ | refine pcond_t rfl ?_ | refine pcond_f rfl ?_ | refine kround_exit ?_ | refine kround_ret ?_ | refine kround_next ?_ | refine kloop_ret ?_ | refine kloop_exit ?_ | refine kcut_ret ?_ | refine kcut_exit ?_ | refine xo0 4000 rfl ?_ ?_ | refine xw0 4000 rfl ?_ ?_ | exact qq | fail)
          refine pcond rfl ?_ ?_ <;> intro hc4
          · have hc4 : 1000000000000 < (lF dP L j).2 := by
              have := of_decide_eq_true hc4
              rwa [show 0 + ((j : Nat) : Int).toNat = j by omega] at this
            repeat' (first | refine xo 4000 rfl ?_ ?_ | refine xw 4000 rfl ?_ ?_ | refine xk 4000 rfl ?_ ?_ | exact trivial | ((with_reducible (show AllP (_ :: _))); refine And.intro ?_ ?_) | refine xs rfl ?_ ?_ | refine xs_done ?_ | refine pcond_t rfl ?_ | refine pcond_f rfl ?_ | refine kround_exit ?_ | refine kround_ret ?_ | refine kround_next ?_ | refine kloop_ret ?_ | refine kloop_exit ?_ | refine kcut_ret ?_ | refine kcut_exit ?_ | refine xo0 4000 rfl ?_ ?_ | refine xw0 4000 rfl ?_ ?_ | exact qq | fail)
            refine xdone ?_
            refine kret [] rfl ⟨trivial, trivial, trivial⟩ (qs := [vPs 0 (lF dP []), vi 4]) ⟨argNil, argVal, trivial⟩ ?_
            exact ⟨[], 4, rfl, .inr ⟨hX ▸ h0, .inr ⟨rfl, rfl, (lF dP L j).1, by rw [← hQ.val _ (hQ.at (a := j) (by omega))]; exact hc4⟩⟩⟩
          · have hc4 : (lF dP L j).2 ≤ 1000000000000 := by
              have := of_decide_eq_false hc4
              rw [show 0 + ((j : Nat) : Int).toNat = j by omega] at this
              omega
            repeat' (first | refine xo 4000 rfl ?_ ?_ | refine xw 4000 rfl ?_ ?_ | refine xk 4000 rfl ?_ ?_ | exact trivial | ((with_reducible (show AllP (_ :: _))); refine And.intro ?_ ?_) | refine xs rfl ?_ ?_ | refine xs_done ?_ | refine pcond_t rfl ?_ | refine pcond_f rfl ?_ | refine kround_exit ?_ | refine kround_ret ?_ | refine kround_next ?_ | refine kloop_ret ?_ | refine kloop_exit ?_ | refine kcut_ret ?_ | refine kcut_exit ?_ | refine xo0 4000 rfl ?_ ?_ | refine xw0 4000 rfl ?_ ?_ | exact qq | fail)
            rw [hwj]
            exact kloop_next (st' := ⟨[(6, slP (k + 1) 0), (10, vi ((j + 1 : Nat) : Int))], [vRow cP 2 (k + 1) (lF dP L)]⟩) (k + 1 - (j + 1)) (can_rowsv [0] (k0_sel hk rfl) rfl (by (repeat (refine SelV.cons rfl rqq ?_)); exact SelV.nil) tmq) (by omega) ⟨j + 1, by omega, fun a ha => by
              by_cases e : a = j
              · subst e; exact hc4
              · exact hle a (by omega), rfl, rfl⟩
        · repeat' (first | refine xo 4000 rfl ?_ ?_ | refine xw 4000 rfl ?_ ?_ | refine xk 4000 rfl ?_ ?_ | exact trivial | ((with_reducible (show AllP (_ :: _))); refine And.intro ?_ ?_) | refine xs rfl ?_ ?_ | refine xs_done ?_ | refine pcond_t rfl ?_ | refine pcond_f rfl ?_ | refine kround_exit ?_ | refine kround_ret ?_ | refine kround_next ?_ | refine kloop_ret ?_ | refine kloop_exit ?_ | refine kcut_ret ?_ | refine kcut_exit ?_ | refine xo0 4000 rfl ?_ ?_ | refine xw0 4000 rfl ?_ ?_ | exact qq | fail)
          refine xdone ?_
          refine kret [0] rfl ⟨trivial, trivial, trivial⟩ (qs := [vPs (k + 1) (lF dP L), vi 0]) ⟨arg_o (s := .own) cP_cl rfl trivial (List.Mem.head _), argVal, trivial⟩ ?_
          refine ⟨L, 0, by rw [hlk]; rfl, .inr ⟨hX ▸ h0, .inl ⟨rfl, hQ.srt, hQ.occ, fun p hp => ⟨hQ.val p hp, ?_⟩⟩⟩⟩
          obtain ⟨q, hq, e⟩ := List.getElem_of_mem hp
          have := hle q (by omega)
          unfold lF at this
          rw [List.getD_eq_getElem?_getD, List.getElem?_eq_getElem hq, e] at this
          exact this
end Go.Proofs.Ytnjikclflfioeaa
