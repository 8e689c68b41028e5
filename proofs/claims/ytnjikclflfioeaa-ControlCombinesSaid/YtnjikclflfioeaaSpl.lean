/- control.Split. -/
import Derived.Test.YtnjikclflfioeaaCt0
set_option linter.unusedSimpArgs false
set_option linter.unusedVariables false
set_option maxRecDepth 100000
namespace Go.Proofs.Ytnjikclflfioeaa
theorem clone39_c (n : Nat) (g : Nat → Pay) (hn : n ≤ 1000000) : PureC G.P 30 [vPs n g] (fun r => r = vPs n g) := by
  refine pure_of (G := G.toPg) (fn := Try.f30) Try.func30 rfl rfl rfl ?_; intro Γ hk
  repeat' (first | refine xo 4000 rfl ?_ ?_ | refine xw 4000 rfl ?_ ?_ | refine xk 4000 rfl ?_ ?_ | exact trivial | ((with_reducible (show AllP (_ :: _))); refine And.intro ?_ ?_) | refine xs rfl ?_ ?_ | refine xs_done ?_ | refine pcond_t rfl ?_ | refine pcond_f rfl ?_ | refine kround_exit ?_ | refine kround_ret ?_ | refine kround_next ?_ | refine kloop_ret ?_ | refine kloop_exit ?_ | refine kcut_ret ?_ | refine kcut_exit ?_ | refine xo0 4000 rfl ?_ ?_ | refine xw0 4000 rfl ?_ ?_ | exact qq | fail)
  refine pop_nileq (n := n) rfl rfl rfl rfl rfl rfl (fun c => .inl (by intro h; cases h)) ?_
  intro b hb
  repeat' (first | refine xo 4000 rfl ?_ ?_ | refine xw 4000 rfl ?_ ?_ | refine xk 4000 rfl ?_ ?_ | exact trivial | ((with_reducible (show AllP (_ :: _))); refine And.intro ?_ ?_) | refine xs rfl ?_ ?_ | refine xs_done ?_ | refine pcond_t rfl ?_ | refine pcond_f rfl ?_ | refine kround_exit ?_ | refine kround_ret ?_ | refine kround_next ?_ | refine kloop_ret ?_ | refine kloop_exit ?_ | refine kcut_ret ?_ | refine kcut_exit ?_ | refine xo0 4000 rfl ?_ ?_ | refine xw0 4000 rfl ?_ ?_ | exact qq | fail)
  refine pcond rfl ?_ ?_ <;> intro hc
  · have h0 : n = 0 := by
      by_cases h : 0 < n
      · rw [hb h] at hc; cases hc
      · omega
    subst h0
    repeat' (first | refine xo 4000 rfl ?_ ?_ | refine xw 4000 rfl ?_ ?_ | refine xk 4000 rfl ?_ ?_ | exact trivial | ((with_reducible (show AllP (_ :: _))); refine And.intro ?_ ?_) | refine xs rfl ?_ ?_ | refine xs_done ?_ | refine pcond_t rfl ?_ | refine pcond_f rfl ?_ | refine kround_exit ?_ | refine kround_ret ?_ | refine kround_next ?_ | refine kloop_ret ?_ | refine kloop_exit ?_ | refine kcut_ret ?_ | refine kcut_exit ?_ | refine xo0 4000 rfl ?_ ?_ | refine xw0 4000 rfl ?_ ?_ | exact qq | fail)
    refine xdone ?_
    refine kret [] rfl ⟨trivial, trivial⟩ (qs := [vPs 0 g]) ⟨argNil, trivial⟩ ?_
    rfl
  · repeat' (first | refine xo 4000 rfl ?_ ?_ | refine xw 4000 rfl ?_ ?_ | refine xk 4000 rfl ?_ ?_ | exact trivial | ((with_reducible (show AllP (_ :: _))); refine And.intro ?_ ?_) | refine xs rfl ?_ ?_ | refine xs_done ?_ | exact ⟨trivial, (by rw [hk]; exact Nat.zero_le _), Nat.le_refl _, (show (0 + n : Nat) * 16 ≤ 140737488355328 from by omega), (show (0 + n : Nat) ≤ 9223372036854775807 from by omega)⟩ | refine pcond_t rfl ?_ | refine pcond_f rfl ?_ | refine kround_exit ?_ | refine kround_ret ?_ | refine kround_next ?_ | refine kloop_ret ?_ | refine kloop_exit ?_ | refine kcut_ret ?_ | refine kcut_exit ?_ | refine xo0 4000 rfl ?_ ?_ | refine xw0 4000 rfl ?_ ?_ | exact qq | fail)
    refine xdone ?_
    rw [Nat.zero_add n]
    refine kret [1] rfl ⟨trivial, trivial⟩ (qs := [vPs n g]) ⟨argLsl (r := ⟨.own, false, n, 2, _⟩) (f := tF cP g) rfl trivial (List.Mem.head _) (Nat.le_of_eq (Nat.zero_add _)) (fun a ha b hb => ⟨?_, tF_cl cP_cl g a b⟩), trivial⟩ ?_
    · dsimp only
      rw [Nat.zero_add a, appF_ge _ _ (Nat.zero_le _)]; rfl
    · rfl
/-- a list of payments among others -/
abbrev cQ (x : Nat × (Nat → Pay)) : List PV := [vPs x.1 x.2]
theorem cQ_cl : CellsCl cQ := fun _ => ⟨trivial, trivial⟩
/-- the pieces of a list: of m each -/
def chN (n m : Nat) : Nat := (n + m - 1) / m
def chF (n : Nat) (g : Nat → Pay) (m i : Nat) : Nat × (Nat → Pay) := (min m (n - i * m), fun a => g (i * m + a))
abbrev vQs (k : Nat) (G : Nat → Nat × (Nat → Pay)) : PV := .vsl k 1 (tF cQ G)
theorem chN_lt {n m i : Nat} (hm : 1 ≤ m) : i < chN n m ↔ i * m < n := by
  unfold chN
  rw [Nat.lt_iff_add_one_le, Nat.le_div_iff_mul_le (by omega), Nat.add_mul]
  omega
theorem split_c (n : Nat) (g : Nat → Pay) (most : Int) (hn : n ≤ 9223372036854775807) (hm0 : most ≤ 9223372036854775807) : PureC G.P 21 [vPs n g, vi most] (fun r => 
    r = (if (ofS n g).2 ≠ 0 then .tup 2 (nthP [vQs 0 (chF n g most.toNat), vi (ofS n g).2]) else if most < 1 then .tup 2 (nthP [vQs 0 (chF n g most.toNat), vi 2]) else .tup 2 (nthP [vQs (chN n most.toNat) (chF n g most.toNat), vi 0]))) := by
  have ho := of_c n g hn
  have hz : (ofS n g).2 = 0 → n ≤ 4096 := fun h => by
    unfold ofS at h
    split at h
    · cases h
    · omega
  generalize ofS n g = X at *
  refine pure_of (G := G.toPg) (fn := Try.f21) Try.func21 rfl rfl rfl ?_; intro Γ hk
  repeat' (first | refine xo 4000 rfl ?_ ?_ | refine xw 4000 rfl ?_ ?_ | refine xk 4000 rfl ?_ ?_ | exact trivial | ((with_reducible (show AllP (_ :: _))); refine And.intro ?_ ?_) | refine xs rfl ?_ ?_ | refine xs_done ?_ | refine pop_callv rfl rfl rfl rfl rfl (ho) rfl rfl rfl ?_ | refine xs_call rfl rfl rfl rfl rfl rfl (ho) rfl rfl rfl ?_ | refine xs_one (ch := []) rfl rfl rfl (pst_callv rfl rfl rfl rfl rfl (ho) rfl rfl rfl ?_) | refine pop_callgv rfl rfl rfl rfl rfl rfl (fun _ => ho) (by first | exact fun h => ⟨h, trivial⟩ | exact fun _ => trivial | exact fun h => ⟨h, h, trivial⟩) rfl rfl rfl ?_ | refine xs_one (ch := []) rfl rfl rfl (pst_callgv rfl rfl rfl rfl rfl rfl (fun _ => ho) (by first | exact fun h => ⟨h, trivial⟩ | exact fun _ => trivial | exact fun h => ⟨h, h, trivial⟩) rfl rfl rfl ?_) | refine pcond_t rfl ?_ | refine pcond_f rfl ?_ | refine kround_exit ?_ | refine kround_ret ?_ | refine kround_next ?_ | refine kloop_ret ?_ | refine kloop_exit ?_ | refine kcut_ret ?_ | refine kcut_exit ?_ | refine xo0 4000 rfl ?_ ?_ | refine xw0 4000 rfl ?_ ?_ | exact qq | fail)
  refine pcond rfl ?_ ?_ <;> intro hc
  · have h0 : X.2 ≠ 0 := by simpa using hc
    repeat' (first | refine xo 4000 rfl ?_ ?_ | refine xw 4000 rfl ?_ ?_ | refine xk 4000 rfl ?_ ?_ | exact trivial | ((with_reducible (show AllP (_ :: _))); refine And.intro ?_ ?_) | refine xs rfl ?_ ?_ | refine xs_done ?_ | refine pcond_t rfl ?_ | refine pcond_f rfl ?_ | refine kround_exit ?_ | refine kround_ret ?_ | refine kround_next ?_ | refine kloop_ret ?_ | refine kloop_exit ?_ | refine kcut_ret ?_ | refine kcut_exit ?_ | refine xo0 4000 rfl ?_ ?_ | refine xw0 4000 rfl ?_ ?_ | exact qq | fail)
    refine xdone ?_
    refine kret [] rfl ⟨trivial, trivial, trivial⟩ (qs := [vQs 0 (chF n g most.toNat), vi X.2]) ⟨argNil, argVal, trivial⟩ ?_
    rw [if_pos h0]; rfl
  · have h0 : X.2 = 0 := by simpa using hc
    have hn1 := hz h0
    rw [if_neg (by omega)]
    repeat' (first | refine xo 4000 rfl ?_ ?_ | refine xw 4000 rfl ?_ ?_ | refine xk 4000 rfl ?_ ?_ | exact trivial | ((with_reducible (show AllP (_ :: _))); refine And.intro ?_ ?_) | refine xs rfl ?_ ?_ | refine xs_done ?_ | refine pcond_t rfl ?_ | refine pcond_f rfl ?_ | refine kround_exit ?_ | refine kround_ret ?_ | refine kround_next ?_ | refine kloop_ret ?_ | refine kloop_exit ?_ | refine kcut_ret ?_ | refine kcut_exit ?_ | refine xo0 4000 rfl ?_ ?_ | refine xw0 4000 rfl ?_ ?_ | exact qq | fail)
    refine pcond rfl ?_ ?_ <;> intro hc2 <;> simp at hc2
    · repeat' (first | refine xo 4000 rfl ?_ ?_ | refine xw 4000 rfl ?_ ?_ | refine xk 4000 rfl ?_ ?_ | exact trivial | ((with_reducible (show AllP (_ :: _))); refine And.intro ?_ ?_) | refine xs rfl ?_ ?_ | refine xs_done ?_ | refine pcond_t rfl ?_ | refine pcond_f rfl ?_ | refine kround_exit ?_ | refine kround_ret ?_ | refine kround_next ?_ | refine kloop_ret ?_ | refine kloop_exit ?_ | refine kcut_ret ?_ | refine kcut_exit ?_ | refine xo0 4000 rfl ?_ ?_ | refine xw0 4000 rfl ?_ ?_ | exact qq | fail)
      refine xdone ?_
      refine kret [] rfl ⟨trivial, trivial, trivial⟩ (qs := [vQs 0 (chF n g most.toNat), vi 2]) ⟨argNil, argVal, trivial⟩ ?_
      rw [if_pos (by omega)]; rfl
    · rw [if_neg (by omega)]
      obtain ⟨m, rfl⟩ : ∃ m : Nat, most = m := ⟨most.toNat, by omega⟩
      have hm : 1 ≤ m := by omega
      rw [show ((m : Int)).toNat = m by omega]
      repeat' (first | refine xo 4000 rfl ?_ ?_ | refine xw 4000 rfl ?_ ?_ | refine xk 4000 rfl ?_ ?_ | exact trivial | ((with_reducible (show AllP (_ :: _))); refine And.intro ?_ ?_) | refine xs rfl ?_ ?_ | refine xs_done ?_ | refine pcond_t rfl ?_ | refine pcond_f rfl ?_ | refine kround_exit ?_ | refine kround_ret ?_ | refine kround_next ?_ | refine kloop_ret ?_ | refine kloop_exit ?_ | refine kcut_ret ?_ | refine kcut_exit ?_ | refine xo0 4000 rfl ?_ ?_ | refine xw0 4000 rfl ?_ ?_ | exact qq | fail)
      refine pcan (can_virt (vRow cQ 1 0 (chF n g m)) rfl) ?_
      refine pcan (st' := ⟨[(0, vPs (n - 0 * m) (fun a => g (0 * m + a))), (1, vi m), (8, slP 0 0)], [vRow cQ 1 0 (chF n g m)]⟩) (can_rowsv [1] (k0_sel hk rfl) rfl (.cons rfl (RowEq.cl (v_cl cQ_cl _ _ _)) .nil) (by exact ⟨peq_vsl (by simp) (fun i hi j hj => by show nthP (cP (g i)) j = nthP (cP (g (0 * m + i))) j; rw [show 0 * m + i = i by omega]), PEq.refl _, PEq.refl _, trivial⟩)) ?_
      refine ploop (fun q st => ∃ j : Nat, (j = 0 ∨ (j - 1) * m < n) ∧ q = n - j * m ∧ st = ⟨[(0, vPs (n - j * m) (fun a => g (j * m + a))), (1, vi m), (8, slP j 0)], [vRow cQ 1 j (chF n g m)]⟩) n ⟨0, .inl rfl, by simp, rfl⟩ ?_
      rintro _ _ ⟨j, hj, rfl, rfl⟩
      repeat' (first | refine xo 4000 rfl ?_ ?_ | refine xw 4000 rfl ?_ ?_ | refine xk 4000 rfl ?_ ?_ | exact trivial | ((with_reducible (show AllP (_ :: _))); refine And.intro ?_ ?_) | refine xs rfl ?_ ?_ | refine xs_done ?_ | refine pcond_t rfl ?_ | refine pcond_f rfl ?_ | refine kround_exit ?_ | refine kround_ret ?_ | refine kround_next ?_ | refine kloop_ret ?_ | refine kloop_exit ?_ | refine kcut_ret ?_ | refine kcut_exit ?_ | refine xo0 4000 rfl ?_ ?_ | refine xw0 4000 rfl ?_ ?_ | exact qq | fail)
      refine pcond rfl ?_ ?_ <;> intro hc3 <;> simp at hc3
      · have hjm : j * m < n := by omega
        have hjm1 : (j + 1) * m = j * m + m := by rw [Nat.add_mul]; omega
        have hjn : j < 4096 := by
          have : j * 1 ≤ j * m := Nat.mul_le_mul_left _ hm
          omega
        obtain ⟨K, hK⟩ : ∃ K, K = (chF n g m j).1 := ⟨_, rfl⟩
        have hK1 : K = min m (n - j * m) := hK
        have hcl : PureC G.P 30 [.vsl ((if ((n - j * m : Nat) : Int) < (m : Int) then ((n - j * m : Nat) : Int) else (m : Int)) - ((0 : Nat) : Int)).toNat 2 (fun a => tF cP (fun a => g (j * m + a)) (((0 : Nat) : Int).toNat + a))] (fun r => r = vPs (chF n g m j).1 (chF n g m j).2) := by
          have e1 : ((if ((n - j * m : Nat) : Int) < (m : Int) then ((n - j * m : Nat) : Int) else (m : Int)) - ((0 : Nat) : Int)).toNat = (chF n g m j).1 := by
            rw [← hK, hK1]; split <;> omega
          have e2 : (fun a => tF cP (fun a => g (j * m + a)) (((0 : Nat) : Int).toNat + a)) = tF cP (chF n g m j).2 := by
            funext a
            show nthP (cP (g (j * m + (0 + a)))) = nthP (cP (g (j * m + a)))
            rw [Nat.zero_add]
          rw [e1, e2]
          exact clone39_c _ _ (by rw [← hK]; omega)
        have hrem : (((n - j * m : Nat) : Int) - (if ((n - j * m : Nat) : Int) < (m : Int) then ((n - j * m : Nat) : Int) else (m : Int))).toNat = n - (j + 1) * m := by split <;> omega
        have hcont : ∀ i, i < (((n - j * m : Nat) : Int) - (if ((n - j * m : Nat) : Int) < (m : Int) then ((n - j * m : Nat) : Int) else (m : Int))).toNat → ∀ b, tF cP (fun a => g (j * m + a)) ((if ((n - j * m : Nat) : Int) < (m : Int) then ((n - j * m : Nat) : Int) else (m : Int)).toNat + i) b = tF cP (fun a => g ((j + 1) * m + a)) i b := fun i hi b => by
          have e : (if ((n - j * m : Nat) : Int) < (m : Int) then ((n - j * m : Nat) : Int) else (m : Int)).toNat = m := by
            revert hi; split <;> intro hi <;> omega
          rw [e]
          show nthP (cP (g (j * m + (m + i)))) b = nthP (cP (g ((j + 1) * m + i))) b
          rw [hjm1, Nat.add_assoc]
        rcases j with _ | j
        · repeat' (first | refine xo 4000 rfl ?_ ?_ | refine xw 4000 rfl ?_ ?_ | refine xk 4000 rfl ?_ ?_ | exact trivial | ((with_reducible (show AllP (_ :: _))); refine And.intro ?_ ?_) | refine xs rfl ?_ ?_ | refine xs_done ?_ | (refine pop_callc [] rfl rfl rfl rfl rfl rfl (fun _ h => by cases h) (hcl) (args_cl _ rfl) ?_; rintro _ rfl) | refine pcond_t rfl ?_ | refine pcond_f rfl ?_ | refine kround_exit ?_ | refine kround_ret ?_ | refine kround_next ?_ | refine kloop_ret ?_ | refine kloop_exit ?_ | refine kcut_ret ?_ | refine kcut_exit ?_ | refine xo0 4000 rfl ?_ ?_ | refine xw0 4000 rfl ?_ ?_ | exact qq | fail)
          all_goals first
            | exact ⟨trivial, trivial, by split <;> omega, by split <;> omega, Int.le_refl _⟩
            | exact ⟨trivial, trivial, by decide, by split <;> omega, by split <;> omega⟩
            | skip
          refine xdone ?_
          refine kloop_next (st' := ⟨[(0, vPs (n - (0 + 1) * m) (fun a => g ((0 + 1) * m + a))), (1, vi m), (8, slP (0 + 1) 0)], [vRow cQ 1 (0 + 1) (chF n g m)]⟩) (n - (0 + 1) * m) (can_rowsv [2] (k0_sel hk rfl) rfl (.cons rfl (app_g0 cQ_cl rfl) .nil) (by exact ⟨peq_vsl (hrem) (fun i hi b hb => hcont i hi b), PEq.refl _, PEq.refl _, trivial⟩)) (by omega) ⟨0 + 1, .inr (by simpa using hjm), rfl, rfl⟩
        · repeat' (first | refine xo 4000 rfl ?_ ?_ | refine xw 4000 rfl ?_ ?_ | refine xk 4000 rfl ?_ ?_ | exact trivial | ((with_reducible (show AllP (_ :: _))); refine And.intro ?_ ?_) | refine xs rfl ?_ ?_ | refine xs_done ?_ | (refine pop_callc [] rfl rfl rfl rfl rfl rfl (fun _ h => by cases h) (hcl) (args_cl _ rfl) ?_; rintro _ rfl) | refine pcond_t rfl ?_ | refine pcond_f rfl ?_ | refine kround_exit ?_ | refine kround_ret ?_ | refine kround_next ?_ | refine kloop_ret ?_ | refine kloop_exit ?_ | refine kcut_ret ?_ | refine kcut_exit ?_ | refine xo0 4000 rfl ?_ ?_ | refine xw0 4000 rfl ?_ ?_ | exact qq | fail)
          all_goals first
            | exact ⟨trivial, trivial, by split <;> omega, by split <;> omega, Int.le_refl _⟩
            | exact ⟨trivial, trivial, by decide, by split <;> omega, by split <;> omega⟩
            | skip
          refine xdone ?_
          refine kloop_next (st' := ⟨[(0, vPs (n - (j + 1 + 1) * m) (fun a => g ((j + 1 + 1) * m + a))), (1, vi m), (8, slP (j + 1 + 1) 0)], [vRow cQ 1 (j + 1 + 1) (chF n g m)]⟩) (n - (j + 1 + 1) * m) (can_rowsv [2] (k0_sel hk rfl) rfl (.cons rfl (app_g cQ_cl rfl rfl) .nil) (by exact ⟨peq_vsl (hrem) (fun i hi b hb => hcont i hi b), PEq.refl _, PEq.refl _, trivial⟩)) (by omega) ⟨j + 1 + 1, .inr (by simpa using hjm), rfl, rfl⟩
      · have hjN : chN n m = j := by
          rcases Nat.lt_trichotomy (chN n m) j with h | h | h
          · exfalso
            rcases hj with rfl | hj
            · omega
            · have h1 : ¬ (j - 1 < chN n m) := by omega
              exact h1 ((chN_lt hm).2 hj)
          · exact h
          · have := (chN_lt hm).1 h; omega
        rcases j with _ | j
        · repeat' (first | refine xo 4000 rfl ?_ ?_ | refine xw 4000 rfl ?_ ?_ | refine xk 4000 rfl ?_ ?_ | exact trivial | ((with_reducible (show AllP (_ :: _))); refine And.intro ?_ ?_) | refine xs rfl ?_ ?_ | refine xs_done ?_ | refine pcond_t rfl ?_ | refine pcond_f rfl ?_ | refine kround_exit ?_ | refine kround_ret ?_ | refine kround_next ?_ | refine kloop_ret ?_ | refine kloop_exit ?_ | refine kcut_ret ?_ | refine kcut_exit ?_ | refine xo0 4000 rfl ?_ ?_ | refine xw0 4000 rfl ?_ ?_ | exact qq | fail)
          refine xdone ?_
          refine kret [] rfl ⟨trivial, trivial, trivial⟩ (qs := [vQs 0 (chF n g m), vi 0]) ⟨argNil, argVal, trivial⟩ ?_
          rw [hjN]; rfl
        · repeat' (first | refine xo 4000 rfl ?_ ?_ | refine xw 4000 rfl ?_ ?_ | refine xk 4000 rfl ?_ ?_ | exact trivial | ((with_reducible (show AllP (_ :: _))); refine And.intro ?_ ?_) | refine xs rfl ?_ ?_ | refine xs_done ?_ | refine pcond_t rfl ?_ | refine pcond_f rfl ?_ | refine kround_exit ?_ | refine kround_ret ?_ | refine kround_next ?_ | refine kloop_ret ?_ | refine kloop_exit ?_ | refine kcut_ret ?_ | refine kcut_exit ?_ | refine xo0 4000 rfl ?_ ?_ | refine xw0 4000 rfl ?_ ?_ | exact qq | fail)
          refine xdone ?_
          refine kret [0] rfl ⟨trivial, trivial, trivial⟩ (qs := [vQs (j + 1) (chF n g m), vi 0]) ⟨arg_o (s := .own) cQ_cl rfl trivial (List.Mem.head _), argVal, trivial⟩ ?_
          rw [hjN]; rfl
end Go.Proofs.Ytnjikclflfioeaa
