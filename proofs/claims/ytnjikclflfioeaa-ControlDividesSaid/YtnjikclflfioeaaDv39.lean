/- payrolllaw39: ControlDivides. -/
import Derived.Test.YtnjikclflfioeaaSpl
import Derived.Test.YtnjikclflfioeaaKp39
set_option linter.unusedSimpArgs false
set_option linter.unusedVariables false
set_option maxRecDepth 100000
namespace Go.Proofs.Ytnjikclflfioeaa
theorem sumN_app (a : Nat) (f : Nat → Int) : ∀ b, sumN (a + b) f = sumN a f + sumN b (fun i => f (a + i))
  | 0 => by simp [sumN]
  | b + 1 => by rw [← Nat.add_assoc, sumN, sumN_app a f b, sumN]; omega
theorem tot_ok {n : Nat} {f : Nat → Pay} (h1 : n ≤ 4096) (h2 : ∀ i, i < n → payOk (f i) = true) : ctlOk ((n : Int), sumN n (fun i => (f i).2), sumN n (fun i => (f i).1)) = true := by
  obtain ⟨a1, a2, a3, a4⟩ := of_bd h1 (Nat.le_refl n) h2
  have b1 := sumN_le (n := n) (f := fun _ => 1) (g := fun i => (f i).2) fun i hi => by have := payOk_iff.1 (h2 i hi); omega
  have b2 := sumN_le (n := n) (f := fun _ => 1) (g := fun i => (f i).1) fun i hi => by have := payOk_iff.1 (h2 i hi); omega
  rw [sumN_const] at b1 b2
  rw [ctlOk_iff]; simp only; omega
set_option maxHeartbeats 4000000 in
theorem divides_c (n : Nat) (g : Nat → Int) (most : Int) (hn : n ≤ 9223372036854775807) : PureC G.P 8 [.vsl n 1 (tI g), vi most] (fun r => r = vb true) := by
  have haw := awake39_c ksorted
  refine pure_of (G := G.toPg) (fn := Try.f8) Try.func8 rfl rfl rfl ?_; intro Γ hk
  repeat' (first | refine xo 4000 rfl ?_ ?_ | refine xw 4000 rfl ?_ ?_ | refine xk 4000 rfl ?_ ?_ | exact trivial | ((with_reducible (show AllP (_ :: _))); refine And.intro ?_ ?_) | refine xs rfl ?_ ?_ | refine xs_done ?_ | refine pcond_t rfl ?_ | refine pcond_f rfl ?_ | refine kround_exit ?_ | refine kround_ret ?_ | refine kround_next ?_ | refine kloop_ret ?_ | refine kloop_exit ?_ | refine kcut_ret ?_ | refine kcut_exit ?_ | refine xo0 4000 rfl ?_ ?_ | refine xw0 4000 rfl ?_ ?_ | exact qq | fail)
  refine pop_rowsc [] rfl rfl rfl rfl rfl rfl .nil (dnew_c n g) (by exact ⟨PEq.refl _, trivial⟩) ?_
  rintro r rows ⟨rfl, rfl⟩
  refine ⟨_, _, rfl, ⟨tape_cl _ _ _, trivial⟩, rfl, ?_⟩
  repeat' (first | refine xo 4000 rfl ?_ ?_ | refine xw 4000 rfl ?_ ?_ | refine xk 4000 rfl ?_ ?_ | exact trivial | ((with_reducible (show AllP (_ :: _))); refine And.intro ?_ ?_) | refine xs rfl ?_ ?_ | refine xs_done ?_ | refine pcond_t rfl ?_ | refine pcond_f rfl ?_ | refine kround_exit ?_ | refine kround_ret ?_ | refine kround_next ?_ | refine kloop_ret ?_ | refine kloop_exit ?_ | refine kcut_ret ?_ | refine kcut_exit ?_ | refine xo0 4000 rfl ?_ ?_ | refine xw0 4000 rfl ?_ ?_ | exact qq | fail)
  refine pop_dek (G := G) rfl rfl rfl rfl rfl rfl rfl rfl (fun _ => rfl) (dpays_t 12 (by omega)) hn (by omega) (by omega) rfl rfl ?_; rintro at_ _ b1 b2 ⟨l, rfl, hl⟩
  obtain ⟨hl6, hl7⟩ := hl
  have hok : ∀ i, i < l.length → payOk (lF dP l i) = true := fun i hi => PLs.at ⟨hl6, hl7⟩ hi
  generalize lF dP l = f at *
  generalize l.length = N at *
  have e0 := Int.emod_nonneg most (show (5 : Int) ≠ 0 by omega)
  have e1 := Int.emod_lt_of_pos most (show (0 : Int) < 5 by omega)
  have m1 := dmod_c most 5 (by omega) (by omega)
  generalize most % 5 = mm at *
  have hw1 : IntKind.i64.wrap (1 + mm) = 1 + mm := w64 (by omega) (by omega)
  obtain ⟨m, hm⟩ : ∃ m : Nat, 1 + mm = m := ⟨(1 + mm).toNat, by omega⟩
  have hm1 : 1 ≤ m := by omega
  have hm5 : m ≤ 5 := by omega
  have eX := ofS_fine (n := N) (g := f) (by omega) hok
  have q1 := of_c N f (by omega)
  have q2 := split_c N f (m : Int) (by omega) (by omega)
  rw [eX, if_neg (by simp), if_neg (by omega), show ((m : Int)).toNat = m by omega] at q2
  rw [eX] at q1
  repeat' (first | refine xo 4000 rfl ?_ ?_ | refine xw 4000 rfl ?_ ?_ | refine xk 4000 rfl ?_ ?_ | exact trivial | ((with_reducible (show AllP (_ :: _))); refine And.intro ?_ ?_) | refine xs rfl ?_ ?_ | refine xs_done ?_ | refine pop_callv rfl rfl rfl rfl rfl (m1) rfl rfl rfl ?_ | refine xs_call rfl rfl rfl rfl rfl rfl (m1) rfl rfl rfl ?_ | refine xs_one (ch := []) rfl rfl rfl (pst_callv rfl rfl rfl rfl rfl (m1) rfl rfl rfl ?_) | refine pop_callgv rfl rfl rfl rfl rfl rfl (fun _ => m1) (by first | exact fun h => ⟨h, trivial⟩ | exact fun _ => trivial | exact fun h => ⟨h, h, trivial⟩) rfl rfl rfl ?_ | refine xs_one (ch := []) rfl rfl rfl (pst_callgv rfl rfl rfl rfl rfl rfl (fun _ => m1) (by first | exact fun h => ⟨h, trivial⟩ | exact fun _ => trivial | exact fun h => ⟨h, h, trivial⟩) rfl rfl rfl ?_) | refine pcond_t rfl ?_ | refine pcond_f rfl ?_ | refine kround_exit ?_ | refine kround_ret ?_ | refine kround_next ?_ | refine kloop_ret ?_ | refine kloop_exit ?_ | refine kcut_ret ?_ | refine kcut_exit ?_ | refine xo0 4000 rfl ?_ ?_ | refine xw0 4000 rfl ?_ ?_ | exact qq | fail)
  rw [hw1, hm]
  repeat' (first | refine xo 4000 rfl ?_ ?_ | refine xw 4000 rfl ?_ ?_ | refine xk 4000 rfl ?_ ?_ | exact trivial | ((with_reducible (show AllP (_ :: _))); refine And.intro ?_ ?_) | refine xs rfl ?_ ?_ | refine xs_done ?_ | (refine pop_callc [] rfl rfl rfl rfl rfl rfl (fun _ h => by cases h) (q2) (args_cl _ rfl) ?_; rintro _ rfl) | refine pop_callv rfl rfl rfl rfl rfl (q1) rfl rfl rfl ?_ | refine xs_call rfl rfl rfl rfl rfl rfl (q1) rfl rfl rfl ?_ | refine xs_one (ch := []) rfl rfl rfl (pst_callv rfl rfl rfl rfl rfl (q1) rfl rfl rfl ?_) | refine pop_callgv rfl rfl rfl rfl rfl rfl (fun _ => q1) (by first | exact fun h => ⟨h, trivial⟩ | exact fun _ => trivial | exact fun h => ⟨h, h, trivial⟩) rfl rfl rfl ?_ | refine xs_one (ch := []) rfl rfl rfl (pst_callgv rfl rfl rfl rfl rfl rfl (fun _ => q1) (by first | exact fun h => ⟨h, trivial⟩ | exact fun _ => trivial | exact fun h => ⟨h, h, trivial⟩) rfl rfl rfl ?_) | refine pcond_t rfl ?_ | refine pcond_f rfl ?_ | refine kround_exit ?_ | refine kround_ret ?_ | refine kround_next ?_ | refine kloop_ret ?_ | refine kloop_exit ?_ | refine kcut_ret ?_ | refine kcut_exit ?_ | refine xo0 4000 rfl ?_ ?_ | refine xw0 4000 rfl ?_ ?_ | exact qq | fail)
  refine pcan (can_virt (vRow cP 2 0 f) rfl) ?_
  refine pcan (st' := ⟨[(5, vPs N f), (6, vi m), (7, vQs (chN N m) (chF N f m)), (9, .ptr 0 0 0), (11, slP 0 2), (12, .ptr 1 0 0), (13, vi ((0 : Nat) : Int))], [rC ((N : Int), sumN N (fun i => (f i).2), sumN N (fun i => (f i).1)), rC (((0 : Nat) : Int), sumN 0 (fun i => (f i).2), sumN 0 (fun i => (f i).1)), vRow cP 2 0 f]⟩) (can_rowsv [1,2,3] (k0_sel hk rfl) rfl (by (repeat (refine SelV.cons rfl rqq ?_)); exact SelV.nil) tmq) ?_
  refine ploop (fun q st => ∃ i o : Nat, i ≤ chN N m ∧ o = min (i * m) N ∧ q = chN N m - i ∧ st = ⟨[(5, vPs N f), (6, vi m), (7, vQs (chN N m) (chF N f m)), (9, .ptr 0 0 0), (11, slP o 2), (12, .ptr 1 0 0), (13, vi i)], [rC ((N : Int), sumN N (fun i => (f i).2), sumN N (fun i => (f i).1)), rC ((o : Int), sumN o (fun i => (f i).2), sumN o (fun i => (f i).1)), vRow cP 2 o f]⟩) (chN N m) ⟨0, 0, by omega, by simp, rfl, rfl⟩ ?_
  rintro _ _ ⟨i, o, hi, ho, rfl, rfl⟩
  have hN12 : chN N m ≤ 12 := by
    rcases Nat.lt_or_ge 12 (chN N m) with h | h
    · have h1 := (chN_lt hm1).1 h; omega
    · exact h
  repeat' (first | refine xo 4000 rfl ?_ ?_ | refine xw 4000 rfl ?_ ?_ | refine xk 4000 rfl ?_ ?_ | exact trivial | ((with_reducible (show AllP (_ :: _))); refine And.intro ?_ ?_) | refine xs rfl ?_ ?_ | refine xs_done ?_ | refine pcond_t rfl ?_ | refine pcond_f rfl ?_ | refine kround_exit ?_ | refine kround_ret ?_ | refine kround_next ?_ | refine kloop_ret ?_ | refine kloop_exit ?_ | refine kcut_ret ?_ | refine kcut_exit ?_ | refine xo0 4000 rfl ?_ ?_ | refine xw0 4000 rfl ?_ ?_ | exact qq | fail)
  refine pcond rfl ?_ ?_ <;> intro hc <;> simp at hc
  · have him := (chN_lt hm1).1 hc
    have ho2 : o = i * m := by omega
    obtain ⟨K, hK⟩ : ∃ K, K = (chF N f m i).1 := ⟨_, rfl⟩
    have hK1 : K = min m (N - i * m) := hK
    have hcf : ∀ a, (chF N f m i).2 a = f (o + a) := fun a => by rw [ho2]; rfl
    have hok2 : ∀ a, a < K → payOk ((chF N f m i).2 a) = true := fun a ha => by rw [hcf]; exact hok _ (by omega)
    have hs2 : sumN K (fun a => ((chF N f m i).2 a).2) = sumN K (fun a => (f (o + a)).2) := sumN_congr fun a _ => by rw [hcf]
    have hs1 : sumN K (fun a => ((chF N f m i).2 a).1) = sumN K (fun a => (f (o + a)).1) := sumN_congr fun a _ => by rw [hcf]
    have r1 := of_c (chF N f m i).1 (chF N f m i).2 (by rw [← hK]; omega)
    have er : ofS (chF N f m i).1 (chF N f m i).2 = (((K : Int), sumN K (fun a => (f (o + a)).2), sumN K (fun a => (f (o + a)).1)), 0) := by
      rw [ofS_fine (by rw [← hK]; omega) (by rw [← hK]; exact hok2), ← hK, hs1, hs2]
    rw [er] at r1
    have t1 := tot_ok (n := o) (f := f) (by omega) (fun j hj => hok j (by omega))
    have t2 := tot_ok (n := K) (f := fun a => f (o + a)) (by omega) (fun j hj => hok _ (by omega))
    have t3 := tot_ok (n := o + K) (f := f) (by omega) (fun j hj => hok j (by omega))
    have r2 := cadd_c ((o : Int), sumN o (fun i => (f i).2), sumN o (fun i => (f i).1)) ((K : Int), sumN K (fun a => (f (o + a)).2), sumN K (fun a => (f (o + a)).1))
    have e3 : addS ((o : Int), sumN o (fun i => (f i).2), sumN o (fun i => (f i).1)) ((K : Int), sumN K (fun a => (f (o + a)).2), sumN K (fun a => (f (o + a)).1)) = ((((o + K : Nat) : Int), sumN (o + K) (fun i => (f i).2), sumN (o + K) (fun i => (f i).1)), 0) := by
      have hs : (((o : Int) + (K : Int)), sumN o (fun i => (f i).2) + sumN K (fun a => (f (o + a)).2), sumN o (fun i => (f i).1) + sumN K (fun a => (f (o + a)).1)) = (((o + K : Nat) : Int), sumN (o + K) (fun i => (f i).2), sumN (o + K) (fun i => (f i).1)) := by
        rw [sumN_app o (fun i => (f i).2) K, sumN_app o (fun i => (f i).1) K, Int.natCast_add]
      rw [addS, if_pos ⟨t1, t2⟩]
      simp only
      rw [hs, if_pos t3]
    rw [e3] at r2
    have hwi : IntKind.i64.wrap ((i : Int) + 1) = ((i + 1 : Nat) : Int) := by rw [w64 (by omega) (by omega)]; omega
    repeat' (first | refine xo 4000 rfl ?_ ?_ | refine xw 4000 rfl ?_ ?_ | refine xk 4000 rfl ?_ ?_ | exact trivial | ((with_reducible (show AllP (_ :: _))); refine And.intro ?_ ?_) | refine xs rfl ?_ ?_ | refine xs_done ?_ | refine pop_callv rfl rfl rfl rfl rfl (r1) rfl rfl rfl ?_ | refine xs_call rfl rfl rfl rfl rfl rfl (r1) rfl rfl rfl ?_ | refine xs_one (ch := []) rfl rfl rfl (pst_callv rfl rfl rfl rfl rfl (r1) rfl rfl rfl ?_) | refine pop_callgv rfl rfl rfl rfl rfl rfl (fun _ => r1) (by first | exact fun h => ⟨h, trivial⟩ | exact fun _ => trivial | exact fun h => ⟨h, h, trivial⟩) rfl rfl rfl ?_ | refine xs_one (ch := []) rfl rfl rfl (pst_callgv rfl rfl rfl rfl rfl rfl (fun _ => r1) (by first | exact fun h => ⟨h, trivial⟩ | exact fun _ => trivial | exact fun h => ⟨h, h, trivial⟩) rfl rfl rfl ?_) | refine pop_callv rfl rfl rfl rfl rfl (r2) rfl rfl rfl ?_ | refine xs_call rfl rfl rfl rfl rfl rfl (r2) rfl rfl rfl ?_ | refine xs_one (ch := []) rfl rfl rfl (pst_callv rfl rfl rfl rfl rfl (r2) rfl rfl rfl ?_) | refine pop_callgv rfl rfl rfl rfl rfl rfl (fun _ => r2) (by first | exact fun h => ⟨h, trivial⟩ | exact fun _ => trivial | exact fun h => ⟨h, h, trivial⟩) rfl rfl rfl ?_ | refine xs_one (ch := []) rfl rfl rfl (pst_callgv rfl rfl rfl rfl rfl rfl (fun _ => r2) (by first | exact fun h => ⟨h, trivial⟩ | exact fun _ => trivial | exact fun h => ⟨h, h, trivial⟩) rfl rfl rfl ?_) | refine pcond_t rfl ?_ | refine pcond_f rfl ?_ | refine kround_exit ?_ | refine kround_ret ?_ | refine kround_next ?_ | refine kloop_ret ?_ | refine kloop_exit ?_ | refine kcut_ret ?_ | refine kcut_exit ?_ | refine xo0 4000 rfl ?_ ?_ | refine xw0 4000 rfl ?_ ?_ | exact qq | fail)
    refine pcond rfl ?_ ?_ <;> intro hc2
    · exfalso
      simp at hc2
      have h1 : (m : Int) < (K : Int) ∨ (K : Int) = 0 := by
        rw [hK]
        rcases hc2 with h | h
        · exact .inl (by exact_mod_cast h)
        · exact .inr (by exact_mod_cast h)
      omega
    · obtain ⟨K', hK'⟩ : ∃ K', K = K' + 1 := ⟨K - 1, by omega⟩
      have hmin : (chF N f m ((i : Int)).toNat).1 = K' + 1 := by rw [Int.toNat_natCast, ← hK]; exact hK'
      have hb16 : (o + (K' + 1)) * 16 ≤ 140737488355328 := by omega
      rcases o with _ | o
      · repeat' (first | refine xo 4000 rfl ?_ ?_ | refine xw 4000 rfl ?_ ?_ | refine xk 4000 rfl ?_ ?_ | exact trivial | ((with_reducible (show AllP (_ :: _))); refine And.intro ?_ ?_) | refine xs rfl ?_ ?_ | refine xs_done ?_ | refine pcond_t rfl ?_ | refine pcond_f rfl ?_ | refine kround_exit ?_ | refine kround_ret ?_ | refine kround_next ?_ | refine kloop_ret ?_ | refine kloop_exit ?_ | refine kcut_ret ?_ | refine kcut_exit ?_ | refine xo0 4000 rfl ?_ ?_ | refine xw0 4000 rfl ?_ ?_ | exact qq | fail)
        all_goals first
          | exact ⟨trivial, (show 0 < (chF N f m ((i : Int)).toNat).1 from by rw [hmin]; omega), (show (chF N f m ((i : Int)).toNat).1 * 16 ≤ 140737488355328 from by rw [hmin]; omega), (show (chF N f m ((i : Int)).toNat).1 ≤ 9223372036854775807 from by rw [hmin]; omega)⟩
          | skip
        refine xdone ?_
        rw [hwi, hmin, show 0 + K = K' + 1 by omega]
        exact kloop_next (st' := ⟨[(5, vPs N f), (6, vi m), (7, vQs (chN N m) (chF N f m)), (9, .ptr 0 0 0), (11, slP (K' + 1) 2), (12, .ptr 1 0 0), (13, vi ((i + 1 : Nat) : Int))], [rC ((N : Int), sumN N (fun i => (f i).2), sumN N (fun i => (f i).1)), rC (((K' + 1 : Nat) : Int), sumN (K' + 1) (fun i => (f i).2), sumN (K' + 1) (fun i => (f i).1)), vRow cP 2 (K' + 1) f]⟩) (chN N m - (i + 1)) (can_rowsv [0, 1, 5] (k0_sel hk rfl) rfl (.cons rfl rqq (.cons rfl rqq (.cons rfl (o_eq cP_cl (Nat.le_refl _) (fun a ha b hb => by
          show nthP (cP ((chF N f m i).2 a)) b = nthP (cP (f a)) b
          rw [hcf, Nat.zero_add])) .nil))) tmq) (by omega) ⟨i + 1, K' + 1, by omega, by rw [Nat.add_mul]; omega, rfl, rfl⟩
      · repeat' (first | refine xo 4000 rfl ?_ ?_ | refine xw 4000 rfl ?_ ?_ | refine xk 4000 rfl ?_ ?_ | exact trivial | ((with_reducible (show AllP (_ :: _))); refine And.intro ?_ ?_) | refine xs rfl ?_ ?_ | refine xs_done ?_ | refine pcond_t rfl ?_ | refine pcond_f rfl ?_ | refine kround_exit ?_ | refine kround_ret ?_ | refine kround_next ?_ | refine kloop_ret ?_ | refine kloop_exit ?_ | refine kcut_ret ?_ | refine kcut_exit ?_ | refine xo0 4000 rfl ?_ ?_ | refine xw0 4000 rfl ?_ ?_ | exact qq | fail)
        all_goals first
          | exact ⟨trivial, (by rw [hk]; exact Nat.zero_le _), Nat.le_of_eq (Nat.zero_add _), (show (o + 1 + (chF N f m ((i : Int)).toNat).1) * 16 ≤ 140737488355328 from by rw [hmin]; omega), (show o + 1 + (chF N f m ((i : Int)).toNat).1 ≤ 9223372036854775807 from by rw [hmin]; omega)⟩
          | skip
        refine xdone ?_
        rw [hwi, hmin, show o + 1 + K = o + 1 + (K' + 1) by omega]
        exact kloop_next (st' := ⟨[(5, vPs N f), (6, vi m), (7, vQs (chN N m) (chF N f m)), (9, .ptr 0 0 0), (11, slP (o + 1 + (K' + 1)) 2), (12, .ptr 1 0 0), (13, vi ((i + 1 : Nat) : Int))], [rC ((N : Int), sumN N (fun i => (f i).2), sumN N (fun i => (f i).1)), rC (((o + 1 + (K' + 1) : Nat) : Int), sumN (o + 1 + (K' + 1)) (fun i => (f i).2), sumN (o + 1 + (K' + 1)) (fun i => (f i).1)), vRow cP 2 (o + 1 + (K' + 1)) f]⟩) (chN N m - (i + 1)) (can_rowsv [0, 1, 5] (k0_sel hk rfl) rfl (.cons rfl (var_eq ⟨PEq.refl _, PEq.refl _, PEq.refl _, trivial⟩) (.cons rfl (var_eq ⟨PEq.refl _, PEq.refl _, PEq.refl _, trivial⟩) (.cons rfl (o_eq cP_cl (Nat.le_refl _) (fun a ha b hb => by
          show appF (o + 1) (fun x => tF cP f (0 + x)) (tF cP (chF N f m i).2) a b = nthP (cP (f a)) b
          by_cases e : a < o + 1
          · rw [appF_lt _ _ e, Nat.zero_add]; rfl
          · rw [appF_ge _ _ (by omega)]
            show nthP (cP ((chF N f m i).2 (a - (o + 1)))) b = _
            rw [hcf, show o + 1 + (a - (o + 1)) = a by omega])) .nil))) tmq) (by omega) ⟨i + 1, o + 1 + (K' + 1), by omega, by rw [Nat.add_mul]; omega, rfl, rfl⟩
  · have hin : i = chN N m := by omega
    have hoN : o = N := by
      rcases Nat.lt_or_ge (i * m) N with h | h
      · have := (chN_lt hm1).2 h; omega
      · omega
    subst hoN
    refine pcan (can_frz [2] (by intro _ _; rw [hk]; exact Nat.zero_le _) rfl (tm := [(5, vPs o f), (9, .ptr 0 0 0), (11, vPs o f), (12, .ptr 1 0 0)]) (by exact ⟨.inl rfl, .inl rfl, .inr (arg_v cP_cl rfl (List.Mem.head _)), .inl rfl, trivial⟩)) ?_
    have q3 := same39_c o o f f (by omega) ⟨rfl, fun _ _ => rfl⟩
    repeat' (first | refine xo 4000 rfl ?_ ?_ | refine xw 4000 rfl ?_ ?_ | refine xk 4000 rfl ?_ ?_ | exact trivial | ((with_reducible (show AllP (_ :: _))); refine And.intro ?_ ?_) | refine xs rfl ?_ ?_ | refine xs_done ?_ | refine pop_callv rfl rfl rfl rfl rfl (q3) rfl rfl rfl ?_ | refine xs_call rfl rfl rfl rfl rfl rfl (q3) rfl rfl rfl ?_ | refine xs_one (ch := []) rfl rfl rfl (pst_callv rfl rfl rfl rfl rfl (q3) rfl rfl rfl ?_) | refine pop_callgv rfl rfl rfl rfl rfl rfl (fun _ => q3) (by first | exact fun h => ⟨h, trivial⟩ | exact fun _ => trivial | exact fun h => ⟨h, h, trivial⟩) rfl rfl rfl ?_ | refine xs_one (ch := []) rfl rfl rfl (pst_callgv rfl rfl rfl rfl rfl rfl (fun _ => q3) (by first | exact fun h => ⟨h, trivial⟩ | exact fun _ => trivial | exact fun h => ⟨h, h, trivial⟩) rfl rfl rfl ?_) | refine pop_callv rfl rfl rfl rfl rfl (haw) rfl rfl rfl ?_ | refine xs_call rfl rfl rfl rfl rfl rfl (haw) rfl rfl rfl ?_ | refine xs_one (ch := []) rfl rfl rfl (pst_callv rfl rfl rfl rfl rfl (haw) rfl rfl rfl ?_) | refine pop_callgv rfl rfl rfl rfl rfl rfl (fun _ => haw) (by first | exact fun h => ⟨h, trivial⟩ | exact fun _ => trivial | exact fun h => ⟨h, h, trivial⟩) rfl rfl rfl ?_ | refine xs_one (ch := []) rfl rfl rfl (pst_callgv rfl rfl rfl rfl rfl rfl (fun _ => haw) (by first | exact fun h => ⟨h, trivial⟩ | exact fun _ => trivial | exact fun h => ⟨h, h, trivial⟩) rfl rfl rfl ?_) | refine pcond_t rfl ?_ | refine pcond_f rfl ?_ | refine kround_exit ?_ | refine kround_ret ?_ | refine kround_next ?_ | refine kloop_ret ?_ | refine kloop_exit ?_ | refine kcut_ret ?_ | refine kcut_exit ?_ | refine xo0 4000 rfl ?_ ?_ | refine xw0 4000 rfl ?_ ?_ | exact qq | fail)
    refine xdone ?_
    refine kretv rfl ⟨trivial, trivial⟩ rfl (eqB ?_)
    simp
theorem divides_walk (v : Value) (l : List Int) (a : Int) (w : World) (h : IntsAt w v l) :
    Calls G.P 8 #[v, .int .i64 a] w fun e w' => e = .returned (.bool true) ∧ Ext w w' := by
  have hl : l.length ≤ 9223372036854775807 := by obtain ⟨_, _, _, _, h, _⟩ := h; exact h
  exact law_of (divides_c l.length _ a hl) ⟨h.rel _, rfl, trivial⟩
end Go.Proofs.Ytnjikclflfioeaa
