/- payrolllaw39: ControlLimits. -/
import Derived.Test.YtnjikclflfioeaaSpl
import Derived.Test.YtnjikclflfioeaaKp39
set_option linter.unusedSimpArgs false
set_option linter.unusedVariables false
set_option maxRecDepth 100000
namespace Go.Proofs.Ytnjikclflfioeaa
def onesP : Nat → Pay := fun _ => (1, 1)
def upO (i : Nat) (a : Nat) : Pay := if a < i then (1, 1) else (0, 0)
theorem sumE_one (n : Nat) (q : Int) : sumE n onesP q = if q = 1 then (n : Int) else 0 := by
  by_cases h : q = 1
  · subst h
    have : sumE n onesP 1 = sumN n (fun _ => 1) := sumN_congr fun i _ => rfl
    rw [this, sumN_const, if_pos rfl]; omega
  · have : sumE n onesP q = sumN n (fun _ => 0) := sumN_congr fun i _ => if_neg fun e => h e.symm
    rw [this, sumN_const, if_neg h]; omega
theorem comb_one {n : Nat} (h1 : 1 ≤ n) (h2 : n ≤ 4096) : CombR n onesP [(1, (n : Int))] := ⟨by simp, fun k => by
  constructor
  · intro h; simp at h; exact ⟨0, by omega, h.symm⟩
  · rintro ⟨i, _, e⟩; simp; exact e.symm, fun p hp => by
  simp at hp; subst hp
  rw [sumE_one, if_pos rfl]; exact ⟨rfl, by simp only; omega⟩⟩
theorem one_ok (n : Nat) : ∀ i, i < n → payOk (onesP i) = true := fun i _ => by show payOk (1, 1) = true; decide
theorem sum_one (n : Nat) : sumN n (fun i => (onesP i).2) = n ∧ sumN n (fun i => (onesP i).1) = n := by
  have h1 : sumN n (fun i => (onesP i).2) = sumN n (fun _ => 1) := rfl
  have h2 : sumN n (fun i => (onesP i).1) = sumN n (fun _ => 1) := rfl
  rw [h1, h2, sumN_const]; omega
set_option maxHeartbeats 4000000 in
theorem limits_c (n0 : Int) : PureC G.P 7 [vi n0] (fun r => r = vb true) := by
  have haw := awake39_c ksorted
  have e0 := Int.emod_nonneg n0 (show (3 : Int) ≠ 0 by omega)
  have e1 := Int.emod_lt_of_pos n0 (show (0 : Int) < 3 by omega)
  have m1 := dmod_c n0 3 (by omega) (by omega)
  generalize n0 % 3 = mm at *
  have hw1 : IntKind.i64.wrap (4095 + mm) = 4095 + mm := w64 (by omega) (by omega)
  obtain ⟨k, hk0⟩ : ∃ k : Nat, 4095 + mm = k := ⟨(4095 + mm).toNat, by omega⟩
  refine pure_of (G := G.toPg) (fn := Try.f7) Try.func7 rfl rfl rfl ?_; intro Γ hk
  repeat' (first | refine xo 4000 rfl ?_ ?_ | refine xw 4000 rfl ?_ ?_ | refine xk 4000 rfl ?_ ?_ | exact trivial | ((with_reducible (show AllP (_ :: _))); refine And.intro ?_ ?_) | refine xs rfl ?_ ?_ | refine xs_done ?_ | refine pop_callv rfl rfl rfl rfl rfl (m1) rfl rfl rfl ?_ | refine xs_call rfl rfl rfl rfl rfl rfl (m1) rfl rfl rfl ?_ | refine xs_one (ch := []) rfl rfl rfl (pst_callv rfl rfl rfl rfl rfl (m1) rfl rfl rfl ?_) | refine pop_callgv rfl rfl rfl rfl rfl rfl (fun _ => m1) (by first | exact fun h => ⟨h, trivial⟩ | exact fun _ => trivial | exact fun h => ⟨h, h, trivial⟩) rfl rfl rfl ?_ | refine xs_one (ch := []) rfl rfl rfl (pst_callgv rfl rfl rfl rfl rfl rfl (fun _ => m1) (by first | exact fun h => ⟨h, trivial⟩ | exact fun _ => trivial | exact fun h => ⟨h, h, trivial⟩) rfl rfl rfl ?_) | refine pcond_t rfl ?_ | refine pcond_f rfl ?_ | refine kround_exit ?_ | refine kround_ret ?_ | refine kround_next ?_ | refine kloop_ret ?_ | refine kloop_exit ?_ | refine kcut_ret ?_ | refine kcut_exit ?_ | refine xo0 4000 rfl ?_ ?_ | refine xw0 4000 rfl ?_ ?_ | exact qq | fail)
  · rw [hw1, hk0]
    exact ⟨by omega, Int.le_refl _, by omega, (show (k : Int) * 16 ≤ 281474976710656 from by omega)⟩
  rw [hw1, hk0, Int.toNat_natCast]
  refine pcan (st' := ⟨[(3, vi k), (4, .lsl 0 0 k), (5, vi ((0 : Nat) : Int))], [oRow cP 2 k (upO 0)]⟩) ?_ ?_
  · refine can_rowsv [0] (k0_sel hk rfl) rfl (.cons rfl ?_ .nil) ?_
    · exact o_eq cP_cl (Nat.le_refl _) (fun a ha b hb => rfl)
    · exact ⟨PEq.refl _, PEq.refl _, PEq.refl _, trivial⟩
  refine ploop (fun q st => ∃ i : Nat, i ≤ k ∧ q = k - i ∧ st = ⟨[(3, vi k), (4, .lsl 0 0 k), (5, vi i)], [oRow cP 2 k (upO i)]⟩) k ⟨0, by omega, rfl, rfl⟩ ?_
  rintro _ _ ⟨i, hi, rfl, rfl⟩
  repeat' (first | refine xo 4000 rfl ?_ ?_ | refine xw 4000 rfl ?_ ?_ | refine xk 4000 rfl ?_ ?_ | exact trivial | ((with_reducible (show AllP (_ :: _))); refine And.intro ?_ ?_) | refine xs rfl ?_ ?_ | refine xs_done ?_ | refine pcond_t rfl ?_ | refine pcond_f rfl ?_ | refine kround_exit ?_ | refine kround_ret ?_ | refine kround_next ?_ | refine kloop_ret ?_ | refine kloop_exit ?_ | refine kcut_ret ?_ | refine kcut_exit ?_ | refine xo0 4000 rfl ?_ ?_ | refine xw0 4000 rfl ?_ ?_ | exact qq | fail)
  refine pcond rfl ?_ ?_ <;> intro hc <;> simp at hc
  · have hwi : IntKind.i64.wrap ((i : Int) + 1) = ((i + 1 : Nat) : Int) := by rw [w64 (by omega) (by omega)]; omega
    repeat' (first | refine xo 4000 rfl ?_ ?_ | refine xw 4000 rfl ?_ ?_ | refine xk 4000 rfl ?_ ?_ | exact trivial | ((with_reducible (show AllP (_ :: _))); refine And.intro ?_ ?_) | refine xs rfl ?_ ?_ | refine xs_done ?_ | refine pcond_t rfl ?_ | refine pcond_f rfl ?_ | refine kround_exit ?_ | refine kround_ret ?_ | refine kround_next ?_ | refine kloop_ret ?_ | refine kloop_exit ?_ | refine kcut_ret ?_ | refine kcut_exit ?_ | refine xo0 4000 rfl ?_ ?_ | refine xw0 4000 rfl ?_ ?_ | exact qq | fail)
    rw [hwi]
    exact kloop_next (st' := ⟨[(3, vi k), (4, .lsl 0 0 k), (5, vi ((i + 1 : Nat) : Int))], [oRow cP 2 k (upO (i + 1))]⟩) (k - (i + 1)) (can_rowsv [0] (k0_sel hk rfl) rfl (.cons rfl (o_eq cP_cl (Nat.le_refl _) (fun a ha b hb => by
      show updR (tF cP (upO i)) (0 + (i : Int).toNat) [vi 1, vi 1] a b = nthP (cP (upO (i + 1) a)) b
      rw [show 0 + (i : Int).toNat = i by omega]
      by_cases e : a = i
      · subst e
        have : Nat.beq a a = true := by simp
        simp only [updR, this, cond_true, upO, if_pos (Nat.lt_succ_self a)]
      · have : Nat.beq a i = false := by cases hb2 : Nat.beq a i; rfl; exact absurd (Nat.eq_of_beq_eq_true hb2) e
        simp only [updR, this, cond_false]
        show nthP (cP (upO i a)) b = nthP (cP (upO (i + 1) a)) b
        have : upO i a = upO (i + 1) a := by
          unfold upO
          by_cases h : a < i
          · rw [if_pos h, if_pos (by omega)]
          · rw [if_neg h, if_neg (by omega)]
        rw [this])) .nil) tmq) (by omega) ⟨i + 1, by omega, rfl, rfl⟩
  · have hik : i = k := by omega
    subst hik
    refine pcan (can_frz [0] (by intro _ _; rw [hk]; exact Nat.zero_le _) rfl (tm := [(3, vi i), (4, vPs i onesP)]) (by exact ⟨.inl rfl, .inr (argLsl (r := ⟨.own, false, i, 2, _⟩) (f := tF cP onesP) rfl trivial (List.Mem.head _) (Nat.le_of_eq (Nat.zero_add _)) (fun a ha b hb => ⟨by
      show nthP (cP (upO i (0 + a))) b = nthP (cP (1, 1)) b
      rw [Nat.zero_add, upO, if_pos ha], tF_cl cP_cl onesP a b⟩)), trivial⟩)) ?_
    have q1 := of_c i onesP (by omega)
    have q2 := comb_c ksorted i onesP (by omega)
    have q3 := split_c i onesP (i : Int) (by omega) (by omega)
    have q4 := chk_c i onesP ((i : Int), (i : Int), (i : Int)) (by omega)
    by_cases hbig : 4096 < i
    · have eX : ofS i onesP = ((0, 0, 0), 3) := by rw [ofS, if_pos hbig]
      rw [eX] at q1
      rw [eX, if_pos (by simp)] at q3
      rw [eX] at q4
      have e4 : chkS ((0, 0, 0), 3) ((i : Int), (i : Int), (i : Int)) = 3 := by rw [chkS, if_neg (by simp)]
      rw [e4] at q4
      have q2 : PureC G.P 12 [vPs i onesP] (fun r => r = .tup 2 (nthP [vPs 0 (lF dP []), vi 3])) := q2.mono (by
        rintro r ⟨L, e, rfl, hL⟩
        rcases hL with ⟨_, rfl, rfl⟩ | ⟨h, _⟩
        · rw [eX]; rfl
        · rw [eX] at h; cases h)
      repeat' (first | refine xo 4000 rfl ?_ ?_ | refine xw 4000 rfl ?_ ?_ | refine xk 4000 rfl ?_ ?_ | exact trivial | ((with_reducible (show AllP (_ :: _))); refine And.intro ?_ ?_) | refine xs rfl ?_ ?_ | refine xs_done ?_ | (refine pop_callc [] rfl rfl rfl rfl rfl rfl (fun _ h => by cases h) (q2) (args_cl _ rfl) ?_; rintro _ rfl) | (refine pop_callc [] rfl rfl rfl rfl rfl rfl (fun _ h => by cases h) (q3) (args_cl _ rfl) ?_; rintro _ rfl) | refine pop_callv rfl rfl rfl rfl rfl (q1) rfl rfl rfl ?_ | refine xs_call rfl rfl rfl rfl rfl rfl (q1) rfl rfl rfl ?_ | refine xs_one (ch := []) rfl rfl rfl (pst_callv rfl rfl rfl rfl rfl (q1) rfl rfl rfl ?_) | refine pop_callgv rfl rfl rfl rfl rfl rfl (fun _ => q1) (by first | exact fun h => ⟨h, trivial⟩ | exact fun _ => trivial | exact fun h => ⟨h, h, trivial⟩) rfl rfl rfl ?_ | refine xs_one (ch := []) rfl rfl rfl (pst_callgv rfl rfl rfl rfl rfl rfl (fun _ => q1) (by first | exact fun h => ⟨h, trivial⟩ | exact fun _ => trivial | exact fun h => ⟨h, h, trivial⟩) rfl rfl rfl ?_) | refine pcond_t rfl ?_ | refine pcond_f rfl ?_ | refine kround_exit ?_ | refine kround_ret ?_ | refine kround_next ?_ | refine kloop_ret ?_ | refine kloop_exit ?_ | refine kcut_ret ?_ | refine kcut_exit ?_ | refine xo0 4000 rfl ?_ ?_ | refine xw0 4000 rfl ?_ ?_ | exact qq | fail)
      refine pcond rfl ?_ ?_ <;> intro hc2 <;> simp at hc2
      · repeat' (first | refine xo 4000 rfl ?_ ?_ | refine xw 4000 rfl ?_ ?_ | refine xk 4000 rfl ?_ ?_ | exact trivial | ((with_reducible (show AllP (_ :: _))); refine And.intro ?_ ?_) | refine xs rfl ?_ ?_ | refine xs_done ?_ | refine pop_callv rfl rfl rfl rfl rfl (q4) rfl rfl rfl ?_ | refine xs_call rfl rfl rfl rfl rfl rfl (q4) rfl rfl rfl ?_ | refine xs_one (ch := []) rfl rfl rfl (pst_callv rfl rfl rfl rfl rfl (q4) rfl rfl rfl ?_) | refine pop_callgv rfl rfl rfl rfl rfl rfl (fun _ => q4) (by first | exact fun h => ⟨h, trivial⟩ | exact fun _ => trivial | exact fun h => ⟨h, h, trivial⟩) rfl rfl rfl ?_ | refine xs_one (ch := []) rfl rfl rfl (pst_callgv rfl rfl rfl rfl rfl rfl (fun _ => q4) (by first | exact fun h => ⟨h, trivial⟩ | exact fun _ => trivial | exact fun h => ⟨h, h, trivial⟩) rfl rfl rfl ?_) | refine pop_callv rfl rfl rfl rfl rfl (haw) rfl rfl rfl ?_ | refine xs_call rfl rfl rfl rfl rfl rfl (haw) rfl rfl rfl ?_ | refine xs_one (ch := []) rfl rfl rfl (pst_callv rfl rfl rfl rfl rfl (haw) rfl rfl rfl ?_) | refine pop_callgv rfl rfl rfl rfl rfl rfl (fun _ => haw) (by first | exact fun h => ⟨h, trivial⟩ | exact fun _ => trivial | exact fun h => ⟨h, h, trivial⟩) rfl rfl rfl ?_ | refine xs_one (ch := []) rfl rfl rfl (pst_callgv rfl rfl rfl rfl rfl rfl (fun _ => haw) (by first | exact fun h => ⟨h, trivial⟩ | exact fun _ => trivial | exact fun h => ⟨h, h, trivial⟩) rfl rfl rfl ?_) | refine pcond_t rfl ?_ | refine pcond_f rfl ?_ | refine kround_exit ?_ | refine kround_ret ?_ | refine kround_next ?_ | refine kloop_ret ?_ | refine kloop_exit ?_ | refine kcut_ret ?_ | refine kcut_exit ?_ | refine xo0 4000 rfl ?_ ?_ | refine xw0 4000 rfl ?_ ?_ | exact qq | fail)
        refine xdone ?_
        exact kretv rfl ⟨trivial, trivial⟩ rfl rfl
      · omega
    · have eX := ofS_fine (n := i) (g := onesP) (by omega) (one_ok i)
      rw [(sum_one i).1, (sum_one i).2] at eX
      rw [eX] at q1
      rw [eX, if_neg (by simp), if_neg (by omega), show ((i : Int)).toNat = i by omega] at q3
      have hch : chN i i = 1 := by
        have h1 := (chN_lt (n := i) (m := i) (i := 0) (by omega)).2 (by omega)
        have h2 : ¬ 1 < chN i i := fun h => by have := (chN_lt (n := i) (m := i) (i := 1) (by omega)).1 h; omega
        omega
      rw [hch] at q3
      have q2 : PureC G.P 12 [vPs i onesP] (fun r => r = .tup 2 (nthP [vPs 1 (lF dP [(1, (i : Int))]), vi 0])) := q2.mono (by
        rintro r ⟨L, e, rfl, hL⟩
        rcases hL with ⟨h, _⟩ | ⟨_, ⟨rfl, h⟩ | ⟨_, _, q, h⟩⟩
        · rw [eX] at h; exact absurd rfl h
        · rw [h.uniq (comb_one (by omega) (by omega))]; rfl
        · rw [sumE_one] at h; split at h <;> omega)
      repeat' (first | refine xo 4000 rfl ?_ ?_ | refine xw 4000 rfl ?_ ?_ | refine xk 4000 rfl ?_ ?_ | exact trivial | ((with_reducible (show AllP (_ :: _))); refine And.intro ?_ ?_) | refine xs rfl ?_ ?_ | refine xs_done ?_ | (refine pop_callc [] rfl rfl rfl rfl rfl rfl (fun _ h => by cases h) (q2) (args_cl _ rfl) ?_; rintro _ rfl) | (refine pop_callc [] rfl rfl rfl rfl rfl rfl (fun _ h => by cases h) (q3) (args_cl _ rfl) ?_; rintro _ rfl) | refine pop_callv rfl rfl rfl rfl rfl (q1) rfl rfl rfl ?_ | refine xs_call rfl rfl rfl rfl rfl rfl (q1) rfl rfl rfl ?_ | refine xs_one (ch := []) rfl rfl rfl (pst_callv rfl rfl rfl rfl rfl (q1) rfl rfl rfl ?_) | refine pop_callgv rfl rfl rfl rfl rfl rfl (fun _ => q1) (by first | exact fun h => ⟨h, trivial⟩ | exact fun _ => trivial | exact fun h => ⟨h, h, trivial⟩) rfl rfl rfl ?_ | refine xs_one (ch := []) rfl rfl rfl (pst_callgv rfl rfl rfl rfl rfl rfl (fun _ => q1) (by first | exact fun h => ⟨h, trivial⟩ | exact fun _ => trivial | exact fun h => ⟨h, h, trivial⟩) rfl rfl rfl ?_) | refine pcond_t rfl ?_ | refine pcond_f rfl ?_ | refine kround_exit ?_ | refine kround_ret ?_ | refine kround_next ?_ | refine kloop_ret ?_ | refine kloop_exit ?_ | refine kcut_ret ?_ | refine kcut_exit ?_ | refine xo0 4000 rfl ?_ ?_ | refine xw0 4000 rfl ?_ ?_ | exact qq | fail)
      refine pcond rfl ?_ ?_ <;> intro hc2 <;> simp at hc2
      · omega
      · repeat' (first | refine xo 4000 rfl ?_ ?_ | refine xw 4000 rfl ?_ ?_ | refine xk 4000 rfl ?_ ?_ | exact trivial | ((with_reducible (show AllP (_ :: _))); refine And.intro ?_ ?_) | refine xs rfl ?_ ?_ | refine xs_done ?_ | refine pop_callv rfl rfl rfl rfl rfl (haw) rfl rfl rfl ?_ | refine xs_call rfl rfl rfl rfl rfl rfl (haw) rfl rfl rfl ?_ | refine xs_one (ch := []) rfl rfl rfl (pst_callv rfl rfl rfl rfl rfl (haw) rfl rfl rfl ?_) | refine pop_callgv rfl rfl rfl rfl rfl rfl (fun _ => haw) (by first | exact fun h => ⟨h, trivial⟩ | exact fun _ => trivial | exact fun h => ⟨h, h, trivial⟩) rfl rfl rfl ?_ | refine xs_one (ch := []) rfl rfl rfl (pst_callgv rfl rfl rfl rfl rfl rfl (fun _ => haw) (by first | exact fun h => ⟨h, trivial⟩ | exact fun _ => trivial | exact fun h => ⟨h, h, trivial⟩) rfl rfl rfl ?_) | refine pcond_t rfl ?_ | refine pcond_f rfl ?_ | refine kround_exit ?_ | refine kround_ret ?_ | refine kround_next ?_ | refine kloop_ret ?_ | refine kloop_exit ?_ | refine kcut_ret ?_ | refine kcut_exit ?_ | refine xo0 4000 rfl ?_ ?_ | refine xw0 4000 rfl ?_ ?_ | exact qq | fail)
        refine xdone ?_
        refine kretv rfl ⟨trivial, trivial⟩ rfl (eqB ?_)
        have a1 : (lF dP [(1, (i : Int))] (Int.toNat 0)).2 = i := rfl
        have a2 : (chF i onesP i (Int.toNat 0)).1 = i := by show min i (i - 0 * i) = i; simp
        simp [a1, a2]
theorem limits_walk (a : Int) (w : World) :
    Calls G.P 7 #[.int .i64 a] w fun e w' => e = .returned (.bool true) ∧ Ext w w' :=
  law_of (limits_c a) ⟨rfl, trivial⟩
end Go.Proofs.Ytnjikclflfioeaa
