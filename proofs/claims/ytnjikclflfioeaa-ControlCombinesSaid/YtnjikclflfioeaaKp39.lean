/- payrolllaw39: ControlKeeps. -/
import Derived.Test.YtnjikclflfioeaaKp0
import Derived.Test.YtnjikclflfioeaaKs1
set_option linter.unusedSimpArgs false
set_option linter.unusedVariables false
set_option maxRecDepth 100000
namespace Go.Proofs.Ytnjikclflfioeaa
theorem ofS_fine {n : Nat} {g : Nat → Pay} (h1 : n ≤ 4096) (h2 : ∀ i, i < n → payOk (g i) = true) : ofS n g = (((n : Int), sumN n (fun i => (g i).2), sumN n (fun i => (g i).1)), 0) := by
  rw [ofS, if_neg (by omega), if_pos (paysOk_iff.2 h2)]
theorem combX_c (n : Nat) (g : Nat → Pay) (h1 : n ≤ 4096) (h2 : ∀ i, i < n → payOk (g i) = true) (h3 : ∀ k, sumE n g k ≤ 1000000000000) : PureC G.P 12 [vPs n g] (fun r => ∃ L, r = .tup 2 (nthP [vPs L.length (lF dP L), vi 0]) ∧ CombR n g L) :=
  (comb_c ksorted n g (by omega)).mono (by
    rintro r ⟨L, e, rfl, hL⟩
    rcases hL with ⟨h, _⟩ | ⟨_, ⟨rfl, h⟩ | ⟨_, _, k, h⟩⟩
    · rw [ofS_fine h1 h2] at h; exact absurd rfl h
    · exact ⟨L, rfl, h⟩
    · have := h3 k; omega)
set_option maxHeartbeats 4000000 in
theorem keeps_c (n : Nat) (g : Nat → Int) (hn : n ≤ 9223372036854775807) : PureC G.P 3 [.vsl n 1 (tI g)] (fun r => r = vb true) := by
  have haw := awake39_c ksorted
  refine pure_of (G := G.toPg) (fn := Try.f3) Try.func3 rfl rfl rfl ?_; intro Γ hk
  repeat' (first | refine xo 4000 rfl ?_ ?_ | refine xw 4000 rfl ?_ ?_ | refine xk 4000 rfl ?_ ?_ | exact trivial | ((with_reducible (show AllP (_ :: _))); refine And.intro ?_ ?_) | refine xs rfl ?_ ?_ | refine xs_done ?_ | refine pcond_t rfl ?_ | refine pcond_f rfl ?_ | refine kround_exit ?_ | refine kround_ret ?_ | refine kround_next ?_ | refine kloop_ret ?_ | refine kloop_exit ?_ | refine kcut_ret ?_ | refine kcut_exit ?_ | refine xo0 4000 rfl ?_ ?_ | refine xw0 4000 rfl ?_ ?_ | exact qq | fail)
  refine pop_rowsc [] rfl rfl rfl rfl rfl rfl .nil (dnew_c n g) (by exact ⟨PEq.refl _, trivial⟩) ?_
  rintro r rows ⟨rfl, rfl⟩
  refine ⟨_, _, rfl, ⟨tape_cl _ _ _, trivial⟩, rfl, ?_⟩
  have b1 : (0 : Int) ≤ 0 := by omega
  have b2 : (0 : Int) ≤ 0 := by omega
  repeat' (first | refine xo 4000 rfl ?_ ?_ | refine xw 4000 rfl ?_ ?_ | refine xk 4000 rfl ?_ ?_ | exact trivial | ((with_reducible (show AllP (_ :: _))); refine And.intro ?_ ?_) | refine xs rfl ?_ ?_ | refine xs_done ?_ | (refine pop_dek (G := G) rfl rfl rfl rfl rfl rfl rfl rfl (fun _ => rfl) (dnext_t _ (by omega) (by omega)) hn (by omega) (by omega) rfl rfl ?_; rintro at_ _ b1 b2 ⟨x, rfl, hx1, hx2⟩) | refine pcond_t rfl ?_ | refine pcond_f rfl ?_ | refine kround_exit ?_ | refine kround_ret ?_ | refine kround_next ?_ | refine kloop_ret ?_ | refine kloop_exit ?_ | refine kcut_ret ?_ | refine kcut_exit ?_ | refine xo0 4000 rfl ?_ ?_ | refine xw0 4000 rfl ?_ ?_ | exact qq | fail)
  refine pcan (can_virt (vRow cP 2 0 (lF dP [])) rfl) ?_
  refine pcan (st' := ⟨[(3, .ptr 0 0 0), (4, slP 0 1), (5, vi x)], [tapeRow n g _, vRow cP 2 0 (lF dP [])]⟩) (can_rowsv [0,1] (k0_sel hk rfl) rfl (by (repeat (refine SelV.cons rfl rqq ?_)); exact SelV.nil) tmq) ?_
  refine ploop (fun q st => ∃ (at' c : Int) (k : Nat) (l : List Pay), 0 ≤ at' ∧ at' ≤ 1 + 4 * (9 - c) ∧ 0 ≤ c ∧ c + k ≤ 9 ∧ l.length = k ∧ (∀ p, p ∈ l → payOk p = true ∧ p.2 ≤ 600000) ∧ q = c.toNat ∧ st = ⟨[(3, .ptr 0 0 0), (4, slP k 1), (5, vi c)], [tapeRow n g at', vRow cP 2 k (lF dP l)]⟩) x.toNat ⟨_, x, 0, [], by assumption, by omega, by omega, by omega, rfl, by simp, rfl, rfl⟩ ?_
  rintro _ _ ⟨at', c, k, l, b1, b2, hc0, hck, hlk, hl, rfl, rfl⟩
  repeat' (first | refine xo 4000 rfl ?_ ?_ | refine xw 4000 rfl ?_ ?_ | refine xk 4000 rfl ?_ ?_ | exact trivial | ((with_reducible (show AllP (_ :: _))); refine And.intro ?_ ?_) | refine xs rfl ?_ ?_ | refine xs_done ?_ | refine pcond_t rfl ?_ | refine pcond_f rfl ?_ | refine kround_exit ?_ | refine kround_ret ?_ | refine kround_next ?_ | refine kloop_ret ?_ | refine kloop_exit ?_ | refine kcut_ret ?_ | refine kcut_exit ?_ | refine xo0 4000 rfl ?_ ?_ | refine xw0 4000 rfl ?_ ?_ | exact qq | fail)
  refine pcond rfl ?_ ?_ <;> intro hc <;> simp at hc
  · have hw : IntKind.i64.wrap (c - 1) = c - 1 := w64 (by omega) (by omega)
    rcases k with _ | k
    · repeat' (first | refine xo 4000 rfl ?_ ?_ | refine xw 4000 rfl ?_ ?_ | refine xk 4000 rfl ?_ ?_ | exact trivial | ((with_reducible (show AllP (_ :: _))); refine And.intro ?_ ?_) | refine xs rfl ?_ ?_ | refine xs_done ?_ | (refine pop_dek (G := G) rfl rfl rfl rfl rfl rfl rfl rfl (fun _ => rfl) (dnext_t _ (by omega) (by omega)) hn (by omega) (by omega) rfl rfl ?_; rintro at_ _ b1 b2 ⟨x, rfl, hx1, hx2⟩) | (refine pop_dek (G := G) rfl rfl rfl rfl rfl rfl rfl rfl (fun _ => rfl) dsmall_t hn (by omega) (by omega) rfl rfl ?_; rintro at_ _ b1 b2 ⟨x, rfl, hx1, hx2⟩) | refine pcond_t rfl ?_ | refine pcond_f rfl ?_ | refine kround_exit ?_ | refine kround_ret ?_ | refine kround_next ?_ | refine kloop_ret ?_ | refine kloop_exit ?_ | refine kcut_ret ?_ | refine kcut_exit ?_ | refine xo0 4000 rfl ?_ ?_ | refine xw0 4000 rfl ?_ ?_ | exact qq | fail)
      rename_i _ _ _ em he1 he2
      rw [hw, w64 (n := 1 + em) (by omega) (by omega), w64 (n := 1 + x) (by omega) (by omega)]
      refine xdone ?_
      exact kloop_next (st' := ⟨[(3, .ptr 0 0 0), (4, slP (0 + 1) 1), (5, vi (c - 1))], [tapeRow n g _, vRow cP 2 (0 + 1) (lF dP (l ++ [(1 + em, 1 + x)]))]⟩) (c - 1).toNat (can_rowsv [0, 3] (k0_sel hk rfl) rfl (.cons rfl (RowEq.cl (tape_cl _ _ _)) (.cons rfl rqq .nil)) tmq) (by omega) ⟨_, c - 1, 0 + 1, l ++ [(1 + em, 1 + x)], b1, by omega, by omega, by omega, by rw [List.length_append, hlk]; rfl, fun p hp => by
        rcases List.mem_append.1 hp with hp | hp
        · exact hl p hp
        · simp at hp; subst hp; rw [payOk_iff]; simp only; omega, rfl, rfl⟩
    · repeat' (first | refine xo 4000 rfl ?_ ?_ | refine xw 4000 rfl ?_ ?_ | refine xk 4000 rfl ?_ ?_ | exact trivial | ((with_reducible (show AllP (_ :: _))); refine And.intro ?_ ?_) | refine xs rfl ?_ ?_ | refine xs_done ?_ | (refine pop_dek (G := G) rfl rfl rfl rfl rfl rfl rfl rfl (fun _ => rfl) (dnext_t _ (by omega) (by omega)) hn (by omega) (by omega) rfl rfl ?_; rintro at_ _ b1 b2 ⟨x, rfl, hx1, hx2⟩) | (refine pop_dek (G := G) rfl rfl rfl rfl rfl rfl rfl rfl (fun _ => rfl) dsmall_t hn (by omega) (by omega) rfl rfl ?_; rintro at_ _ b1 b2 ⟨x, rfl, hx1, hx2⟩) | refine pcond_t rfl ?_ | refine pcond_f rfl ?_ | refine kround_exit ?_ | refine kround_ret ?_ | refine kround_next ?_ | refine kloop_ret ?_ | refine kloop_exit ?_ | refine kcut_ret ?_ | refine kcut_exit ?_ | refine xo0 4000 rfl ?_ ?_ | refine xw0 4000 rfl ?_ ?_ | exact qq | fail)
      rename_i _ _ _ em he1 he2
      rw [hw, w64 (n := 1 + em) (by omega) (by omega), w64 (n := 1 + x) (by omega) (by omega)]
      refine xdone ?_
      exact kloop_next (st' := ⟨[(3, .ptr 0 0 0), (4, slP (k + 1 + 1) 1), (5, vi (c - 1))], [tapeRow n g _, vRow cP 2 (k + 1 + 1) (lF dP (l ++ [(1 + em, 1 + x)]))]⟩) (c - 1).toNat (can_rowsv [0, 3] (k0_sel hk rfl) rfl (.cons rfl (RowEq.cl (tape_cl _ _ _)) (.cons rfl rqq .nil)) tmq) (by omega) ⟨_, c - 1, k + 1 + 1, l ++ [(1 + em, 1 + x)], b1, by omega, by omega, by omega, by rw [List.length_append, hlk]; rfl, fun p hp => by
        rcases List.mem_append.1 hp with hp | hp
        · exact hl p hp
        · simp at hp; subst hp; rw [payOk_iff]; simp only; omega, rfl, rfl⟩
  · have hc00 : c = 0 := by omega
    subst hc00
    refine pcan (can_frz [1] (by intro _ _; rw [hk]; exact Nat.zero_le _) rfl (tm := [(4, vPs k (lF dP l))]) (by exact ⟨.inr (arg_v cP_cl rfl (List.Mem.head _)), trivial⟩)) ?_
    refine pcan (st' := ⟨[(4, vPs k (lF dP l))], []⟩) (can_rowsv [] (k0_sel hk rfl) rfl .nil tmq) ?_
    have hok : ∀ i, i < k → payOk (lF dP l i) = true := fun i hi => by
      have e : lF dP l i = l[i] := by unfold lF; rw [List.getD_eq_getElem?_getD, List.getElem?_eq_getElem (show i < l.length by omega)]; rfl
      rw [e]; exact (hl _ (List.getElem_mem _)).1
    have hsm : ∀ i, i < k → (lF dP l i).2 ≤ 600000 := fun i hi => by
      have e : lF dP l i = l[i] := by unfold lF; rw [List.getD_eq_getElem?_getD, List.getElem?_eq_getElem (show i < l.length by omega)]; rfl
      rw [e]; exact (hl _ (List.getElem_mem _)).2
    generalize lF dP l = f at *
    have hbd : ∀ (m : Nat), m ≤ k → ∀ q, 0 ≤ sumE m f q ∧ sumE m f q ≤ m * 600000 := fun m hm q => by
      refine ⟨(sumE_bd (fun j hj => hok j (by omega)) q).1, ?_⟩
      have := sumN_le (n := m) (f := fun i => if (f i).1 = q then (f i).2 else 0) (g := fun _ => 600000) fun j hj => by
        have := hsm j (by omega)
        show (if (f j).1 = q then (f j).2 else 0) ≤ 600000
        split <;> omega
      rw [sumN_const] at this; exact this
    have c1 := combX_c k f (by omega) hok (fun q => by have := hbd k (Nat.le_refl _) q; omega)
    repeat' (first | refine xo 4000 rfl ?_ ?_ | refine xw 4000 rfl ?_ ?_ | refine xk 4000 rfl ?_ ?_ | exact trivial | ((with_reducible (show AllP (_ :: _))); refine And.intro ?_ ?_) | refine xs rfl ?_ ?_ | refine xs_done ?_ | refine pcond_t rfl ?_ | refine pcond_f rfl ?_ | refine kround_exit ?_ | refine kround_ret ?_ | refine kround_next ?_ | refine kloop_ret ?_ | refine kloop_exit ?_ | refine kcut_ret ?_ | refine kcut_exit ?_ | refine xo0 4000 rfl ?_ ?_ | refine xw0 4000 rfl ?_ ?_ | exact qq | fail)
    refine pop_callc [] rfl rfl rfl rfl rfl rfl (fun _ h => by cases h) c1 (args_cl _ rfl) ?_
    rintro _ ⟨L, rfl, hL⟩
    have hLn := hL.len
    have hLok := hL.ok hok
    have c2 := combX_c L.length (lF dP L) (by omega) hLok (fun q => by rw [hL.sumE]; have := hbd k (Nat.le_refl _) q; omega)
    have q1 := of_c k f (by omega)
    rw [ofS_fine (by omega) hok] at q1
    have q2 := of_c L.length (lF dP L) (by omega)
    rw [ofS_fine (by omega) hLok, hL.total] at q2
    have q3 := same39_c L.length L.length (lF dP L) (lF dP L) (by omega) ⟨rfl, fun _ _ => rfl⟩
    repeat' (first | refine xo 4000 rfl ?_ ?_ | refine xw 4000 rfl ?_ ?_ | refine xk 4000 rfl ?_ ?_ | exact trivial | ((with_reducible (show AllP (_ :: _))); refine And.intro ?_ ?_) | refine xs rfl ?_ ?_ | refine xs_done ?_ | refine pcond_t rfl ?_ | refine pcond_f rfl ?_ | refine kround_exit ?_ | refine kround_ret ?_ | refine kround_next ?_ | refine kloop_ret ?_ | refine kloop_exit ?_ | refine kcut_ret ?_ | refine kcut_exit ?_ | refine xo0 4000 rfl ?_ ?_ | refine xw0 4000 rfl ?_ ?_ | exact qq | fail)
    refine pop_callc [] rfl rfl rfl rfl rfl rfl (fun _ h => by cases h) c2 (args_cl _ rfl) ?_
    rintro _ ⟨L2, rfl, hL2⟩
    obtain rfl : L2 = L := hL2.uniq hL.again
    repeat' (first | refine xo 4000 rfl ?_ ?_ | refine xw 4000 rfl ?_ ?_ | refine xk 4000 rfl ?_ ?_ | exact trivial | ((with_reducible (show AllP (_ :: _))); refine And.intro ?_ ?_) | refine xs rfl ?_ ?_ | refine xs_done ?_ | refine pop_callv rfl rfl rfl rfl rfl (q1) rfl rfl rfl ?_ | refine xs_call rfl rfl rfl rfl rfl rfl (q1) rfl rfl rfl ?_ | refine xs_one (ch := []) rfl rfl rfl (pst_callv rfl rfl rfl rfl rfl (q1) rfl rfl rfl ?_) | refine pop_callgv rfl rfl rfl rfl rfl rfl (fun _ => q1) (by first | exact fun h => ⟨h, trivial⟩ | exact fun _ => trivial | exact fun h => ⟨h, h, trivial⟩) rfl rfl rfl ?_ | refine xs_one (ch := []) rfl rfl rfl (pst_callgv rfl rfl rfl rfl rfl rfl (fun _ => q1) (by first | exact fun h => ⟨h, trivial⟩ | exact fun _ => trivial | exact fun h => ⟨h, h, trivial⟩) rfl rfl rfl ?_) | refine pop_callv rfl rfl rfl rfl rfl (q2) rfl rfl rfl ?_ | refine xs_call rfl rfl rfl rfl rfl rfl (q2) rfl rfl rfl ?_ | refine xs_one (ch := []) rfl rfl rfl (pst_callv rfl rfl rfl rfl rfl (q2) rfl rfl rfl ?_) | refine pop_callgv rfl rfl rfl rfl rfl rfl (fun _ => q2) (by first | exact fun h => ⟨h, trivial⟩ | exact fun _ => trivial | exact fun h => ⟨h, h, trivial⟩) rfl rfl rfl ?_ | refine xs_one (ch := []) rfl rfl rfl (pst_callgv rfl rfl rfl rfl rfl rfl (fun _ => q2) (by first | exact fun h => ⟨h, trivial⟩ | exact fun _ => trivial | exact fun h => ⟨h, h, trivial⟩) rfl rfl rfl ?_) | refine pop_callv rfl rfl rfl rfl rfl (q3) rfl rfl rfl ?_ | refine xs_call rfl rfl rfl rfl rfl rfl (q3) rfl rfl rfl ?_ | refine xs_one (ch := []) rfl rfl rfl (pst_callv rfl rfl rfl rfl rfl (q3) rfl rfl rfl ?_) | refine pop_callgv rfl rfl rfl rfl rfl rfl (fun _ => q3) (by first | exact fun h => ⟨h, trivial⟩ | exact fun _ => trivial | exact fun h => ⟨h, h, trivial⟩) rfl rfl rfl ?_ | refine xs_one (ch := []) rfl rfl rfl (pst_callgv rfl rfl rfl rfl rfl rfl (fun _ => q3) (by first | exact fun h => ⟨h, trivial⟩ | exact fun _ => trivial | exact fun h => ⟨h, h, trivial⟩) rfl rfl rfl ?_) | refine pcond_t rfl ?_ | refine pcond_f rfl ?_ | refine kround_exit ?_ | refine kround_ret ?_ | refine kround_next ?_ | refine kloop_ret ?_ | refine kloop_exit ?_ | refine kcut_ret ?_ | refine kcut_exit ?_ | refine xo0 4000 rfl ?_ ?_ | refine xw0 4000 rfl ?_ ?_ | exact qq | fail)
    refine pcond rfl ?_ ?_ <;> intro hc1
    · simp at hc1
    · repeat' (first | refine xo 4000 rfl ?_ ?_ | refine xw 4000 rfl ?_ ?_ | refine xk 4000 rfl ?_ ?_ | exact trivial | ((with_reducible (show AllP (_ :: _))); refine And.intro ?_ ?_) | refine xs rfl ?_ ?_ | refine xs_done ?_ | refine pcond_t rfl ?_ | refine pcond_f rfl ?_ | refine kround_exit ?_ | refine kround_ret ?_ | refine kround_next ?_ | refine kloop_ret ?_ | refine kloop_exit ?_ | refine kcut_ret ?_ | refine kcut_exit ?_ | refine xo0 4000 rfl ?_ ?_ | refine xw0 4000 rfl ?_ ?_ | exact qq | fail)
      refine pcan (st' := ⟨[(4, vPs k f), (6, vPs L2.length (lF dP L2)), (14, vi ((1 : Nat) : Int))], []⟩) (can_rowsv [] (k0_sel hk rfl) rfl .nil tmq) ?_
      refine ploop (fun q st => ∃ i : Nat, 1 ≤ i ∧ q = L2.length + 1 - i ∧ i ≤ L2.length + 1 ∧ st = ⟨[(4, vPs k f), (6, vPs L2.length (lF dP L2)), (14, vi i)], []⟩) L2.length ⟨1, by omega, by omega, by omega, rfl⟩ ?_
      rintro _ _ ⟨i, hi1, rfl, hi2, rfl⟩
      repeat' (first | refine xo 4000 rfl ?_ ?_ | refine xw 4000 rfl ?_ ?_ | refine xk 4000 rfl ?_ ?_ | exact trivial | ((with_reducible (show AllP (_ :: _))); refine And.intro ?_ ?_) | refine xs rfl ?_ ?_ | refine xs_done ?_ | refine pcond_t rfl ?_ | refine pcond_f rfl ?_ | refine kround_exit ?_ | refine kround_ret ?_ | refine kround_next ?_ | refine kloop_ret ?_ | refine kloop_exit ?_ | refine kcut_ret ?_ | refine kcut_exit ?_ | refine xo0 4000 rfl ?_ ?_ | refine xw0 4000 rfl ?_ ?_ | exact qq | fail)
      refine pcond rfl ?_ ?_ <;> intro hc2 <;> simp at hc2
      · obtain ⟨i, rfl⟩ : ∃ j, i = j + 1 := ⟨i - 1, by omega⟩
        have hw1 : IntKind.i64.wrap (((i + 1 : Nat) : Int) - 1) = (i : Int) := by rw [w64 (by omega) (by omega)]; omega
        have hw2 : IntKind.i64.wrap (((i + 1 : Nat) : Int) + 1) = ((i + 1 + 1 : Nat) : Int) := by rw [w64 (by omega) (by omega)]; omega
        have hlt := hL.lt (i := i) (by omega)
        repeat' (first | refine xo 4000 rfl ?_ ?_ | refine xw 4000 rfl ?_ ?_ | refine xk 4000 rfl ?_ ?_ | exact trivial | ((with_reducible (show AllP (_ :: _))); refine And.intro ?_ ?_) | refine xs rfl ?_ ?_ | refine xs_done ?_ | refine xs_start (id := 16) true [.take 0, .take 1, .take 2, .take 3, .take 4, .take 5, .take 6, .take 7, .take 8, .take 9, .take 10, .take 11] 0 rfl rfl (by kernel_rfl) ?_ | refine pcond_t rfl ?_ | refine pcond_f rfl ?_ | refine kround_exit ?_ | refine kround_ret ?_ | refine kround_next ?_ | refine kloop_ret ?_ | refine kloop_exit ?_ | refine kcut_ret ?_ | refine kcut_exit ?_ | refine xo0 4000 rfl ?_ ?_ | refine xw0 4000 rfl ?_ ?_ | exact qq | fail)
        rw [hw1]
        refine pcond rfl ?_ ?_ <;> intro hc3
        · exfalso
          revert hc3
          show ¬ decide ((lF dP L2 (i + 1)).1 ≤ (lF dP L2 i).1) = true
          simp; omega
        · repeat' (first | refine xo 4000 rfl ?_ ?_ | refine xw 4000 rfl ?_ ?_ | refine xk 4000 rfl ?_ ?_ | exact trivial | ((with_reducible (show AllP (_ :: _))); refine And.intro ?_ ?_) | refine xs rfl ?_ ?_ | refine xs_done ?_ | refine pcond_t rfl ?_ | refine pcond_f rfl ?_ | refine kround_exit ?_ | refine kround_ret ?_ | refine kround_next ?_ | refine kloop_ret ?_ | refine kloop_exit ?_ | refine kcut_ret ?_ | refine kcut_exit ?_ | refine xo0 4000 rfl ?_ ?_ | refine xw0 4000 rfl ?_ ?_ | exact qq | fail)
          rw [hw2]
          exact kloop_next (st' := ⟨[(4, vPs k f), (6, vPs L2.length (lF dP L2)), (14, vi ((i + 1 + 1 : Nat) : Int))], []⟩) (L2.length + 1 - (i + 1 + 1)) (can_rowsv [] (k0_sel hk rfl) rfl .nil tmq) (by omega) ⟨i + 1 + 1, by omega, rfl, by omega, rfl⟩
      · repeat' (first | refine xo 4000 rfl ?_ ?_ | refine xw 4000 rfl ?_ ?_ | refine xk 4000 rfl ?_ ?_ | exact trivial | ((with_reducible (show AllP (_ :: _))); refine And.intro ?_ ?_) | refine xs rfl ?_ ?_ | refine xs_done ?_ | refine pcond_t rfl ?_ | refine pcond_f rfl ?_ | refine kround_exit ?_ | refine kround_ret ?_ | refine kround_next ?_ | refine kloop_ret ?_ | refine kloop_exit ?_ | refine kcut_ret ?_ | refine kcut_exit ?_ | refine xo0 4000 rfl ?_ ?_ | refine xw0 4000 rfl ?_ ?_ | exact qq | fail)
        refine pcan (st' := ⟨[(4, vPs k f), (6, vPs L2.length (lF dP L2)), (15, vi ((1 : Nat) : Int))], []⟩) (can_rowsv [] (k0_sel hk rfl) rfl .nil tmq) ?_
        refine ploop (fun q st => ∃ u : Nat, 1 ≤ u ∧ u ≤ 5 ∧ q = 5 - u ∧ st = ⟨[(4, vPs k f), (6, vPs L2.length (lF dP L2)), (15, vi u)], []⟩) 4 ⟨1, by omega, by omega, rfl, rfl⟩ ?_
        rintro _ _ ⟨u, hu1, hu2, rfl, rfl⟩
        repeat' (first | refine xo 4000 rfl ?_ ?_ | refine xw 4000 rfl ?_ ?_ | refine xk 4000 rfl ?_ ?_ | exact trivial | ((with_reducible (show AllP (_ :: _))); refine And.intro ?_ ?_) | refine xs rfl ?_ ?_ | refine xs_done ?_ | refine pcond_t rfl ?_ | refine pcond_f rfl ?_ | refine kround_exit ?_ | refine kround_ret ?_ | refine kround_next ?_ | refine kloop_ret ?_ | refine kloop_exit ?_ | refine kcut_ret ?_ | refine kcut_exit ?_ | refine xo0 4000 rfl ?_ ?_ | refine xw0 4000 rfl ?_ ?_ | exact qq | fail)
        refine pcond rfl ?_ ?_ <;> intro hc3 <;> simp at hc3
        · repeat' (first | refine xo 4000 rfl ?_ ?_ | refine xw 4000 rfl ?_ ?_ | refine xk 4000 rfl ?_ ?_ | exact trivial | ((with_reducible (show AllP (_ :: _))); refine And.intro ?_ ?_) | refine xs rfl ?_ ?_ | refine xs_done ?_ | refine pcond_t rfl ?_ | refine pcond_f rfl ?_ | refine kround_exit ?_ | refine kround_ret ?_ | refine kround_next ?_ | refine kloop_ret ?_ | refine kloop_exit ?_ | refine kcut_ret ?_ | refine kcut_exit ?_ | refine xo0 4000 rfl ?_ ?_ | refine xw0 4000 rfl ?_ ?_ | exact qq | fail)
          refine pcan (st' := ⟨[(4, vPs k f), (6, vPs L2.length (lF dP L2)), (15, vi u), (16, vi (sumE 0 f u)), (17, vi 0), (18, vi ((0 : Nat) : Int))], []⟩) (can_rowsv [] (k0_sel hk rfl) rfl .nil tmq) ?_
          refine ploop (fun q st => ∃ i : Nat, i ≤ k ∧ q = k - i ∧ st = ⟨[(4, vPs k f), (6, vPs L2.length (lF dP L2)), (15, vi u), (16, vi (sumE i f u)), (17, vi 0), (18, vi i)], []⟩) k ⟨0, by omega, rfl, rfl⟩ ?_
          rintro _ _ ⟨i, hik, rfl, rfl⟩
          repeat' (first | refine xo 4000 rfl ?_ ?_ | refine xw 4000 rfl ?_ ?_ | refine xk 4000 rfl ?_ ?_ | exact trivial | ((with_reducible (show AllP (_ :: _))); refine And.intro ?_ ?_) | refine xs rfl ?_ ?_ | refine xs_done ?_ | refine pcond_t rfl ?_ | refine pcond_f rfl ?_ | refine kround_exit ?_ | refine kround_ret ?_ | refine kround_next ?_ | refine kloop_ret ?_ | refine kloop_exit ?_ | refine kcut_ret ?_ | refine kcut_exit ?_ | refine xo0 4000 rfl ?_ ?_ | refine xw0 4000 rfl ?_ ?_ | exact qq | fail)
          refine pcond rfl ?_ ?_ <;> intro hc4 <;> simp at hc4
          · have hw4 : IntKind.i64.wrap ((i : Int) + 1) = ((i + 1 : Nat) : Int) := by rw [w64 (by omega) (by omega)]; omega
            have hb := hbd i (by omega) u
            have hv := hsm i hc4
            have hv0 := payOk_iff.1 (hok i hc4)
            repeat' (first | refine xo 4000 rfl ?_ ?_ | refine xw 4000 rfl ?_ ?_ | refine xk 4000 rfl ?_ ?_ | exact trivial | ((with_reducible (show AllP (_ :: _))); refine And.intro ?_ ?_) | refine xs rfl ?_ ?_ | refine xs_done ?_ | refine pcond_t rfl ?_ | refine pcond_f rfl ?_ | refine kround_exit ?_ | refine kround_ret ?_ | refine kround_next ?_ | refine kloop_ret ?_ | refine kloop_exit ?_ | refine kcut_ret ?_ | refine kcut_exit ?_ | refine xo0 4000 rfl ?_ ?_ | refine xw0 4000 rfl ?_ ?_ | exact qq | fail)
            refine pcond rfl ?_ ?_ <;> intro hc5
            · have hc5 : (f i).1 = u := by simpa using hc5
              repeat' (first | refine xo 4000 rfl ?_ ?_ | refine xw 4000 rfl ?_ ?_ | refine xk 4000 rfl ?_ ?_ | exact trivial | ((with_reducible (show AllP (_ :: _))); refine And.intro ?_ ?_) | refine xs rfl ?_ ?_ | refine xs_done ?_ | refine pcond_t rfl ?_ | refine pcond_f rfl ?_ | refine kround_exit ?_ | refine kround_ret ?_ | refine kround_next ?_ | refine kloop_ret ?_ | refine kloop_exit ?_ | refine kcut_ret ?_ | refine kcut_exit ?_ | refine xo0 4000 rfl ?_ ?_ | refine xw0 4000 rfl ?_ ?_ | exact qq | fail)
              rw [hw4, show IntKind.i64.wrap (sumE i f u + (f (i : Int).toNat).2) = sumE (i + 1) f u from by
                show IntKind.i64.wrap (sumE i f u + (f i).2) = sumE i f u + (if (f i).1 = u then (f i).2 else 0)
                rw [if_pos hc5, w64 (by omega) (by omega)]]
              exact kloop_next (st' := ⟨[(4, vPs k f), (6, vPs L2.length (lF dP L2)), (15, vi u), (16, vi (sumE (i + 1) f u)), (17, vi 0), (18, vi ((i + 1 : Nat) : Int))], []⟩) (k - (i + 1)) (can_rowsv [] (k0_sel hk rfl) rfl .nil tmq) (by omega) ⟨i + 1, by omega, rfl, rfl⟩
            · have hc5 : ¬ (f i).1 = u := by simpa using hc5
              repeat' (first | refine xo 4000 rfl ?_ ?_ | refine xw 4000 rfl ?_ ?_ | refine xk 4000 rfl ?_ ?_ | exact trivial | ((with_reducible (show AllP (_ :: _))); refine And.intro ?_ ?_) | refine xs rfl ?_ ?_ | refine xs_done ?_ | refine pcond_t rfl ?_ | refine pcond_f rfl ?_ | refine kround_exit ?_ | refine kround_ret ?_ | refine kround_next ?_ | refine kloop_ret ?_ | refine kloop_exit ?_ | refine kcut_ret ?_ | refine kcut_exit ?_ | refine xo0 4000 rfl ?_ ?_ | refine xw0 4000 rfl ?_ ?_ | exact qq | fail)
              rw [hw4, show sumE i f u = sumE (i + 1) f u from by
                show sumE i f u = sumE i f u + (if (f i).1 = u then (f i).2 else 0)
                rw [if_neg hc5, Int.add_zero]]
              exact kloop_next (st' := ⟨[(4, vPs k f), (6, vPs L2.length (lF dP L2)), (15, vi u), (16, vi (sumE (i + 1) f u)), (17, vi 0), (18, vi ((i + 1 : Nat) : Int))], []⟩) (k - (i + 1)) (can_rowsv [] (k0_sel hk rfl) rfl .nil tmq) (by omega) ⟨i + 1, by omega, rfl, rfl⟩
          · have hik2 : i = k := by omega
            subst hik2
            repeat' (first | refine xo 4000 rfl ?_ ?_ | refine xw 4000 rfl ?_ ?_ | refine xk 4000 rfl ?_ ?_ | exact trivial | ((with_reducible (show AllP (_ :: _))); refine And.intro ?_ ?_) | refine xs rfl ?_ ?_ | refine xs_done ?_ | refine pcond_t rfl ?_ | refine pcond_f rfl ?_ | refine kround_exit ?_ | refine kround_ret ?_ | refine kround_next ?_ | refine kloop_ret ?_ | refine kloop_exit ?_ | refine kcut_ret ?_ | refine kcut_exit ?_ | refine xo0 4000 rfl ?_ ?_ | refine xw0 4000 rfl ?_ ?_ | exact qq | fail)
            refine pcan (st' := ⟨[(4, vPs i f), (6, vPs L2.length (lF dP L2)), (15, vi u), (16, vi (sumE i f u)), (17, vi (sumE 0 (lF dP L2) u)), (19, vi ((0 : Nat) : Int))], []⟩) (can_rowsv [] (k0_sel hk rfl) rfl .nil tmq) ?_
            refine ploop (fun q st => ∃ j : Nat, j ≤ L2.length ∧ q = L2.length - j ∧ st = ⟨[(4, vPs i f), (6, vPs L2.length (lF dP L2)), (15, vi u), (16, vi (sumE i f u)), (17, vi (sumE j (lF dP L2) u)), (19, vi j)], []⟩) L2.length ⟨0, by omega, rfl, rfl⟩ ?_
            rintro _ _ ⟨j, hjk, rfl, rfl⟩
            repeat' (first | refine xo 4000 rfl ?_ ?_ | refine xw 4000 rfl ?_ ?_ | refine xk 4000 rfl ?_ ?_ | exact trivial | ((with_reducible (show AllP (_ :: _))); refine And.intro ?_ ?_) | refine xs rfl ?_ ?_ | refine xs_done ?_ | refine pcond_t rfl ?_ | refine pcond_f rfl ?_ | refine kround_exit ?_ | refine kround_ret ?_ | refine kround_next ?_ | refine kloop_ret ?_ | refine kloop_exit ?_ | refine kcut_ret ?_ | refine kcut_exit ?_ | refine xo0 4000 rfl ?_ ?_ | refine xw0 4000 rfl ?_ ?_ | exact qq | fail)
            refine pcond rfl ?_ ?_ <;> intro hc5 <;> simp at hc5
            · have hw5 : IntKind.i64.wrap ((j : Int) + 1) = ((j + 1 : Nat) : Int) := by rw [w64 (by omega) (by omega)]; omega
              have hb := sumE_bd (n := j) (g := lF dP L2) (fun q hq => hLok q (by omega)) u
              have hv0 := payOk_iff.1 (hLok j hc5)
              repeat' (first | refine xo 4000 rfl ?_ ?_ | refine xw 4000 rfl ?_ ?_ | refine xk 4000 rfl ?_ ?_ | exact trivial | ((with_reducible (show AllP (_ :: _))); refine And.intro ?_ ?_) | refine xs rfl ?_ ?_ | refine xs_done ?_ | refine pcond_t rfl ?_ | refine pcond_f rfl ?_ | refine kround_exit ?_ | refine kround_ret ?_ | refine kround_next ?_ | refine kloop_ret ?_ | refine kloop_exit ?_ | refine kcut_ret ?_ | refine kcut_exit ?_ | refine xo0 4000 rfl ?_ ?_ | refine xw0 4000 rfl ?_ ?_ | exact qq | fail)
              refine pcond rfl ?_ ?_ <;> intro hc6
              · have hc6 : (lF dP L2 j).1 = u := by simpa using hc6
                repeat' (first | refine xo 4000 rfl ?_ ?_ | refine xw 4000 rfl ?_ ?_ | refine xk 4000 rfl ?_ ?_ | exact trivial | ((with_reducible (show AllP (_ :: _))); refine And.intro ?_ ?_) | refine xs rfl ?_ ?_ | refine xs_done ?_ | refine pcond_t rfl ?_ | refine pcond_f rfl ?_ | refine kround_exit ?_ | refine kround_ret ?_ | refine kround_next ?_ | refine kloop_ret ?_ | refine kloop_exit ?_ | refine kcut_ret ?_ | refine kcut_exit ?_ | refine xo0 4000 rfl ?_ ?_ | refine xw0 4000 rfl ?_ ?_ | exact qq | fail)
                rw [hw5, show IntKind.i64.wrap (sumE j (lF dP L2) u + (lF dP L2 (j : Int).toNat).2) = sumE (j + 1) (lF dP L2) u from by
                  show IntKind.i64.wrap (sumE j (lF dP L2) u + (lF dP L2 j).2) = sumE j (lF dP L2) u + (if (lF dP L2 j).1 = u then (lF dP L2 j).2 else 0)
                  rw [if_pos hc6, w64 (by omega) (by omega)]]
                exact kloop_next (st' := ⟨[(4, vPs i f), (6, vPs L2.length (lF dP L2)), (15, vi u), (16, vi (sumE i f u)), (17, vi (sumE (j + 1) (lF dP L2) u)), (19, vi ((j + 1 : Nat) : Int))], []⟩) (L2.length - (j + 1)) (can_rowsv [] (k0_sel hk rfl) rfl .nil tmq) (by omega) ⟨j + 1, by omega, rfl, rfl⟩
              · have hc6 : ¬ (lF dP L2 j).1 = u := by simpa using hc6
                repeat' (first | refine xo 4000 rfl ?_ ?_ | refine xw 4000 rfl ?_ ?_ | refine xk 4000 rfl ?_ ?_ | exact trivial | ((with_reducible (show AllP (_ :: _))); refine And.intro ?_ ?_) | refine xs rfl ?_ ?_ | refine xs_done ?_ | refine pcond_t rfl ?_ | refine pcond_f rfl ?_ | refine kround_exit ?_ | refine kround_ret ?_ | refine kround_next ?_ | refine kloop_ret ?_ | refine kloop_exit ?_ | refine kcut_ret ?_ | refine kcut_exit ?_ | refine xo0 4000 rfl ?_ ?_ | refine xw0 4000 rfl ?_ ?_ | exact qq | fail)
                rw [hw5, show sumE j (lF dP L2) u = sumE (j + 1) (lF dP L2) u from by
                  show sumE j (lF dP L2) u = sumE j (lF dP L2) u + (if (lF dP L2 j).1 = u then (lF dP L2 j).2 else 0)
                  rw [if_neg hc6, Int.add_zero]]
                exact kloop_next (st' := ⟨[(4, vPs i f), (6, vPs L2.length (lF dP L2)), (15, vi u), (16, vi (sumE i f u)), (17, vi (sumE (j + 1) (lF dP L2) u)), (19, vi ((j + 1 : Nat) : Int))], []⟩) (L2.length - (j + 1)) (can_rowsv [] (k0_sel hk rfl) rfl .nil tmq) (by omega) ⟨j + 1, by omega, rfl, rfl⟩
            · have hj2 : j = L2.length := by omega
              subst hj2
              have hse := hL.sumE u
              repeat' (first | refine xo 4000 rfl ?_ ?_ | refine xw 4000 rfl ?_ ?_ | refine xk 4000 rfl ?_ ?_ | exact trivial | ((with_reducible (show AllP (_ :: _))); refine And.intro ?_ ?_) | refine xs rfl ?_ ?_ | refine xs_done ?_ | refine pcond_t rfl ?_ | refine pcond_f rfl ?_ | refine kround_exit ?_ | refine kround_ret ?_ | refine kround_next ?_ | refine kloop_ret ?_ | refine kloop_exit ?_ | refine kcut_ret ?_ | refine kcut_exit ?_ | refine xo0 4000 rfl ?_ ?_ | refine xw0 4000 rfl ?_ ?_ | exact qq | fail)
              rw [hse]
              refine pcond rfl ?_ ?_ <;> intro hc6
              · simp at hc6
              · have hwu : IntKind.i64.wrap ((u : Int) + 1) = ((u + 1 : Nat) : Int) := by rw [w64 (by omega) (by omega)]; omega
                repeat' (first | refine xo 4000 rfl ?_ ?_ | refine xw 4000 rfl ?_ ?_ | refine xk 4000 rfl ?_ ?_ | exact trivial | ((with_reducible (show AllP (_ :: _))); refine And.intro ?_ ?_) | refine xs rfl ?_ ?_ | refine xs_done ?_ | refine pcond_t rfl ?_ | refine pcond_f rfl ?_ | refine kround_exit ?_ | refine kround_ret ?_ | refine kround_next ?_ | refine kloop_ret ?_ | refine kloop_exit ?_ | refine kcut_ret ?_ | refine kcut_exit ?_ | refine xo0 4000 rfl ?_ ?_ | refine xw0 4000 rfl ?_ ?_ | exact qq | fail)
                rw [hwu]
                exact kloop_next (st' := ⟨[(4, vPs i f), (6, vPs L2.length (lF dP L2)), (15, vi ((u + 1 : Nat) : Int))], []⟩) (5 - (u + 1)) (can_rowsv [] (k0_sel hk rfl) rfl .nil tmq) (by omega) ⟨u + 1, by omega, by omega, rfl, rfl⟩
        · repeat' (first | refine xo 4000 rfl ?_ ?_ | refine xw 4000 rfl ?_ ?_ | refine xk 4000 rfl ?_ ?_ | exact trivial | ((with_reducible (show AllP (_ :: _))); refine And.intro ?_ ?_) | refine xs rfl ?_ ?_ | refine xs_done ?_ | refine pop_callv rfl rfl rfl rfl rfl (haw) rfl rfl rfl ?_ | refine xs_call rfl rfl rfl rfl rfl rfl (haw) rfl rfl rfl ?_ | refine xs_one (ch := []) rfl rfl rfl (pst_callv rfl rfl rfl rfl rfl (haw) rfl rfl rfl ?_) | refine pop_callgv rfl rfl rfl rfl rfl rfl (fun _ => haw) (by first | exact fun h => ⟨h, trivial⟩ | exact fun _ => trivial | exact fun h => ⟨h, h, trivial⟩) rfl rfl rfl ?_ | refine xs_one (ch := []) rfl rfl rfl (pst_callgv rfl rfl rfl rfl rfl rfl (fun _ => haw) (by first | exact fun h => ⟨h, trivial⟩ | exact fun _ => trivial | exact fun h => ⟨h, h, trivial⟩) rfl rfl rfl ?_) | refine pcond_t rfl ?_ | refine pcond_f rfl ?_ | refine kround_exit ?_ | refine kround_ret ?_ | refine kround_next ?_ | refine kloop_ret ?_ | refine kloop_exit ?_ | refine kcut_ret ?_ | refine kcut_exit ?_ | refine xo0 4000 rfl ?_ ?_ | refine xw0 4000 rfl ?_ ?_ | exact qq | fail)
          refine xdone ?_
          exact kretv rfl ⟨trivial, trivial⟩ rfl rfl
theorem keeps_walk (v : Value) (l : List Int) (w : World) (h : IntsAt w v l) :
    Calls G.P 3 #[v] w fun e w' => e = .returned (.bool true) ∧ Ext w w' := by
  have hl : l.length ≤ 9223372036854775807 := by obtain ⟨_, _, _, _, h, _⟩ := h; exact h
  exact law_of (keeps_c l.length _ hl) ⟨h.rel _, trivial⟩
end Go.Proofs.Ytnjikclflfioeaa
