/- payrolllaw31: GarnishMonotone. -/
import Derived.Test.YtipdkompinnghaaGen31
set_option linter.unusedSimpArgs false
set_option linter.unusedVariables false
set_option maxRecDepth 100000
namespace Go.Proofs.Ytipdkompinnghaa
theorem pc_step {a b sh : Int} (a0 : 0 ≤ a) (h : a ≤ b) (s0 : 0 ≤ sh) (s1 : sh ≤ 1000000) : pcS a sh ≤ pcS b sh ∧ pcS b sh - pcS a sh ≤ b - a := by
  rw [pcS_eq, pcS_eq]
  have e : b * sh = a * sh + (b - a) * sh := by rw [← Int.add_mul]; congr 1; omega
  have h1 := Int.mul_nonneg (show 0 ≤ b - a by omega) s0
  have h2 := Int.mul_le_mul_of_nonneg_left s1 (show 0 ≤ b - a by omega)
  rw [e]
  generalize a * sh = A at *
  generalize (b - a) * sh = B at *
  omega
theorem pt_form (x : Shd) (net k : Int) : ∃ p m : Int, p = x.fx + x.dp * k ∧ m = (if (if x.tp < p then p else x.tp) < net then (if x.tp < p then p else x.tp) else net) ∧ ptS x net k = if net ≤ p then net else p + pcS (m - p) x.sh := ⟨_, _, rfl, rfl, rfl⟩
theorem min_form {t p n m : Int} (h : m = (if (if t < p then p else t) < n then (if t < p then p else t) else n)) : (m = n ∨ m = p ∨ m = t) ∧ m ≤ n ∧ (p ≤ n → p ≤ m) ∧ (m < n → t ≤ m ∧ p ≤ m) := by
  rw [h]
  by_cases h1 : t < p
  · simp only [h1, if_true]; split <;> omega
  · simp only [h1, if_false]; split <;> omega
theorem pt_mono {x : Shd} {n m k : Int} (hx : HOk x) (hk : 0 ≤ x.dp * k) (n0 : 0 ≤ n) (h : n ≤ m) : ptS x n k ≤ ptS x m k ∧ n - ptS x n k ≤ m - ptS x m k := by
  obtain ⟨p, u, hp, hu, e1⟩ := pt_form x n k
  obtain ⟨p', v, hp', hv, e2⟩ := pt_form x m k
  have : p' = p := by rw [hp, hp']
  subst this
  have hu2 := min_form hu
  have hv2 := min_form hv
  have := hx.f0
  rw [e1, e2]
  split
  · split
    · omega
    · have := pcS_bd (a := v - p') (sh := x.sh) (by omega) hx.s0 hx.s1
      omega
  · rw [if_neg (by omega)]
    have huv : u ≤ v := by
      by_cases h1 : v < m
      · have := hv2.2.2.2 h1
        by_cases h2 : u < n
        · rcases hu2.1 with h3 | h3 | h3 <;> omega
        · have h3 : u = n := by omega
          have := hu2.2.2.2
          rw [hu] at h3
          rw [hu, hv]
          by_cases h4 : x.tp < p'
          · simp only [h4, if_true] at h3 ⊢; split <;> split <;> omega
          · simp only [h4, if_false] at h3 ⊢; split <;> split <;> omega
      · omega
    have := pc_step (a := u - p') (b := v - p') (sh := x.sh) (by omega) (by omega) hx.s0 hx.s1
    have hvm : v - u ≤ m - n := by
      rw [hu, hv]
      by_cases h4 : x.tp < p'
      · simp only [h4, if_true]; split <;> split <;> omega
      · simp only [h4, if_false]; split <;> split <;> omega
    omega
theorem pt_dep {x : Shd} {n k : Int} (hx : HOk x) (hk : 0 ≤ x.dp * k) (n0 : 0 ≤ n) : ptS x n k ≤ ptS x n (k + 1) := by
  obtain ⟨p, u, hp, hu, e1⟩ := pt_form x n k
  obtain ⟨p', v, hp', hv, e2⟩ := pt_form x n (k + 1)
  have hpp : p' = p + x.dp := by rw [hp, hp', Int.mul_add]; omega
  have hu2 := min_form hu
  have hv2 := min_form hv
  have := hx.f0; have := hx.d0
  rw [e1, e2]
  split
  · rw [if_pos (by omega)]; omega
  · have hb := pcS_bd (a := u - p) (sh := x.sh) (by omega) hx.s0 hx.s1
    split
    · omega
    · have hb' := pcS_bd (a := v - p') (sh := x.sh) (by omega) hx.s0 hx.s1
      have huv : u ≤ v := by
        rw [hu, hv]
        by_cases h4 : x.tp < p
        · simp only [h4, if_true, show x.tp < p' by omega]; split <;> split <;> omega
        · simp only [h4, if_false]; split <;> split <;> (try split) <;> omega
      by_cases hc : u - p ≤ v - p'
      · have := (pc_step (a := u - p) (b := v - p') (sh := x.sh) (by omega) hc hx.s0 hx.s1).1
        omega
      · have := (pc_step (a := v - p') (b := u - p) (sh := x.sh) (by omega) (by omega) hx.s0 hx.s1).2
        omega
theorem lw_pt {x : Shd} {n k : Int} (hx : HOk x) (hk : 0 ≤ x.dp * k) (n0 : 0 ≤ n) : lwS x n k ≤ ptS x n k ∧ 0 ≤ lwS x n k ∧ ptS x n k ≤ n := by
  obtain ⟨p, u, hp, hu, e1⟩ := pt_form x n k
  have hu2 := min_form hu
  have := hx.f0; have := hx.l0; have := hx.l1
  rw [e1]
  unfold lwS
  by_cases hc : n ≤ p
  · rw [if_pos hc]; split <;> omega
  · rw [if_neg hc]
    have hb := pcS_bd (a := u - p) (sh := x.sh) (by omega) hx.s0 hx.s1
    split <;> omega
theorem gMonotone_law (n : Nat) (g : Nat → Int) (more : Int) (hn : n ≤ 9223372036854775807) : PureC G.P 5 [.vsl n 1 (tI g), vi more] (fun r => r = vb true) := by
  refine pure_of (G := G.toPg) (fn := Try.f5) Try.func5 rfl rfl rfl ?_; intro Γ hk
  repeat' (first | refine xo 4000 rfl ?_ ?_ | refine xw 4000 rfl ?_ ?_ | refine xk 4000 rfl ?_ ?_ | exact trivial | ((with_reducible (show AllP (_ :: _))); refine And.intro ?_ ?_) | refine xs rfl ?_ ?_ | refine xs_done ?_ | refine pcond_t rfl ?_ | refine pcond_f rfl ?_ | refine kround_exit ?_ | refine kround_ret ?_ | refine kround_next ?_ | refine kloop_ret ?_ | refine kloop_exit ?_ | refine kcut_ret ?_ | refine kcut_exit ?_ | refine xo0 4000 rfl ?_ ?_ | refine xw0 4000 rfl ?_ ?_ | exact qq | fail)
  refine pop_rowsc [] rfl rfl rfl rfl rfl rfl .nil (dnew_c n g) (by exact ⟨PEq.refl _, trivial⟩) ?_
  rintro r rows ⟨rfl, rfl⟩
  refine ⟨_, _, rfl, ⟨tape_cl _ _ _, trivial⟩, rfl, ?_⟩
  repeat' (first | refine xo 4000 rfl ?_ ?_ | refine xw 4000 rfl ?_ ?_ | refine xk 4000 rfl ?_ ?_ | exact trivial | ((with_reducible (show AllP (_ :: _))); refine And.intro ?_ ?_) | refine xs rfl ?_ ?_ | refine xs_done ?_ | refine pcond_t rfl ?_ | refine pcond_f rfl ?_ | refine kround_exit ?_ | refine kround_ret ?_ | refine kround_next ?_ | refine kloop_ret ?_ | refine kloop_exit ?_ | refine kcut_ret ?_ | refine kcut_exit ?_ | refine xo0 4000 rfl ?_ ?_ | refine xw0 4000 rfl ?_ ?_ | exact qq | fail)
  refine pop_dek (G := G) rfl rfl rfl rfl rfl rfl rfl rfl (fun _ => rfl) (dshield_t) hn (by omega) (by omega) rfl rfl ?_; rintro at_ _ b1 b2 ⟨x, rfl, hx, f1, d1, t1⟩
  repeat' (first | refine xo 4000 rfl ?_ ?_ | refine xw 4000 rfl ?_ ?_ | refine xk 4000 rfl ?_ ?_ | exact trivial | ((with_reducible (show AllP (_ :: _))); refine And.intro ?_ ?_) | refine xs rfl ?_ ?_ | refine xs_done ?_ | refine pcond_t rfl ?_ | refine pcond_f rfl ?_ | refine kround_exit ?_ | refine kround_ret ?_ | refine kround_next ?_ | refine kloop_ret ?_ | refine kloop_exit ?_ | refine kcut_ret ?_ | refine kcut_exit ?_ | refine xo0 4000 rfl ?_ ?_ | refine xw0 4000 rfl ?_ ?_ | exact qq | fail)
  refine pop_dek (G := G) rfl rfl rfl rfl rfl rfl rfl rfl (fun _ => rfl) (dnext_t 20 (by omega) (by omega)) hn (by omega) (by omega) rfl rfl ?_; rintro at_ _ b1 b2 ⟨k, rfl, k0, k1⟩
  repeat' (first | refine xo 4000 rfl ?_ ?_ | refine xw 4000 rfl ?_ ?_ | refine xk 4000 rfl ?_ ?_ | exact trivial | ((with_reducible (show AllP (_ :: _))); refine And.intro ?_ ?_) | refine xs rfl ?_ ?_ | refine xs_done ?_ | refine pcond_t rfl ?_ | refine pcond_f rfl ?_ | refine kround_exit ?_ | refine kround_ret ?_ | refine kround_next ?_ | refine kloop_ret ?_ | refine kloop_exit ?_ | refine kcut_ret ?_ | refine kcut_exit ?_ | refine xo0 4000 rfl ?_ ?_ | refine xw0 4000 rfl ?_ ?_ | exact qq | fail)
  refine pop_dek (G := G) rfl rfl rfl rfl rfl rfl rfl rfl (fun _ => rfl) (dsmall_t) hn (by omega) (by omega) rfl rfl ?_; rintro at_ _ b1 b2 ⟨nt, rfl, n0, n1⟩
  have hm := Int.emod_nonneg more (show (400000 : Int) ≠ 0 by omega)
  have hm1 := Int.emod_lt_of_pos more (show (0 : Int) < 400000 by omega)
  repeat' (first | refine xo 4000 rfl ?_ ?_ | refine xw 4000 rfl ?_ ?_ | refine xk 4000 rfl ?_ ?_ | exact trivial | ((with_reducible (show AllP (_ :: _))); refine And.intro ?_ ?_) | refine xs rfl ?_ ?_ | refine xs_done ?_ | refine pop_callv rfl rfl rfl rfl rfl (dmod_c _ _ (by omega) (by omega)) rfl rfl rfl ?_ | refine xs_call rfl rfl rfl rfl rfl rfl (dmod_c _ _ (by omega) (by omega)) rfl rfl rfl ?_ | refine xs_one (ch := []) rfl rfl rfl (pst_callv rfl rfl rfl rfl rfl (dmod_c _ _ (by omega) (by omega)) rfl rfl rfl ?_) | refine pop_callgv rfl rfl rfl rfl rfl rfl (fun _ => dmod_c _ _ (by omega) (by omega)) (by first | exact fun h => ⟨h, trivial⟩ | exact fun _ => trivial | exact fun h => ⟨h, h, trivial⟩) rfl rfl rfl ?_ | refine xs_one (ch := []) rfl rfl rfl (pst_callgv rfl rfl rfl rfl rfl rfl (fun _ => dmod_c _ _ (by omega) (by omega)) (by first | exact fun h => ⟨h, trivial⟩ | exact fun _ => trivial | exact fun h => ⟨h, h, trivial⟩) rfl rfl rfl ?_) | refine pcond_t rfl ?_ | refine pcond_f rfl ?_ | refine kround_exit ?_ | refine kround_ret ?_ | refine kround_next ?_ | refine kloop_ret ?_ | refine kloop_exit ?_ | refine kcut_ret ?_ | refine kcut_exit ?_ | refine xo0 4000 rfl ?_ ?_ | refine xw0 4000 rfl ?_ ?_ | exact qq | fail)
  obtain ⟨m, hmm⟩ : ∃ m, m = nt + more % 400000 := ⟨_, rfl⟩
  rw [w64 (n := nt + more % 400000) (by omega) (by omega), ← hmm]
  have hd0 := hx.d0
  have hdk : 0 ≤ x.dp * k := Int.mul_nonneg hd0 k0
  have c1 : chkS x nt k = 0 := chk_iff.2 ⟨hx, n0, by omega, k0, by omega⟩
  have c2 : chkS x m k = 0 := chk_iff.2 ⟨hx, by omega, by omega, k0, by omega⟩
  have c3 : chkS x nt (k + 1) = 0 := chk_iff.2 ⟨hx, n0, by omega, by omega, by omega⟩
  have q1 := protected_c x nt k
  rw [prot_eq c1] at q1
  have q2 := protected_c x m k
  rw [prot_eq c2] at q2
  have q3 := lower31g_c x nt k
  rw [low_eq c1] at q3
  have q4 := protected_c x nt (k + 1)
  rw [prot_eq c3] at q4
  have hw : IntKind.i64.wrap (k + 1) = k + 1 := w64 (by omega) (by omega)
  have f2 := pt_mono (m := m) hx hdk n0 (by omega)
  have f3 := pt_dep hx hdk n0
  have f4 := lw_pt hx hdk n0
  have f5 := lw_pt (n := m) hx hdk (by omega)
  have hw1 : IntKind.i64.wrap (nt - ptS x nt k) = nt - ptS x nt k := w64 (by omega) (by omega)
  have hw2 : IntKind.i64.wrap (m - ptS x m k) = m - ptS x m k := w64 (by omega) (by omega)
  repeat' (first | refine xo 4000 rfl ?_ ?_ | refine xw 4000 rfl ?_ ?_ | refine xk 4000 rfl ?_ ?_ | exact trivial | ((with_reducible (show AllP (_ :: _))); refine And.intro ?_ ?_) | refine xs rfl ?_ ?_ | refine xs_done ?_ | refine pop_callv rfl rfl rfl rfl rfl (q1) rfl rfl rfl ?_ | refine xs_call rfl rfl rfl rfl rfl rfl (q1) rfl rfl rfl ?_ | refine xs_one (ch := []) rfl rfl rfl (pst_callv rfl rfl rfl rfl rfl (q1) rfl rfl rfl ?_) | refine pop_callgv rfl rfl rfl rfl rfl rfl (fun _ => q1) (by first | exact fun h => ⟨h, trivial⟩ | exact fun _ => trivial | exact fun h => ⟨h, h, trivial⟩) rfl rfl rfl ?_ | refine xs_one (ch := []) rfl rfl rfl (pst_callgv rfl rfl rfl rfl rfl rfl (fun _ => q1) (by first | exact fun h => ⟨h, trivial⟩ | exact fun _ => trivial | exact fun h => ⟨h, h, trivial⟩) rfl rfl rfl ?_) | refine pop_callv rfl rfl rfl rfl rfl (q2) rfl rfl rfl ?_ | refine xs_call rfl rfl rfl rfl rfl rfl (q2) rfl rfl rfl ?_ | refine xs_one (ch := []) rfl rfl rfl (pst_callv rfl rfl rfl rfl rfl (q2) rfl rfl rfl ?_) | refine pop_callgv rfl rfl rfl rfl rfl rfl (fun _ => q2) (by first | exact fun h => ⟨h, trivial⟩ | exact fun _ => trivial | exact fun h => ⟨h, h, trivial⟩) rfl rfl rfl ?_ | refine xs_one (ch := []) rfl rfl rfl (pst_callgv rfl rfl rfl rfl rfl rfl (fun _ => q2) (by first | exact fun h => ⟨h, trivial⟩ | exact fun _ => trivial | exact fun h => ⟨h, h, trivial⟩) rfl rfl rfl ?_) | refine pop_callv rfl rfl rfl rfl rfl (q3) rfl rfl rfl ?_ | refine xs_call rfl rfl rfl rfl rfl rfl (q3) rfl rfl rfl ?_ | refine xs_one (ch := []) rfl rfl rfl (pst_callv rfl rfl rfl rfl rfl (q3) rfl rfl rfl ?_) | refine pop_callgv rfl rfl rfl rfl rfl rfl (fun _ => q3) (by first | exact fun h => ⟨h, trivial⟩ | exact fun _ => trivial | exact fun h => ⟨h, h, trivial⟩) rfl rfl rfl ?_ | refine xs_one (ch := []) rfl rfl rfl (pst_callgv rfl rfl rfl rfl rfl rfl (fun _ => q3) (by first | exact fun h => ⟨h, trivial⟩ | exact fun _ => trivial | exact fun h => ⟨h, h, trivial⟩) rfl rfl rfl ?_) | refine pcond_t rfl ?_ | refine pcond_f rfl ?_ | refine kround_exit ?_ | refine kround_ret ?_ | refine kround_next ?_ | refine kloop_ret ?_ | refine kloop_exit ?_ | refine kcut_ret ?_ | refine kcut_exit ?_ | refine xo0 4000 rfl ?_ ?_ | refine xw0 4000 rfl ?_ ?_ | exact qq | fail)
  rw [hw]
  repeat' (first | refine xo 4000 rfl ?_ ?_ | refine xw 4000 rfl ?_ ?_ | refine xk 4000 rfl ?_ ?_ | exact trivial | ((with_reducible (show AllP (_ :: _))); refine And.intro ?_ ?_) | refine xs rfl ?_ ?_ | refine xs_done ?_ | refine pop_callv rfl rfl rfl rfl rfl (q4) rfl rfl rfl ?_ | refine xs_call rfl rfl rfl rfl rfl rfl (q4) rfl rfl rfl ?_ | refine xs_one (ch := []) rfl rfl rfl (pst_callv rfl rfl rfl rfl rfl (q4) rfl rfl rfl ?_) | refine pop_callgv rfl rfl rfl rfl rfl rfl (fun _ => q4) (by first | exact fun h => ⟨h, trivial⟩ | exact fun _ => trivial | exact fun h => ⟨h, h, trivial⟩) rfl rfl rfl ?_ | refine xs_one (ch := []) rfl rfl rfl (pst_callgv rfl rfl rfl rfl rfl rfl (fun _ => q4) (by first | exact fun h => ⟨h, trivial⟩ | exact fun _ => trivial | exact fun h => ⟨h, h, trivial⟩) rfl rfl rfl ?_) | refine pop_callv rfl rfl rfl rfl rfl (awake_c) rfl rfl rfl ?_ | refine xs_call rfl rfl rfl rfl rfl rfl (awake_c) rfl rfl rfl ?_ | refine xs_one (ch := []) rfl rfl rfl (pst_callv rfl rfl rfl rfl rfl (awake_c) rfl rfl rfl ?_) | refine pop_callgv rfl rfl rfl rfl rfl rfl (fun _ => awake_c) (by first | exact fun h => ⟨h, trivial⟩ | exact fun _ => trivial | exact fun h => ⟨h, h, trivial⟩) rfl rfl rfl ?_ | refine xs_one (ch := []) rfl rfl rfl (pst_callgv rfl rfl rfl rfl rfl rfl (fun _ => awake_c) (by first | exact fun h => ⟨h, trivial⟩ | exact fun _ => trivial | exact fun h => ⟨h, h, trivial⟩) rfl rfl rfl ?_) | refine pcond_t rfl ?_ | refine pcond_f rfl ?_ | refine kround_exit ?_ | refine kround_ret ?_ | refine kround_next ?_ | refine kloop_ret ?_ | refine kloop_exit ?_ | refine kcut_ret ?_ | refine kcut_exit ?_ | refine xo0 4000 rfl ?_ ?_ | refine xw0 4000 rfl ?_ ?_ | exact qq | fail)
  refine xdone ?_
  refine kretv rfl ⟨trivial, trivial⟩ rfl (eqB ?_)
  simp only [hw1, hw2, decide_eq_true f2.1, decide_eq_true f2.2, decide_eq_true f3, decide_eq_true f4.1, decide_eq_true f4.2.1, decide_eq_true f4.2.2]
  rfl
theorem gMonotone_walk (v : Value) (l : List Int) (more : Int) (w : World) (h : IntsAt w v l) : Calls G.P 5 #[v, .int .i64 more] w fun e w' => e = .returned (.bool true) ∧ Ext w w' := by
  obtain ⟨a, cap, hv, hc, hl, hh⟩ := h
  have h : IntsAt w v l := ⟨a, cap, hv, hc, hl, hh⟩
  exact law_of (vs := [v, .int .i64 more]) (gMonotone_law l.length (fun i => l.getD i 0) more hl) ⟨h.rel _, rfl, trivial⟩
end Go.Proofs.Ytipdkompinnghaa
