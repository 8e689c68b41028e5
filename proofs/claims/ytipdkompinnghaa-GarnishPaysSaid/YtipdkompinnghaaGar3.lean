/- Garnishment: serving orders. -/
import Derived.Test.YtipdkompinnghaaGar2
import Derived.Test.YtipdkompinnghaaGarP
set_option linter.unusedSimpArgs false
set_option linter.unusedVariables false
set_option maxRecDepth 100000
namespace Go.Proofs.Ytipdkompinnghaa
structure OOk (n : Nat) (g : Nat → Ord) : Prop where
  n16 : n ≤ 16
  r0 : ∀ i, i < n → 0 ≤ (g i).rk
  r9 : ∀ i, i < n → (g i).rk ≤ 9
  d0 : ∀ i, i < n → 0 ≤ (g i).dy
  d1 : ∀ i, i < n → (g i).dy ≤ 84005
  a0 : ∀ i, i < n → 0 ≤ (g i).am
  a1 : ∀ i, i < n → (g i).am ≤ 1000000000
  t0 : ∀ i, i < n → 0 ≤ (g i).tt
  t1 : ∀ i, i < n → (g i).tt ≤ 1000000000
theorem ords_ok {n : Nat} {g : Nat → Ord} (h : ordsB n g = true) : OOk n g := by
  obtain ⟨h1, h2⟩ := ordsB_iff.1 h
  have h3 : ∀ i, i < n → (0 ≤ (g i).rk ∧ (g i).rk ≤ 9) ∧ (0 ≤ (g i).dy ∧ (g i).dy ≤ 84005) ∧ (0 ≤ (g i).am ∧ (g i).am ≤ 1000000000) ∧ (0 ≤ (g i).tt ∧ (g i).tt ≤ 1000000000) := fun i hi => by
    have := h2 i hi
    simp only [ordB, amB, Bool.and_eq_true, decide_eq_true_eq] at this
    exact ⟨this.1.1.1.2, this.1.1.2, this.1.2, this.2⟩
  exact ⟨h1, fun i hi => (h3 i hi).1.1, fun i hi => (h3 i hi).1.2, fun i hi => (h3 i hi).2.1.1, fun i hi => (h3 i hi).2.1.2, fun i hi => (h3 i hi).2.2.1.1, fun i hi => (h3 i hi).2.2.1.2, fun i hi => (h3 i hi).2.2.2.1, fun i hi => (h3 i hi).2.2.2.2⟩
abbrev clO (g : Nat → Ord) (i : Nat) : Int := clmS (g i)
theorem OOk.cl {n : Nat} {g : Nat → Ord} (h : OOk n g) {i : Nat} (hi : i < n) : 0 ≤ clO g i ∧ clO g i ≤ 1000000000 := by
  have := h.a0 i hi; have := h.a1 i hi; have := h.t0 i hi; have := h.t1 i hi
  unfold clO clmS
  split
  · omega
  · split <;> omega
theorem OOk.key {n : Nat} {g : Nat → Ord} (h : OOk n g) {i j : Nat} (hi : i < n) (hj : j < n) : keyO g i = keyO g j ↔ (g i).rk = (g j).rk ∧ (g i).dy = (g j).dy := by
  have := h.d0 i hi; have := h.d1 i hi; have := h.d0 j hj; have := h.d1 j hj
  unfold keyO; omega
def bRow (n : Nat) (g : Nat → Ord) : Row := ⟨.imm, true, 1, 1, fun _ => nthP [vOs n g]⟩
theorem b_cl (n : Nat) (g : Nat → Ord) : rowCl (bRow n g) := fun _ _ j _ => clL_nth _ j ⟨trivial, trivial⟩
theorem peq_lsl0 {l i sz : Nat} {f : Nat → Nat → PV} : PEq (.lsl l i 0) (.vsl 0 sz f) := fun k ρ I w v h => by
  rcases h.2 with ⟨_, a, rfl⟩ | ⟨cap, _, rfl, _⟩
  · exact ⟨a, 0, rfl, Nat.le_refl _, .inl rfl⟩
  · exact ⟨_, cap, rfl, Nat.zero_le _, .inl rfl⟩
/-- sorting nothing -/
theorem ins0_c (f : Nat → Nat → PV) (F : FuncId) (cap : PV) (hcap : clB cap = true) : PureC G.P 77 [.vsl 0 1 f, vi 0, vi 0, .clo F 1 (fun _ => cap)] (fun r => r = .tup 0 (nthP [])) := by
  refine pure_of (G := G.toPg) (fn := Try.f77) Try.func77 rfl rfl rfl ?_; intro Γ hk
  repeat' (first | refine xo 4000 rfl ?_ ?_ | refine xw 4000 rfl ?_ ?_ | refine xk 4000 rfl ?_ ?_ | exact trivial | ((with_reducible (show AllP (_ :: _))); refine And.intro ?_ ?_) | refine xs rfl ?_ ?_ | refine xs_done ?_ | refine pcond_t rfl ?_ | refine pcond_f rfl ?_ | refine kround_exit ?_ | refine kround_ret ?_ | refine kround_next ?_ | refine kloop_ret ?_ | refine kloop_exit ?_ | refine kcut_ret ?_ | refine kcut_exit ?_ | refine xo0 4000 rfl ?_ ?_ | refine xw0 4000 rfl ?_ ?_ | exact qq | fail)
  refine ploopN 1 ?_
  repeat' (first | refine xo 4000 rfl ?_ ?_ | refine xw 4000 rfl ?_ ?_ | refine xk 4000 rfl ?_ ?_ | exact trivial | ((with_reducible (show AllP (_ :: _))); refine And.intro ?_ ?_) | refine xs rfl ?_ ?_ | refine xs_done ?_ | refine pcond_t rfl ?_ | refine pcond_f rfl ?_ | refine kround_exit ?_ | refine kround_ret ?_ | refine kround_next ?_ | refine kloop_ret ?_ | refine kloop_exit ?_ | refine kcut_ret ?_ | refine kcut_exit ?_ | refine xo0 4000 rfl ?_ ?_ | refine xw0 4000 rfl ?_ ?_ | exact qq | fail)
  exact kretvn rfl trivial rfl rfl
theorem stable0_c (f : Nat → Nat → PV) (F : FuncId) (cap : PV) (hcap : clB cap = true) : PureC G.P 74 [.vsl 0 1 f, vi 0, .clo F 1 (fun _ => cap)] (fun r => r = .tup 0 (nthP [])) := by
  have hc : clBL [.vsl 0 1 f, vi 0, vi 0, .clo F 1 (fun _ => cap)] = true := by simp [clBL, clB, allB, hcap]
  refine pure_of (G := G.toPg) (fn := Try.f74) Try.func74 rfl rfl rfl ?_; intro Γ hk
  repeat' (first | refine xo 4000 rfl ?_ ?_ | refine xw 4000 rfl ?_ ?_ | refine xk 4000 rfl ?_ ?_ | exact trivial | ((with_reducible (show AllP (_ :: _))); refine And.intro ?_ ?_) | refine xs rfl ?_ ?_ | refine xs_done ?_ | refine pcond_t rfl ?_ | refine pcond_f rfl ?_ | refine kround_exit ?_ | refine kround_ret ?_ | refine kround_next ?_ | refine kloop_ret ?_ | refine kloop_exit ?_ | refine kcut_ret ?_ | refine kcut_exit ?_ | refine xo0 4000 rfl ?_ ?_ | refine xw0 4000 rfl ?_ ?_ | exact qq | fail)
  refine ploopN 1 ?_
  repeat' (first | refine xo 4000 rfl ?_ ?_ | refine xw 4000 rfl ?_ ?_ | refine xk 4000 rfl ?_ ?_ | exact trivial | ((with_reducible (show AllP (_ :: _))); refine And.intro ?_ ?_) | refine xs rfl ?_ ?_ | refine xs_done ?_ | refine pop_callv rfl rfl rfl rfl rfl (ins0_c f F cap hcap) rfl hc rfl ?_ | refine pcond_t rfl ?_ | refine pcond_f rfl ?_ | refine kround_exit ?_ | refine kround_ret ?_ | refine kround_next ?_ | refine kloop_ret ?_ | refine kloop_exit ?_ | refine kcut_ret ?_ | refine kcut_exit ?_ | refine xo0 4000 rfl ?_ ?_ | refine xw0 4000 rfl ?_ ?_ | exact qq | fail)
  refine ploopN 1 ?_
  repeat' (first | refine xo 4000 rfl ?_ ?_ | refine xw 4000 rfl ?_ ?_ | refine xk 4000 rfl ?_ ?_ | exact trivial | ((with_reducible (show AllP (_ :: _))); refine And.intro ?_ ?_) | refine xs rfl ?_ ?_ | refine xs_done ?_ | refine pcond_t rfl ?_ | refine pcond_f rfl ?_ | refine kround_exit ?_ | refine kround_ret ?_ | refine kround_next ?_ | refine kloop_ret ?_ | refine kloop_exit ?_ | refine kcut_ret ?_ | refine kcut_exit ?_ | refine xo0 4000 rfl ?_ ?_ | refine xw0 4000 rfl ?_ ?_ | exact qq | fail)
  exact kretvn rfl trivial rfl rfl
theorem sort0_c (f : Nat → Nat → PV) (F : FuncId) (cap : PV) (hcap : clB cap = true) : PureC G.P 62 [.vsl 0 1 f, .clo F 1 (fun _ => cap)] (fun r => r = .tup 0 (nthP [])) := by
  have hc : clBL [.vsl 0 1 f, vi 0, .clo F 1 (fun _ => cap)] = true := by simp [clBL, clB, allB, hcap]
  refine pure_of (G := G.toPg) (fn := Try.f62) Try.func62 rfl rfl rfl ?_; intro Γ hk
  repeat' (first | refine xo 4000 rfl ?_ ?_ | refine xw 4000 rfl ?_ ?_ | refine xk 4000 rfl ?_ ?_ | exact trivial | ((with_reducible (show AllP (_ :: _))); refine And.intro ?_ ?_) | refine xs rfl ?_ ?_ | refine xs_done ?_ | refine pop_callv rfl rfl rfl rfl rfl (stable0_c f F cap hcap) rfl hc rfl ?_ | refine pcond_t rfl ?_ | refine pcond_f rfl ?_ | refine kround_exit ?_ | refine kround_ret ?_ | refine kround_next ?_ | refine kloop_ret ?_ | refine kloop_exit ?_ | refine kcut_ret ?_ | refine kcut_exit ?_ | refine xo0 4000 rfl ?_ ?_ | refine xw0 4000 rfl ?_ ?_ | exact qq | fail)
  exact kretvn rfl trivial rfl rfl
theorem alcO {n : Nat} {t : Int} {g : Nat → Int} (hn : n ≤ 1024) (t0 : 0 ≤ t) (t1 : t ≤ 1000000000) (hg : ∀ i, i < n → 0 ≤ g i ∧ g i ≤ 1000000000) (hs : sumN n g ≠ 0) : alcS n t g = ((n, sgnP n t g), 0) := by
  rw [alcS, if_neg (by omega), if_neg (by omega), if_neg (by rw [okW_iff.2 hg]; simp), if_neg hs]
set_option maxHeartbeats 4000000 in
theorem serve_c (n : Nat) (g : Nat → Ord) (hO : OOk n g) (p : Nat → Bool) (hkey : ∀ i j, i < n → j < n → keyO g i = keyO g j → p i = p j) (A : Int) (hA0 : 0 ≤ A) (hA1 : A ≤ 1000000000) (t : Nat → Int) :
    RowsC G.P 51 [iRow n t] [vOs n g, .vsl (ixS n p).length 1 (tI (lN (ixS n p))), vi A, .lsl 0 0 n] (fun r rows => r = vi 0 ∧ rows = [iRow n (fun j => if j ∈ ixS n p then tkS n (keyO g) (clO g) p A j else t j)]) := by
  obtain ⟨ix, hix⟩ : ∃ ix, ix = ixS n p := ⟨_, rfl⟩
  obtain ⟨m, hm⟩ : ∃ m, m = ix.length := ⟨_, rfl⟩
  rw [← hix, ← hm]
  have hn := hO.n16
  have hmn : m ≤ n := by rw [hm, hix]; unfold ixS; exact Nat.le_trans (List.length_filter_le _ _) (by simp)
  refine rows_of (G := G.toPg) (fn := Try.f51) Try.func51 rfl rfl rfl ?_; intro Γ hk
  repeat' (first | refine xo 4000 rfl ?_ ?_ | refine xw 4000 rfl ?_ ?_ | refine xk 4000 rfl ?_ ?_ | exact trivial | ((with_reducible (show AllP (_ :: _))); refine And.intro ?_ ?_) | refine xs rfl ?_ ?_ | refine xs_done ?_ | refine pcond_t rfl ?_ | refine pcond_f rfl ?_ | refine kround_exit ?_ | refine kround_ret ?_ | refine kround_next ?_ | refine kloop_ret ?_ | refine kloop_exit ?_ | refine kcut_ret ?_ | refine kcut_exit ?_ | refine xo0 4000 rfl ?_ ?_ | refine xw0 4000 rfl ?_ ?_ | exact qq | fail)
  refine pop_rows [] rfl rfl rfl rfl rfl rfl (by exact .nil) (clone_c m (lN ix) (by omega)) (by exact ⟨PEq.refl _, trivial⟩) ?_
  intro r rows hr
  by_cases h0 : m = 0
  · -- nothing to serve
    have hnil : ix = [] := List.length_eq_zero_iff.1 (by omega)
    have hT : (fun j => if j ∈ ix then tkS n (keyO g) (clO g) p A j else t j) = t := by funext j; rw [hnil]; simp
    rw [hT]
    subst h0
    have sc := sort0_c (tI (lN ix)) 63 (capO n g) rfl
    rcases hr with ⟨rfl, rfl⟩ | ⟨_, rfl, rfl⟩
    all_goals
      refine ⟨_, _, rfl, rfl, ?_⟩
      repeat' (first | refine xo 4000 rfl ?_ ?_ | refine xw 4000 rfl ?_ ?_ | refine xk 4000 rfl ?_ ?_ | exact trivial | ((with_reducible (show AllP (_ :: _))); refine And.intro ?_ ?_) | refine xs rfl ?_ ?_ | refine xs_done ?_ | refine pcond_t rfl ?_ | refine pcond_f rfl ?_ | refine kround_exit ?_ | refine kround_ret ?_ | refine kround_next ?_ | refine kloop_ret ?_ | refine kloop_exit ?_ | refine kcut_ret ?_ | refine kcut_exit ?_ | refine xo0 4000 rfl ?_ ?_ | refine xw0 4000 rfl ?_ ?_ | exact qq | fail)
      refine ocan (can_frz [1] (by have h0 : Γ.k0 = 1 := hk; rw [h0]; intro l hl; simp at hl; omega) rfl (tm := [(2, vi A), (3, .lsl 0 0 n), (4, .ptr 1 0 0), (9, .vsl 0 1 (tI (lN ix))), (23, .vsl 0 1 (tI (lN ix))), (24, .clo 63 1 (fun _ => capO n g))]) (by exact ⟨.inl rfl, .inl rfl, .inl rfl, .inr (by first | exact argLsl0 | exact argNil), .inr (by first | exact argLsl0 | exact argNil), .inr (argClo1 (argPtr rfl trivial (by decide) (Nat.le_refl _) rfl (all1 (all1 argVsl)))), trivial⟩)) ?_
      repeat' (first | refine xo 4000 rfl ?_ ?_ | refine xw 4000 rfl ?_ ?_ | refine xk 4000 rfl ?_ ?_ | exact trivial | ((with_reducible (show AllP (_ :: _))); refine And.intro ?_ ?_) | refine xs rfl ?_ ?_ | refine xs_done ?_ | refine pop_callv rfl rfl rfl rfl rfl sc rfl rfl rfl ?_ | refine pcond_t rfl ?_ | refine pcond_f rfl ?_ | refine kround_exit ?_ | refine kround_ret ?_ | refine kround_next ?_ | refine kloop_ret ?_ | refine kloop_exit ?_ | refine kcut_ret ?_ | refine kcut_exit ?_ | refine xo0 4000 rfl ?_ ?_ | refine xw0 4000 rfl ?_ ?_ | exact qq | fail)
      refine ploopN 1 ?_
      repeat' (first | refine xo 4000 rfl ?_ ?_ | refine xw 4000 rfl ?_ ?_ | refine xk 4000 rfl ?_ ?_ | exact trivial | ((with_reducible (show AllP (_ :: _))); refine And.intro ?_ ?_) | refine xs rfl ?_ ?_ | refine xs_done ?_ | refine pcond_t rfl ?_ | refine pcond_f rfl ?_ | refine kround_exit ?_ | refine kround_ret ?_ | refine kround_next ?_ | refine kloop_ret ?_ | refine kloop_exit ?_ | refine kcut_ret ?_ | refine kcut_exit ?_ | refine xo0 4000 rfl ?_ ?_ | refine xw0 4000 rfl ?_ ?_ | exact qq | fail)
      exact kretr (st' := ⟨[(8, vi 0)], [iRow n t]⟩) (can_rowsv [0] (k0_sel hk rfl) rfl (by (repeat (refine SelV.cons rfl rqq ?_)); exact SelV.nil) tmq) rfl ⟨trivial, trivial⟩ rfl ⟨rfl, rfl⟩
  · rcases hr with ⟨rfl, rfl⟩ | ⟨hh, _, _⟩
    rotate_left
    · exact absurd hh h0
    have hLn : ∀ x, x ∈ ix → x < n := fun x hx => by rw [hix, ix_mem] at hx; exact hx.1
    refine ⟨_, _, rfl, rfl, ?_⟩
    repeat' (first | refine xo 4000 rfl ?_ ?_ | refine xw 4000 rfl ?_ ?_ | refine xk 4000 rfl ?_ ?_ | exact trivial | ((with_reducible (show AllP (_ :: _))); refine And.intro ?_ ?_) | refine xs rfl ?_ ?_ | refine xs_done ?_ | refine pcond_t rfl ?_ | refine pcond_f rfl ?_ | refine kround_exit ?_ | refine kround_ret ?_ | refine kround_next ?_ | refine kloop_ret ?_ | refine kloop_exit ?_ | refine kcut_ret ?_ | refine kcut_exit ?_ | refine xo0 4000 rfl ?_ ?_ | refine xw0 4000 rfl ?_ ?_ | exact qq | fail)
    refine ocan (can_frz [1] (by have h0 : Γ.k0 = 1 := hk; rw [h0]; intro l hl; simp at hl; omega) rfl (tm := [(2, vi A), (3, .lsl 0 0 n), (4, .ptr 1 0 0), (9, .lsl 2 0 m), (23, .lsl 2 0 m), (24, .clo 63 1 (fun _ => capO n g))]) (by exact ⟨.inl rfl, .inl rfl, .inl rfl, .inl rfl, .inl rfl, .inr (argClo1 (argPtr rfl trivial (by decide) (Nat.le_refl _) rfl (all1 (all1 argVsl)))), trivial⟩)) ?_
    refine ocan (st' := ⟨[(2, vi A), (3, .lsl 0 0 n), (4, .ptr 1 0 0), (9, .lsl 2 0 m), (23, .lsl 2 0 m), (24, .clo 63 1 (fun _ => capO n g))], [iRow n t, bRow n g, iRow m (lN ix)]⟩) (can_rowsv [0, 1, 2] (k0_sel hk rfl) rfl (.cons rfl (RowEq.cl (i_cl _ _)) (.cons rfl (RowEq.cl (b_cl n g)) (.cons rfl (i_eq (Nat.le_refl _) (fun _ _ => rfl)) .nil))) (by exact ⟨PEq.refl _, PEq.refl _, PEq.refl _, PEq.refl _, PEq.refl _, PEq.cl _ (fun _ _ => trivial), trivial⟩)) ?_
    refine pop_rowsc [2] rfl rfl rfl rfl rfl rfl (.cons rfl trivial (RowEq.cl (i_cl _ _)) .nil) (sortStable_c 63 (capO n g) (keyO g) ix m hm.symm (by omega) (by omega) (by rw [hix]; exact ix_asc n p) rfl (fun a ha b hb => cmpO_c n g (fun i hi => ⟨hO.d0 i hi, hO.d1 i hi⟩) a b (hLn a ha) (hLn b hb))) (by exact ⟨PEq.refl _, PEq.cl _ (fun _ _ => trivial), trivial⟩) ?_
    rintro r rows ⟨rfl, s, hp, hsrt, rfl⟩
    refine ⟨_, _, rfl, ⟨i_cl _ _, trivial⟩, rfl, ?_⟩
    have hlen : s.length = m := by rw [hp.length_eq, hm]
    have hsn : ∀ x, x ∈ s → x < n := fun x hx => hLn x (hp.mem_iff.1 hx)
    have hsg : ∀ a, a < m → s.getD a 0 < n := fun a ha => hsn _ (getD_mem (by omega))
    obtain ⟨T, hT⟩ : ∃ T : List Nat → Nat → Int, T = fun s1 j => if j ∈ s1 then tkS n (keyO g) (clO g) p A j else t j := ⟨_, rfl⟩
    repeat' (first | refine xo 4000 rfl ?_ ?_ | refine xw 4000 rfl ?_ ?_ | refine xk 4000 rfl ?_ ?_ | exact trivial | ((with_reducible (show AllP (_ :: _))); refine And.intro ?_ ?_) | refine xs rfl ?_ ?_ | refine xs_done ?_ | refine pcond_t rfl ?_ | refine pcond_f rfl ?_ | refine kround_exit ?_ | refine kround_ret ?_ | refine kround_next ?_ | refine kloop_ret ?_ | refine kloop_exit ?_ | refine kcut_ret ?_ | refine kcut_exit ?_ | refine xo0 4000 rfl ?_ ?_ | refine xw0 4000 rfl ?_ ?_ | exact qq | fail)
    refine pcan (st' := ⟨[(3, .lsl 0 0 n), (4, .ptr 1 0 0), (9, .lsl 2 0 m), (10, vi A), (11, vi 0)], [iRow n t, bRow n g, iRow m (lN s)]⟩) (can_rowsv [0, 1, 2] (k0_sel hk rfl) rfl (.cons rfl (RowEq.cl (i_cl _ _)) (.cons rfl (RowEq.cl (b_cl n g)) (.cons rfl (RowEq.cl (i_cl _ _)) .nil))) (by exact ⟨PEq.refl _, PEq.refl _, PEq.refl _, PEq.refl _, PEq.refl _, trivial⟩)) ?_
    refine ploop (fun q st => ∃ s1 s2, SrtInv n (keyO g) p s s1 s2 ∧ q = m - s1.length ∧ st = ⟨[(3, .lsl 0 0 n), (4, .ptr 1 0 0), (9, .lsl 2 0 m), (10, vi (mx0 (A - sumL (clO g) s1))), (11, vi s1.length)], [iRow n (T s1), bRow n g, iRow m (lN s)]⟩) m ⟨[], s, ⟨by rw [← hix]; exact hp, hsrt, rfl, by simp⟩, rfl, by
      have e1 : mx0 (A - sumL (clO g) []) = A := by unfold mx0 sumL; rw [if_neg (by omega)]; omega
      have e2 : T [] = t := by rw [hT]; funext j; simp
      rw [e1, e2]; rfl⟩ ?_
    rintro _ _ ⟨s1, s2, hI, rfl, rfl⟩
    obtain ⟨f, hf⟩ : ∃ f, f = s1.length := ⟨_, rfl⟩
    rw [← hf]
    have hsl : s1.length + s2.length = m := by rw [← hlen, hI.app]; simp
    repeat' (first | refine xo 4000 rfl ?_ ?_ | refine xw 4000 rfl ?_ ?_ | refine xk 4000 rfl ?_ ?_ | exact trivial | ((with_reducible (show AllP (_ :: _))); refine And.intro ?_ ?_) | refine xs rfl ?_ ?_ | refine xs_done ?_ | refine pcond_t rfl ?_ | refine pcond_f rfl ?_ | refine kround_exit ?_ | refine kround_ret ?_ | refine kround_next ?_ | refine kloop_ret ?_ | refine kloop_exit ?_ | refine kcut_ret ?_ | refine kcut_exit ?_ | refine xo0 4000 rfl ?_ ?_ | refine xw0 4000 rfl ?_ ?_ | exact qq | fail)
    refine pcond rfl ?_ ?_ <;> intro hc <;> simp at hc
    · -- a group
      have hfm : f < m := by omega
      have hsd : s2 = s.drop f := by rw [hI.app, hf, List.drop_left]
      obtain ⟨cf, hcf⟩ : ∃ cf : Nat → Int, cf = fun a => clO g (s.getD (f + a) 0) := ⟨_, rfl⟩
      obtain ⟨left, hleft⟩ : ∃ left, left = mx0 (A - sumL (clO g) s1) := ⟨_, rfl⟩
      have hs1 : 0 ≤ sumL (clO g) s1 := sumL_nonneg fun x hx => (hO.cl (hsn x (by rw [hI.app]; simp [hx]))).1
      have hl01 : 0 ≤ left ∧ left ≤ 1000000000 := by rw [hleft]; unfold mx0; split <;> omega
      have hcfb : ∀ a, f + a < m → 0 ≤ cf a ∧ cf a ≤ 1000000000 := fun a ha => by rw [hcf]; exact hO.cl (hsg _ ha)
      rw [← hleft]
      repeat' (first | refine xo 4000 rfl ?_ ?_ | refine xw 4000 rfl ?_ ?_ | refine xk 4000 rfl ?_ ?_ | exact trivial | ((with_reducible (show AllP (_ :: _))); refine And.intro ?_ ?_) | refine xs rfl ?_ ?_ | refine xs_done ?_ | refine pcond_t rfl ?_ | refine pcond_f rfl ?_ | refine kround_exit ?_ | refine kround_ret ?_ | refine kround_next ?_ | refine kloop_ret ?_ | refine kloop_exit ?_ | refine kcut_ret ?_ | refine kcut_exit ?_ | refine xo0 4000 rfl ?_ ?_ | refine xw0 4000 rfl ?_ ?_ | exact qq | fail)
      refine pcan (can_virt (vRow c1 1 0 cf) rfl) ?_
      refine pcan (st' := ⟨[(3, .lsl 0 0 n), (4, .ptr 1 0 0), (9, .lsl 2 0 m), (10, vi left), (11, vi f), (12, slP 0 3), (13, vi 0), (14, vi f)], [iRow n (T s1), bRow n g, iRow m (lN s), vRow c1 1 0 cf]⟩) (can_rowsv [0, 1, 2, 3] (k0_sel hk rfl) rfl (.cons rfl (RowEq.cl (i_cl _ _)) (.cons rfl (RowEq.cl (b_cl n g)) (.cons rfl (RowEq.cl (i_cl _ _)) (.cons rfl (RowEq.cl (v_cl c1_cl _ _ _)) .nil)))) (by (repeat refine ⟨PEq.refl _, ?_⟩); exact trivial)) ?_
      refine ploop (fun q st => ∃ k : Nat, f + k ≤ m ∧ (∀ a, a < k → keyO g (s.getD (f + a) 0) = keyO g (s.getD f 0)) ∧ q = m - (f + k) ∧ st = ⟨[(3, .lsl 0 0 n), (4, .ptr 1 0 0), (9, .lsl 2 0 m), (10, vi left), (11, vi f), (12, slP k 3), (13, vi (sumN k cf)), (14, vi ((f + k : Nat) : Int))], [iRow n (T s1), bRow n g, iRow m (lN s), vRow c1 1 k cf]⟩) (m - f) ⟨0, by omega, fun a ha => absurd ha (Nat.not_lt_zero a), rfl, rfl⟩ ?_
      rintro _ _ ⟨k, hkm, hks, rfl, rfl⟩
      have hsum : 0 ≤ sumN k cf ∧ sumN k cf ≤ k * 1000000000 := by
        refine ⟨sumN_nonneg fun a ha => (hcfb a (by omega)).1, ?_⟩
        have := sumN_le (n := k) (f := cf) (g := fun _ => 1000000000) fun a ha => (hcfb a (by omega)).2
        rw [sumN_const] at this; exact this
      have b1 : f + k < m → 0 ≤ lN s (0 + (((f + k : Nat) : Int)).toNat) ∧ lN s (0 + (((f + k : Nat) : Int)).toNat) < n := fun h => by
        rw [Nat.zero_add]; have := hsg (f + k) h; unfold lN; simp only [Int.toNat_natCast]; omega
      have b2 : 0 ≤ lN s (0 + (((f : Nat) : Int)).toNat) ∧ lN s (0 + (((f : Nat) : Int)).toNat) < n := by
        rw [Nat.zero_add]; have := hsg f hfm; unfold lN; simp only [Int.toNat_natCast]; omega
      have eX : ∀ a : Nat, (lN s (0 + ((a : Nat) : Int).toNat)).toNat = s.getD a 0 := fun a => by rw [Nat.zero_add]; simp [lN]
      repeat' (first | refine xo 4000 rfl ?_ ?_ | refine xw 4000 rfl ?_ ?_ | refine xk 4000 rfl ?_ ?_ | exact trivial | ((with_reducible (show AllP (_ :: _))); refine And.intro ?_ ?_) | refine xs rfl ?_ ?_ | refine xs_done ?_ | refine xs_start (id := 9) true [.take 0, .take 1, .take 2, .take 3, .take 4, .take 5, .take 6, .take 7, .take 8, .take 9, .take 10, .take 11, .take 12, .take 13, .take 14, .take 15, .take 16, .take 17, .take 18, .take 19, .take 20, .take 21, .take 22, .take 23, .take 24, .take 25, .take 26, .take 27, .take 28, .take 29, .take 30, .take 31, .take 32, .take 33, .take 34, .take 35, .take 36, .take 37, .take 38, .take 39, .take 40, .take 41] 0 rfl rfl (by kernel_rfl) ?_ | refine xs_start (id := 10) true [.take 0, .take 1, .take 2, .take 3, .take 4, .take 5, .take 6, .one 7, .take 8] 0 rfl rfl (by kernel_rfl) ?_ | refine pcond_t rfl ?_ | refine pcond_f rfl ?_ | refine kround_exit ?_ | refine kround_ret ?_ | refine kround_next ?_ | refine kloop_ret ?_ | refine kloop_exit ?_ | refine kcut_ret ?_ | refine kcut_exit ?_ | refine xo0 4000 rfl ?_ ?_ | refine xw0 4000 rfl ?_ ?_ | exact qq | fail)
      refine pcond (b := decide (f + k < m ∧ keyO g (s.getD (f + k) 0) = keyO g (s.getD f 0))) ?_ ?_ ?_
      · refine eqB ?_
        rw [eX, eX]
        by_cases h : f + k < m
        · have hkk := hO.key (hsg (f + k) h) (hsg f hfm)
          have hlt : ((f + k : Nat) : Int) < (m : Int) := by omega
          rw [Bool.eq_iff_iff, decide_eq_true_eq, hkk, decide_eq_true hlt]
          simp [h]
        · have hlt : ¬ ((f + k : Nat) : Int) < (m : Int) := by omega
          rw [decide_eq_false hlt, decide_eq_false (fun h' => h h'.1)]; rfl
      · intro h1
        simp only [decide_eq_true_eq] at h1
        obtain ⟨h1, h2⟩ := h1
        have hb := hcfb k h1
        have hcl : clmS (g (lN s (0 + (((f + k : Nat) : Int)).toNat)).toNat) = cf k := by rw [eX, hcf]
        have hw1 : IntKind.i64.wrap (sumN k cf + cf k) = sumN (k + 1) cf := by rw [w64 (by omega) (by omega)]; rfl
        have hw2 : IntKind.i64.wrap (((f + k : Nat) : Int) + 1) = ((f + (k + 1) : Nat) : Int) := by rw [w64 (by omega) (by omega)]; omega
        have hnext : ∀ a, a < k + 1 → keyO g (s.getD (f + a) 0) = keyO g (s.getD f 0) := fun a ha => by
          by_cases e : a = k
          · subst e; exact h2
          · exact hks a (by omega)
        repeat' (first | refine xo 4000 rfl ?_ ?_ | refine xw 4000 rfl ?_ ?_ | refine xk 4000 rfl ?_ ?_ | exact trivial | ((with_reducible (show AllP (_ :: _))); refine And.intro ?_ ?_) | refine xs rfl ?_ ?_ | refine xs_done ?_ | refine xs_start (id := 9) true [.take 0, .take 1, .take 2, .take 3, .take 4, .take 5, .take 6, .take 7, .take 8, .take 9, .take 10, .take 11, .take 12, .take 13, .take 14, .take 15, .take 16, .take 17, .take 18, .take 19, .take 20, .take 21, .take 22, .take 23, .take 24, .take 25, .take 26, .take 27, .take 28, .take 29, .take 30, .take 31, .take 32, .take 33, .take 34, .take 35, .take 36, .take 37, .take 38, .take 39, .take 40, .take 41] 0 rfl rfl (by kernel_rfl) ?_ | refine xs_start (id := 10) true [.take 0, .take 1, .take 2, .take 3, .take 4, .take 5, .take 6, .one 7, .take 8] 0 rfl rfl (by kernel_rfl) ?_ | refine pop_callv rfl rfl rfl rfl rfl (claim_c _) rfl rfl rfl ?_ | refine xs_call rfl rfl rfl rfl rfl rfl (claim_c _) rfl rfl rfl ?_ | refine xs_one (ch := []) rfl rfl rfl (pst_callv rfl rfl rfl rfl rfl (claim_c _) rfl rfl rfl ?_) | refine pop_callgv rfl rfl rfl rfl rfl rfl (fun _ => claim_c _) (by first | exact fun h => ⟨h, trivial⟩ | exact fun _ => trivial | exact fun h => ⟨h, h, trivial⟩) rfl rfl rfl ?_ | refine xs_one (ch := []) rfl rfl rfl (pst_callgv rfl rfl rfl rfl rfl rfl (fun _ => claim_c _) (by first | exact fun h => ⟨h, trivial⟩ | exact fun _ => trivial | exact fun h => ⟨h, h, trivial⟩) rfl rfl rfl ?_) | refine pcond_t rfl ?_ | refine pcond_f rfl ?_ | refine kround_exit ?_ | refine kround_ret ?_ | refine kround_next ?_ | refine kloop_ret ?_ | refine kloop_exit ?_ | refine kcut_ret ?_ | refine kcut_exit ?_ | refine xo0 4000 rfl ?_ ?_ | refine xw0 4000 rfl ?_ ?_ | exact qq | fail)
        rw [hcl]
        rcases k with _ | k
        all_goals
          repeat' (first | refine xo 4000 rfl ?_ ?_ | refine xw 4000 rfl ?_ ?_ | refine xk 4000 rfl ?_ ?_ | exact trivial | ((with_reducible (show AllP (_ :: _))); refine And.intro ?_ ?_) | refine xs rfl ?_ ?_ | refine xs_done ?_ | refine pcond_t rfl ?_ | refine pcond_f rfl ?_ | refine kround_exit ?_ | refine kround_ret ?_ | refine kround_next ?_ | refine kloop_ret ?_ | refine kloop_exit ?_ | refine kcut_ret ?_ | refine kcut_exit ?_ | refine xo0 4000 rfl ?_ ?_ | refine xw0 4000 rfl ?_ ?_ | exact qq | fail)
          rw [hw1, hw2]
          exact kloop_next (st' := ⟨[(3, .lsl 0 0 n), (4, .ptr 1 0 0), (9, .lsl 2 0 m), (10, vi left), (11, vi f), (12, slP (_ + 1) 3), (13, vi (sumN (_ + 1) cf)), (14, vi ((f + (_ + 1) : Nat) : Int))], [iRow n (T s1), bRow n g, iRow m (lN s), vRow c1 1 (_ + 1) cf]⟩) _ (can_rowsv [0, 1, 2, 5] (k0_sel hk rfl) rfl (.cons rfl (RowEq.cl (i_cl _ _)) (.cons rfl (RowEq.cl (b_cl n g)) (.cons rfl (RowEq.cl (i_cl _ _)) (.cons rfl (by first | exact app_g c1_cl rfl rfl | exact app_g0 c1_cl rfl) .nil)))) (by (repeat refine ⟨PEq.refl _, ?_⟩); exact trivial)) (by omega) ⟨_, by omega, hnext, rfl, rfl⟩
      · intro h1
        simp only [decide_eq_false_iff_not] at h1
        have hk1 : 0 < k := by
          rcases Nat.eq_zero_or_pos k with h | h
          · subst h; exact absurd ⟨by omega, rfl⟩ h1
          · exact h
        obtain ⟨k', rfl⟩ : ∃ k', k = k' + 1 := ⟨k - 1, by omega⟩
        obtain ⟨grp, hgrp⟩ : ∃ grp, grp = (s.drop f).take (k' + 1) := ⟨_, rfl⟩
        have hgl : grp.length = (k' + 1) := by rw [hgrp]; exact cut_len (by omega)
        have hgg : ∀ a, a < (k' + 1) → grp.getD a 0 = s.getD (f + a) 0 := fun a ha => by rw [hgrp]; exact cut_get ha
        have hI2 : SrtInv n (keyO g) p s s1 (grp ++ s.drop (f + (k' + 1))) := ⟨hI.perm, hI.srt, by rw [hgrp, ← cut3, ← hsd]; exact hI.app, by rw [hgrp, ← cut3, ← hsd]; exact hI.lt⟩
        have hall : ∀ a, a ∈ grp → keyO g a = keyO g (s.getD f 0) := fun a ha => by
          obtain ⟨i, hi, rfl⟩ := List.getElem_of_mem ha
          have := hks i (by rw [← hgl]; exact hi)
          rw [← hgg i (by rw [← hgl]; exact hi), List.getD_eq_getElem?_getD, List.getElem?_eq_getElem hi] at this
          exact this
        have hne : grp ≠ [] := by intro h; rw [h] at hgl; simp at hgl
        have h3 := rest_ne (f := f) (k := k' + 1) hI.srt hk1 (by omega) (by
          by_cases h : f + (k' + 1) < m
          · exact .inr fun h' => h1 ⟨h, h'⟩
          · exact .inl (by omega))
        obtain ⟨hge, hI3⟩ := hI2.grp hkey hall hne h3
        have htk := fun q (hq : q < grp.length) => hI2.tk hkey hall hne h3 (clO g) A hq
        have hnd : grp.Nodup := by rw [hge]; exact (gl_asc n _ _).imp fun h => Nat.ne_of_lt h
        have hS : sumN (k' + 1) cf = sumL (clO g) grp := by rw [hcf, hgrp]; exact sumN_grp (clO g) (by omega)
        have hgn : ∀ a, a < (k' + 1) → grp.getD a 0 < n := fun a ha => by rw [hgg a ha]; exact hsg _ (by omega)
        repeat' (first | refine xo 4000 rfl ?_ ?_ | refine xw 4000 rfl ?_ ?_ | refine xk 4000 rfl ?_ ?_ | exact trivial | ((with_reducible (show AllP (_ :: _))); refine And.intro ?_ ?_) | refine xs rfl ?_ ?_ | refine xs_done ?_ | refine pcond_t rfl ?_ | refine pcond_f rfl ?_ | refine kround_exit ?_ | refine kround_ret ?_ | refine kround_next ?_ | refine kloop_ret ?_ | refine kloop_exit ?_ | refine kcut_ret ?_ | refine kcut_exit ?_ | refine xo0 4000 rfl ?_ ?_ | refine xw0 4000 rfl ?_ ?_ | exact qq | fail)
        refine pcut (fun st => ∃ P : Nat → Int, (∀ q, q < (k' + 1) → P q = tkS n (keyO g) (clO g) p A (grp.getD q 0)) ∧ st = ⟨[(3, .lsl 0 0 n), (4, .ptr 1 0 0), (9, .lsl 2 0 m), (10, vi left), (11, vi f), (13, vi (if left < sumN (k' + 1) cf then left else sumN (k' + 1) cf)), (14, vi ((f + (k' + 1) : Nat) : Int)), (16, .vsl (k' + 1) 1 (tI P))], [iRow n (T s1), bRow n g, iRow m (lN s)]⟩) ?_ ?_
        · refine pcond rfl ?_ ?_ <;> intro hc3 <;> simp at hc3
          · have hal := ralloc_c (k' + 1) left cf (by omega) (by omega)
            rw [alcO (by omega) hl01.1 hl01.2 (fun a ha => hcfb a (by omega)) (by omega)] at hal
            repeat' (first | refine xo 4000 rfl ?_ ?_ | refine xw 4000 rfl ?_ ?_ | refine xk 4000 rfl ?_ ?_ | exact trivial | ((with_reducible (show AllP (_ :: _))); refine And.intro ?_ ?_) | refine xs rfl ?_ ?_ | refine xs_done ?_ | refine pcond_t rfl ?_ | refine pcond_f rfl ?_ | refine kround_exit ?_ | refine kround_ret ?_ | refine kround_next ?_ | refine kloop_ret ?_ | refine kloop_exit ?_ | refine kcut_ret ?_ | refine kcut_exit ?_ | refine xo0 4000 rfl ?_ ?_ | refine xw0 4000 rfl ?_ ?_ | exact qq | fail)
            refine pop_callc [3] rfl rfl rfl rfl rfl rfl (by intro l hl; rw [hk]; simp at hl; subst hl; exact Nat.le_of_ble_eq_true rfl) hal ⟨argVal, argTI (arg_o (s := .own) (n := k' + 1) (g := cf) c1_cl rfl trivial (List.Mem.head _)), trivial⟩ ?_
            rintro _ rfl
            repeat' (first | refine xo 4000 rfl ?_ ?_ | refine xw 4000 rfl ?_ ?_ | refine xk 4000 rfl ?_ ?_ | exact trivial | ((with_reducible (show AllP (_ :: _))); refine And.intro ?_ ?_) | refine xs rfl ?_ ?_ | refine xs_done ?_ | refine pcond_t rfl ?_ | refine pcond_f rfl ?_ | refine kround_exit ?_ | refine kround_ret ?_ | refine kround_next ?_ | refine kloop_ret ?_ | refine kloop_exit ?_ | refine kcut_ret ?_ | refine kcut_exit ?_ | refine xo0 4000 rfl ?_ ?_ | refine xw0 4000 rfl ?_ ?_ | exact qq | fail)
            rw [if_pos hc3]
            refine kcut (st' := ⟨[(3, .lsl 0 0 n), (4, .ptr 1 0 0), (9, .lsl 2 0 m), (10, vi left), (11, vi f), (13, vi left), (14, vi ((f + (k' + 1) : Nat) : Int)), (16, .vsl (k' + 1) 1 (tI (sgnP (k' + 1) left cf)))], [iRow n (T s1), bRow n g, iRow m (lN s)]⟩) (can_rowsv [0, 1, 2] (k0_sel hk rfl) rfl (.cons rfl (RowEq.cl (i_cl _ _)) (.cons rfl (RowEq.cl (b_cl n g)) (.cons rfl (RowEq.cl (i_cl _ _)) .nil))) (by (repeat refine ⟨PEq.refl _, ?_⟩); exact trivial)) ⟨_, fun q hq => ?_, rfl⟩
            rw [htk q (by omega), if_neg (by rw [← hS, ← hleft]; omega), sgnP, if_pos hl01.1, hgl, ← hS, ← hleft]
            exact prt_congr (fun a ha => by rw [hcf, hgg a ha]) hq
          · repeat' (first | refine xo 4000 rfl ?_ ?_ | refine xw 4000 rfl ?_ ?_ | refine xk 4000 rfl ?_ ?_ | exact trivial | ((with_reducible (show AllP (_ :: _))); refine And.intro ?_ ?_) | refine xs rfl ?_ ?_ | refine xs_done ?_ | refine pcond_t rfl ?_ | refine pcond_f rfl ?_ | refine kround_exit ?_ | refine kround_ret ?_ | refine kround_next ?_ | refine kloop_ret ?_ | refine kloop_exit ?_ | refine kcut_ret ?_ | refine kcut_exit ?_ | refine xo0 4000 rfl ?_ ?_ | refine xw0 4000 rfl ?_ ?_ | exact qq | fail)
            rw [if_neg (by omega)]
            refine kcut ((can_frz [3] (by intro l hl; rw [hk]; simp at hl; subst hl; exact Nat.le_of_ble_eq_true rfl) rfl (tm := [(3, .lsl 0 0 n), (4, .ptr 1 0 0), (9, .lsl 2 0 m), (10, vi left), (11, vi f), (13, vi (sumN (k' + 1) cf)), (14, vi ((f + (k' + 1) : Nat) : Int)), (16, .vsl (k' + 1) 1 (tI cf))]) (by exact ⟨.inl rfl, .inl rfl, .inl rfl, .inl rfl, .inl rfl, .inl rfl, .inl rfl, .inr (argTI (arg_o (s := .own) (n := k' + 1) (g := cf) c1_cl rfl trivial (List.Mem.head _))), trivial⟩)).trans (can_rowsv [0, 1, 2] (rows := [iRow n (T s1), bRow n g, iRow m (lN s)]) (k0_sel hk rfl) rfl (.cons rfl (RowEq.cl (i_cl _ _)) (.cons rfl (RowEq.cl (b_cl n g)) (.cons rfl (RowEq.cl (i_cl _ _)) .nil))) (tm := [(3, .lsl 0 0 n), (4, .ptr 1 0 0), (9, .lsl 2 0 m), (10, vi left), (11, vi f), (13, vi (sumN (k' + 1) cf)), (14, vi ((f + (k' + 1) : Nat) : Int)), (16, .vsl (k' + 1) 1 (tI cf))]) (by (repeat refine ⟨PEq.refl _, ?_⟩); exact trivial))) ⟨_, fun q hq => ?_, rfl⟩
            rw [htk q (by omega), if_pos (by rw [← hS, ← hleft]; omega), hcf, hgg q hq]
        · rintro _ ⟨P, hP, rfl⟩
          repeat' (first | refine xo 4000 rfl ?_ ?_ | refine xw 4000 rfl ?_ ?_ | refine xk 4000 rfl ?_ ?_ | exact trivial | ((with_reducible (show AllP (_ :: _))); refine And.intro ?_ ?_) | refine xs rfl ?_ ?_ | refine xs_done ?_ | refine pcond_t rfl ?_ | refine pcond_f rfl ?_ | refine kround_exit ?_ | refine kround_ret ?_ | refine kround_next ?_ | refine kloop_ret ?_ | refine kloop_exit ?_ | refine kcut_ret ?_ | refine kcut_exit ?_ | refine xo0 4000 rfl ?_ ?_ | refine xw0 4000 rfl ?_ ?_ | exact qq | fail)
          refine pcan (st' := ⟨[(3, .lsl 0 0 n), (4, .ptr 1 0 0), (9, .lsl 2 0 m), (10, vi left), (11, vi f), (13, vi (if left < sumN (k' + 1) cf then left else sumN (k' + 1) cf)), (14, vi ((f + (k' + 1) : Nat) : Int)), (106, .vsl (k' + 1) 1 (tI P)), (107, vi ((k' + 1 : Nat) : Int)), (108, vi 0)], [iRow n (T s1), bRow n g, iRow m (lN s)]⟩) (can_sel [3, 4, 9, 10, 11, 13, 14, 106, 107, 108]) ?_
          refine ploop (fun q st => ∃ i : Nat, i ≤ k' + 1 ∧ q = k' + 1 - i ∧ st = ⟨[(3, .lsl 0 0 n), (4, .ptr 1 0 0), (9, .lsl 2 0 m), (10, vi left), (11, vi f), (13, vi (if left < sumN (k' + 1) cf then left else sumN (k' + 1) cf)), (14, vi ((f + (k' + 1) : Nat) : Int)), (106, .vsl (k' + 1) 1 (tI P)), (107, vi ((k' + 1 : Nat) : Int)), (108, vi i)], [iRow n (wrS grp P (T s1) i), bRow n g, iRow m (lN s)]⟩) (k' + 1) ⟨0, by omega, rfl, by
            have : wrS grp P (T s1) 0 = T s1 := by funext j; simp [wrS]
            rw [this]; rfl⟩ ?_
          rintro _ _ ⟨i, hi, rfl, rfl⟩
          repeat' (first | refine xo 4000 rfl ?_ ?_ | refine xw 4000 rfl ?_ ?_ | refine xk 4000 rfl ?_ ?_ | exact trivial | ((with_reducible (show AllP (_ :: _))); refine And.intro ?_ ?_) | refine xs rfl ?_ ?_ | refine xs_done ?_ | refine pcond_t rfl ?_ | refine pcond_f rfl ?_ | refine kround_exit ?_ | refine kround_ret ?_ | refine kround_next ?_ | refine kloop_ret ?_ | refine kloop_exit ?_ | refine kcut_ret ?_ | refine kcut_exit ?_ | refine xo0 4000 rfl ?_ ?_ | refine xw0 4000 rfl ?_ ?_ | exact qq | fail)
          refine pcond rfl ?_ ?_ <;> intro hc4 <;> simp at hc4
          · have hik : i < k' + 1 := by omega
            have hwfi : IntKind.i64.wrap ((f : Int) + (i : Int)) = ((f + i : Nat) : Int) := by rw [w64 (by omega) (by omega)]; omega
            have hwi : IntKind.i64.wrap ((i : Int) + 1) = ((i + 1 : Nat) : Int) := w64 (by omega) (by omega)
            have hv : lN s (0 + (IntKind.i64.wrap ((f : Int) + (i : Int))).toNat) = ((grp.getD i 0 : Nat) : Int) := by rw [hwfi, hgg i hik, Nat.zero_add, Int.toNat_natCast]; rfl
            have hvn := hgn i hik
            repeat' (first | refine xo 4000 rfl ?_ ?_ | refine xw 4000 rfl ?_ ?_ | refine xk 4000 rfl ?_ ?_ | exact trivial | ((with_reducible (show AllP (_ :: _))); refine And.intro ?_ ?_) | refine xs rfl ?_ ?_ | refine xs_done ?_ | refine pcond_t rfl ?_ | refine pcond_f rfl ?_ | refine kround_exit ?_ | refine kround_ret ?_ | refine kround_next ?_ | refine kloop_ret ?_ | refine kloop_exit ?_ | refine kcut_ret ?_ | refine kcut_exit ?_ | refine xo0 4000 rfl ?_ ?_ | refine xw0 4000 rfl ?_ ?_ | exact qq | fail)
            rw [hwi]
            refine kloop_next (st' := ⟨[(3, .lsl 0 0 n), (4, .ptr 1 0 0), (9, .lsl 2 0 m), (10, vi left), (11, vi f), (13, vi (if left < sumN (k' + 1) cf then left else sumN (k' + 1) cf)), (14, vi ((f + (k' + 1) : Nat) : Int)), (106, .vsl (k' + 1) 1 (tI P)), (107, vi ((k' + 1 : Nat) : Int)), (108, vi ((i + 1 : Nat) : Int))], [iRow n (wrS grp P (T s1) (i + 1)), bRow n g, iRow m (lN s)]⟩) (k' + 1 - (i + 1)) (can_rowsv [0, 1, 2] (k0_sel hk rfl) rfl (.cons rfl (i_eq (Nat.le_refl _) (fun a ha => ?_)) (.cons rfl (RowEq.cl (b_cl n g)) (.cons rfl (RowEq.cl (i_cl _ _)) .nil))) (by (repeat refine ⟨PEq.refl _, ?_⟩); exact trivial)) (by omega) ⟨i + 1, by omega, rfl, rfl⟩
            rw [upd_eq _ _ _ _ _ rfl, hv]
            show vi (upd _ _ _ _) = vi _
            rw [← wrS_step hnd (by omega)]
            unfold upd
            rw [show 0 + ((grp.getD i 0 : Nat) : Int).toNat = grp.getD i 0 by simp]
            rfl
          · have hik : i = k' + 1 := by omega
            subst hik
            have hsg0 : 0 ≤ sumN (k' + 1) cf := hsum.1
            have hleft2 : IntKind.i64.wrap (left - (if left < sumN (k' + 1) cf then left else sumN (k' + 1) cf)) = mx0 (A - sumL (clO g) (s1 ++ grp)) := by
              rw [sumL_app, ← hS]
              have hl2 := hleft
              unfold mx0 at hl2 ⊢
              split at hl2 <;> split <;> split <;> rw [w64 (by omega) (by omega)] <;> omega
            have hlen2 : ((f + (k' + 1) : Nat) : Int) = (((s1 ++ grp).length : Nat) : Int) := by simp [hgl, hf]
            repeat' (first | refine xo 4000 rfl ?_ ?_ | refine xw 4000 rfl ?_ ?_ | refine xk 4000 rfl ?_ ?_ | exact trivial | ((with_reducible (show AllP (_ :: _))); refine And.intro ?_ ?_) | refine xs rfl ?_ ?_ | refine xs_done ?_ | refine pcond_t rfl ?_ | refine pcond_f rfl ?_ | refine kround_exit ?_ | refine kround_ret ?_ | refine kround_next ?_ | refine kloop_ret ?_ | refine kloop_exit ?_ | refine kcut_ret ?_ | refine kcut_exit ?_ | refine xo0 4000 rfl ?_ ?_ | refine xw0 4000 rfl ?_ ?_ | exact qq | fail)
            rw [hleft2, hlen2]
            refine kloop_next (st' := ⟨[(3, .lsl 0 0 n), (4, .ptr 1 0 0), (9, .lsl 2 0 m), (10, vi (mx0 (A - sumL (clO g) (s1 ++ grp)))), (11, vi ((s1 ++ grp).length : Nat))], [iRow n (T (s1 ++ grp)), bRow n g, iRow m (lN s)]⟩) (m - (s1 ++ grp).length) (can_rowsv [0, 1, 2] (k0_sel hk rfl) rfl (.cons rfl (i_eq (Nat.le_refl _) (fun a ha => ?_)) (.cons rfl (RowEq.cl (b_cl n g)) (.cons rfl (RowEq.cl (i_cl _ _)) .nil))) (by (repeat refine ⟨PEq.refl _, ?_⟩); exact trivial)) (by rw [List.length_append, hgl]; omega) ⟨s1 ++ grp, _, hI3, rfl, rfl⟩
            show vi (wrS grp P (T s1) (k' + 1) a) = vi (T (s1 ++ grp) a)
            congr 2
            simp only [hT]
            unfold wrS
            rw [List.take_of_length_le (by omega)]
            by_cases e : a ∈ grp
            · rw [if_pos e, if_pos (List.mem_append_right _ e)]
              have hidx : grp.idxOf a < grp.length := List.idxOf_lt_length_of_mem e
              rw [hP _ (by omega)]
              congr 1
              rw [List.getD_eq_getElem?_getD, List.getElem?_eq_getElem hidx]
              exact List.getElem_idxOf hidx
            · rw [if_neg e]
              have : a ∈ s1 ++ grp ↔ a ∈ s1 := by simp [e]
              simp only [this]
    · have hs2 : s2 = [] := List.length_eq_zero_iff.1 (by omega)
      subst hs2
      repeat' (first | refine xo 4000 rfl ?_ ?_ | refine xw 4000 rfl ?_ ?_ | refine xk 4000 rfl ?_ ?_ | exact trivial | ((with_reducible (show AllP (_ :: _))); refine And.intro ?_ ?_) | refine xs rfl ?_ ?_ | refine xs_done ?_ | refine pcond_t rfl ?_ | refine pcond_f rfl ?_ | refine kround_exit ?_ | refine kround_ret ?_ | refine kround_next ?_ | refine kloop_ret ?_ | refine kloop_exit ?_ | refine kcut_ret ?_ | refine kcut_exit ?_ | refine xo0 4000 rfl ?_ ?_ | refine xw0 4000 rfl ?_ ?_ | exact qq | fail)
      have e3 : (fun j => if j ∈ ix then tkS n (keyO g) (clO g) p A j else t j) = T s1 := by
        rw [hT]; funext j
        have : j ∈ ix ↔ j ∈ s1 := by rw [← hp.mem_iff, hI.app]; simp
        simp only [this]
      rw [e3]
      exact kretr (st' := ⟨[(8, vi 0)], [iRow n (T s1)]⟩) (can_rowsv [0] (k0_sel hk rfl) rfl (by (repeat (refine SelV.cons rfl rqq ?_)); exact SelV.nil) tmq) rfl ⟨trivial, trivial⟩ rfl ⟨rfl, rfl⟩
end Go.Proofs.Ytipdkompinnghaa
