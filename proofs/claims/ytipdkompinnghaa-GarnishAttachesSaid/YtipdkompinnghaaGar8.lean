/- payrollref31: serve. -/
import Derived.Test.YtipdkompinnghaaGarS
import Derived.Test.YtipdkompinnghaaAlr
import Derived.Test.YtipdkompinnghaaPvR
set_option linter.unusedSimpArgs false
set_option linter.unusedVariables false
set_option maxRecDepth 100000
namespace Go.Proofs.Ytipdkompinnghaa
theorem sum_bd8 {n : Nat} {f : Nat → Int} (q : Nat → Bool) (hf : ∀ i, i < n → 0 ≤ f i ∧ f i ≤ 1000000000) {m : Nat} (hm : m ≤ n) : 0 ≤ sumN m (ifS q f) ∧ sumN m (ifS q f) ≤ m * 1000000000 := by
  have hb : ∀ i, i < m → 0 ≤ ifS q f i ∧ ifS q f i ≤ 1000000000 := fun i hi => by
    have := hf i (by omega)
    unfold ifS; split <;> omega
  refine ⟨sumN_nonneg fun i hi => (hb i hi).1, ?_⟩
  have := sumN_le (n := m) (f := ifS q f) (g := fun _ => 1000000000) fun i hi => (hb i hi).2
  rw [sumN_const] at this; exact this
theorem cmpK1 {a x b y : Int} (hx : -1 ≤ x ∧ x ≤ 84005) (hy : -1 ≤ y ∧ y ≤ 84005) : (bif decide (a < b) then true else bif b == a then decide (x < y) else false) = decide (a * 100000 + x < b * 100000 + y) := by
  by_cases h1 : a < b
  · simp [h1]; omega
  · by_cases h2 : b = a
    · subst h2
      by_cases h3 : x < y
      · simp [h3]
      · simp [h3]
    · have h3 : ¬ a * 100000 + x < b * 100000 + y := by omega
      simp [h1, h2, h3]
theorem cmpK2 {a x b y : Int} (hx : -1 ≤ x ∧ x ≤ 84005) (hy : -1 ≤ y ∧ y ≤ 84005) : (bif decide (a < b) then true else bif a == b then decide (x < y) else false) = decide (a * 100000 + x < b * 100000 + y) := by
  have e : (a == b) = (b == a) := by
    rw [Bool.eq_iff_iff]; simp only [beq_iff_eq]; exact eq_comm
  rw [e]; exact cmpK1 hx hy
set_option maxHeartbeats 4000000 in
theorem serve31_c (n : Nat) (g : Nat → Ord) (hO : OOk n g) (hasc : AscO n g) (priv : Bool) (p : Nat → Bool) (hp : ∀ j, p j = (((g j).rk == 0) == priv)) (hkey : ∀ i j, i < n → j < n → keyO g i = keyO g j → p i = p j) (A : Int) (hA0 : 0 ≤ A) (hA1 : A ≤ 1000000000) (T0 : Nat → Int) (hT0 : ∀ j, j < n → p j = true → T0 j = 0) :
    PureC G.P 52 [vEs (eltS g T0 n), vOs n g, vb priv, vi A] (fun r => r = .tup 2 (nthP [vEs (eltS g (fun j => if p j = true then tkS n (keyO g) (clO g) p A j else T0 j) n), vi (sumN n (ifS p (tkS n (keyO g) (clO g) p A)))])) := by
  obtain ⟨tk, htk⟩ : ∃ tk, tk = tkS n (keyO g) (clO g) p A := ⟨_, rfl⟩
  rw [← htk]
  have hn := hO.n16
  have tkb : ∀ j, j < n → 0 ≤ tk j ∧ tk j ≤ 1000000000 := fun j hj => by
    have h1 := tk_le hO.g p A hj
    have h2 := hO.cl hj
    rw [htk]; omega
  have tnb : ∀ κ, 0 ≤ tkn n p (keyO g) tk κ ∧ tkn n p (keyO g) tk κ ≤ n * 1000000000 := fun κ => sum_bd8 _ tkb (Nat.le_refl _)
  refine pure_of (G := G.toPg) (fn := Try.f52) Try.func52 rfl rfl rfl ?_; intro Γ hk
  repeat' (first | refine xo 4000 rfl ?_ ?_ | refine xw 4000 rfl ?_ ?_ | refine xk 4000 rfl ?_ ?_ | exact trivial | ((with_reducible (show AllP (_ :: _))); refine And.intro ?_ ?_) | refine xs rfl ?_ ?_ | refine xs_done ?_ | refine pcond_t rfl ?_ | refine pcond_f rfl ?_ | refine kround_exit ?_ | refine kround_ret ?_ | refine kround_next ?_ | refine kloop_ret ?_ | refine kloop_exit ?_ | refine kcut_ret ?_ | refine kcut_exit ?_ | refine xo0 4000 rfl ?_ ?_ | refine xw0 4000 rfl ?_ ?_ | exact qq | fail)
  refine pcan (st' := ⟨[(0, vEs (eltS g (TT p (keyO g) tk T0 (-100001)) n)), (1, vOs n g), (2, vb priv), (3, vi (A - tkn n p (keyO g) tk (-100001))), (10, vi (tkn n p (keyO g) tk (-100001))), (11, vi (-1)), (12, vi (-1))], []⟩) (by
    have e1 : eltS g (TT p (keyO g) tk T0 (-100001)) n = eltS g T0 n := elt_congr fun j hj => by unfold TT; rw [bP_start (n := n) (hO.k0 j hj) (by omega)]; rfl
    have e2 : tkn n p (keyO g) tk (-100001) = 0 := by
      unfold tkn
      have : sumN n (ifS (bP p (keyO g) (-100001)) tk) = sumN n (fun _ => 0) := sumN_congr fun j hj => by unfold ifS; rw [bP_start (n := n) (hO.k0 j hj) (by omega)]; rfl
      rw [this, sumN_const]; omega
    rw [e1, e2, show A - 0 = A by omega]
    exact can_sel [0, 1, 2, 3, 10, 11, 12]) ?_
  refine ploop (fun q st => ∃ (rank day : Int), ((rank = -1 ∧ day = -1) ∨ (0 ≤ rank ∧ rank ≤ 9 ∧ 0 ≤ day ∧ day ≤ 84005)) ∧ q = (1000000 - (rank * 100000 + day)).toNat ∧ st = ⟨[(0, vEs (eltS g (TT p (keyO g) tk T0 (rank * 100000 + day)) n)), (1, vOs n g), (2, vb priv), (3, vi (A - tkn n p (keyO g) tk (rank * 100000 + day))), (10, vi (tkn n p (keyO g) tk (rank * 100000 + day))), (11, vi rank), (12, vi day)], []⟩) 1100001 ⟨-1, -1, .inl ⟨rfl, rfl⟩, rfl, rfl⟩ ?_
  rintro _ _ ⟨rank, day, hrd, rfl, rfl⟩
  obtain ⟨κ, hκ⟩ : ∃ κ, κ = rank * 100000 + day := ⟨_, rfl⟩
  rw [← hκ]
  obtain ⟨E, hE⟩ : ∃ E, E = eltS g (TT p (keyO g) tk T0 κ) n := ⟨_, rfl⟩
  obtain ⟨tn, htn⟩ : ∃ tn, tn = tkn n p (keyO g) tk κ := ⟨_, rfl⟩
  have htb := tnb κ
  rw [← hE]
  rw [← htn] at htb ⊢
  repeat' (first | refine xo 4000 rfl ?_ ?_ | refine xw 4000 rfl ?_ ?_ | refine xk 4000 rfl ?_ ?_ | exact trivial | ((with_reducible (show AllP (_ :: _))); refine And.intro ?_ ?_) | refine xs rfl ?_ ?_ | refine xs_done ?_ | refine pcond_t rfl ?_ | refine pcond_f rfl ?_ | refine kround_exit ?_ | refine kround_ret ?_ | refine kround_next ?_ | refine kloop_ret ?_ | refine kloop_exit ?_ | refine kcut_ret ?_ | refine kcut_exit ?_ | refine xo0 4000 rfl ?_ ?_ | refine xw0 4000 rfl ?_ ?_ | exact qq | fail)
  refine pcan (can_sel [0, 1, 2, 3, 10, 11, 12, 13, 14, 15]) ?_
  refine ploop (fun q st => ∃ (i : Nat) (r d : Int), i ≤ n ∧ mnK p (keyO g) κ i = r * 100000 + d ∧ 0 ≤ r ∧ r ≤ 10 ∧ 0 ≤ d ∧ d ≤ 84005 ∧ q = n - i ∧ st = ⟨[(0, vEs E), (1, vOs n g), (2, vb priv), (3, vi (A - tn)), (10, vi tn), (11, vi rank), (12, vi day), (13, vi r), (14, vi d), (15, vi i)], []⟩) n ⟨0, 10, 0, by omega, rfl, by omega, by omega, by omega, by omega, rfl, rfl⟩ ?_
  rintro _ _ ⟨i, r, d, hi, hmn, r0, r1, d0, d1, rfl, rfl⟩
  repeat' (first | refine xo 4000 rfl ?_ ?_ | refine xw 4000 rfl ?_ ?_ | refine xk 4000 rfl ?_ ?_ | exact trivial | ((with_reducible (show AllP (_ :: _))); refine And.intro ?_ ?_) | refine xs rfl ?_ ?_ | refine xs_done ?_ | refine pcond_t rfl ?_ | refine pcond_f rfl ?_ | refine kround_exit ?_ | refine kround_ret ?_ | refine kround_next ?_ | refine kloop_ret ?_ | refine kloop_exit ?_ | refine kcut_ret ?_ | refine kcut_exit ?_ | refine xo0 4000 rfl ?_ ?_ | refine xw0 4000 rfl ?_ ?_ | exact qq | fail)
  refine pcond rfl ?_ ?_ <;> intro hc <;> simp at hc
  · have hw : IntKind.i64.wrap ((i : Int) + 1) = ((i + 1 : Nat) : Int) := w64 (by omega) (by omega)
    have o1 := hO.r0 i hc
    have o2 := hO.r9 i hc
    have o3 := hO.d0 i hc
    have o4 := hO.d1 i hc
    have hmn1 : mnK p (keyO g) κ (i + 1) = if (p i && decide (κ < keyO g i) && decide (keyO g i < mnK p (keyO g) κ i)) = true then keyO g i else mnK p (keyO g) κ i := rfl
    have hkk : keyO g i = (g i).rk * 100000 + (g i).dy := rfl
    repeat' (first | refine xo 4000 rfl ?_ ?_ | refine xw 4000 rfl ?_ ?_ | refine xk 4000 rfl ?_ ?_ | exact trivial | ((with_reducible (show AllP (_ :: _))); refine And.intro ?_ ?_) | refine xs rfl ?_ ?_ | refine xs_done ?_ | refine pcond_t rfl ?_ | refine pcond_f rfl ?_ | refine kround_exit ?_ | refine kround_ret ?_ | refine kround_next ?_ | refine kloop_ret ?_ | refine kloop_exit ?_ | refine kcut_ret ?_ | refine kcut_exit ?_ | refine xo0 4000 rfl ?_ ?_ | refine xw0 4000 rfl ?_ ?_ | exact qq | fail)
    refine pcond (b := p i && decide (κ < keyO g i) && decide (keyO g i < mnK p (keyO g) κ i)) ?_ ?_ ?_
    · refine eqB ?_
      have q1 := cmpK1 (a := rank) (x := day) (b := (g i).rk) (y := (g i).dy) (by omega) (by omega)
      have q2 := cmpK2 (a := (g i).rk) (x := (g i).dy) (b := r) (y := d) (by omega) (by omega)
      rw [← hκ] at q1
      rw [← hmn] at q2
      show (bif bif ((g i).rk == 0) == priv then (bif decide (rank < (g i).rk) then true else bif (g i).rk == rank then decide (day < (g i).dy) else false) else false then (bif decide ((g i).rk < r) then true else bif (g i).rk == r then decide ((g i).dy < d) else false) else false) = _
      rw [q1, q2, ← hp i, hkk]
      cases p i <;> cases decide (κ < (g i).rk * 100000 + (g i).dy) <;> rfl
    · intro h
      repeat' (first | refine xo 4000 rfl ?_ ?_ | refine xw 4000 rfl ?_ ?_ | refine xk 4000 rfl ?_ ?_ | exact trivial | ((with_reducible (show AllP (_ :: _))); refine And.intro ?_ ?_) | refine xs rfl ?_ ?_ | refine xs_done ?_ | refine xs_start (id := 8) true [.take 0, .take 1, .take 2, .take 3, .take 4, .take 5, .take 6, .take 7, .take 8, .take 9, .take 10, .take 11] 0 rfl rfl (by kernel_rfl) ?_ | refine xs_start (id := 29) true [.take 0, .take 1, .take 2, .take 3, .take 4, .take 5, .take 6, .take 7, .take 8, .take 9, .take 10, .one 11, .take 12] 0 rfl rfl (by kernel_rfl) ?_ | refine pcond_t rfl ?_ | refine pcond_f rfl ?_ | refine kround_exit ?_ | refine kround_ret ?_ | refine kround_next ?_ | refine kloop_ret ?_ | refine kloop_exit ?_ | refine kcut_ret ?_ | refine kcut_exit ?_ | refine xo0 4000 rfl ?_ ?_ | refine xw0 4000 rfl ?_ ?_ | exact qq | fail)
      rw [hw]
      exact kloop_next (n - (i + 1)) (can_sel [0, 1, 2, 3, 10, 11, 12, 13, 14, 15]) (by omega) ⟨i + 1, (g i).rk, (g i).dy, by omega, by rw [hmn1, if_pos h, hkk], o1, by omega, o3, o4, rfl, rfl⟩
    · intro h
      repeat' (first | refine xo 4000 rfl ?_ ?_ | refine xw 4000 rfl ?_ ?_ | refine xk 4000 rfl ?_ ?_ | exact trivial | ((with_reducible (show AllP (_ :: _))); refine And.intro ?_ ?_) | refine xs rfl ?_ ?_ | refine xs_done ?_ | refine pcond_t rfl ?_ | refine pcond_f rfl ?_ | refine kround_exit ?_ | refine kround_ret ?_ | refine kround_next ?_ | refine kloop_ret ?_ | refine kloop_exit ?_ | refine kcut_ret ?_ | refine kcut_exit ?_ | refine xo0 4000 rfl ?_ ?_ | refine xw0 4000 rfl ?_ ?_ | exact qq | fail)
      rw [hw]
      exact kloop_next (n - (i + 1)) (can_sel [0, 1, 2, 3, 10, 11, 12, 13, 14, 15]) (by omega) ⟨i + 1, r, d, by omega, by rw [hmn1, if_neg (by rw [h]; simp), hmn], r0, r1, d0, d1, rfl, rfl⟩
  · have hin : i = n := by omega
    rw [hin] at hmn
    repeat' (first | refine xo 4000 rfl ?_ ?_ | refine xw 4000 rfl ?_ ?_ | refine xk 4000 rfl ?_ ?_ | exact trivial | ((with_reducible (show AllP (_ :: _))); refine And.intro ?_ ?_) | refine xs rfl ?_ ?_ | refine xs_done ?_ | refine pcond_t rfl ?_ | refine pcond_f rfl ?_ | refine kround_exit ?_ | refine kround_ret ?_ | refine kround_next ?_ | refine kloop_ret ?_ | refine kloop_exit ?_ | refine kcut_ret ?_ | refine kcut_exit ?_ | refine xo0 4000 rfl ?_ ?_ | refine xw0 4000 rfl ?_ ?_ | exact qq | fail)
    refine pcond rfl ?_ ?_ <;> intro hc2
    · have hr10 : r = 10 := by have hc2 : (r == 10) = true := hc2; simpa using hc2
      have hK : mnK p (keyO g) κ n = 1000000 := by have := mn_top p (keyO g) κ n; omega
      have e1 : E = eltS g (fun j => if p j = true then tk j else T0 j) n := by
        rw [hE]
        exact elt_congr fun j hj => by unfold TT; rw [bP_end hj (hO.k1 j hj) hK]
      have e2 : tn = sumN n (ifS p tk) := by
        rw [htn]
        exact sumN_congr fun j hj => by unfold ifS; rw [bP_end hj (hO.k1 j hj) hK]
      repeat' (first | refine xo 4000 rfl ?_ ?_ | refine xw 4000 rfl ?_ ?_ | refine xk 4000 rfl ?_ ?_ | exact trivial | ((with_reducible (show AllP (_ :: _))); refine And.intro ?_ ?_) | refine xs rfl ?_ ?_ | refine xs_done ?_ | refine pcond_t rfl ?_ | refine pcond_f rfl ?_ | refine kround_exit ?_ | refine kround_ret ?_ | refine kround_next ?_ | refine kloop_ret ?_ | refine kloop_exit ?_ | refine kcut_ret ?_ | refine kcut_exit ?_ | refine xo0 4000 rfl ?_ ?_ | refine xw0 4000 rfl ?_ ?_ | exact qq | fail)
      refine xdone ?_
      rw [e1, e2]
      exact kretv rfl ⟨trivial, trivial, trivial⟩ rfl rfl
    · have hr10 : r ≠ 10 := by have hc2 : (r == 10) = false := hc2; simpa using hc2
      obtain ⟨κ', hκ'⟩ : ∃ κ', κ' = mnK p (keyO g) κ n := ⟨_, rfl⟩
      have hK : mnK p (keyO g) κ n ≠ 1000000 := by omega
      have hmem : ∃ j, j < n ∧ p j = true ∧ κ < keyO g j ∧ keyO g j = κ' := by
        rcases mn_mem (p := p) (key := keyO g) (κ := κ) (i := n) with h | h
        · exact absurd h hK
        · rw [← hκ'] at h; exact h
      have hlt : κ < κ' := by obtain ⟨j, _, _, h3, h4⟩ := hmem; omega
      have hleft : A - tn = mx0 (A - befS n (keyO g) (clO g) p κ') := by
        rw [htn, htk, hκ']
        exact left_eq hO.g hkey hO.k0 hA0 (by omega) (by omega)
      have hsame : ∀ j, j < n → (((g j).rk == r) && ((g j).dy == d)) = decide (keyO g j = κ') := fun j hj => by
        have := hO.d0 j hj; have := hO.d1 j hj
        rw [Bool.eq_iff_iff]
        simp only [Bool.and_eq_true, beq_iff_eq, decide_eq_true_eq]
        unfold keyO
        omega
      obtain ⟨gl, hgl⟩ : ∃ gl, gl = glS n (keyO g) κ' := ⟨_, rfl⟩
      obtain ⟨cf, hcf⟩ : ∃ cf : Nat → Int, cf = fun a => clO g (gl.getD a 0) := ⟨_, rfl⟩
      have glen : ∀ m, (glS m (keyO g) κ').length ≤ m := fun m => by unfold glS; exact Nat.le_trans (List.length_filter_le _ _) (by simp)
      have hgn : ∀ a, a < gl.length → gl.getD a 0 < n := fun a ha => by
        have h1 : gl.getD a 0 ∈ gl := getD_mem ha
        have h2 : ∀ x, x ∈ gl → x < n := fun x hx => by rw [hgl, gl_mem] at hx; exact hx.1
        exact h2 _ h1
      have hcfb : ∀ a, a < gl.length → 0 ≤ cf a ∧ cf a ≤ 1000000000 := fun a ha => by rw [hcf]; exact hO.cl (hgn a ha)
      have hsumb : ∀ m, m ≤ gl.length → 0 ≤ sumN m cf ∧ sumN m cf ≤ m * 1000000000 := fun m hm => by
        refine ⟨sumN_nonneg fun a ha => (hcfb a (by omega)).1, ?_⟩
        have := sumN_le (n := m) (f := cf) (g := fun _ => 1000000000) fun a ha => (hcfb a (by omega)).2
        rw [sumN_const] at this; exact this
      have hgl16 : gl.length ≤ n := by rw [hgl]; exact glen n
      repeat' (first | refine xo 4000 rfl ?_ ?_ | refine xw 4000 rfl ?_ ?_ | refine xk 4000 rfl ?_ ?_ | exact trivial | ((with_reducible (show AllP (_ :: _))); refine And.intro ?_ ?_) | refine xs rfl ?_ ?_ | refine xs_done ?_ | refine pcond_t rfl ?_ | refine pcond_f rfl ?_ | refine kround_exit ?_ | refine kround_ret ?_ | refine kround_next ?_ | refine kloop_ret ?_ | refine kloop_exit ?_ | refine kcut_ret ?_ | refine kcut_exit ?_ | refine xo0 4000 rfl ?_ ?_ | refine xw0 4000 rfl ?_ ?_ | exact qq | fail)
      refine pcan (can_virt (vRow c1 1 0 cf) rfl) ?_
      refine pcan (st' := ⟨[(0, vEs E), (1, vOs n g), (2, vb priv), (3, vi (A - tn)), (10, vi tn), (11, vi r), (12, vi d), (16, slP 0 0), (17, vi 0), (18, vi 0)], [vRow c1 1 0 cf]⟩) (can_rowsv [0] (k0_sel hk rfl) rfl (by (repeat (refine SelV.cons rfl rqq ?_)); exact SelV.nil) tmq) ?_
      refine ploop (fun q st => ∃ (i kk : Nat), i ≤ n ∧ (glS i (keyO g) κ').length = kk ∧ kk ≤ gl.length ∧ q = n - i ∧ st = ⟨[(0, vEs E), (1, vOs n g), (2, vb priv), (3, vi (A - tn)), (10, vi tn), (11, vi r), (12, vi d), (16, slP kk 0), (17, vi (sumN kk cf)), (18, vi i)], [vRow c1 1 kk cf]⟩) n ⟨0, 0, by omega, rfl, by omega, rfl, rfl⟩ ?_
      rintro _ _ ⟨i, kk, hi, hkk, hkg, rfl, rfl⟩
      have hsb := hsumb kk hkg
      repeat' (first | refine xo 4000 rfl ?_ ?_ | refine xw 4000 rfl ?_ ?_ | refine xk 4000 rfl ?_ ?_ | exact trivial | ((with_reducible (show AllP (_ :: _))); refine And.intro ?_ ?_) | refine xs rfl ?_ ?_ | refine xs_done ?_ | refine pcond_t rfl ?_ | refine pcond_f rfl ?_ | refine kround_exit ?_ | refine kround_ret ?_ | refine kround_next ?_ | refine kloop_ret ?_ | refine kloop_exit ?_ | refine kcut_ret ?_ | refine kcut_exit ?_ | refine xo0 4000 rfl ?_ ?_ | refine xw0 4000 rfl ?_ ?_ | exact qq | fail)
      refine pcond rfl ?_ ?_ <;> intro hc3 <;> simp at hc3
      · have hw : IntKind.i64.wrap ((i : Int) + 1) = ((i + 1 : Nat) : Int) := w64 (by omega) (by omega)
        have hgs := gl_succ (key := keyO g) (κ := κ') (i := i)
        repeat' (first | refine xo 4000 rfl ?_ ?_ | refine xw 4000 rfl ?_ ?_ | refine xk 4000 rfl ?_ ?_ | exact trivial | ((with_reducible (show AllP (_ :: _))); refine And.intro ?_ ?_) | refine xs rfl ?_ ?_ | refine xs_done ?_ | refine pcond_t rfl ?_ | refine pcond_f rfl ?_ | refine kround_exit ?_ | refine kround_ret ?_ | refine kround_next ?_ | refine kloop_ret ?_ | refine kloop_exit ?_ | refine kcut_ret ?_ | refine kcut_exit ?_ | refine xo0 4000 rfl ?_ ?_ | refine xw0 4000 rfl ?_ ?_ | exact qq | fail)
        refine pcond (b := decide (keyO g i = κ')) ?_ ?_ ?_
        · refine eqB ?_
          rw [← hsame i hc3]
          show (bif (g i).rk == r then (g i).dy == d else false) = _
          cases (g i).rk == r <;> rfl
        · intro h
          have h : keyO g i = κ' := by simpa using h
          obtain ⟨ga, gb⟩ := gl_at hc3 h
          rw [← hgl, hkk] at ga gb
          have hcl : clmS (g (i : Int).toNat) = cf kk := by rw [hcf]; simp only [gb]; rfl
          have hcb := hcfb kk ga
          have hw2 : IntKind.i64.wrap (sumN kk cf + cf kk) = sumN (kk + 1) cf := by rw [w64 (by omega) (by omega)]; rfl
          have hlen' : (glS (i + 1) (keyO g) κ').length = kk + 1 := by rw [hgs, if_pos h, List.length_append, hkk]; rfl
          rcases kk with _ | kk
          all_goals
            repeat' (first | refine xo 4000 rfl ?_ ?_ | refine xw 4000 rfl ?_ ?_ | refine xk 4000 rfl ?_ ?_ | exact trivial | ((with_reducible (show AllP (_ :: _))); refine And.intro ?_ ?_) | refine xs rfl ?_ ?_ | refine xs_done ?_ | refine pop_callv rfl rfl rfl rfl rfl (claim31_c _) rfl rfl rfl ?_ | refine xs_call rfl rfl rfl rfl rfl rfl (claim31_c _) rfl rfl rfl ?_ | refine xs_one (ch := []) rfl rfl rfl (pst_callv rfl rfl rfl rfl rfl (claim31_c _) rfl rfl rfl ?_) | refine pop_callgv rfl rfl rfl rfl rfl rfl (fun _ => claim31_c _) (by first | exact fun h => ⟨h, trivial⟩ | exact fun _ => trivial | exact fun h => ⟨h, h, trivial⟩) rfl rfl rfl ?_ | refine xs_one (ch := []) rfl rfl rfl (pst_callgv rfl rfl rfl rfl rfl rfl (fun _ => claim31_c _) (by first | exact fun h => ⟨h, trivial⟩ | exact fun _ => trivial | exact fun h => ⟨h, h, trivial⟩) rfl rfl rfl ?_) | refine pcond_t rfl ?_ | refine pcond_f rfl ?_ | refine kround_exit ?_ | refine kround_ret ?_ | refine kround_next ?_ | refine kloop_ret ?_ | refine kloop_exit ?_ | refine kcut_ret ?_ | refine kcut_exit ?_ | refine xo0 4000 rfl ?_ ?_ | refine xw0 4000 rfl ?_ ?_ | exact qq | fail)
            rw [hcl, hw2, hw]
            exact kloop_next (st' := ⟨[(0, vEs E), (1, vOs n g), (2, vb priv), (3, vi (A - tn)), (10, vi tn), (11, vi r), (12, vi d), (16, slP (_ + 1) 0), (17, vi (sumN (_ + 1) cf)), (18, vi ((i + 1 : Nat) : Int))], [vRow c1 1 (_ + 1) cf]⟩) (n - (i + 1)) (can_rowsv [2] (k0_sel hk rfl) rfl (by (repeat (refine SelV.cons rfl rqq ?_)); exact SelV.nil) tmq) (by omega) ⟨i + 1, _ + 1, by omega, hlen', by omega, rfl, rfl⟩
        · intro h
          have h : ¬ keyO g i = κ' := by simpa using h
          have hlen' : (glS (i + 1) (keyO g) κ').length = kk := by rw [hgs, if_neg h, List.append_nil, hkk]
          repeat' (first | refine xo 4000 rfl ?_ ?_ | refine xw 4000 rfl ?_ ?_ | refine xk 4000 rfl ?_ ?_ | exact trivial | ((with_reducible (show AllP (_ :: _))); refine And.intro ?_ ?_) | refine xs rfl ?_ ?_ | refine xs_done ?_ | refine pcond_t rfl ?_ | refine pcond_f rfl ?_ | refine kround_exit ?_ | refine kround_ret ?_ | refine kround_next ?_ | refine kloop_ret ?_ | refine kloop_exit ?_ | refine kcut_ret ?_ | refine kcut_exit ?_ | refine xo0 4000 rfl ?_ ?_ | refine xw0 4000 rfl ?_ ?_ | exact qq | fail)
          rw [hw]
          exact kloop_next (st' := ⟨[(0, vEs E), (1, vOs n g), (2, vb priv), (3, vi (A - tn)), (10, vi tn), (11, vi r), (12, vi d), (16, slP kk 0), (17, vi (sumN kk cf)), (18, vi ((i + 1 : Nat) : Int))], [vRow c1 1 kk cf]⟩) (n - (i + 1)) (can_rowsv [0] (k0_sel hk rfl) rfl (by (repeat (refine SelV.cons rfl rqq ?_)); exact SelV.nil) tmq) (by omega) ⟨i + 1, kk, by omega, hlen', hkg, rfl, rfl⟩
      · have hin2 : i = n := by omega
        rw [hin2, ← hgl] at hkk
        have hpos : 0 < kk := by
          obtain ⟨j, h1, _, _, h4⟩ := hmem
          have : j ∈ gl := by rw [hgl]; exact gl_mem.2 ⟨h1, h4⟩
          rw [← hkk]; exact List.length_pos_of_mem this
        obtain ⟨k', rfl⟩ : ∃ k', kk = k' + 1 := ⟨kk - 1, by omega⟩
        have hS : sumN (k' + 1) cf = sumL (clO g) gl := by rw [hcf, ← hkk]; exact sumN_sumL (clO g) gl
        obtain ⟨lf, hlf⟩ : ∃ lf, lf = A - tn := ⟨_, rfl⟩
        rw [← hlf] at hleft ⊢
        have hbef : 0 ≤ befS n (keyO g) (clO g) p κ' := sumL_nonneg fun x hx => (hO.cl (ix_mem.1 hx).1).1
        have hl01 : 0 ≤ lf ∧ lf ≤ 1000000000 := by rw [hleft]; exact mx0_bd (by omega) (by omega)
        have htat : ∀ q, q < k' + 1 → tk (gl.getD q 0) = if sumN (k' + 1) cf ≤ lf then cf q else prtS (k' + 1) lf (sumN (k' + 1) cf) cf q := fun q hq => by
          have := tk_at (cl := clO g) p A κ' (n := n) (key := keyO g) (a := q) (by rw [← hgl]; omega)
          rw [← hgl, ← htk, ← hleft, ← hS, hkk] at this
          rw [this, hcf]
        repeat' (first | refine xo 4000 rfl ?_ ?_ | refine xw 4000 rfl ?_ ?_ | refine xk 4000 rfl ?_ ?_ | exact trivial | ((with_reducible (show AllP (_ :: _))); refine And.intro ?_ ?_) | refine xs rfl ?_ ?_ | refine xs_done ?_ | refine pcond_t rfl ?_ | refine pcond_f rfl ?_ | refine kround_exit ?_ | refine kround_ret ?_ | refine kround_next ?_ | refine kloop_ret ?_ | refine kloop_exit ?_ | refine kcut_ret ?_ | refine kcut_exit ?_ | refine xo0 4000 rfl ?_ ?_ | refine xw0 4000 rfl ?_ ?_ | exact qq | fail)
        refine pcut (fun st => ∃ P : Nat → Int, (∀ q, q < k' + 1 → P q = tk (gl.getD q 0)) ∧ st = ⟨[(0, vEs E), (1, vOs n g), (2, vb priv), (3, vi lf), (10, vi tn), (11, vi r), (12, vi d), (19, .vsl (k' + 1) 1 (tI P))], []⟩) ?_ ?_
        · refine pcond rfl ?_ ?_ <;> intro hc4 <;> simp at hc4
          · have hal := ref2Alloc_c (k' + 1) lf cf (by omega)
            rw [alcO (by omega) hl01.1 hl01.2 (fun a ha => hcfb a (by omega)) (by omega)] at hal
            repeat' (first | refine xo 4000 rfl ?_ ?_ | refine xw 4000 rfl ?_ ?_ | refine xk 4000 rfl ?_ ?_ | exact trivial | ((with_reducible (show AllP (_ :: _))); refine And.intro ?_ ?_) | refine xs rfl ?_ ?_ | refine xs_done ?_ | refine pcond_t rfl ?_ | refine pcond_f rfl ?_ | refine kround_exit ?_ | refine kround_ret ?_ | refine kround_next ?_ | refine kloop_ret ?_ | refine kloop_exit ?_ | refine kcut_ret ?_ | refine kcut_exit ?_ | refine xo0 4000 rfl ?_ ?_ | refine xw0 4000 rfl ?_ ?_ | exact qq | fail)
            refine pop_callc [0] rfl rfl rfl rfl rfl rfl (by intro l hl; rw [hk]; exact Nat.zero_le _) hal ⟨argVal, argTI (arg_o (s := .own) (n := k' + 1) (g := cf) c1_cl rfl trivial (List.Mem.head _)), trivial⟩ ?_
            rintro _ rfl
            repeat' (first | refine xo 4000 rfl ?_ ?_ | refine xw 4000 rfl ?_ ?_ | refine xk 4000 rfl ?_ ?_ | exact trivial | ((with_reducible (show AllP (_ :: _))); refine And.intro ?_ ?_) | refine xs rfl ?_ ?_ | refine xs_done ?_ | refine pcond_t rfl ?_ | refine pcond_f rfl ?_ | refine kround_exit ?_ | refine kround_ret ?_ | refine kround_next ?_ | refine kloop_ret ?_ | refine kloop_exit ?_ | refine kcut_ret ?_ | refine kcut_exit ?_ | refine xo0 4000 rfl ?_ ?_ | refine xw0 4000 rfl ?_ ?_ | exact qq | fail)
            refine kcut (st' := ⟨[(0, vEs E), (1, vOs n g), (2, vb priv), (3, vi lf), (10, vi tn), (11, vi r), (12, vi d), (19, .vsl (k' + 1) 1 (tI (sgnP (k' + 1) lf cf)))], []⟩) (can_rowsv [] (k0_sel hk rfl) rfl (by (repeat (refine SelV.cons rfl rqq ?_)); exact SelV.nil) tmq) ⟨_, fun q hq => ?_, rfl⟩
            rw [htat q hq, if_neg (by omega), sgnP, if_pos hl01.1]
          · repeat' (first | refine xo 4000 rfl ?_ ?_ | refine xw 4000 rfl ?_ ?_ | refine xk 4000 rfl ?_ ?_ | exact trivial | ((with_reducible (show AllP (_ :: _))); refine And.intro ?_ ?_) | refine xs rfl ?_ ?_ | refine xs_done ?_ | refine pcond_t rfl ?_ | refine pcond_f rfl ?_ | refine kround_exit ?_ | refine kround_ret ?_ | refine kround_next ?_ | refine kloop_ret ?_ | refine kloop_exit ?_ | refine kcut_ret ?_ | refine kcut_exit ?_ | refine xo0 4000 rfl ?_ ?_ | refine xw0 4000 rfl ?_ ?_ | exact qq | fail)
            refine kcut ((can_frz [0] (by intro l hl; rw [hk]; exact Nat.zero_le _) rfl (tm := [(0, vEs E), (1, vOs n g), (2, vb priv), (3, vi lf), (10, vi tn), (11, vi r), (12, vi d), (19, .vsl (k' + 1) 1 (tI cf))]) (by exact ⟨.inl rfl, .inl rfl, .inl rfl, .inl rfl, .inl rfl, .inl rfl, .inl rfl, .inr (argTI (arg_o (s := .own) (n := k' + 1) (g := cf) c1_cl rfl trivial (List.Mem.head _))), trivial⟩)).trans (can_rowsv [] (rows := []) (k0_sel hk rfl) rfl .nil (by (repeat refine ⟨PEq.refl _, ?_⟩); exact trivial))) ⟨cf, fun q hq => ?_, rfl⟩
            rw [htat q hq, if_pos (by omega)]
        · rintro _ ⟨P, hP, rfl⟩
          repeat' (first | refine xo 4000 rfl ?_ ?_ | refine xw 4000 rfl ?_ ?_ | refine xk 4000 rfl ?_ ?_ | exact trivial | ((with_reducible (show AllP (_ :: _))); refine And.intro ?_ ?_) | refine xs rfl ?_ ?_ | refine xs_done ?_ | refine pcond_t rfl ?_ | refine pcond_f rfl ?_ | refine kround_exit ?_ | refine kround_ret ?_ | refine kround_next ?_ | refine kloop_ret ?_ | refine kloop_exit ?_ | refine kcut_ret ?_ | refine kcut_exit ?_ | refine xo0 4000 rfl ?_ ?_ | refine xw0 4000 rfl ?_ ?_ | exact qq | fail)
          refine pcan (can_sel [0, 1, 2, 3, 10, 11, 12, 19, 20, 21]) ?_
          refine ploop (fun q st => ∃ (i kk : Nat), i ≤ n ∧ (glS i (keyO g) κ').length = kk ∧ kk ≤ k' + 1 ∧ q = n - i ∧ st = ⟨[(0, vEs (eltS g (TI3 (keyO g) κ' tk (TT p (keyO g) tk T0 κ) i) n)), (1, vOs n g), (2, vb priv), (3, vi (lf - sumN i (ifS (fun j => keyO g j == κ') tk))), (10, vi (tn + sumN i (ifS (fun j => keyO g j == κ') tk))), (11, vi r), (12, vi d), (19, .vsl (k' + 1) 1 (tI P)), (20, vi kk), (21, vi i)], []⟩) n ⟨0, 0, by omega, rfl, by omega, rfl, by
            have e1 : TI3 (keyO g) κ' tk (TT p (keyO g) tk T0 κ) 0 = TT p (keyO g) tk T0 κ := by funext j; unfold TI3; simp
            have e2 : lf - sumN 0 (ifS (fun j => keyO g j == κ') tk) = lf := by simp [sumN]
            have e3 : tn + sumN 0 (ifS (fun j => keyO g j == κ') tk) = tn := by simp [sumN]
            rw [e1, e2, e3, ← hE]; rfl⟩ ?_
          rintro _ _ ⟨i, kk, hi, hkk2, hkg2, rfl, rfl⟩
          have hpb := sum_bd8 (fun j => keyO g j == κ') tkb hi
          obtain ⟨Ti, hTi⟩ : ∃ Ti, Ti = TI3 (keyO g) κ' tk (TT p (keyO g) tk T0 κ) i := ⟨_, rfl⟩
          rw [← hTi]
          repeat' (first | refine xo 4000 rfl ?_ ?_ | refine xw 4000 rfl ?_ ?_ | refine xk 4000 rfl ?_ ?_ | exact trivial | ((with_reducible (show AllP (_ :: _))); refine And.intro ?_ ?_) | refine xs rfl ?_ ?_ | refine xs_done ?_ | refine pcond_t rfl ?_ | refine pcond_f rfl ?_ | refine kround_exit ?_ | refine kround_ret ?_ | refine kround_next ?_ | refine kloop_ret ?_ | refine kloop_exit ?_ | refine kcut_ret ?_ | refine kcut_exit ?_ | refine xo0 4000 rfl ?_ ?_ | refine xw0 4000 rfl ?_ ?_ | exact qq | fail)
          refine pcond rfl ?_ ?_ <;> intro hc5 <;> simp at hc5
          · have hw : IntKind.i64.wrap ((i : Int) + 1) = ((i + 1 : Nat) : Int) := w64 (by omega) (by omega)
            have hgs := gl_succ (key := keyO g) (κ := κ') (i := i)
            repeat' (first | refine xo 4000 rfl ?_ ?_ | refine xw 4000 rfl ?_ ?_ | refine xk 4000 rfl ?_ ?_ | exact trivial | ((with_reducible (show AllP (_ :: _))); refine And.intro ?_ ?_) | refine xs rfl ?_ ?_ | refine xs_done ?_ | refine pcond_t rfl ?_ | refine pcond_f rfl ?_ | refine kround_exit ?_ | refine kround_ret ?_ | refine kround_next ?_ | refine kloop_ret ?_ | refine kloop_exit ?_ | refine kcut_ret ?_ | refine kcut_exit ?_ | refine xo0 4000 rfl ?_ ?_ | refine xw0 4000 rfl ?_ ?_ | exact qq | fail)
            refine pcond (b := decide (keyO g i = κ')) ?_ ?_ ?_
            · refine eqB ?_
              rw [← hsame i hc5]
              show (bif (g i).rk == r then (g i).dy == d else false) = _
              cases (g i).rk == r <;> rfl
            · intro h
              have h : keyO g i = κ' := by simpa using h
              obtain ⟨ga, gb⟩ := gl_at hc5 h
              rw [← hgl, hkk2] at ga gb
              have hPk : P kk = tk i := by rw [hP kk (by omega), gb]
              have hti := tkb i hc5
              have e1 : sumN (i + 1) (ifS (fun j => keyO g j == κ') tk) = sumN i (ifS (fun j => keyO g j == κ') tk) + tk i := by rw [sumN]; congr 1; unfold ifS; rw [if_pos (by simp [h])]
              have hlen' : (glS (i + 1) (keyO g) κ').length = kk + 1 := by rw [hgs, if_pos h, List.length_append, hkk2]; rfl
              have hw3 : IntKind.i64.wrap (lf - sumN i (ifS (fun j => keyO g j == κ') tk) - tk i) = lf - sumN (i + 1) (ifS (fun j => keyO g j == κ') tk) := by rw [w64 (by omega) (by omega), e1]; omega
              have hw4 : IntKind.i64.wrap (tn + sumN i (ifS (fun j => keyO g j == κ') tk) + tk i) = tn + sumN (i + 1) (ifS (fun j => keyO g j == κ') tk) := by rw [w64 (by omega) (by omega), e1]; omega
              have hw5 : IntKind.i64.wrap ((kk : Int) + 1) = ((kk + 1 : Nat) : Int) := w64 (by omega) (by omega)
              have hpi : p i = true := by
                obtain ⟨j, h1, h2, _, h4⟩ := hmem
                rw [hkey i j hc5 h1 (by rw [h, h4])]; exact h2
              have hTi0 : Ti i = 0 := by
                rw [hTi]; unfold TI3 TT
                rw [if_neg (by simp), if_neg (by unfold bP; simp; intro _; omega)]
                exact hT0 i hc5 hpi
              have hTn : eltS g (TI3 (keyO g) κ' tk (TT p (keyO g) tk T0 κ) (i + 1)) n = eltS g (fun j => if j = i then tk i else Ti j) n := elt_congr fun j hj => by
                rw [hTi]; unfold TI3
                by_cases e : j = i
                · subst e; rw [if_pos (by simp [h]), if_pos rfl]
                · rw [if_neg e]
                  have : (decide (j < i + 1)) = decide (j < i) := by rw [Bool.eq_iff_iff]; simp; omega
                  rw [this]
              repeat' (first | refine xo 4000 rfl ?_ ?_ | refine xw 4000 rfl ?_ ?_ | refine xk 4000 rfl ?_ ?_ | exact trivial | ((with_reducible (show AllP (_ :: _))); refine And.intro ?_ ?_) | refine xs rfl ?_ ?_ | refine xs_done ?_ | refine pcond_t rfl ?_ | refine pcond_f rfl ?_ | refine kround_exit ?_ | refine kround_ret ?_ | refine kround_next ?_ | refine kloop_ret ?_ | refine kloop_exit ?_ | refine kcut_ret ?_ | refine kcut_exit ?_ | refine xo0 4000 rfl ?_ ?_ | refine xw0 4000 rfl ?_ ?_ | exact qq | fail)
              refine pcut (fun st => st = ⟨[(0, vEs (eltS g (TI3 (keyO g) κ' tk (TT p (keyO g) tk T0 κ) (i + 1)) n)), (1, vOs n g), (2, vb priv), (3, vi (lf - sumN i (ifS (fun j => keyO g j == κ') tk))), (10, vi (tn + sumN i (ifS (fun j => keyO g j == κ') tk))), (11, vi r), (12, vi d), (19, .vsl (k' + 1) 1 (tI P)), (20, vi kk), (21, vi i)], []⟩) ?_ ?_
              · refine pcond rfl ?_ ?_ <;> intro hc6
                · have hy : 0 < tk i := by
                    have hc6 : decide (0 < P kk) = true := hc6
                    rw [hPk] at hc6; simpa using hc6
                  obtain ⟨z1, z2, z3, z4⟩ := put_elt hasc hc5 hTi0 hy
                  have hpc := put_c (eltS g Ti n) ⟨(g i).id, tk i⟩ (eltS g Ti i).length (by have := elt_len g Ti n; omega) z1 z2 z3
                  rw [z4, ← hTn] at hpc
                  rw [← hPk] at hpc
                  repeat' (first | refine xo 4000 rfl ?_ ?_ | refine xw 4000 rfl ?_ ?_ | refine xk 4000 rfl ?_ ?_ | exact trivial | ((with_reducible (show AllP (_ :: _))); refine And.intro ?_ ?_) | refine xs rfl ?_ ?_ | refine xs_done ?_ | refine xs_start (id := 8) true [.take 0, .take 1, .take 2, .take 3, .take 4, .take 5, .take 6, .take 7, .take 8, .take 9, .take 10, .take 11] 0 rfl rfl (by kernel_rfl) ?_ | refine xs_start (id := 29) true [.take 0, .take 1, .take 2, .take 3, .take 4, .take 5, .take 6, .take 7, .take 8, .take 9, .take 10, .one 11, .take 12] 0 rfl rfl (by kernel_rfl) ?_ | refine pcond_t rfl ?_ | refine pcond_f rfl ?_ | refine kround_exit ?_ | refine kround_ret ?_ | refine kround_next ?_ | refine kloop_ret ?_ | refine kloop_exit ?_ | refine kcut_ret ?_ | refine kcut_exit ?_ | refine xo0 4000 rfl ?_ ?_ | refine xw0 4000 rfl ?_ ?_ | exact qq | fail)
                  refine xs_one (ch := []) rfl rfl rfl (pst_rowsc [] rfl rfl rfl rfl rfl rfl .nil (pure_rows hpc) (by exact ⟨PEq.refl _, PEq.cl _ (fun j _ => clL_nth _ j ⟨trivial, trivial, trivial⟩), trivial⟩) ?_)
                  rintro r rows ⟨rfl, rfl⟩
                  refine ⟨_, _, rfl, trivial, rfl, ?_⟩
                  repeat' (first | refine xo 4000 rfl ?_ ?_ | refine xw 4000 rfl ?_ ?_ | refine xk 4000 rfl ?_ ?_ | exact trivial | ((with_reducible (show AllP (_ :: _))); refine And.intro ?_ ?_) | refine xs rfl ?_ ?_ | refine xs_done ?_ | refine pcond_t rfl ?_ | refine pcond_f rfl ?_ | refine kround_exit ?_ | refine kround_ret ?_ | refine kround_next ?_ | refine kloop_ret ?_ | refine kloop_exit ?_ | refine kcut_ret ?_ | refine kcut_exit ?_ | refine xo0 4000 rfl ?_ ?_ | refine xw0 4000 rfl ?_ ?_ | exact qq | fail)
                  exact kcut (st' := ⟨[(0, vEs (eltS g (TI3 (keyO g) κ' tk (TT p (keyO g) tk T0 κ) (i + 1)) n)), (1, vOs n g), (2, vb priv), (3, vi (lf - sumN i (ifS (fun j => keyO g j == κ') tk))), (10, vi (tn + sumN i (ifS (fun j => keyO g j == κ') tk))), (11, vi r), (12, vi d), (19, .vsl (k' + 1) 1 (tI P)), (20, vi kk), (21, vi i)], []⟩) (can_rowsv [] (k0_sel hk rfl) rfl (by (repeat (refine SelV.cons rfl rqq ?_)); exact SelV.nil) tmq) rfl
                · have hy : tk i = 0 := by
                    have hc6 : decide (0 < P kk) = false := hc6
                    rw [hPk] at hc6
                    have : ¬ 0 < tk i := by simpa using hc6
                    omega
                  have e3 : eltS g (TI3 (keyO g) κ' tk (TT p (keyO g) tk T0 κ) (i + 1)) n = eltS g Ti n := by
                    rw [hTn]
                    exact elt_congr fun j hj => by
                      by_cases e : j = i
                      · subst e; rw [if_pos rfl, hy, hTi0]
                      · rw [if_neg e]
                  rw [e3]
                  repeat' (first | refine xo 4000 rfl ?_ ?_ | refine xw 4000 rfl ?_ ?_ | refine xk 4000 rfl ?_ ?_ | exact trivial | ((with_reducible (show AllP (_ :: _))); refine And.intro ?_ ?_) | refine xs rfl ?_ ?_ | refine xs_done ?_ | refine pcond_t rfl ?_ | refine pcond_f rfl ?_ | refine kround_exit ?_ | refine kround_ret ?_ | refine kround_next ?_ | refine kloop_ret ?_ | refine kloop_exit ?_ | refine kcut_ret ?_ | refine kcut_exit ?_ | refine xo0 4000 rfl ?_ ?_ | refine xw0 4000 rfl ?_ ?_ | exact qq | fail)
                  exact kcut (st' := ⟨[(0, vEs (eltS g Ti n)), (1, vOs n g), (2, vb priv), (3, vi (lf - sumN i (ifS (fun j => keyO g j == κ') tk))), (10, vi (tn + sumN i (ifS (fun j => keyO g j == κ') tk))), (11, vi r), (12, vi d), (19, .vsl (k' + 1) 1 (tI P)), (20, vi kk), (21, vi i)], []⟩) (can_rowsv [] (k0_sel hk rfl) rfl (by (repeat (refine SelV.cons rfl rqq ?_)); exact SelV.nil) tmq) rfl
              · rintro _ rfl
                have hPk2 : P (kk : Int).toNat = tk i := hPk
                repeat' (first | refine xo 4000 rfl ?_ ?_ | refine xw 4000 rfl ?_ ?_ | refine xk 4000 rfl ?_ ?_ | exact trivial | ((with_reducible (show AllP (_ :: _))); refine And.intro ?_ ?_) | refine xs rfl ?_ ?_ | refine xs_done ?_ | refine pcond_t rfl ?_ | refine pcond_f rfl ?_ | refine kround_exit ?_ | refine kround_ret ?_ | refine kround_next ?_ | refine kloop_ret ?_ | refine kloop_exit ?_ | refine kcut_ret ?_ | refine kcut_exit ?_ | refine xo0 4000 rfl ?_ ?_ | refine xw0 4000 rfl ?_ ?_ | exact qq | fail)
                rw [hPk2, hw3, hw4, hw5, hw]
                exact kloop_next (n - (i + 1)) (can_sel [0, 1, 2, 3, 10, 11, 12, 19, 20, 21]) (by omega) ⟨i + 1, kk + 1, by omega, hlen', by omega, rfl, rfl⟩
            · intro h
              have h : ¬ keyO g i = κ' := by simpa using h
              have hlen' : (glS (i + 1) (keyO g) κ').length = kk := by rw [hgs, if_neg h, List.append_nil, hkk2]
              have e1 : sumN (i + 1) (ifS (fun j => keyO g j == κ') tk) = sumN i (ifS (fun j => keyO g j == κ') tk) := by rw [sumN]; unfold ifS; rw [if_neg (by simp [h])]; omega
              have e2 : eltS g (TI3 (keyO g) κ' tk (TT p (keyO g) tk T0 κ) (i + 1)) n = eltS g Ti n := elt_congr fun j hj => by
                rw [hTi]; unfold TI3
                by_cases e : j = i
                · subst e; rw [if_neg (by simp [h]), if_neg (by simp)]
                · have : (decide (j < i + 1)) = decide (j < i) := by rw [Bool.eq_iff_iff]; simp; omega
                  rw [this]
              repeat' (first | refine xo 4000 rfl ?_ ?_ | refine xw 4000 rfl ?_ ?_ | refine xk 4000 rfl ?_ ?_ | exact trivial | ((with_reducible (show AllP (_ :: _))); refine And.intro ?_ ?_) | refine xs rfl ?_ ?_ | refine xs_done ?_ | refine pcond_t rfl ?_ | refine pcond_f rfl ?_ | refine kround_exit ?_ | refine kround_ret ?_ | refine kround_next ?_ | refine kloop_ret ?_ | refine kloop_exit ?_ | refine kcut_ret ?_ | refine kcut_exit ?_ | refine xo0 4000 rfl ?_ ?_ | refine xw0 4000 rfl ?_ ?_ | exact qq | fail)
              rw [hw]
              exact kloop_next (n - (i + 1)) (can_sel [0, 1, 2, 3, 10, 11, 12, 19, 20, 21]) (by omega) ⟨i + 1, kk, by omega, hlen', hkg2, rfl, by rw [e1, e2]; rfl⟩
          · have hin3 : i = n := by omega
            have e1 : eltS g Ti n = eltS g (TT p (keyO g) tk T0 κ') n := by
              rw [hTi, hin3, hκ']
              exact elt_congr fun j hj => TT_next hkey tk T0 hK hj
            have e2 : tn + sumN i (ifS (fun j => keyO g j == κ') tk) = tkn n p (keyO g) tk κ' := by
              rw [htn, hin3, hκ']
              exact tkn_next hkey tk hK
            have e3 : lf - sumN i (ifS (fun j => keyO g j == κ') tk) = A - tkn n p (keyO g) tk κ' := by rw [← e2]; omega
            have e4 : κ' = r * 100000 + d := by rw [hκ', hmn]
            rw [e1, e2, e3]
            repeat' (first | refine xo 4000 rfl ?_ ?_ | refine xw 4000 rfl ?_ ?_ | refine xk 4000 rfl ?_ ?_ | exact trivial | ((with_reducible (show AllP (_ :: _))); refine And.intro ?_ ?_) | refine xs rfl ?_ ?_ | refine xs_done ?_ | refine pcond_t rfl ?_ | refine pcond_f rfl ?_ | refine kround_exit ?_ | refine kround_ret ?_ | refine kround_next ?_ | refine kloop_ret ?_ | refine kloop_exit ?_ | refine kcut_ret ?_ | refine kcut_exit ?_ | refine xo0 4000 rfl ?_ ?_ | refine xw0 4000 rfl ?_ ?_ | exact qq | fail)
            exact kloop_next (1000000 - κ').toNat (can_sel [0, 1, 2, 3, 10, 11, 12]) (by omega) ⟨r, d, .inr ⟨r0, by omega, d0, d1⟩, by rw [e4], by rw [← e4]; rfl⟩
end Go.Proofs.Ytipdkompinnghaa
