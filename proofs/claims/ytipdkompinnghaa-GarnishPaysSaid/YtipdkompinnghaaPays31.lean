/- payrolllaw31: GarnishPays. -/
import Derived.Test.YtipdkompinnghaaPa31
set_option linter.unusedSimpArgs false
set_option linter.unusedVariables false
set_option maxRecDepth 100000
namespace Go.Proofs.Ytipdkompinnghaa
/-- what is owed -/
def owS (l : List Ord) (i : Nat) : Int := sumN i (fun a => (lF dO l a).tt)
theorem ow_bd {l : List Ord} (hl : OLs 5 l) {i : Nat} (hi : i ≤ l.length) : 0 ≤ owS l i ∧ owS l i ≤ i * 599999 := by
  have h : ∀ a, a < i → 0 ≤ (lF dO l a).tt ∧ (lF dO l a).tt ≤ 599999 := fun a ha => by
    have := hl.gd _ (List.getElem_mem (show a < l.length by omega))
    rw [lF_get (show a < l.length by omega)]
    exact ⟨this.t0, this.t1⟩
  refine ⟨sumN_nonneg fun a ha => (h a ha).1, ?_⟩
  have := sumN_le (n := i) (f := fun a => (lF dO l a).tt) (g := fun _ => 599999) fun a ha => (h a ha).2
  rw [sumN_const] at this; exact this
theorem cl_tt (o : Ord) : clmS o ≤ o.tt := by
  unfold clmS; split <;> omega
set_option maxHeartbeats 2000000 in
theorem gPays_law (n : Nat) (g : Nat → Int) (hn : n ≤ 9223372036854775807) : PureC G.P 11 [.vsl n 1 (tI g)] (fun r => r = vb true) := by
  refine pure_of (G := G.toPg) (fn := Try.f11) Try.func11 rfl rfl rfl ?_; intro Γ hk
  repeat' (first | refine xo 4000 rfl ?_ ?_ | refine xw 4000 rfl ?_ ?_ | refine xk 4000 rfl ?_ ?_ | exact trivial | ((with_reducible (show AllP (_ :: _))); refine And.intro ?_ ?_) | refine xs rfl ?_ ?_ | refine xs_done ?_ | refine pcond_t rfl ?_ | refine pcond_f rfl ?_ | refine kround_exit ?_ | refine kround_ret ?_ | refine kround_next ?_ | refine kloop_ret ?_ | refine kloop_exit ?_ | refine kcut_ret ?_ | refine kcut_exit ?_ | refine xo0 4000 rfl ?_ ?_ | refine xw0 4000 rfl ?_ ?_ | exact qq | fail)
  refine pop_rowsc [] rfl rfl rfl rfl rfl rfl .nil (dnew_c n g) (by exact ⟨PEq.refl _, trivial⟩) ?_
  rintro r rows ⟨rfl, rfl⟩
  refine ⟨_, _, rfl, ⟨tape_cl _ _ _, trivial⟩, rfl, ?_⟩
  repeat' (first | refine xo 4000 rfl ?_ ?_ | refine xw 4000 rfl ?_ ?_ | refine xk 4000 rfl ?_ ?_ | exact trivial | ((with_reducible (show AllP (_ :: _))); refine And.intro ?_ ?_) | refine xs rfl ?_ ?_ | refine xs_done ?_ | refine pcond_t rfl ?_ | refine pcond_f rfl ?_ | refine kround_exit ?_ | refine kround_ret ?_ | refine kround_next ?_ | refine kloop_ret ?_ | refine kloop_exit ?_ | refine kcut_ret ?_ | refine kcut_exit ?_ | refine xo0 4000 rfl ?_ ?_ | refine xw0 4000 rfl ?_ ?_ | exact qq | fail)
  refine pop_dek (G := G) rfl rfl rfl rfl rfl rfl rfl rfl (fun _ => rfl) (dshield_t) hn (by omega) (by omega) rfl rfl ?_; rintro at_ _ b1 b2 ⟨x, rfl, hx, f1, d1, t1⟩
  repeat' (first | refine xo 4000 rfl ?_ ?_ | refine xw 4000 rfl ?_ ?_ | refine xk 4000 rfl ?_ ?_ | exact trivial | ((with_reducible (show AllP (_ :: _))); refine And.intro ?_ ?_) | refine xs rfl ?_ ?_ | refine xs_done ?_ | refine pcond_t rfl ?_ | refine pcond_f rfl ?_ | refine kround_exit ?_ | refine kround_ret ?_ | refine kround_next ?_ | refine kloop_ret ?_ | refine kloop_exit ?_ | refine kcut_ret ?_ | refine kcut_exit ?_ | refine xo0 4000 rfl ?_ ?_ | refine xw0 4000 rfl ?_ ?_ | exact qq | fail)
  refine pop_dek (G := G) rfl rfl rfl rfl rfl rfl rfl rfl (fun _ => rfl) (dorders_t) hn (by omega) (by omega) rfl rfl ?_; rintro at_ _ b1 b2 ⟨l, rfl, hl⟩
  have hl5 := hl.len
  repeat' (first | refine xo 4000 rfl ?_ ?_ | refine xw 4000 rfl ?_ ?_ | refine xk 4000 rfl ?_ ?_ | exact trivial | ((with_reducible (show AllP (_ :: _))); refine And.intro ?_ ?_) | refine xs rfl ?_ ?_ | refine xs_done ?_ | refine pcond_t rfl ?_ | refine pcond_f rfl ?_ | refine kround_exit ?_ | refine kround_ret ?_ | refine kround_next ?_ | refine kloop_ret ?_ | refine kloop_exit ?_ | refine kcut_ret ?_ | refine kcut_exit ?_ | refine xo0 4000 rfl ?_ ?_ | refine xw0 4000 rfl ?_ ?_ | exact qq | fail)
  refine pcan (st' := ⟨[(3, .ptr 0 0 0), (4, .ptr 1 0 0), (5, vOs l.length (lF dO l)), (6, vi (owS l 0)), (7, vi ((0 : Nat) : Int))], [tapeRow n g _, rH x]⟩) (can_rowsv [0, 1] (k0_sel hk rfl) rfl (.cons rfl (RowEq.cl (tape_cl _ _ _)) (.cons rfl rqq .nil)) tmq) ?_
  refine ploop (fun q st => ∃ (j : Nat), j ≤ l.length ∧ q = l.length - j ∧ st = ⟨[(3, .ptr 0 0 0), (4, .ptr 1 0 0), (5, vOs l.length (lF dO l)), (6, vi (owS l j)), (7, vi j)], [tapeRow n g _, rH x]⟩) l.length ⟨0, by omega, rfl, rfl⟩ ?_
  rintro _ _ ⟨j, hj, rfl, rfl⟩
  repeat' (first | refine xo 4000 rfl ?_ ?_ | refine xw 4000 rfl ?_ ?_ | refine xk 4000 rfl ?_ ?_ | exact trivial | ((with_reducible (show AllP (_ :: _))); refine And.intro ?_ ?_) | refine xs rfl ?_ ?_ | refine xs_done ?_ | refine pcond_t rfl ?_ | refine pcond_f rfl ?_ | refine kround_exit ?_ | refine kround_ret ?_ | refine kround_next ?_ | refine kloop_ret ?_ | refine kloop_exit ?_ | refine kcut_ret ?_ | refine kcut_exit ?_ | refine xo0 4000 rfl ?_ ?_ | refine xw0 4000 rfl ?_ ?_ | exact qq | fail)
  refine pcond rfl ?_ ?_ <;> intro hc <;> simp at hc
  · have h1 := ow_bd hl (i := j) (by omega)
    have h2 := ow_bd hl (i := j + 1) (by omega)
    have hw : IntKind.i64.wrap ((j : Int) + 1) = ((j + 1 : Nat) : Int) := w64 (by omega) (by omega)
    have hs : owS l (j + 1) = owS l j + (lF dO l j).tt := rfl
    have hw2 : IntKind.i64.wrap (owS l j + (lF dO l (j : Int).toNat).tt) = owS l (j + 1) := by
      rw [show (j : Int).toNat = j by omega, ← hs, w64 (by omega) (by omega)]
    repeat' (first | refine xo 4000 rfl ?_ ?_ | refine xw 4000 rfl ?_ ?_ | refine xk 4000 rfl ?_ ?_ | exact trivial | ((with_reducible (show AllP (_ :: _))); refine And.intro ?_ ?_) | refine xs rfl ?_ ?_ | refine xs_done ?_ | refine pcond_t rfl ?_ | refine pcond_f rfl ?_ | refine kround_exit ?_ | refine kround_ret ?_ | refine kround_next ?_ | refine kloop_ret ?_ | refine kloop_exit ?_ | refine kcut_ret ?_ | refine kcut_exit ?_ | refine xo0 4000 rfl ?_ ?_ | refine xw0 4000 rfl ?_ ?_ | exact qq | fail)
    rw [hw, hw2]
    exact kloop_next (st' := ⟨[(3, .ptr 0 0 0), (4, .ptr 1 0 0), (5, vOs l.length (lF dO l)), (6, vi (owS l (j + 1))), (7, vi ((j + 1 : Nat) : Int))], [tapeRow n g _, rH x]⟩) (l.length - (j + 1)) (can_rowsv [0, 1] (k0_sel hk rfl) rfl (.cons rfl (RowEq.cl (tape_cl _ _ _)) (.cons rfl rqq .nil)) tmq) (by omega) ⟨j + 1, by omega, rfl, rfl⟩
  have hjl : j = l.length := by omega
  subst hjl
  clear hj hc
  repeat' (first | refine xo 4000 rfl ?_ ?_ | refine xw 4000 rfl ?_ ?_ | refine xk 4000 rfl ?_ ?_ | exact trivial | ((with_reducible (show AllP (_ :: _))); refine And.intro ?_ ?_) | refine xs rfl ?_ ?_ | refine xs_done ?_ | refine pcond_t rfl ?_ | refine pcond_f rfl ?_ | refine kround_exit ?_ | refine kround_ret ?_ | refine kround_next ?_ | refine kloop_ret ?_ | refine kloop_exit ?_ | refine kcut_ret ?_ | refine kcut_exit ?_ | refine xo0 4000 rfl ?_ ?_ | refine xw0 4000 rfl ?_ ?_ | exact qq | fail)
  refine pcan (st' := ⟨[(3, .ptr 0 0 0), (4, .ptr 1 0 0), (6, vi (owS l l.length)), (8, vOs l.length (lF dO l)), (9, vi ((0 : Nat) : Int))], [tapeRow n g _, rH x]⟩) (can_rowsv [0, 1] (k0_sel hk rfl) rfl (.cons rfl (RowEq.cl (tape_cl _ _ _)) (.cons rfl rqq .nil)) tmq) ?_
  refine ploop (fun q st => ∃ (r : Nat) (at' : Int) (l : List Ord), r ≤ 6 ∧ 0 ≤ at' ∧ at' ≤ 1000 + 5 * r ∧ OLs 5 l ∧ q = 6 - r ∧ st = ⟨[(3, .ptr 0 0 0), (4, .ptr 1 0 0), (6, vi (owS l l.length)), (8, vOs l.length (lF dO l)), (9, vi r)], [tapeRow n g at', rH x]⟩) 6 ⟨0, _, l, by omega, by omega, by omega, hl, rfl, rfl⟩ ?_
  clear hl hl5 l
  rintro _ _ ⟨r, at', l, hr, b1, b2, hl, rfl, rfl⟩
  have hl5 := hl.len
  repeat' (first | refine xo 4000 rfl ?_ ?_ | refine xw 4000 rfl ?_ ?_ | refine xk 4000 rfl ?_ ?_ | exact trivial | ((with_reducible (show AllP (_ :: _))); refine And.intro ?_ ?_) | refine xs rfl ?_ ?_ | refine xs_done ?_ | refine pcond_t rfl ?_ | refine pcond_f rfl ?_ | refine kround_exit ?_ | refine kround_ret ?_ | refine kround_next ?_ | refine kloop_ret ?_ | refine kloop_exit ?_ | refine kcut_ret ?_ | refine kcut_exit ?_ | refine xo0 4000 rfl ?_ ?_ | refine xw0 4000 rfl ?_ ?_ | exact qq | fail)
  refine pcond rfl ?_ ?_ <;> intro hc <;> simp at hc
  · have hw : IntKind.i64.wrap ((r : Int) + 1) = ((r + 1 : Nat) : Int) := w64 (by omega) (by omega)
    repeat' (first | refine xo 4000 rfl ?_ ?_ | refine xw 4000 rfl ?_ ?_ | refine xk 4000 rfl ?_ ?_ | exact trivial | ((with_reducible (show AllP (_ :: _))); refine And.intro ?_ ?_) | refine xs rfl ?_ ?_ | refine xs_done ?_ | refine xs_start (id := 12) true [.take 0, .take 1, .take 3, .one 2, .one 4, .take 5, .take 6, .take 7, .take 8, .take 9] 0 rfl rfl (by kernel_rfl) ?_ | (refine xs_one (ch := [_]) rfl rfl rfl (pst_dek (G := G) rfl rfl rfl rfl rfl rfl rfl rfl (fun _ => rfl) dsmall_t hn (by omega) (by omega) rfl rfl ?_); rintro at_ _ c1 c2 ⟨nt, rfl, n0, n1⟩) | refine pcond_t rfl ?_ | refine pcond_f rfl ?_ | refine kround_exit ?_ | refine kround_ret ?_ | refine kround_next ?_ | refine kloop_ret ?_ | refine kloop_exit ?_ | refine kcut_ret ?_ | refine kcut_exit ?_ | refine xo0 4000 rfl ?_ ?_ | refine xw0 4000 rfl ?_ ?_ | exact qq | fail)
    have hC : COk x nt 0 := ⟨hx, n0, by omega, by omega, by omega⟩
    obtain ⟨E, T, hA, q0⟩ := a_ok hl hC
    refine xs_one (ch := []) rfl rfl rfl (pst_rowsc [] rfl rfl rfl rfl rfl rfl .nil (pure_rows q0) (by exact ⟨PEq.cl _ (fun j _ => clL_nth _ j ⟨trivial, trivial, trivial, trivial, trivial, trivial⟩), PEq.refl _, PEq.refl _, PEq.refl _, trivial⟩) ?_)
    rintro r2 rows ⟨rfl, rfl⟩
    refine ⟨_, _, rfl, trivial, rfl, ?_⟩
    have ho := hl.ords
    have hO := ords_ok ho
    have hT : ∀ i, i < l.length → 0 ≤ T i ∧ T i ≤ (lF dO l i).tt := fun i hi => by
      have h1 := hA.bd i hi
      have h2 := cl_tt (lF dO l i)
      exact ⟨h1.1, Int.le_trans h1.2 h2⟩
    have htk : ∀ i, i < l.length → tkF (lF dE E) E.length (lF dO l i).id = T i := fun i hi => elt_tk (ids_dist ho) (fun i hi => (hT i hi).1) hA.hE hi
    have q1 := settle_c l.length (lF dO l) E.length (lF dE E) hl.sz (by have := hA.el; omega)
    rw [elt_stl ho hT hA.hE] at q1
    obtain ⟨l2, hl2⟩ : ∃ l2, l2 = restS (lF dO l) (lF dE E) E.length l.length := ⟨_, rfl⟩
    have o2 : OLs 5 l2 := by rw [hl2]; exact rest_ols hl (fun i hi => by rw [htk i hi]; exact hT i hi)
    have s2 : owS l2 l2.length = owS l l.length - sumN l.length T := by rw [hl2]; exact rest_sum _ _ htk _ (Nat.le_refl _)
    rw [← hl2] at q1
    clear hl2
    have q2 := sum27_c E (by have := hA.el; omega) hA.am
    rw [hA.sum] at q2
    have w1 := ow_bd hl (Nat.le_refl _)
    have w2 := ow_bd o2 (Nat.le_refl _)
    have l25 := o2.len
    repeat' (first | refine xo 4000 rfl ?_ ?_ | refine xw 4000 rfl ?_ ?_ | refine xk 4000 rfl ?_ ?_ | exact trivial | ((with_reducible (show AllP (_ :: _))); refine And.intro ?_ ?_) | refine xs rfl ?_ ?_ | refine xs_done ?_ | (refine pop_callc [] rfl rfl rfl rfl rfl rfl (fun _ h => by cases h) (q1) (args_cl _ rfl) ?_; rintro _ rfl) | refine pcond_t rfl ?_ | refine pcond_f rfl ?_ | refine kround_exit ?_ | refine kround_ret ?_ | refine kround_next ?_ | refine kloop_ret ?_ | refine kloop_exit ?_ | refine kcut_ret ?_ | refine kcut_exit ?_ | refine xo0 4000 rfl ?_ ?_ | refine xw0 4000 rfl ?_ ?_ | exact qq | fail)
    refine pcan (st' := ⟨[(3, .ptr 0 0 0), (4, .ptr 1 0 0), (6, vi (owS l l.length)), (9, vi r), (10, vEs E), (12, vOs l2.length (lF dO l2)), (14, vi (owS l2 0)), (15, vi ((0 : Nat) : Int))], [tapeRow n g _, rH x]⟩) (can_rowsv [0, 1] (k0_sel hk rfl) rfl (.cons rfl (RowEq.cl (tape_cl _ _ _)) (.cons rfl rqq .nil)) tmq) ?_
    refine ploop (fun q st => ∃ (j : Nat), j ≤ l2.length ∧ q = l2.length - j ∧ st = ⟨[(3, .ptr 0 0 0), (4, .ptr 1 0 0), (6, vi (owS l l.length)), (9, vi r), (10, vEs E), (12, vOs l2.length (lF dO l2)), (14, vi (owS l2 j)), (15, vi j)], [tapeRow n g _, rH x]⟩) l2.length ⟨0, by omega, rfl, rfl⟩ ?_
    rintro _ _ ⟨j, hj, rfl, rfl⟩
    repeat' (first | refine xo 4000 rfl ?_ ?_ | refine xw 4000 rfl ?_ ?_ | refine xk 4000 rfl ?_ ?_ | exact trivial | ((with_reducible (show AllP (_ :: _))); refine And.intro ?_ ?_) | refine xs rfl ?_ ?_ | refine xs_done ?_ | refine pcond_t rfl ?_ | refine pcond_f rfl ?_ | refine kround_exit ?_ | refine kround_ret ?_ | refine kround_next ?_ | refine kloop_ret ?_ | refine kloop_exit ?_ | refine kcut_ret ?_ | refine kcut_exit ?_ | refine xo0 4000 rfl ?_ ?_ | refine xw0 4000 rfl ?_ ?_ | exact qq | fail)
    refine pcond rfl ?_ ?_ <;> intro hc2 <;> simp at hc2
    · have h1 := ow_bd o2 (i := j) (by omega)
      have h2 := ow_bd o2 (i := j + 1) (by omega)
      have hwj : IntKind.i64.wrap ((j : Int) + 1) = ((j + 1 : Nat) : Int) := w64 (by omega) (by omega)
      have hs : owS l2 (j + 1) = owS l2 j + (lF dO l2 j).tt := rfl
      have hw2 : IntKind.i64.wrap (owS l2 j + (lF dO l2 (j : Int).toNat).tt) = owS l2 (j + 1) := by
        rw [show (j : Int).toNat = j by omega, ← hs, w64 (by omega) (by omega)]
      repeat' (first | refine xo 4000 rfl ?_ ?_ | refine xw 4000 rfl ?_ ?_ | refine xk 4000 rfl ?_ ?_ | exact trivial | ((with_reducible (show AllP (_ :: _))); refine And.intro ?_ ?_) | refine xs rfl ?_ ?_ | refine xs_done ?_ | refine pcond_t rfl ?_ | refine pcond_f rfl ?_ | refine kround_exit ?_ | refine kround_ret ?_ | refine kround_next ?_ | refine kloop_ret ?_ | refine kloop_exit ?_ | refine kcut_ret ?_ | refine kcut_exit ?_ | refine xo0 4000 rfl ?_ ?_ | refine xw0 4000 rfl ?_ ?_ | exact qq | fail)
      rw [hwj, hw2]
      exact kloop_next (st' := ⟨[(3, .ptr 0 0 0), (4, .ptr 1 0 0), (6, vi (owS l l.length)), (9, vi r), (10, vEs E), (12, vOs l2.length (lF dO l2)), (14, vi (owS l2 (j + 1))), (15, vi ((j + 1 : Nat) : Int))], [tapeRow n g _, rH x]⟩) (l2.length - (j + 1)) (can_rowsv [0, 1] (k0_sel hk rfl) rfl (.cons rfl (RowEq.cl (tape_cl _ _ _)) (.cons rfl rqq .nil)) tmq) (by omega) ⟨j + 1, by omega, rfl, rfl⟩
    have hjl : j = l2.length := by omega
    subst hjl
    have hw3 : IntKind.i64.wrap (owS l2 l2.length + sumN l.length T) = owS l l.length := by rw [s2, w64 (by omega) (by omega)]; omega
    repeat' (first | refine xo 4000 rfl ?_ ?_ | refine xw 4000 rfl ?_ ?_ | refine xk 4000 rfl ?_ ?_ | exact trivial | ((with_reducible (show AllP (_ :: _))); refine And.intro ?_ ?_) | refine xs rfl ?_ ?_ | refine xs_done ?_ | refine pop_callv rfl rfl rfl rfl rfl (q2) rfl rfl rfl ?_ | refine xs_call rfl rfl rfl rfl rfl rfl (q2) rfl rfl rfl ?_ | refine xs_one (ch := []) rfl rfl rfl (pst_callv rfl rfl rfl rfl rfl (q2) rfl rfl rfl ?_) | refine pop_callgv rfl rfl rfl rfl rfl rfl (fun _ => q2) (by first | exact fun h => ⟨h, trivial⟩ | exact fun _ => trivial | exact fun h => ⟨h, h, trivial⟩) rfl rfl rfl ?_ | refine xs_one (ch := []) rfl rfl rfl (pst_callgv rfl rfl rfl rfl rfl rfl (fun _ => q2) (by first | exact fun h => ⟨h, trivial⟩ | exact fun _ => trivial | exact fun h => ⟨h, h, trivial⟩) rfl rfl rfl ?_) | refine pcond_t rfl ?_ | refine pcond_f rfl ?_ | refine kround_exit ?_ | refine kround_ret ?_ | refine kround_next ?_ | refine kloop_ret ?_ | refine kloop_exit ?_ | refine kcut_ret ?_ | refine kcut_exit ?_ | refine xo0 4000 rfl ?_ ?_ | refine xw0 4000 rfl ?_ ?_ | exact qq | fail)
    rw [hw3]
    refine pcond (b := false) ?_ ?_ ?_
    · refine eqB ?_; simp
    · intro h; cases h
    · intro _
      repeat' (first | refine xo 4000 rfl ?_ ?_ | refine xw 4000 rfl ?_ ?_ | refine xk 4000 rfl ?_ ?_ | exact trivial | ((with_reducible (show AllP (_ :: _))); refine And.intro ?_ ?_) | refine xs rfl ?_ ?_ | refine xs_done ?_ | refine pcond_t rfl ?_ | refine pcond_f rfl ?_ | refine kround_exit ?_ | refine kround_ret ?_ | refine kround_next ?_ | refine kloop_ret ?_ | refine kloop_exit ?_ | refine kcut_ret ?_ | refine kcut_exit ?_ | refine xo0 4000 rfl ?_ ?_ | refine xw0 4000 rfl ?_ ?_ | exact qq | fail)
      rw [hw]
      exact kloop_next (st' := ⟨[(3, .ptr 0 0 0), (4, .ptr 1 0 0), (6, vi (owS l2 l2.length)), (8, vOs l2.length (lF dO l2)), (9, vi ((r + 1 : Nat) : Int))], [tapeRow n g _, rH x]⟩) (6 - (r + 1)) (can_rowsv [0, 1] (k0_sel hk rfl) rfl (.cons rfl (RowEq.cl (tape_cl _ _ _)) (.cons rfl rqq .nil)) tmq) (by omega) ⟨r + 1, _, l2, by omega, by omega, by omega, o2, rfl, rfl⟩
  · repeat' (first | refine xo 4000 rfl ?_ ?_ | refine xw 4000 rfl ?_ ?_ | refine xk 4000 rfl ?_ ?_ | exact trivial | ((with_reducible (show AllP (_ :: _))); refine And.intro ?_ ?_) | refine xs rfl ?_ ?_ | refine xs_done ?_ | refine pop_callv rfl rfl rfl rfl rfl (awake_c) rfl rfl rfl ?_ | refine xs_call rfl rfl rfl rfl rfl rfl (awake_c) rfl rfl rfl ?_ | refine xs_one (ch := []) rfl rfl rfl (pst_callv rfl rfl rfl rfl rfl (awake_c) rfl rfl rfl ?_) | refine pop_callgv rfl rfl rfl rfl rfl rfl (fun _ => awake_c) (by first | exact fun h => ⟨h, trivial⟩ | exact fun _ => trivial | exact fun h => ⟨h, h, trivial⟩) rfl rfl rfl ?_ | refine xs_one (ch := []) rfl rfl rfl (pst_callgv rfl rfl rfl rfl rfl rfl (fun _ => awake_c) (by first | exact fun h => ⟨h, trivial⟩ | exact fun _ => trivial | exact fun h => ⟨h, h, trivial⟩) rfl rfl rfl ?_) | refine pcond_t rfl ?_ | refine pcond_f rfl ?_ | refine kround_exit ?_ | refine kround_ret ?_ | refine kround_next ?_ | refine kloop_ret ?_ | refine kloop_exit ?_ | refine kcut_ret ?_ | refine kcut_exit ?_ | refine xo0 4000 rfl ?_ ?_ | refine xw0 4000 rfl ?_ ?_ | exact qq | fail)
    refine xdone ?_
    exact kretv rfl ⟨trivial, trivial⟩ rfl rfl
theorem gPays_walk (v : Value) (l : List Int) (w : World) (h : IntsAt w v l) : Calls G.P 11 #[v] w fun e w' => e = .returned (.bool true) ∧ Ext w w' := by
  have hl : l.length ≤ 9223372036854775807 := by obtain ⟨_, _, _, _, h, _⟩ := h; exact h
  exact law_of (vs := [v]) (gPays_law l.length _ hl) ⟨h.rel _, trivial⟩
end Go.Proofs.Ytipdkompinnghaa
