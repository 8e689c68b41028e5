/- The reference's checks of agreements: fields. -/
import Derived.Test.YtnlcenlamkfmnaaGreatX0c
import Derived.Test.YtnlcenlamkfmnaaGreatNam
import Derived.Test.YtnlcenlamkfmnaaGreatRv1
import Derived.Test.YtnlcenlamkfmnaaGreatPvE
set_option linter.unusedSimpArgs false
set_option linter.unusedVariables false
set_option maxRecDepth 100000
namespace Go.Proofs.YtnlcenlamkfmnaaGreat
theorem inDays_c (n : Int) : PureC G.P 69 [vi n] (fun r => r = vb (dayS n)) := by
  refine pure_of (G := G.toPg) (fn := Tryz.f69) Tryz.func69 rfl rfl rfl ?_; intro Γ hk
  repeat' (first | refine yo ?_ ?_ | refine yw ?_ ?_ | refine yk ?_ ?_ | exact trivial | with_reducible refine wA ?_ ?_ | refine ys ?_ ?_ | refine xs_done ?_ | refine yl ?_ ?_ | refine w8 ?_ | refine w9 ?_ | refine w1 ?_ | refine w2 ?_ | refine w3 ?_ | refine w4 ?_ | refine w5 ?_ | refine w6 ?_ | refine w7 ?_ | refine yo0 ?_ ?_ | refine yw0 ?_ ?_ | exact qq | fail)
  refine kretv rfl ⟨trivial, trivial⟩ rfl (eqB ?_)
  unfold dayS
  rw [Bool.eq_iff_iff]; simp
theorem mode2_c (m : Int) : PureC G.P 72 [vi m] (fun r => r = vb (modeB m)) := by
  refine pure_of (G := G.toPg) (fn := Tryz.f72) Tryz.func72 rfl rfl rfl ?_; intro Γ hk
  repeat' (first | refine yo ?_ ?_ | refine yw ?_ ?_ | refine yk ?_ ?_ | exact trivial | with_reducible refine wA ?_ ?_ | refine ys ?_ ?_ | refine xs_done ?_ | refine yl ?_ ?_ | refine w8 ?_ | refine w9 ?_ | refine w1 ?_ | refine w2 ?_ | refine w3 ?_ | refine w4 ?_ | refine w5 ?_ | refine w6 ?_ | refine w7 ?_ | refine yo0 ?_ ?_ | refine yw0 ?_ ?_ | exact qq | fail)
  refine kretv rfl ⟨trivial, trivial⟩ rfl (eqB ?_)
  unfold modeB
  rw [Bool.eq_iff_iff]; simp
theorem isUnit18_c (m h d : Int) : PureC G.P 67 [.agg 3 (nthP [vi m, vi h, vi d])] (fun r => r = vb (unitS m h d)) := by
  refine pure_of (G := G.toPg) (fn := Tryz.f67) Tryz.func67 rfl rfl rfl ?_; intro Γ hk
  repeat' (first | refine yo ?_ ?_ | refine yw ?_ ?_ | refine yk ?_ ?_ | exact trivial | with_reducible refine wA ?_ ?_ | refine ys ?_ ?_ | refine xs_done ?_ | refine yl ?_ ?_ | refine w8 ?_ | refine w9 ?_ | refine w1 ?_ | refine w2 ?_ | refine w3 ?_ | refine w4 ?_ | refine w5 ?_ | refine w6 ?_ | refine w7 ?_ | refine yo0 ?_ ?_ | refine yw0 ?_ ?_ | exact qq | fail)
  refine kretv rfl ⟨trivial, trivial⟩ rfl (eqB ?_)
  unfold unitS
  rw [Bool.eq_iff_iff]; simp; omega
theorem isDecimal_c (n d : Int) (h1 : -9223372036854775808 ≤ n) (h2 : n ≤ 9223372036854775807) : PureC G.P 90 [vr n d] (fun r => r = vb (decS n d)) := by
  have c1 := ref1Valid_c n d h1 h2
  have hne : ((bif okR n d then decide (0 ≤ n) else false) == true) = true → d ≠ 0 := fun h => by
    cases ho : okR n d
    · rw [ho] at h; cases h
    · have := okR_bd ho; omega
  refine pure_of (G := G.toPg) (fn := Tryz.f90) Tryz.func90 rfl rfl rfl ?_; intro Γ hk
  repeat' (first | refine yo ?_ ?_ | refine yw ?_ ?_ | refine yk ?_ ?_ | exact trivial | with_reducible refine wA ?_ ?_ | refine ys ?_ ?_ | refine xs_done ?_ | refine yl ?_ ?_ | exact fun h => ⟨h, hne h⟩ | refine z1 c1 ?_ | refine z2 c1 ?_ | refine z3 c1 ?_ | refine z4 c1 ?_ | refine z5 c1 ?_ | refine w8 ?_ | refine w9 ?_ | refine w1 ?_ | refine w2 ?_ | refine w3 ?_ | refine w4 ?_ | refine w5 ?_ | refine w6 ?_ | refine w7 ?_ | refine yo0 ?_ ?_ | refine yw0 ?_ ?_ | exact qq | fail)
  refine kretv rfl ⟨trivial, trivial⟩ rfl (eqB ?_)
  unfold decS
  have e : (Int.tmod 1000000 d == 0) = decide (Int.tmod 1000000 d = 0) := by rw [Bool.eq_iff_iff]; simp
  rw [e]
  cases okR n d <;> cases decide (0 ≤ n) <;> cases decide (Int.tmod 1000000 d = 0) <;> rfl
set_option maxHeartbeats 2000000 in
theorem kids18_c (op : Int) : PureC G.P 103 [vi op] (fun r => r = vi (kidsN op)) := by
  refine pure_of (G := G.toPg) (fn := Tryz.f103) Tryz.func103 rfl rfl rfl ?_; intro Γ hk
  by_cases hr : 1 ≤ op ∧ op ≤ 21
  · obtain rfl | rfl | rfl | rfl | rfl | rfl | rfl | rfl | rfl | rfl | rfl | rfl | rfl | rfl | rfl | rfl | rfl | rfl | rfl | rfl | rfl : op = 1 ∨ op = 2 ∨ op = 3 ∨ op = 4 ∨ op = 5 ∨ op = 6 ∨ op = 7 ∨ op = 8 ∨ op = 9 ∨ op = 10 ∨ op = 11 ∨ op = 12 ∨ op = 13 ∨ op = 14 ∨ op = 15 ∨ op = 16 ∨ op = 17 ∨ op = 18 ∨ op = 19 ∨ op = 20 ∨ op = 21 := by omega
    all_goals
      repeat' (first | refine yo ?_ ?_ | refine yw ?_ ?_ | refine yk ?_ ?_ | exact trivial | with_reducible refine wA ?_ ?_ | refine ys ?_ ?_ | refine xs_done ?_ | refine yl ?_ ?_ | refine w8 ?_ | refine w9 ?_ | refine w1 ?_ | refine w2 ?_ | refine w3 ?_ | refine w4 ?_ | refine w5 ?_ | refine w6 ?_ | refine w7 ?_ | refine yo0 ?_ ?_ | refine yw0 ?_ ?_ | exact qq | fail)
      exact kretv rfl ⟨trivial, trivial⟩ rfl rfl
  · have e : kidsN op = -1 := by
      unfold kidsN
      rw [if_neg (by omega), if_neg (by omega), if_neg (by omega), if_neg (by omega)]
    repeat' (first | refine yo ?_ ?_ | refine yw ?_ ?_ | refine yk ?_ ?_ | exact trivial | with_reducible refine wA ?_ ?_ | refine ys ?_ ?_ | refine xs_done ?_ | refine yl ?_ ?_ | (refine pcond_n rfl (by simp; omega) ?_) | refine w8 ?_ | refine w9 ?_ | refine w1 ?_ | refine w2 ?_ | refine w3 ?_ | refine w4 ?_ | refine w5 ?_ | refine w6 ?_ | refine w7 ?_ | refine yo0 ?_ ?_ | refine yw0 ?_ ?_ | exact qq | fail)
    exact kretv rfl ⟨trivial, trivial⟩ rfl (eqI e.symm)
theorem isStep18_c (n d : Int) (h1 : -9223372036854775808 ≤ n) (h2 : n ≤ 9223372036854775807) : PureC G.P 73 [vr n d] (fun r => r = vb (okR n d && (decide (0 < n) && decide (Int.tmod 100 d = 0)))) := by
  have c1 := ref1Valid_c n d h1 h2
  have hne : ((bif okR n d then decide (0 < n) else false) == true) = true → d ≠ 0 := fun h => by
    cases ho : okR n d
    · rw [ho] at h; cases h
    · have := okR_bd ho; omega
  refine pure_of (G := G.toPg) (fn := Tryz.f73) Tryz.func73 rfl rfl rfl ?_; intro Γ hk
  repeat' (first | refine yo ?_ ?_ | refine yw ?_ ?_ | refine yk ?_ ?_ | exact trivial | with_reducible refine wA ?_ ?_ | refine ys ?_ ?_ | refine xs_done ?_ | refine yl ?_ ?_ | exact fun h => ⟨h, hne h⟩ | refine z1 c1 ?_ | refine z2 c1 ?_ | refine z3 c1 ?_ | refine z4 c1 ?_ | refine z5 c1 ?_ | refine w8 ?_ | refine w9 ?_ | refine w1 ?_ | refine w2 ?_ | refine w3 ?_ | refine w4 ?_ | refine w5 ?_ | refine w6 ?_ | refine w7 ?_ | refine yo0 ?_ ?_ | refine yw0 ?_ ?_ | exact qq | fail)
  refine kretv rfl ⟨trivial, trivial⟩ rfl (eqB ?_)
  have e : (Int.tmod 100 d == 0) = decide (Int.tmod 100 d = 0) := by rw [Bool.eq_iff_iff]; simp
  rw [e]
  cases okR n d <;> cases decide (0 < n) <;> cases decide (Int.tmod 100 d = 0) <;> rfl
set_option maxHeartbeats 8000000 in
theorem own_c (e : Ex) (hv : -9223372036854775808 ≤ e.vn ∧ e.vn ≤ 9223372036854775807) (hs : e.nm.size ≤ 9223372036854775807) : PureC G.P 104 [vX e] (fun r => r = vb (fieldS e)) := by
  have c1 := isDecimal_c e.vn e.vd hv.1 hv.2
  have c3 := isUnit18_c e.um e.uh e.ud
  have c4 := isName17_c e.nm hs
  have c5 := mode2_c e.mode
  refine pure_of (G := G.toPg) (fn := Tryz.f104) Tryz.func104 rfl rfl rfl ?_; intro Γ hk
  by_cases hr : e.op = 1 ∨ e.op = 2 ∨ e.op = 3 ∨ e.op = 4 ∨ e.op = 19 ∨ e.op = 20 ∨ e.op = 21
  · rcases hr with h | h | h | h | h | h | h
    all_goals
      repeat' (first | refine yo ?_ ?_ | refine yw ?_ ?_ | refine yk ?_ ?_ | exact trivial | with_reducible refine wA ?_ ?_ | refine ys ?_ ?_ | refine xs_done ?_ | refine yl ?_ ?_ | refine xs_start (id := 1) true [.take 0, .take 1, .take 2, .take 3, .take 4, .take 5, .take 6, .take 7, .take 8, .take 9, .take 10, .take 11, .take 12, .take 13, .take 14, .take 15, .take 16, .take 17, .take 18, .take 19, .take 20, .take 21] 0 rfl rfl (by kernel_rfl) ?_ | refine xs_start (id := 4) true [.take 0, .take 1, .take 3, .take 4, .one 2, .one 5, .take 6, .take 7] 0 rfl rfl (by kernel_rfl) ?_ | refine xs_start (id := 11) true [.take 0, .take 1, .take 9, .take 10, .take 12, .take 13, .one 2, .take 3, .take 4, .take 5, .take 6, .take 7, .take 8, .one 11, .one 14, .take 15, .take 16, .take 17] 0 rfl rfl (by kernel_rfl) ?_ | refine xs_start (id := 14) true [.take 0, .take 1, .take 3, .take 4, .take 5, .one 2, .take 6, .take 7, .take 8, .take 9, .take 10, .take 11, .take 12] 0 rfl rfl (by kernel_rfl) ?_ | (refine pcond_y rfl (by rw [h]; rfl) ?_) | (refine pcond_n rfl (by rw [h]; rfl) ?_) | refine z1 c1 ?_ | refine z2 c1 ?_ | refine z3 c1 ?_ | refine z4 c1 ?_ | refine z5 c1 ?_ | refine z1 c3 ?_ | refine z2 c3 ?_ | refine z3 c3 ?_ | refine z4 c3 ?_ | refine z5 c3 ?_ | refine z1 c4 ?_ | refine z2 c4 ?_ | refine z3 c4 ?_ | refine z4 c4 ?_ | refine z5 c4 ?_ | refine z1 c5 ?_ | refine z2 c5 ?_ | refine z3 c5 ?_ | refine z4 c5 ?_ | refine z5 c5 ?_ | refine w8 ?_ | refine w9 ?_ | refine w1 ?_ | refine w2 ?_ | refine w3 ?_ | refine w4 ?_ | refine w5 ?_ | refine w6 ?_ | refine w7 ?_ | refine yo0 ?_ ?_ | refine yw0 ?_ ?_ | exact qq | fail)
      refine kretv rfl ⟨trivial, trivial⟩ rfl (eqB ?_)
      simp [fieldS, h, bqd, Bool.and_assoc] <;> ac_rfl
  · repeat' (first | refine yo ?_ ?_ | refine yw ?_ ?_ | refine yk ?_ ?_ | exact trivial | with_reducible refine wA ?_ ?_ | refine ys ?_ ?_ | refine xs_done ?_ | refine yl ?_ ?_ | refine xs_start (id := 1) true [.take 0, .take 1, .take 2, .take 3, .take 4, .take 5, .take 6, .take 7, .take 8, .take 9, .take 10, .take 11, .take 12, .take 13, .take 14, .take 15, .take 16, .take 17, .take 18, .take 19, .take 20, .take 21] 0 rfl rfl (by kernel_rfl) ?_ | refine xs_start (id := 4) true [.take 0, .take 1, .take 3, .take 4, .one 2, .one 5, .take 6, .take 7] 0 rfl rfl (by kernel_rfl) ?_ | refine xs_start (id := 11) true [.take 0, .take 1, .take 9, .take 10, .take 12, .take 13, .one 2, .take 3, .take 4, .take 5, .take 6, .take 7, .take 8, .one 11, .one 14, .take 15, .take 16, .take 17] 0 rfl rfl (by kernel_rfl) ?_ | refine xs_start (id := 14) true [.take 0, .take 1, .take 3, .take 4, .take 5, .one 2, .take 6, .take 7, .take 8, .take 9, .take 10, .take 11, .take 12] 0 rfl rfl (by kernel_rfl) ?_ | (refine pcond_n rfl (by simp; omega) ?_) | refine w8 ?_ | refine w9 ?_ | refine w1 ?_ | refine w2 ?_ | refine w3 ?_ | refine w4 ?_ | refine w5 ?_ | refine w6 ?_ | refine w7 ?_ | refine yo0 ?_ ?_ | refine yw0 ?_ ?_ | exact qq | fail)
    refine kretv rfl ⟨trivial, trivial⟩ rfl (eqB ?_)
    have e1 : ¬ e.op = 1 := by omega
    have e2 : ¬ e.op = 2 := by omega
    have e3 : ¬ e.op = 3 := by omega
    have e4 : ¬ e.op = 4 := by omega
    have e5 : ¬ e.op = 19 := by omega
    have e6 : ¬ e.op = 20 := by omega
    have e7 : ¬ e.op = 21 := by omega
    simp [fieldS, e1, e2, e3, e4, e5, e6, e7, bqd, Bool.and_assoc] <;> ac_rfl
theorem peqK18 (e : Ex) : PEq (.vsl e.nk 10 e.kc) (.vsl e.nk 10 (tF cX e.kf)) := peq_vsl rfl fun i hi j hj => by rw [kc_eq (by omega)]
abbrev rX18 (e : Ex) : Row := ⟨.own, true, 1, 10, fun _ => nthP [vi e.op, vi e.vn, vi e.vd, vi e.um, vi e.uh, vi e.ud, vs e.nm, vi e.cnt, vi e.mode, .vsl e.nk 10 (tF cX e.kf)]⟩
theorem rX18_cl (e : Ex) : rowCl (rX18 e) := fun i _ j _ => clL_nth _ j ⟨trivial, trivial, trivial, trivial, trivial, trivial, trivial, trivial, trivial, trivial, trivial⟩
theorem nb18_t {b : Bool} (h : (!b) = true) : b = false := by cases b; rfl; cases h
theorem nb18_f {b : Bool} (h : (!b) = false) : b = true := by cases b; cases h; rfl
set_option maxHeartbeats 4000000 in
theorem within_c : ∀ (n : Nat) (e : Ex), n ≤ 1000 → Bd e → PureC G.P 91 [vX e, vi n] (fun r => r = vb (validS n e))
  | 0, e, _, hb => by
    have c1 := kids18_c e.op
    have c2 := own_c e hb.v hb.s
    refine pure_of (G := G.toPg) (fn := Tryz.f91) Tryz.func91 rfl rfl rfl ?_; intro Γ hk
    repeat' (first | refine yo ?_ ?_ | refine yw ?_ ?_ | refine yk ?_ ?_ | exact trivial | with_reducible refine wA ?_ ?_ | refine ys ?_ ?_ | refine xs_done ?_ | refine yl ?_ ?_ | refine xs_start (id := 1) true [.take 0, .take 1, .take 2, .take 3, .take 4, .take 5, .take 6, .take 7, .one 8, .take 9, .take 10, .take 11, .take 12, .one 13, .take 14, .take 15] 0 rfl rfl (by kernel_rfl) ?_ | refine z1 c1 ?_ | refine z2 c1 ?_ | refine z3 c1 ?_ | refine z4 c1 ?_ | refine z5 c1 ?_ | refine z1 c2 ?_ | refine z2 c2 ?_ | refine z3 c2 ?_ | refine z4 c2 ?_ | refine z5 c2 ?_ | refine w8 ?_ | refine w9 ?_ | refine w1 ?_ | refine w2 ?_ | refine w3 ?_ | refine w4 ?_ | refine w5 ?_ | refine w6 ?_ | refine w7 ?_ | refine yo0 ?_ ?_ | refine yw0 ?_ ?_ | exact qq | fail)
    exact kretv rfl ⟨trivial, trivial⟩ rfl rfl
  | n + 1, e, hn, hb => by
    have c1 := kids18_c e.op
    have c2 := own_c e hb.v hb.s
    have hw : IntKind.i64.wrap (((n + 1 : Nat) : Int) - 1) = n := by rw [w64 (by omega) (by omega)]; omega
    have c3 : ∀ i, i < e.nk → PureC G.P 91 [vX (e.kf i), vi (IntKind.i64.wrap (((n + 1 : Nat) : Int) - 1))] (fun r => r = vb (validS n (e.kf i))) := fun i hi => by
      rw [hw]; exact within_c n (e.kf i) (by omega) (hb.k hi)
    have hk3 := kidsN_le e.op
    refine pure_of (G := G.toPg) (fn := Tryz.f91) Tryz.func91 rfl rfl rfl ?_; intro Γ hk
    repeat' (first | refine yo ?_ ?_ | refine yw ?_ ?_ | refine yk ?_ ?_ | exact trivial | with_reducible refine wA ?_ ?_ | refine ys ?_ ?_ | refine xs_done ?_ | refine yl ?_ ?_ | refine xs_start (id := 1) true [.take 0, .take 1, .take 2, .take 3, .take 4, .take 5, .take 6, .take 7, .one 8, .take 9, .take 10, .take 11, .take 12, .one 13, .take 14, .take 15] 0 rfl rfl (by kernel_rfl) ?_ | refine z1 c1 ?_ | refine z2 c1 ?_ | refine z3 c1 ?_ | refine z4 c1 ?_ | refine z5 c1 ?_ | refine z1 c2 ?_ | refine z2 c2 ?_ | refine z3 c2 ?_ | refine z4 c2 ?_ | refine z5 c2 ?_ | refine w8 ?_ | refine w9 ?_ | refine w1 ?_ | refine w2 ?_ | refine w3 ?_ | refine w4 ?_ | refine w5 ?_ | refine w6 ?_ | refine w7 ?_ | refine yo0 ?_ ?_ | refine yw0 ?_ ?_ | exact qq | fail)
    refine pcond (b := !(decide ((e.nk : Int) = kidsN e.op) && fieldS e)) ?_ ?_ ?_
    · refine eqB ?_
      rw [decide_eq_false (show ¬ (((n + 1 : Nat) : Int) < 1) by omega), show ((e.nk : Int) != kidsN e.op) = !decide ((e.nk : Int) = kidsN e.op) from by rw [← bqd]; rfl]
      cases decide ((e.nk : Int) = kidsN e.op) <;> cases fieldS e <;> rfl
    · intro h
      repeat' (first | refine yo ?_ ?_ | refine yw ?_ ?_ | refine yk ?_ ?_ | exact trivial | with_reducible refine wA ?_ ?_ | refine ys ?_ ?_ | refine xs_done ?_ | refine yl ?_ ?_ | refine w8 ?_ | refine w9 ?_ | refine w1 ?_ | refine w2 ?_ | refine w3 ?_ | refine w4 ?_ | refine w5 ?_ | refine w6 ?_ | refine w7 ?_ | refine yo0 ?_ ?_ | refine yw0 ?_ ?_ | exact qq | fail)
      refine kretv rfl ⟨trivial, trivial⟩ rfl (eqB ?_)
      rw [validS]
      revert h
      cases decide ((e.nk : Int) = kidsN e.op) <;> cases fieldS e <;> simp
    · intro h
      have h1 : (e.nk : Int) = kidsN e.op ∧ fieldS e = true := by
        revert h
        by_cases hn : (e.nk : Int) = kidsN e.op <;> cases fieldS e <;> simp [hn]
      obtain ⟨h1, h2⟩ := h1
      repeat' (first | refine yo ?_ ?_ | refine yw ?_ ?_ | refine yk ?_ ?_ | exact trivial | with_reducible refine wA ?_ ?_ | refine ys ?_ ?_ | refine xs_done ?_ | refine yl ?_ ?_ | refine w8 ?_ | refine w9 ?_ | refine w1 ?_ | refine w2 ?_ | refine w3 ?_ | refine w4 ?_ | refine w5 ?_ | refine w6 ?_ | refine w7 ?_ | refine yo0 ?_ ?_ | refine yw0 ?_ ?_ | exact qq | fail)
      refine pcan (st' := ⟨[(1, vi ((n + 1 : Nat) : Int)), (2, .ptr 0 0 0), (5, vi ((0 : Nat) : Int))], [rX18 e]⟩) (can_rowsv [0] (k0_sel hk rfl) rfl (.cons rfl (var_eq ⟨PEq.refl _, PEq.refl _, PEq.refl _, PEq.refl _, PEq.refl _, PEq.refl _, PEq.refl _, PEq.refl _, PEq.refl _, peqK18 e, trivial⟩) .nil) tmq) ?_
      refine ploop (fun q st => ∃ i : Nat, i ≤ e.nk ∧ (∀ j, j < i → validS n (e.kf j) = true) ∧ q = e.nk - i ∧ st = ⟨[(1, vi ((n + 1 : Nat) : Int)), (2, .ptr 0 0 0), (5, vi i)], [rX18 e]⟩) e.nk ⟨0, by omega, fun j hj => by omega, by omega, rfl⟩ ?_
      rintro _ _ ⟨i, hi, hv, rfl, rfl⟩
      repeat' (first | refine yo ?_ ?_ | refine yw ?_ ?_ | refine yk ?_ ?_ | exact trivial | with_reducible refine wA ?_ ?_ | refine ys ?_ ?_ | refine xs_done ?_ | refine yl ?_ ?_ | refine w8 ?_ | refine w9 ?_ | refine w1 ?_ | refine w2 ?_ | refine w3 ?_ | refine w4 ?_ | refine w5 ?_ | refine w6 ?_ | refine w7 ?_ | refine yo0 ?_ ?_ | refine yw0 ?_ ?_ | exact qq | fail)
      refine pcond rfl ?_ ?_ <;> intro hc <;> simp at hc
      · have c4 := c3 i hc
        repeat' (first | refine yo ?_ ?_ | refine yw ?_ ?_ | refine yk ?_ ?_ | exact trivial | with_reducible refine wA ?_ ?_ | refine ys ?_ ?_ | refine xs_done ?_ | refine yl ?_ ?_ | refine z1 c4 ?_ | refine z2 c4 ?_ | refine z3 c4 ?_ | refine z4 c4 ?_ | refine z5 c4 ?_ | refine w8 ?_ | refine w9 ?_ | refine w1 ?_ | refine w2 ?_ | refine w3 ?_ | refine w4 ?_ | refine w5 ?_ | refine w6 ?_ | refine w7 ?_ | refine yo0 ?_ ?_ | refine yw0 ?_ ?_ | exact qq | fail)
        refine pcond rfl ?_ ?_ <;> intro hc2
        · have hf : validS n (e.kf i) = false := by simpa using hc2
          repeat' (first | refine yo ?_ ?_ | refine yw ?_ ?_ | refine yk ?_ ?_ | exact trivial | with_reducible refine wA ?_ ?_ | refine ys ?_ ?_ | refine xs_done ?_ | refine yl ?_ ?_ | refine w8 ?_ | refine w9 ?_ | refine w1 ?_ | refine w2 ?_ | refine w3 ?_ | refine w4 ?_ | refine w5 ?_ | refine w6 ?_ | refine w7 ?_ | refine yo0 ?_ ?_ | refine yw0 ?_ ?_ | exact qq | fail)
          refine kretv rfl ⟨trivial, trivial⟩ rfl (eqB ?_)
          rw [validS, allK_no hc hf]; simp
        · have hf : validS n (e.kf i) = true := by simpa using hc2
          repeat' (first | refine yo ?_ ?_ | refine yw ?_ ?_ | refine yk ?_ ?_ | exact trivial | with_reducible refine wA ?_ ?_ | refine ys ?_ ?_ | refine xs_done ?_ | refine yl ?_ ?_ | refine w8 ?_ | refine w9 ?_ | refine w1 ?_ | refine w2 ?_ | refine w3 ?_ | refine w4 ?_ | refine w5 ?_ | refine w6 ?_ | refine w7 ?_ | refine yo0 ?_ ?_ | refine yw0 ?_ ?_ | exact qq | fail)
          rw [show IntKind.i64.wrap ((i : Int) + 1) = ((i + 1 : Nat) : Int) from w64 (by omega) (by omega)]
          exact kloop_next (st' := ⟨[(1, vi ((n + 1 : Nat) : Int)), (2, .ptr 0 0 0), (5, vi ((i + 1 : Nat) : Int))], [rX18 e]⟩) (e.nk - (i + 1)) (can_rowsv [0] (k0_sel hk rfl) rfl (.cons rfl (RowEq.cl (rX18_cl e)) .nil) tmq) (by omega) ⟨i + 1, by omega, fun j hj => by
            by_cases e : j = i
            · subst e; exact hf
            · exact hv j (by omega), rfl, rfl⟩
      · repeat' (first | refine yo ?_ ?_ | refine yw ?_ ?_ | refine yk ?_ ?_ | exact trivial | with_reducible refine wA ?_ ?_ | refine ys ?_ ?_ | refine xs_done ?_ | refine yl ?_ ?_ | refine w8 ?_ | refine w9 ?_ | refine w1 ?_ | refine w2 ?_ | refine w3 ?_ | refine w4 ?_ | refine w5 ?_ | refine w6 ?_ | refine w7 ?_ | refine yo0 ?_ ?_ | refine yw0 ?_ ?_ | exact qq | fail)
        refine kretv rfl ⟨trivial, trivial⟩ rfl (eqB ?_)
        rw [validS, decide_eq_true h1, h2, allK_iff.2 fun j hj => hv j (by omega)]; rfl
theorem validExpr18_c (e : Ex) (hb : Bd e) : PureC G.P 71 [vX e] (fun r => r = vb (validS 32 e)) := by
  have c1 := within_c 32 e (by omega) hb
  refine pure_of (G := G.toPg) (fn := Tryz.f71) Tryz.func71 rfl rfl rfl ?_; intro Γ hk
  repeat' (first | refine yo ?_ ?_ | refine yw ?_ ?_ | refine yk ?_ ?_ | exact trivial | with_reducible refine wA ?_ ?_ | refine ys ?_ ?_ | refine xs_done ?_ | refine yl ?_ ?_ | refine z1 c1 ?_ | refine z2 c1 ?_ | refine z3 c1 ?_ | refine z4 c1 ?_ | refine z5 c1 ?_ | refine w8 ?_ | refine w9 ?_ | refine w1 ?_ | refine w2 ?_ | refine w3 ?_ | refine w4 ?_ | refine w5 ?_ | refine w6 ?_ | refine w7 ?_ | refine yo0 ?_ ?_ | refine yw0 ?_ ?_ | exact qq | fail)
  exact kretv rfl ⟨trivial, trivial⟩ rfl rfl
/-- the empty expression as it is made -/
abbrev vX0 : PV := .agg 10 (nthP [vi 0, vi 0, vi 0, vi 0, vi 0, vi 0, vs ⟨#[]⟩, vi 0, vi 0, .val (.slice none 0 0)])
set_option maxHeartbeats 4000000 in
theorem same0_c (e : Ex) : PureC G.P 68 [vX e, vX0] (fun r => r = vb (zeroX e)) := by
  refine pure_of (G := G.toPg) (fn := Tryz.f68) Tryz.func68 rfl rfl rfl ?_; intro Γ hk
  repeat' (first | refine yo ?_ ?_ | refine yw ?_ ?_ | refine yk ?_ ?_ | exact trivial | with_reducible refine wA ?_ ?_ | refine ys ?_ ?_ | refine xs_done ?_ | refine yl ?_ ?_ | refine w8 ?_ | refine w9 ?_ | refine w1 ?_ | refine w2 ?_ | refine w3 ?_ | refine w4 ?_ | refine w5 ?_ | refine w6 ?_ | refine w7 ?_ | refine yo0 ?_ ?_ | refine yw0 ?_ ?_ | exact qq | fail)
  refine pcond (b := !(zeroX e)) ?_ ?_ ?_
  · refine eqB ?_
    have hb : ∀ a b : Int, (a != b) = !decide (a = b) := fun a b => by rw [← bqd]; rfl
    simp [zeroX, hb, bqd, Bool.or_assoc]
  · intro h
    have h := nb18_t h
    repeat' (first | refine yo ?_ ?_ | refine yw ?_ ?_ | refine yk ?_ ?_ | exact trivial | with_reducible refine wA ?_ ?_ | refine ys ?_ ?_ | refine xs_done ?_ | refine yl ?_ ?_ | refine w8 ?_ | refine w9 ?_ | refine w1 ?_ | refine w2 ?_ | refine w3 ?_ | refine w4 ?_ | refine w5 ?_ | refine w6 ?_ | refine w7 ?_ | refine yo0 ?_ ?_ | refine yw0 ?_ ?_ | exact qq | fail)
    exact kretv rfl ⟨trivial, trivial⟩ rfl (eqB h.symm)
  · intro h
    have h := nb18_f h
    have h0 : e.nk = 0 := by
      have := h
      simp [zeroX] at this
      exact this.2.2.2.2.2.2
    repeat' (first | refine yo ?_ ?_ | refine yw ?_ ?_ | refine yk ?_ ?_ | exact trivial | with_reducible refine wA ?_ ?_ | refine ys ?_ ?_ | refine xs_done ?_ | refine yl ?_ ?_ | refine w8 ?_ | refine w9 ?_ | refine w1 ?_ | refine w2 ?_ | refine w3 ?_ | refine w4 ?_ | refine w5 ?_ | refine w6 ?_ | refine w7 ?_ | refine yo0 ?_ ?_ | refine yw0 ?_ ?_ | exact qq | fail)
    refine ploopN 1 ?_
    repeat' (first | refine yo ?_ ?_ | refine yw ?_ ?_ | refine yk ?_ ?_ | exact trivial | with_reducible refine wA ?_ ?_ | refine ys ?_ ?_ | refine xs_done ?_ | refine yl ?_ ?_ | refine w8 ?_ | refine w9 ?_ | refine w1 ?_ | refine w2 ?_ | refine w3 ?_ | refine w4 ?_ | refine w5 ?_ | refine w6 ?_ | refine w7 ?_ | refine yo0 ?_ ?_ | refine yw0 ?_ ?_ | exact qq | fail)
    refine pcond_n rfl (by simp [h0]) ?_
    repeat' (first | refine yo ?_ ?_ | refine yw ?_ ?_ | refine yk ?_ ?_ | exact trivial | with_reducible refine wA ?_ ?_ | refine ys ?_ ?_ | refine xs_done ?_ | refine yl ?_ ?_ | refine w8 ?_ | refine w9 ?_ | refine w1 ?_ | refine w2 ?_ | refine w3 ?_ | refine w4 ?_ | refine w5 ?_ | refine w6 ?_ | refine w7 ?_ | refine yo0 ?_ ?_ | refine yw0 ?_ ?_ | exact qq | fail)
    exact kretv rfl ⟨trivial, trivial⟩ rfl (eqB h.symm)
set_option maxHeartbeats 4000000 in
theorem entries18_c (n : Nat) (f : Nat → En) (hn : n ≤ 1000000) (hb : ∀ i, i < n → -9223372036854775808 ≤ (f i).2.1 ∧ (f i).2.1 ≤ 9223372036854775807) : PureC G.P 70 [.vsl n 3 (tF cN3 f)] (fun r => r = vb (entsS n f)) := by
  refine pure_of (G := G.toPg) (fn := Tryz.f70) Tryz.func70 rfl rfl rfl ?_; intro Γ hk
  repeat' (first | refine yo ?_ ?_ | refine yw ?_ ?_ | refine yk ?_ ?_ | exact trivial | with_reducible refine wA ?_ ?_ | refine ys ?_ ?_ | refine xs_done ?_ | refine yl ?_ ?_ | refine w8 ?_ | refine w9 ?_ | refine w1 ?_ | refine w2 ?_ | refine w3 ?_ | refine w4 ?_ | refine w5 ?_ | refine w6 ?_ | refine w7 ?_ | refine yo0 ?_ ?_ | refine yw0 ?_ ?_ | exact qq | fail)
  refine pcond (b := !decide (1 ≤ n ∧ n ≤ 64)) ?_ ?_ ?_
  · refine eqB ?_
    rw [Bool.eq_iff_iff]; simp; omega
  · intro h
    repeat' (first | refine yo ?_ ?_ | refine yw ?_ ?_ | refine yk ?_ ?_ | exact trivial | with_reducible refine wA ?_ ?_ | refine ys ?_ ?_ | refine xs_done ?_ | refine yl ?_ ?_ | refine w8 ?_ | refine w9 ?_ | refine w1 ?_ | refine w2 ?_ | refine w3 ?_ | refine w4 ?_ | refine w5 ?_ | refine w6 ?_ | refine w7 ?_ | refine yo0 ?_ ?_ | refine yw0 ?_ ?_ | exact qq | fail)
    refine kretv rfl ⟨trivial, trivial⟩ rfl (eqB ?_)
    unfold entsS
    have : decide (1 ≤ n ∧ n ≤ 64) = false := nb18_t h
    rw [this]; rfl
  · intro h
    have h1 : decide (1 ≤ n ∧ n ≤ 64) = true := nb18_f h
    repeat' (first | refine yo ?_ ?_ | refine yw ?_ ?_ | refine yk ?_ ?_ | exact trivial | with_reducible refine wA ?_ ?_ | refine ys ?_ ?_ | refine xs_done ?_ | refine yl ?_ ?_ | refine w8 ?_ | refine w9 ?_ | refine w1 ?_ | refine w2 ?_ | refine w3 ?_ | refine w4 ?_ | refine w5 ?_ | refine w6 ?_ | refine w7 ?_ | refine yo0 ?_ ?_ | refine yw0 ?_ ?_ | exact qq | fail)
    refine pcan (st' := ⟨[(0, .vsl n 3 (tF cN3 f)), (3, vi ((0 : Nat) : Int))], []⟩) (can_rowsv [] (k0_sel hk rfl) rfl .nil tmq) ?_
    refine ploop (fun q st => ∃ i : Nat, i ≤ n ∧ (∀ j, j < i → 0 ≤ (f j).1 ∧ (decide ((if j = 0 then -1 else (f (j - 1)).1) < (f j).1 ∧ (f j).1 ≤ 1000000) && decS (f j).2.1 (f j).2.2) = true) ∧ q = n - i ∧ st = ⟨[(0, .vsl n 3 (tF cN3 f)), (3, vi i)], []⟩) n ⟨0, by omega, fun j hj => by omega, by omega, rfl⟩ ?_
    rintro _ _ ⟨i, hi, hv, rfl, rfl⟩
    have hw1 : IntKind.i64.wrap ((i : Int) - 1) = (i : Int) - 1 := w64 (by omega) (by omega)
    repeat' (first | refine yo ?_ ?_ | refine yw ?_ ?_ | refine yk ?_ ?_ | exact trivial | with_reducible refine wA ?_ ?_ | refine ys ?_ ?_ | refine xs_done ?_ | refine yl ?_ ?_ | refine w8 ?_ | refine w9 ?_ | refine w1 ?_ | refine w2 ?_ | refine w3 ?_ | refine w4 ?_ | refine w5 ?_ | refine w6 ?_ | refine w7 ?_ | refine yo0 ?_ ?_ | refine yw0 ?_ ?_ | exact qq | fail)
    refine pcond rfl ?_ ?_ <;> intro hc <;> simp at hc
    · have c1 := isDecimal_c (f i).2.1 (f i).2.2 (hb i hc).1 (hb i hc).2
      repeat' (first | refine yo ?_ ?_ | refine yw ?_ ?_ | refine yk ?_ ?_ | exact trivial | with_reducible refine wA ?_ ?_ | refine ys ?_ ?_ | refine xs_done ?_ | refine yl ?_ ?_ | refine xs_start (id := 6) true [.take 0, .take 1, .take 2, .take 3, .take 4, .take 5, .take 6, .take 7, .take 8, .take 9, .take 10, .take 11, .take 12, .take 13, .take 14, .take 15, .take 16, .take 17, .take 18, .take 19, .one 20, .take 21, .take 22, .take 23, .take 24, .take 25, .take 26, .take 27, .take 28, .take 29, .take 30, .take 31, .take 32, .take 33, .take 34, .take 35, .take 36, .take 37, .take 38, .take 39, .take 40] 0 rfl rfl (by kernel_rfl) ?_ | refine z1 c1 ?_ | refine z2 c1 ?_ | refine z3 c1 ?_ | refine z4 c1 ?_ | refine z5 c1 ?_ | refine w8 ?_ | refine w9 ?_ | refine w1 ?_ | refine w2 ?_ | refine w3 ?_ | refine w4 ?_ | refine w5 ?_ | refine w6 ?_ | refine w7 ?_ | refine yo0 ?_ ?_ | refine yw0 ?_ ?_ | exact qq | fail)
      generalize hbe : (if i = 0 then -1 else (f (i - 1)).1) = be
      have hpv : (if i = 0 then -1 else (f (i - 1)).1) = be := hbe
      have hbe0 : -1 ≤ be := by
        by_cases e : i = 0
        · rw [← hbe, if_pos e]; omega
        · rw [← hbe, if_neg e]; have := (hv (i - 1) (by omega)).1; omega
      refine pcond (b := !(decide (be < (f i).1 ∧ (f i).1 ≤ 1000000) && decS (f i).2.1 (f i).2.2)) ?_ ?_ ?_
      · refine eqB ?_
        rw [hw1]
        rw [show ((i : Int)).toNat = i by omega, show ((i : Int) - 1).toNat = i - 1 by omega]
        by_cases e : i = 0
        · have e2 : be = -1 := by rw [← hbe, if_pos e]
          rw [e2, decide_eq_false (show ¬ (0 : Int) < (i : Int) by omega)]
          by_cases q1 : (f i).1 < 0 <;> by_cases q2 : (1000000 : Int) < (f i).1 <;> cases decS (f i).2.1 (f i).2.2 <;> simp [q1, q2] <;> omega
        · have e2 : (f (i - 1)).1 = be := by rw [← hbe, if_neg e]
          have e3 := (hv (i - 1) (by omega)).1
          rw [e2, decide_eq_true (show (0 : Int) < (i : Int) by omega)]
          by_cases q1 : (f i).1 < 0 <;> by_cases q2 : (1000000 : Int) < (f i).1 <;> by_cases q3 : (f i).1 ≤ be <;> cases decS (f i).2.1 (f i).2.2 <;> simp [q1, q2, q3] <;> omega
      · intro h2
        repeat' (first | refine yo ?_ ?_ | refine yw ?_ ?_ | refine yk ?_ ?_ | exact trivial | with_reducible refine wA ?_ ?_ | refine ys ?_ ?_ | refine xs_done ?_ | refine yl ?_ ?_ | refine w8 ?_ | refine w9 ?_ | refine w1 ?_ | refine w2 ?_ | refine w3 ?_ | refine w4 ?_ | refine w5 ?_ | refine w6 ?_ | refine w7 ?_ | refine yo0 ?_ ?_ | refine yw0 ?_ ?_ | exact qq | fail)
        refine kretv rfl ⟨trivial, trivial⟩ rfl (eqB ?_)
        have : (decide ((if i = 0 then -1 else (f (i - 1)).1) < (f i).1 ∧ (f i).1 ≤ 1000000) && decS (f i).2.1 (f i).2.2) = false := by rw [hbe]; exact nb18_t h2
        unfold entsS
        rw [allK_no hc this]; simp
      · intro h2
        have hg : (decide (be < (f i).1 ∧ (f i).1 ≤ 1000000) && decS (f i).2.1 (f i).2.2) = true := nb18_f h2
        repeat' (first | refine yo ?_ ?_ | refine yw ?_ ?_ | refine yk ?_ ?_ | exact trivial | with_reducible refine wA ?_ ?_ | refine ys ?_ ?_ | refine xs_done ?_ | refine yl ?_ ?_ | refine w8 ?_ | refine w9 ?_ | refine w1 ?_ | refine w2 ?_ | refine w3 ?_ | refine w4 ?_ | refine w5 ?_ | refine w6 ?_ | refine w7 ?_ | refine yo0 ?_ ?_ | refine yw0 ?_ ?_ | exact qq | fail)
        rw [show IntKind.i64.wrap ((i : Int) + 1) = ((i + 1 : Nat) : Int) from w64 (by omega) (by omega)]
        exact kloop_next (st' := ⟨[(0, .vsl n 3 (tF cN3 f)), (3, vi ((i + 1 : Nat) : Int))], []⟩) (n - (i + 1)) (can_rowsv [] (k0_sel hk rfl) rfl .nil tmq) (by omega) ⟨i + 1, by omega, fun j hj => by
          by_cases e : j = i
          · subst e
            refine ⟨?_, by rw [hbe]; exact hg⟩
            simp only [Bool.and_eq_true, decide_eq_true_eq] at hg
            omega
          · exact hv j (by omega), rfl, rfl⟩
    · repeat' (first | refine yo ?_ ?_ | refine yw ?_ ?_ | refine yk ?_ ?_ | exact trivial | with_reducible refine wA ?_ ?_ | refine ys ?_ ?_ | refine xs_done ?_ | refine yl ?_ ?_ | refine w8 ?_ | refine w9 ?_ | refine w1 ?_ | refine w2 ?_ | refine w3 ?_ | refine w4 ?_ | refine w5 ?_ | refine w6 ?_ | refine w7 ?_ | refine yo0 ?_ ?_ | refine yw0 ?_ ?_ | exact qq | fail)
      refine kretv rfl ⟨trivial, trivial⟩ rfl (eqB ?_)
      unfold entsS
      rw [h1, allK_iff.2 fun j hj => (hv j (by omega)).2]; rfl
theorem tz18_eq (t : Ty) : tz t = (!t.b && (decide (t.m = 0) && (decide (t.h = 0) && decide (t.d = 0)))) := by
  obtain ⟨b, m, h, d⟩ := t
  unfold tz
  rw [Bool.eq_iff_iff]; simp
theorem step18_eq (n d : Int) : stepS n d = (okR n d && (decide (0 < n) && decide (Int.tmod 100 d = 0))) := by
  unfold stepS decS
  rw [Bool.eq_iff_iff]
  simp only [Bool.and_eq_true, decide_eq_true_eq]
  constructor
  · rintro ⟨⟨h1, _, _⟩, h2, h3⟩; exact ⟨h1, h2, h3⟩
  · rintro ⟨h1, h2, h3⟩
    refine ⟨⟨h1, by omega, ?_⟩, h2, h3⟩
    have hd : d ∣ 100 := Int.dvd_of_tmod_eq_zero h3
    exact Int.tmod_eq_zero_of_dvd (Int.dvd_trans hd ⟨10000, rfl⟩)
end Go.Proofs.YtnlcenlamkfmnaaGreat
