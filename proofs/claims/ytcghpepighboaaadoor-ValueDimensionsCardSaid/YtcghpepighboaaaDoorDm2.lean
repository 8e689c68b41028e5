/- payrolllaw22: scaled. -/
import Derived.Test.YtcghpepighboaaaDoorDm1
import Derived.Test.YtcghpepighboaaaDoorCh1
set_option linter.unusedSimpArgs false
set_option linter.unusedVariables false
set_option maxRecDepth 100000
namespace Go.Proofs.YtcghpepighboaaaDoor
theorem dbl_ok {x : Int × Int} (h : okR x.1 x.2 = true) : okR (dblS x).1 (dblS x).2 = true := by
  unfold dblS
  have := newS_cases (n := 2 * x.1) (d := x.2) (by have := okR_bd h; omega)
  rcases this with e | ⟨a, b, e, ho, _⟩
  · rw [e]; exact h
  · rw [e]; exact ho
theorem hlf_ok {x : Int × Int} (h : okR x.1 x.2 = true) : okR (hlfS x).1 (hlfS x).2 = true := by
  unfold hlfS
  have := newS_cases (n := x.1) (d := 2 * x.2) (by have := okR_bd h; omega)
  rcases this with e | ⟨a, b, e, ho, _⟩
  · rw [e]; exact h
  · rw [e]; exact ho
theorem sc_pos {x : Int × Int} {v : Int} (h : 0 < v) : scS (dblS x) (v - 1) = scS x v := by
  unfold scS
  rw [show v.toNat = (v - 1).toNat + 1 by omega, show (-v).toNat = 0 by omega, show (-(v - 1)).toNat = 0 by omega]; rfl
theorem sc_neg' {x : Int × Int} {v : Int} (h : v < 0) : scS (hlfS x) (v + 1) = scS x v := by
  unfold scS
  rw [show (-v).toNat = (-(v + 1)).toNat + 1 by omega, show v.toNat = 0 by omega, show (v + 1).toNat = 0 by omega]; rfl
abbrev rRm (a b : Int) : Row := ⟨.own, true, 1, 2, fun _ => nthP [vi a, vi b]⟩
theorem rRm_cl (a b : Int) : rowCl (rRm a b) := fun i _ j _ => clL_nth _ _ ⟨trivial, trivial, trivial⟩
set_option maxHeartbeats 4000000 in
theorem scaled_c (a b k : Int) (h : okR a b = true) (h1 : -1000 ≤ k) (h2 : k ≤ 1000) : PureC G.P 30 [vr a b, vi k] (fun r => r = vr (scS (a, b) k).1 (scS (a, b) k).2) := by
  refine pure_of (G := G.toPg) (fn := Tryd.f30) Tryd.func30 rfl rfl rfl ?_; intro Γ hk
  repeat' (first | refine yo ?_ ?_ | refine yw ?_ ?_ | refine yk ?_ ?_ | exact trivial | with_reducible refine wA ?_ ?_ | refine ys ?_ ?_ | refine xs_done ?_ | refine yl ?_ ?_ | refine w8 ?_ | refine w9 ?_ | refine w1 ?_ | refine w2 ?_ | refine w3 ?_ | refine w4 ?_ | refine w5 ?_ | refine w6 ?_ | refine w7 ?_ | refine yo0 ?_ ?_ | refine yw0 ?_ ?_ | exact qq | fail)
  refine pcan (st' := ⟨[(1, vi k), (2, .ptr 0 0 0), (4, .ptr 1 0 0)], [rRm a b, rRm 0 0]⟩) (can_rowsv [0, 1] (k0_sel hk rfl) rfl (.cons rfl (RowEq.cl (rRm_cl _ _)) (.cons rfl (RowEq.cl (rRm_cl _ _)) .nil)) tmq) ?_
  refine ploop (fun q st => ∃ (v : Int) (x : Int × Int), q = v.toNat ∧ okR x.1 x.2 = true ∧ -1000 ≤ v ∧ v ≤ 1000 ∧ scS x v = scS (a, b) k ∧ st = ⟨[(1, vi v), (2, .ptr 0 0 0), (4, .ptr 1 0 0)], [rRm x.1 x.2, rRm 0 0]⟩) k.toNat ⟨k, (a, b), rfl, h, h1, h2, rfl, rfl⟩ ?_
  rintro _ _ ⟨v, x, rfl, ho, v1, v2, hs, rfl⟩
  have bd := okR_bd ho
  repeat' (first | refine yo ?_ ?_ | refine yw ?_ ?_ | refine yk ?_ ?_ | exact trivial | with_reducible refine wA ?_ ?_ | refine ys ?_ ?_ | refine xs_done ?_ | refine yl ?_ ?_ | refine w8 ?_ | refine w9 ?_ | refine w1 ?_ | refine w2 ?_ | refine w3 ?_ | refine w4 ?_ | refine w5 ?_ | refine w6 ?_ | refine w7 ?_ | refine yo0 ?_ ?_ | refine yw0 ?_ ?_ | exact qq | fail)
  refine pcond (b := decide (0 < v)) ?_ ?_ ?_
  · exact eqB rfl
  · intro hv
    replace hv := of_decide_eq_true hv
    have hw : IntKind.i64.wrap (2 * x.1) = 2 * x.1 := w64 (by omega) (by omega)
    have c1 := ref1New_c (2 * x.1) x.2 (by omega) (by omega) (by omega) (by omega)
    rw [← hw] at c1
    repeat' (first | refine yo ?_ ?_ | refine yw ?_ ?_ | refine yk ?_ ?_ | exact trivial | with_reducible refine wA ?_ ?_ | refine ys ?_ ?_ | refine xs_done ?_ | refine yl ?_ ?_ | refine z1 c1 ?_ | refine z2 c1 ?_ | refine z3 c1 ?_ | refine z4 c1 ?_ | refine z5 c1 ?_ | refine w8 ?_ | refine w9 ?_ | refine w1 ?_ | refine w2 ?_ | refine w3 ?_ | refine w4 ?_ | refine w5 ?_ | refine w6 ?_ | refine w7 ?_ | refine yo0 ?_ ?_ | refine yw0 ?_ ?_ | exact qq | fail)
    rw [hw]
    refine pcond (b := decide ((newS (2 * x.1) x.2).2 = 0)) ?_ ?_ ?_
    · exact eqB (by rw [Bool.eq_iff_iff]; simp)
    · intro h0
      have h0 := of_decide_eq_true h0
      have hx : dblS x = (newS (2 * x.1) x.2).1 := by unfold dblS; rw [if_pos h0]
      have o1 := dbl_ok ho
      rw [hx] at o1
      repeat' (first | refine yo ?_ ?_ | refine yw ?_ ?_ | refine yk ?_ ?_ | exact trivial | with_reducible refine wA ?_ ?_ | refine ys ?_ ?_ | refine xs_done ?_ | refine yl ?_ ?_ | refine w8 ?_ | refine w9 ?_ | refine w1 ?_ | refine w2 ?_ | refine w3 ?_ | refine w4 ?_ | refine w5 ?_ | refine w6 ?_ | refine w7 ?_ | refine yo0 ?_ ?_ | refine yw0 ?_ ?_ | exact qq | fail)
      rw [show IntKind.i64.wrap (v - 1) = v - 1 from w64 (by omega) (by omega)]
      refine kloop_next (st' := ⟨[(1, vi (v - 1)), (2, .ptr 0 0 0), (4, .ptr 1 0 0)], [rRm (newS (2 * x.1) x.2).1.1 (newS (2 * x.1) x.2).1.2, rRm 0 0]⟩) ((v - 1).toNat) (can_rowsv [0, 1] (k0_sel hk rfl) rfl (.cons rfl (RowEq.cl (rRm_cl _ _)) (.cons rfl (RowEq.cl (rRm_cl _ _)) .nil)) tmq) (by omega) ⟨v - 1, (newS (2 * x.1) x.2).1, rfl, o1, by omega, by omega, by rw [← hx, sc_pos hv, hs], rfl⟩
    · intro h0
      have h0 := of_decide_eq_false h0
      have hx : dblS x = x := by unfold dblS; rw [if_neg h0]
      repeat' (first | refine yo ?_ ?_ | refine yw ?_ ?_ | refine yk ?_ ?_ | exact trivial | with_reducible refine wA ?_ ?_ | refine ys ?_ ?_ | refine xs_done ?_ | refine yl ?_ ?_ | refine w8 ?_ | refine w9 ?_ | refine w1 ?_ | refine w2 ?_ | refine w3 ?_ | refine w4 ?_ | refine w5 ?_ | refine w6 ?_ | refine w7 ?_ | refine yo0 ?_ ?_ | refine yw0 ?_ ?_ | exact qq | fail)
      rw [show IntKind.i64.wrap (v - 1) = v - 1 from w64 (by omega) (by omega)]
      refine kloop_next (st' := ⟨[(1, vi (v - 1)), (2, .ptr 0 0 0), (4, .ptr 1 0 0)], [rRm x.1 x.2, rRm 0 0]⟩) ((v - 1).toNat) (can_rowsv [0, 1] (k0_sel hk rfl) rfl (.cons rfl (RowEq.cl (rRm_cl _ _)) (.cons rfl (RowEq.cl (rRm_cl _ _)) .nil)) tmq) (by omega) ⟨v - 1, x, rfl, ho, by omega, by omega, by rw [← hs, ← sc_pos hv, hx], rfl⟩
  · intro hv
    replace hv := of_decide_eq_false hv
    repeat' (first | refine yo ?_ ?_ | refine yw ?_ ?_ | refine yk ?_ ?_ | exact trivial | with_reducible refine wA ?_ ?_ | refine ys ?_ ?_ | refine xs_done ?_ | refine yl ?_ ?_ | refine w8 ?_ | refine w9 ?_ | refine w1 ?_ | refine w2 ?_ | refine w3 ?_ | refine w4 ?_ | refine w5 ?_ | refine w6 ?_ | refine w7 ?_ | refine yo0 ?_ ?_ | refine yw0 ?_ ?_ | exact qq | fail)
    refine pcan (st' := ⟨[(1, vi v), (2, .ptr 0 0 0), (4, .ptr 1 0 0)], [rRm x.1 x.2, rRm 0 0]⟩) (can_rowsv [0, 1] (k0_sel hk rfl) rfl (.cons rfl (RowEq.cl (rRm_cl _ _)) (.cons rfl (RowEq.cl (rRm_cl _ _)) .nil)) tmq) ?_
    have hv0 : v ≤ 0 := by omega
    clear hv
    refine ploop (fun q st => ∃ (v : Int) (x : Int × Int), q = (-v).toNat ∧ okR x.1 x.2 = true ∧ -1000 ≤ v ∧ v ≤ 0 ∧ scS x v = scS (a, b) k ∧ st = ⟨[(1, vi v), (2, .ptr 0 0 0), (4, .ptr 1 0 0)], [rRm x.1 x.2, rRm 0 0]⟩) (-v).toNat ⟨v, x, rfl, ho, v1, hv0, hs, rfl⟩ ?_
    clear hs hv0 v1 v2 ho bd
    clear v x
    rintro _ _ ⟨v, x, rfl, ho, v1, v2, hs, rfl⟩
    have bd := okR_bd ho
    repeat' (first | refine yo ?_ ?_ | refine yw ?_ ?_ | refine yk ?_ ?_ | exact trivial | with_reducible refine wA ?_ ?_ | refine ys ?_ ?_ | refine xs_done ?_ | refine yl ?_ ?_ | refine w8 ?_ | refine w9 ?_ | refine w1 ?_ | refine w2 ?_ | refine w3 ?_ | refine w4 ?_ | refine w5 ?_ | refine w6 ?_ | refine w7 ?_ | refine yo0 ?_ ?_ | refine yw0 ?_ ?_ | exact qq | fail)
    refine pcond (b := decide (v < 0)) ?_ ?_ ?_
    · exact eqB rfl
    · intro hv
      replace hv := of_decide_eq_true hv
      have hw : IntKind.i64.wrap (2 * x.2) = 2 * x.2 := w64 (by omega) (by omega)
      have c1 := ref1New_c x.1 (2 * x.2) (by omega) (by omega) (by omega) (by omega)
      rw [← hw] at c1
      repeat' (first | refine yo ?_ ?_ | refine yw ?_ ?_ | refine yk ?_ ?_ | exact trivial | with_reducible refine wA ?_ ?_ | refine ys ?_ ?_ | refine xs_done ?_ | refine yl ?_ ?_ | refine z1 c1 ?_ | refine z2 c1 ?_ | refine z3 c1 ?_ | refine z4 c1 ?_ | refine z5 c1 ?_ | refine w8 ?_ | refine w9 ?_ | refine w1 ?_ | refine w2 ?_ | refine w3 ?_ | refine w4 ?_ | refine w5 ?_ | refine w6 ?_ | refine w7 ?_ | refine yo0 ?_ ?_ | refine yw0 ?_ ?_ | exact qq | fail)
      rw [hw]
      refine pcond (b := decide ((newS x.1 (2 * x.2)).2 = 0)) ?_ ?_ ?_
      · exact eqB (by rw [Bool.eq_iff_iff]; simp)
      · intro h0
        have h0 := of_decide_eq_true h0
        have hx : hlfS x = (newS x.1 (2 * x.2)).1 := by unfold hlfS; rw [if_pos h0]
        have o1 := hlf_ok ho
        rw [hx] at o1
        repeat' (first | refine yo ?_ ?_ | refine yw ?_ ?_ | refine yk ?_ ?_ | exact trivial | with_reducible refine wA ?_ ?_ | refine ys ?_ ?_ | refine xs_done ?_ | refine yl ?_ ?_ | refine w8 ?_ | refine w9 ?_ | refine w1 ?_ | refine w2 ?_ | refine w3 ?_ | refine w4 ?_ | refine w5 ?_ | refine w6 ?_ | refine w7 ?_ | refine yo0 ?_ ?_ | refine yw0 ?_ ?_ | exact qq | fail)
        rw [show IntKind.i64.wrap (v + 1) = v + 1 from w64 (by omega) (by omega)]
        refine kloop_next (st' := ⟨[(1, vi (v + 1)), (2, .ptr 0 0 0), (4, .ptr 1 0 0)], [rRm (newS x.1 (2 * x.2)).1.1 (newS x.1 (2 * x.2)).1.2, rRm 0 0]⟩) ((-(v + 1)).toNat) (can_rowsv [0, 1] (k0_sel hk rfl) rfl (.cons rfl (RowEq.cl (rRm_cl _ _)) (.cons rfl (RowEq.cl (rRm_cl _ _)) .nil)) tmq) (by omega) ⟨v + 1, (newS x.1 (2 * x.2)).1, rfl, o1, by omega, by omega, by rw [← hx, sc_neg' hv, hs], rfl⟩
      · intro h0
        have h0 := of_decide_eq_false h0
        have hx : hlfS x = x := by unfold hlfS; rw [if_neg h0]
        repeat' (first | refine yo ?_ ?_ | refine yw ?_ ?_ | refine yk ?_ ?_ | exact trivial | with_reducible refine wA ?_ ?_ | refine ys ?_ ?_ | refine xs_done ?_ | refine yl ?_ ?_ | refine w8 ?_ | refine w9 ?_ | refine w1 ?_ | refine w2 ?_ | refine w3 ?_ | refine w4 ?_ | refine w5 ?_ | refine w6 ?_ | refine w7 ?_ | refine yo0 ?_ ?_ | refine yw0 ?_ ?_ | exact qq | fail)
        rw [show IntKind.i64.wrap (v + 1) = v + 1 from w64 (by omega) (by omega)]
        refine kloop_next (st' := ⟨[(1, vi (v + 1)), (2, .ptr 0 0 0), (4, .ptr 1 0 0)], [rRm x.1 x.2, rRm 0 0]⟩) ((-(v + 1)).toNat) (can_rowsv [0, 1] (k0_sel hk rfl) rfl (.cons rfl (RowEq.cl (rRm_cl _ _)) (.cons rfl (RowEq.cl (rRm_cl _ _)) .nil)) tmq) (by omega) ⟨v + 1, x, rfl, ho, by omega, by omega, by rw [← hs, ← sc_neg' hv, hx], rfl⟩
    · intro hv
      replace hv := of_decide_eq_false hv
      obtain rfl : v = 0 := by omega
      repeat' (first | refine yo ?_ ?_ | refine yw ?_ ?_ | refine yk ?_ ?_ | exact trivial | with_reducible refine wA ?_ ?_ | refine ys ?_ ?_ | refine xs_done ?_ | refine yl ?_ ?_ | refine w8 ?_ | refine w9 ?_ | refine w1 ?_ | refine w2 ?_ | refine w3 ?_ | refine w4 ?_ | refine w5 ?_ | refine w6 ?_ | refine w7 ?_ | refine yo0 ?_ ?_ | refine yw0 ?_ ?_ | exact qq | fail)
      refine kretv rfl ⟨Nat.zero_lt_one, trivial⟩ rfl ?_
      rw [← hs]; rfl
end Go.Proofs.YtcghpepighboaaaDoor
