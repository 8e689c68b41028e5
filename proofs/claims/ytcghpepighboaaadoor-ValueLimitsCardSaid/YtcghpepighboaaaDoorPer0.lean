/- package period, for the calendar of months. -/
import Derived.Test.YtcghpepighboaaaDoorCal3
set_option linter.unusedSimpArgs false
set_option linter.unusedVariables false
set_option maxRecDepth 100000
namespace Go.Proofs.YtcghpepighboaaaDoor
abbrev vC (k a : Int) : PV := .agg 2 (nthP [vi k, vi a])
theorem last_month : monthS 84005 = 2759 := by decide +kernel
theorem pvalid0_c : PureC G.P 66 [vC 0 0] (fun r => r = vi 0) := by
  refine pure_of (G := G.toPg) (fn := Tryd.f66) Tryd.func66 rfl rfl rfl ?_; intro Γ hk
  repeat' (first | refine yo ?_ ?_ | refine yw ?_ ?_ | refine yk ?_ ?_ | exact trivial | with_reducible refine wA ?_ ?_ | refine ys ?_ ?_ | refine xs_done ?_ | refine yl ?_ ?_ | refine w8 ?_ | refine w9 ?_ | refine w1 ?_ | refine w2 ?_ | refine w3 ?_ | refine w4 ?_ | refine w5 ?_ | refine w6 ?_ | refine w7 ?_ | refine yo0 ?_ ?_ | refine yw0 ?_ ?_ | exact qq | fail)
  exact kretv rfl ⟨trivial, trivial⟩ rfl rfl
theorem pof0_c : PureC G.P 84 [vC 0 0, vi 84005] (fun r => r = vi 2759) := by
  have c1 := month_c 84005 (by decide) (by decide)
  rw [last_month] at c1
  refine pure_of (G := G.toPg) (fn := Tryd.f84) Tryd.func84 rfl rfl rfl ?_; intro Γ hk
  repeat' (first | refine yo ?_ ?_ | refine yw ?_ ?_ | refine yk ?_ ?_ | exact trivial | with_reducible refine wA ?_ ?_ | refine ys ?_ ?_ | refine xs_done ?_ | refine yl ?_ ?_ | refine z1 c1 ?_ | refine z2 c1 ?_ | refine z3 c1 ?_ | refine z4 c1 ?_ | refine z5 c1 ?_ | refine w8 ?_ | refine w9 ?_ | refine w1 ?_ | refine w2 ?_ | refine w3 ?_ | refine w4 ?_ | refine w5 ?_ | refine w6 ?_ | refine w7 ?_ | refine yo0 ?_ ?_ | refine yw0 ?_ ?_ | exact qq | fail)
  exact kretv rfl ⟨trivial, trivial⟩ rfl rfl
theorem pcount0_c : PureC G.P 67 [vC 0 0] (fun r => r = vi 2760) := by
  have c1 := pvalid0_c
  have c2 := pof0_c
  refine pure_of (G := G.toPg) (fn := Tryd.f67) Tryd.func67 rfl rfl rfl ?_; intro Γ hk
  repeat' (first | refine yo ?_ ?_ | refine yw ?_ ?_ | refine yk ?_ ?_ | exact trivial | with_reducible refine wA ?_ ?_ | refine ys ?_ ?_ | refine xs_done ?_ | refine yl ?_ ?_ | refine z1 c1 ?_ | refine z2 c1 ?_ | refine z3 c1 ?_ | refine z4 c1 ?_ | refine z5 c1 ?_ | refine z1 c2 ?_ | refine z2 c2 ?_ | refine z3 c2 ?_ | refine z4 c2 ?_ | refine z5 c2 ?_ | refine w8 ?_ | refine w9 ?_ | refine w1 ?_ | refine w2 ?_ | refine w3 ?_ | refine w4 ?_ | refine w5 ?_ | refine w6 ?_ | refine w7 ?_ | refine yo0 ?_ ?_ | refine yw0 ?_ ?_ | exact qq | fail)
  exact kretv rfl ⟨trivial, trivial⟩ rfl rfl
def rngS (n : Int) : Int × Int := (firstS n, firstS n + mlenS n - 1)
theorem firstS_bd {n : Int} (h0 : 0 ≤ n) (h1 : n ≤ 2759) : -1000000 ≤ firstS n ∧ firstS n ≤ 1000000 := by
  obtain ⟨b1, b2, b3, b4⟩ := m12 h0 h1
  have hl := begS_le (y := 1970 + n.tdiv 12) (by omega) (by omega)
  have hg := begS_ge (y := 1970 + n.tdiv 12) (by omega) (by omega)
  have hc := cumS_bd (1970 + n.tdiv 12) ((n.tmod 12 + 1).toNat - 1) (by omega)
  unfold firstS
  omega
theorem mlenS_bd {n : Int} (h0 : 0 ≤ n) (h1 : n ≤ 2759) : 28 ≤ mlenS n ∧ mlenS n ≤ 31 := by
  obtain ⟨b1, b2, b3, b4⟩ := m12 h0 h1
  have := rem_step (1970 + n.tdiv 12) (m := n.tmod 12 + 1) (by omega) (by omega)
  unfold mlenS; omega
theorem pmonth_c (n : Int) (h0 : 0 ≤ n) (h1 : n ≤ 2759) : PureC G.P 68 [vi n] (fun r => r = vC (rngS n).1 (rngS n).2) := by
  have c1 := first_c' n h0 h1
  have c2 := mlength_c n h0 h1
  have f := firstS_bd h0 h1
  have l := mlenS_bd h0 h1
  unfold rngS
  generalize firstS n = F at *
  generalize mlenS n = L at *
  refine pure_of (G := G.toPg) (fn := Tryd.f68) Tryd.func68 rfl rfl rfl ?_; intro Γ hk
  repeat' (first | refine yo ?_ ?_ | refine yw ?_ ?_ | refine yk ?_ ?_ | exact trivial | with_reducible refine wA ?_ ?_ | refine ys ?_ ?_ | refine xs_done ?_ | refine yl ?_ ?_ | refine z1 c1 ?_ | refine z2 c1 ?_ | refine z3 c1 ?_ | refine z4 c1 ?_ | refine z5 c1 ?_ | refine z1 c2 ?_ | refine z2 c2 ?_ | refine z3 c2 ?_ | refine z4 c2 ?_ | refine z5 c2 ?_ | refine w8 ?_ | refine w9 ?_ | refine w1 ?_ | refine w2 ?_ | refine w3 ?_ | refine w4 ?_ | refine w5 ?_ | refine w6 ?_ | refine w7 ?_ | refine yo0 ?_ ?_ | refine yw0 ?_ ?_ | exact qq | fail)
  refine kretv rfl ⟨Nat.zero_lt_one, trivial⟩ rfl ?_
  rw [w64 (n := F + L) (by omega) (by omega), w64 (by omega) (by omega)]; rfl
theorem span0_c (n : Int) (h0 : 0 ≤ n) (h1 : n ≤ 2759) : PureC G.P 41 [vC 0 0, vi n] (fun r => r = .tup 2 (nthP [vC (rngS n).1 (rngS n).2, vi 0])) := by
  have c1 := pvalid0_c
  have c2 := pcount0_c
  have c3 := pmonth_c n h0 h1
  refine pure_of (G := G.toPg) (fn := Tryd.f41) Tryd.func41 rfl rfl rfl ?_; intro Γ hk
  repeat' (first | refine yo ?_ ?_ | refine yw ?_ ?_ | refine yk ?_ ?_ | exact trivial | with_reducible refine wA ?_ ?_ | refine ys ?_ ?_ | refine xs_done ?_ | refine yl ?_ ?_ | refine z1 c1 ?_ | refine z2 c1 ?_ | refine z3 c1 ?_ | refine z4 c1 ?_ | refine z5 c1 ?_ | refine z1 c2 ?_ | refine z2 c2 ?_ | refine z3 c2 ?_ | refine z4 c2 ?_ | refine z5 c2 ?_ | refine w8 ?_ | refine w9 ?_ | refine w1 ?_ | refine w2 ?_ | refine w3 ?_ | refine w4 ?_ | refine w5 ?_ | refine w6 ?_ | refine w7 ?_ | refine yo0 ?_ ?_ | refine yw0 ?_ ?_ | exact qq | fail)
  refine pcond (b := false) ?_ ?_ ?_
  · refine eqB ?_
    rw [decide_eq_false (show ¬ n < 0 by omega)]
    simp; omega
  · intro h; cases h
  · intro _
    repeat' (first | refine yo ?_ ?_ | refine yw ?_ ?_ | refine yk ?_ ?_ | exact trivial | with_reducible refine wA ?_ ?_ | refine ys ?_ ?_ | refine xs_done ?_ | refine yl ?_ ?_ | refine z1 c3 ?_ | refine z2 c3 ?_ | refine z3 c3 ?_ | refine z4 c3 ?_ | refine z5 c3 ?_ | refine w8 ?_ | refine w9 ?_ | refine w1 ?_ | refine w2 ?_ | refine w3 ?_ | refine w4 ?_ | refine w5 ?_ | refine w6 ?_ | refine w7 ?_ | refine yo0 ?_ ?_ | refine yw0 ?_ ?_ | exact qq | fail)
    exact kretv rfl ⟨Nat.zero_lt_one, trivial, trivial⟩ rfl rfl
end Go.Proofs.YtcghpepighboaaaDoor
