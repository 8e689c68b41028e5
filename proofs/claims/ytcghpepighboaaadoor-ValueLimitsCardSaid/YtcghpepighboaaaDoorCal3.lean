/- calendar.Length. -/
import Derived.Test.YtcghpepighboaaaDoorCal2
set_option linter.unusedSimpArgs false
set_option linter.unusedVariables false
set_option maxRecDepth 100000
namespace Go.Proofs.YtcghpepighboaaaDoor
theorem mlength_c (n : Int) (h0 : 0 ≤ n) (h1 : n ≤ 2759) : PureC G.P 86 [vi n] (fun r => r = vi (mlenS n)) := by
  obtain ⟨b1, b2, b3, b4⟩ := m12 h0 h1
  have w1 : IntKind.i64.wrap (n.tdiv 12) = n.tdiv 12 := w64 (by omega) (by omega)
  have w2 : IntKind.i64.wrap (1970 + n.tdiv 12) = 1970 + n.tdiv 12 := w64 (by omega) (by omega)
  have w3 : IntKind.i64.wrap (n.tmod 12 + 1) = n.tmod 12 + 1 := w64 (by omega) (by omega)
  have c1 := length_c (1970 + n.tdiv 12) (n.tmod 12 + 1) ⟨by omega, by omega⟩
  rw [show [vi (1970 + n.tdiv 12), vi (n.tmod 12 + 1)] = [vi (IntKind.i64.wrap (1970 + IntKind.i64.wrap (n.tdiv 12))), vi (IntKind.i64.wrap (n.tmod 12 + 1))] by rw [w1, w2, w3]] at c1
  refine pure_of (G := G.toPg) (fn := Tryd.f86) Tryd.func86 rfl rfl rfl ?_; intro Γ hk
  repeat' (first | refine yo ?_ ?_ | refine yw ?_ ?_ | refine yk ?_ ?_ | exact trivial | with_reducible refine wA ?_ ?_ | refine ys ?_ ?_ | refine xs_done ?_ | refine yl ?_ ?_ | refine w8 ?_ | refine w9 ?_ | refine w1 ?_ | refine w2 ?_ | refine w3 ?_ | refine w4 ?_ | refine w5 ?_ | refine w6 ?_ | refine w7 ?_ | refine yo0 ?_ ?_ | refine yw0 ?_ ?_ | exact qq | fail)
  refine pcond (b := false) ?_ ?_ ?_
  · refine eqB ?_
    rw [decide_eq_false (show ¬ n < 0 by omega), decide_eq_false (show ¬ 2759 < n by omega)]; rfl
  · intro h; cases h
  · intro _
    repeat' (first | refine yo ?_ ?_ | refine yw ?_ ?_ | refine yk ?_ ?_ | exact trivial | with_reducible refine wA ?_ ?_ | refine ys ?_ ?_ | refine xs_done ?_ | refine yl ?_ ?_ | refine z1 c1 ?_ | refine z2 c1 ?_ | refine z3 c1 ?_ | refine z4 c1 ?_ | refine z5 c1 ?_ | refine w8 ?_ | refine w9 ?_ | refine w1 ?_ | refine w2 ?_ | refine w3 ?_ | refine w4 ?_ | refine w5 ?_ | refine w6 ?_ | refine w7 ?_ | refine yo0 ?_ ?_ | refine yw0 ?_ ?_ | exact qq | fail)
    any_goals (first | exact n12 | skip)
    exact kretv rfl ⟨trivial, trivial⟩ rfl rfl
end Go.Proofs.YtcghpepighboaaaDoor
