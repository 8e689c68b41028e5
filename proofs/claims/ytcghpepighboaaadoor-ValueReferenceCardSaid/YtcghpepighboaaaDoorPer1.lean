/- package period: all pay calendars. -/
import Derived.Test.YtcghpepighboaaaDoorRef0
import Derived.Test.YtcghpepighboaaaDoorX0c
set_option linter.unusedSimpArgs false
set_option linter.unusedVariables false
set_option maxRecDepth 100000
namespace Go.Proofs.YtcghpepighboaaaDoor
/-- a valid pay calendar -/
def okC (k a : Int) : Prop := (k = 0 ∨ k = 1) ∧ a = 0 ∨ k = 2 ∧ 0 ≤ a ∧ a ≤ 13 ∨ k = 3 ∧ 0 ≤ a ∧ a ≤ 6
instance (k a : Int) : Decidable (okC k a) := by unfold okC; exact inferInstance
def wkL (k : Int) : Int := if k = 2 then 14 else 7
def cntS (k a : Int) : Int := if k = 0 then 2760 else if k = 1 then 5520 else (84005 + (wkL k - a).tmod (wkL k)).tdiv (wkL k) + 1
theorem pvalid_c (k a : Int) : PureC G.P 66 [vC k a] (fun r => r = vi (if okC k a then 0 else 2)) := by
  by_cases h0 : k = 0
  · subst h0
    refine pure_of (G := G.toPg) (fn := Tryd.f66) Tryd.func66 rfl rfl rfl ?_; intro Γ hk
    repeat' (first | refine yo ?_ ?_ | refine yw ?_ ?_ | refine yk ?_ ?_ | exact trivial | with_reducible refine wA ?_ ?_ | refine ys ?_ ?_ | refine xs_done ?_ | refine yl ?_ ?_ | refine w8 ?_ | refine w9 ?_ | refine w1 ?_ | refine w2 ?_ | refine w3 ?_ | refine w4 ?_ | refine w5 ?_ | refine w6 ?_ | refine w7 ?_ | refine yo0 ?_ ?_ | refine yw0 ?_ ?_ | (refine pcond rfl ?_ ?_ <;> intro hc) | exact qq | fail)
    all_goals
      refine xdone ?_
      refine kretv rfl ⟨trivial, trivial⟩ rfl (eqI ?_)
      simp at hc
    · rw [if_neg (by unfold okC; omega)]
    · rw [if_pos (by unfold okC; omega)]
  by_cases h1 : k = 1
  · subst h1
    refine pure_of (G := G.toPg) (fn := Tryd.f66) Tryd.func66 rfl rfl rfl ?_; intro Γ hk
    repeat' (first | refine yo ?_ ?_ | refine yw ?_ ?_ | refine yk ?_ ?_ | exact trivial | with_reducible refine wA ?_ ?_ | refine ys ?_ ?_ | refine xs_done ?_ | refine yl ?_ ?_ | refine w8 ?_ | refine w9 ?_ | refine w1 ?_ | refine w2 ?_ | refine w3 ?_ | refine w4 ?_ | refine w5 ?_ | refine w6 ?_ | refine w7 ?_ | refine yo0 ?_ ?_ | refine yw0 ?_ ?_ | (refine pcond rfl ?_ ?_ <;> intro hc) | exact qq | fail)
    all_goals
      refine xdone ?_
      refine kretv rfl ⟨trivial, trivial⟩ rfl (eqI ?_)
      simp at hc
    · rw [if_neg (by unfold okC; omega)]
    · rw [if_pos (by unfold okC; omega)]
  by_cases h2 : k = 2
  · subst h2
    refine pure_of (G := G.toPg) (fn := Tryd.f66) Tryd.func66 rfl rfl rfl ?_; intro Γ hk
    repeat' (first | refine yo ?_ ?_ | refine yw ?_ ?_ | refine yk ?_ ?_ | exact trivial | with_reducible refine wA ?_ ?_ | refine ys ?_ ?_ | refine xs_done ?_ | refine yl ?_ ?_ | refine w8 ?_ | refine w9 ?_ | refine w1 ?_ | refine w2 ?_ | refine w3 ?_ | refine w4 ?_ | refine w5 ?_ | refine w6 ?_ | refine w7 ?_ | refine yo0 ?_ ?_ | refine yw0 ?_ ?_ | (refine pcond rfl ?_ ?_ <;> intro hc) | exact qq | fail)
    all_goals
      refine xdone ?_
      refine kretv rfl ⟨trivial, trivial⟩ rfl (eqI ?_)
      simp at hc
    · rw [if_neg (by unfold okC; omega)]
    · rw [if_pos (by unfold okC; omega)]
  by_cases h3 : k = 3
  · subst h3
    refine pure_of (G := G.toPg) (fn := Tryd.f66) Tryd.func66 rfl rfl rfl ?_; intro Γ hk
    repeat' (first | refine yo ?_ ?_ | refine yw ?_ ?_ | refine yk ?_ ?_ | exact trivial | with_reducible refine wA ?_ ?_ | refine ys ?_ ?_ | refine xs_done ?_ | refine yl ?_ ?_ | refine w8 ?_ | refine w9 ?_ | refine w1 ?_ | refine w2 ?_ | refine w3 ?_ | refine w4 ?_ | refine w5 ?_ | refine w6 ?_ | refine w7 ?_ | refine yo0 ?_ ?_ | refine yw0 ?_ ?_ | (refine pcond rfl ?_ ?_ <;> intro hc) | exact qq | fail)
    all_goals
      refine xdone ?_
      refine kretv rfl ⟨trivial, trivial⟩ rfl (eqI ?_)
      simp at hc
    · rw [if_neg (by unfold okC; omega)]
    · rw [if_pos (by unfold okC; omega)]
  refine pure_of (G := G.toPg) (fn := Tryd.f66) Tryd.func66 rfl rfl rfl ?_; intro Γ hk
  repeat' (first | refine yo ?_ ?_ | refine yw ?_ ?_ | refine yk ?_ ?_ | exact trivial | with_reducible refine wA ?_ ?_ | refine ys ?_ ?_ | refine xs_done ?_ | refine yl ?_ ?_ | (refine pcond_n rfl (by rw [bqd]; exact decide_eq_false (by assumption)) ?_) | refine w8 ?_ | refine w9 ?_ | refine w1 ?_ | refine w2 ?_ | refine w3 ?_ | refine w4 ?_ | refine w5 ?_ | refine w6 ?_ | refine w7 ?_ | refine yo0 ?_ ?_ | refine yw0 ?_ ?_ | exact qq | fail)
  refine xdone ?_
  refine kretv rfl ⟨trivial, trivial⟩ rfl (eqI ?_)
  rw [if_neg (by unfold okC; omega)]
theorem last_date : dateS 84005 = (2199, 12, 31) := by decide +kernel
theorem pweeks_c (k a : Int) (h0 : 0 ≤ a) (h1 : a ≤ 14) : PureC G.P 69 [vC k a] (fun r => r = .tup 2 (nthP [vi (wkL k), vi ((wkL k - a).tmod (wkL k))])) := by
  by_cases h2 : k = 2
  · subst h2
    refine pure_of (G := G.toPg) (fn := Tryd.f69) Tryd.func69 rfl rfl rfl ?_; intro Γ hk
    repeat' (first | refine yo ?_ ?_ | refine yw ?_ ?_ | refine yk ?_ ?_ | exact trivial | with_reducible refine wA ?_ ?_ | refine ys ?_ ?_ | refine xs_done ?_ | refine yl ?_ ?_ | refine xs_start (id := 4) true [.take 0, .take 1, .take 2, .take 3, .take 4, .take 5, .take 6, .take 7, .take 8] 0 rfl rfl (by kernel_rfl) ?_ | (exact (show (14 : Int) ≠ 0 from by decide)) | refine w8 ?_ | refine w9 ?_ | refine w1 ?_ | refine w2 ?_ | refine w3 ?_ | refine w4 ?_ | refine w5 ?_ | refine w6 ?_ | refine w7 ?_ | refine yo0 ?_ ?_ | refine yw0 ?_ ?_ | exact qq | fail)
    refine xdone ?_
    refine kretv rfl ⟨trivial, trivial, trivial⟩ rfl ?_
    rw [w64 (n := 14 - a) (by omega) (by omega)]; rfl
  · have e : wkL k = 7 := by unfold wkL; rw [if_neg h2]
    rw [e]
    refine pure_of (G := G.toPg) (fn := Tryd.f69) Tryd.func69 rfl rfl rfl ?_; intro Γ hk
    repeat' (first | refine yo ?_ ?_ | refine yw ?_ ?_ | refine yk ?_ ?_ | exact trivial | with_reducible refine wA ?_ ?_ | refine ys ?_ ?_ | refine xs_done ?_ | refine yl ?_ ?_ | refine xs_start (id := 4) true [.take 0, .take 1, .take 2, .take 3, .take 4, .take 5, .take 6, .take 7, .take 8] 0 rfl rfl (by kernel_rfl) ?_ | (refine pcond_n rfl (by rw [bqd]; exact decide_eq_false h2) ?_) | (exact (show (7 : Int) ≠ 0 from by decide)) | refine w8 ?_ | refine w9 ?_ | refine w1 ?_ | refine w2 ?_ | refine w3 ?_ | refine w4 ?_ | refine w5 ?_ | refine w6 ?_ | refine w7 ?_ | refine yo0 ?_ ?_ | refine yw0 ?_ ?_ | exact qq | fail)
    refine xdone ?_
    refine kretv rfl ⟨trivial, trivial, trivial⟩ rfl ?_
    rw [w64 (n := 7 - a) (by omega) (by omega)]; rfl
theorem pof_c (k a : Int) (h : okC k a) : PureC G.P 84 [vC k a, vi 84005] (fun r => r = vi (cntS k a - 1)) := by
  have c1 := month_c 84005 (by decide) (by decide)
  rw [last_month] at c1
  have c2 := date_c 84005 (by decide) (by decide)
  rw [last_date] at c2
  rcases h with ⟨h | h, rfl⟩ | ⟨h, h1, h2⟩ | ⟨h, h1, h2⟩
  · subst h
    refine pure_of (G := G.toPg) (fn := Tryd.f84) Tryd.func84 rfl rfl rfl ?_; intro Γ hk
    repeat' (first | refine yo ?_ ?_ | refine yw ?_ ?_ | refine yk ?_ ?_ | exact trivial | with_reducible refine wA ?_ ?_ | refine ys ?_ ?_ | refine xs_done ?_ | refine yl ?_ ?_ | refine z1 c1 ?_ | refine z2 c1 ?_ | refine z3 c1 ?_ | refine z4 c1 ?_ | refine z5 c1 ?_ | refine z1 c2 ?_ | refine z2 c2 ?_ | refine z3 c2 ?_ | refine z4 c2 ?_ | refine z5 c2 ?_ | refine w8 ?_ | refine w9 ?_ | refine w1 ?_ | refine w2 ?_ | refine w3 ?_ | refine w4 ?_ | refine w5 ?_ | refine w6 ?_ | refine w7 ?_ | refine yo0 ?_ ?_ | refine yw0 ?_ ?_ | exact qq | fail)
    exact kretv rfl ⟨trivial, trivial⟩ rfl rfl
  · subst h
    refine pure_of (G := G.toPg) (fn := Tryd.f84) Tryd.func84 rfl rfl rfl ?_; intro Γ hk
    repeat' (first | refine yo ?_ ?_ | refine yw ?_ ?_ | refine yk ?_ ?_ | exact trivial | with_reducible refine wA ?_ ?_ | refine ys ?_ ?_ | refine xs_done ?_ | refine yl ?_ ?_ | refine z1 c1 ?_ | refine z2 c1 ?_ | refine z3 c1 ?_ | refine z4 c1 ?_ | refine z5 c1 ?_ | refine z1 c2 ?_ | refine z2 c2 ?_ | refine z3 c2 ?_ | refine z4 c2 ?_ | refine z5 c2 ?_ | refine w8 ?_ | refine w9 ?_ | refine w1 ?_ | refine w2 ?_ | refine w3 ?_ | refine w4 ?_ | refine w5 ?_ | refine w6 ?_ | refine w7 ?_ | refine yo0 ?_ ?_ | refine yw0 ?_ ?_ | exact qq | fail)
    exact kretv rfl ⟨trivial, trivial⟩ rfl rfl
  · subst h
    have c3 := pweeks_c 2 a h1 (by omega)
    rw [show wkL 2 = 14 from rfl] at c3
    have t := tmod_cases (14 - a) 14 (by omega)
    refine pure_of (G := G.toPg) (fn := Tryd.f84) Tryd.func84 rfl rfl rfl ?_; intro Γ hk
    repeat' (first | refine yo ?_ ?_ | refine yw ?_ ?_ | refine yk ?_ ?_ | exact trivial | with_reducible refine wA ?_ ?_ | refine ys ?_ ?_ | refine xs_done ?_ | refine yl ?_ ?_ | (exact (show (14 : Int) ≠ 0 from by decide)) | refine z1 c1 ?_ | refine z2 c1 ?_ | refine z3 c1 ?_ | refine z4 c1 ?_ | refine z5 c1 ?_ | refine z1 c2 ?_ | refine z2 c2 ?_ | refine z3 c2 ?_ | refine z4 c2 ?_ | refine z5 c2 ?_ | refine z1 c3 ?_ | refine z2 c3 ?_ | refine z3 c3 ?_ | refine z4 c3 ?_ | refine z5 c3 ?_ | refine w8 ?_ | refine w9 ?_ | refine w1 ?_ | refine w2 ?_ | refine w3 ?_ | refine w4 ?_ | refine w5 ?_ | refine w6 ?_ | refine w7 ?_ | refine yo0 ?_ ?_ | refine yw0 ?_ ?_ | exact qq | fail)
    refine xdone ?_
    refine kretv rfl ⟨trivial, trivial⟩ rfl (eqI ?_)
    rw [w64 (n := 84005 + (14 - a).tmod 14) (by omega) (by omega)]
    have td := Int.tdiv_eq_ediv_of_nonneg (a := 84005 + (14 - a).tmod 14) (b := 14) (by omega)
    rw [w64 (by omega) (by omega)]
    show _ = (84005 + (14 - a).tmod 14).tdiv 14 + 1 - 1
    omega
  · subst h
    have c3 := pweeks_c 3 a h1 (by omega)
    rw [show wkL 3 = 7 from rfl] at c3
    have t := tmod_cases (7 - a) 7 (by omega)
    refine pure_of (G := G.toPg) (fn := Tryd.f84) Tryd.func84 rfl rfl rfl ?_; intro Γ hk
    repeat' (first | refine yo ?_ ?_ | refine yw ?_ ?_ | refine yk ?_ ?_ | exact trivial | with_reducible refine wA ?_ ?_ | refine ys ?_ ?_ | refine xs_done ?_ | refine yl ?_ ?_ | (exact (show (7 : Int) ≠ 0 from by decide)) | refine z1 c1 ?_ | refine z2 c1 ?_ | refine z3 c1 ?_ | refine z4 c1 ?_ | refine z5 c1 ?_ | refine z1 c2 ?_ | refine z2 c2 ?_ | refine z3 c2 ?_ | refine z4 c2 ?_ | refine z5 c2 ?_ | refine z1 c3 ?_ | refine z2 c3 ?_ | refine z3 c3 ?_ | refine z4 c3 ?_ | refine z5 c3 ?_ | refine w8 ?_ | refine w9 ?_ | refine w1 ?_ | refine w2 ?_ | refine w3 ?_ | refine w4 ?_ | refine w5 ?_ | refine w6 ?_ | refine w7 ?_ | refine yo0 ?_ ?_ | refine yw0 ?_ ?_ | exact qq | fail)
    refine xdone ?_
    refine kretv rfl ⟨trivial, trivial⟩ rfl (eqI ?_)
    rw [w64 (n := 84005 + (7 - a).tmod 7) (by omega) (by omega)]
    have td := Int.tdiv_eq_ediv_of_nonneg (a := 84005 + (7 - a).tmod 7) (b := 7) (by omega)
    rw [w64 (by omega) (by omega)]
    show _ = (84005 + (7 - a).tmod 7).tdiv 7 + 1 - 1
    omega
theorem cntS_bd {k a : Int} (h : okC k a) : 0 ≤ cntS k a ∧ cntS k a ≤ 12100 := by
  unfold cntS wkL
  rcases h with ⟨h | h, rfl⟩ | ⟨h, h1, h2⟩ | ⟨h, h1, h2⟩
  · subst h; exact ⟨by decide, by decide⟩
  · subst h; exact ⟨by decide, by decide⟩
  · subst h
    have t := tmod_cases (14 - a) 14 (by omega)
    have td := Int.tdiv_eq_ediv_of_nonneg (a := 84005 + (14 - a).tmod 14) (b := 14) (by omega)
    simp only [Int.reduceEq, reduceIte]
    omega
  · subst h
    have t := tmod_cases (7 - a) 7 (by omega)
    have td := Int.tdiv_eq_ediv_of_nonneg (a := 84005 + (7 - a).tmod 7) (b := 7) (by omega)
    simp only [Int.reduceEq, reduceIte]
    omega
theorem pcount_c (k a : Int) (h : okC k a) : PureC G.P 67 [vC k a] (fun r => r = vi (cntS k a)) := by
  have c1 := pvalid_c k a
  rw [if_pos h] at c1
  have c2 := pof_c k a h
  have hb := cntS_bd h
  refine pure_of (G := G.toPg) (fn := Tryd.f67) Tryd.func67 rfl rfl rfl ?_; intro Γ hk
  repeat' (first | refine yo ?_ ?_ | refine yw ?_ ?_ | refine yk ?_ ?_ | exact trivial | with_reducible refine wA ?_ ?_ | refine ys ?_ ?_ | refine xs_done ?_ | refine yl ?_ ?_ | refine z1 c1 ?_ | refine z2 c1 ?_ | refine z3 c1 ?_ | refine z4 c1 ?_ | refine z5 c1 ?_ | refine z1 c2 ?_ | refine z2 c2 ?_ | refine z3 c2 ?_ | refine z4 c2 ?_ | refine z5 c2 ?_ | refine w8 ?_ | refine w9 ?_ | refine w1 ?_ | refine w2 ?_ | refine w3 ?_ | refine w4 ?_ | refine w5 ?_ | refine w6 ?_ | refine w7 ?_ | refine yo0 ?_ ?_ | refine yw0 ?_ ?_ | exact qq | fail)
  refine xdone ?_
  refine kretv rfl ⟨trivial, trivial⟩ rfl (eqI ?_)
  rw [w64 (by omega) (by omega)]; omega
/-- whether a period exists -/
def spE (k a n : Int) : Int := if okC k a then (if n < 0 ∨ cntS k a ≤ n then 2 else 0) else 2
def spanS (k a n : Int) : Int × Int :=
  if k = 0 then rngS n else if k = 1 then (if n.tmod 2 = 0 then ((rngS (n.tdiv 2)).1, (rngS (n.tdiv 2)).1 + 15 - 1) else ((rngS (n.tdiv 2)).1 + 15, (rngS (n.tdiv 2)).2))
  else (if n * wkL k - (wkL k - a).tmod (wkL k) < 0 then 0 else n * wkL k - (wkL k - a).tmod (wkL k), if 84005 < n * wkL k - (wkL k - a).tmod (wkL k) + wkL k - 1 then 84005 else n * wkL k - (wkL k - a).tmod (wkL k) + wkL k - 1)
theorem pspan_c (k a n : Int) : PureC G.P 41 [vC k a, vi n] (fun r => r = .tup 2 (nthP [if spE k a n = 0 then vC (spanS k a n).1 (spanS k a n).2 else vC 0 0, vi (spE k a n)])) := by
  have c1 := pvalid_c k a
  by_cases h : okC k a
  · rw [if_pos h] at c1
    have c2 := pcount_c k a h
    have hb := cntS_bd h
    by_cases hn : n < 0 ∨ cntS k a ≤ n
    · have e : spE k a n = 2 := by unfold spE; rw [if_pos h, if_pos hn]
      rw [e, if_neg (by decide)]
      generalize cntS k a = C at *
      refine pure_of (G := G.toPg) (fn := Tryd.f41) Tryd.func41 rfl rfl rfl ?_; intro Γ hk
      repeat' (first | refine yo ?_ ?_ | refine yw ?_ ?_ | refine yk ?_ ?_ | exact trivial | with_reducible refine wA ?_ ?_ | refine ys ?_ ?_ | refine xs_done ?_ | refine yl ?_ ?_ | refine z1 c1 ?_ | refine z2 c1 ?_ | refine z3 c1 ?_ | refine z4 c1 ?_ | refine z5 c1 ?_ | refine z1 c2 ?_ | refine z2 c2 ?_ | refine z3 c2 ?_ | refine z4 c2 ?_ | refine z5 c2 ?_ | refine w8 ?_ | refine w9 ?_ | refine w1 ?_ | refine w2 ?_ | refine w3 ?_ | refine w4 ?_ | refine w5 ?_ | refine w6 ?_ | refine w7 ?_ | refine yo0 ?_ ?_ | refine yw0 ?_ ?_ | exact qq | fail)
      refine pcond (b := true) ?_ ?_ ?_
      · refine eqB ?_
        rw [Bool.eq_iff_iff]; simp; omega
      · intro _
        repeat' (first | refine yo ?_ ?_ | refine yw ?_ ?_ | refine yk ?_ ?_ | exact trivial | with_reducible refine wA ?_ ?_ | refine ys ?_ ?_ | refine xs_done ?_ | refine yl ?_ ?_ | refine w8 ?_ | refine w9 ?_ | refine w1 ?_ | refine w2 ?_ | refine w3 ?_ | refine w4 ?_ | refine w5 ?_ | refine w6 ?_ | refine w7 ?_ | refine yo0 ?_ ?_ | refine yw0 ?_ ?_ | exact qq | fail)
        refine xdone ?_
        exact kretv rfl ⟨Nat.zero_lt_one, trivial, trivial⟩ rfl rfl
      · intro h; cases h
    · have e : spE k a n = 0 := by unfold spE; rw [if_pos h, if_neg hn]
      rw [e, if_pos rfl]
      have go : ∀ {P : Prop}, (P) → P := fun h => h
      rcases h with ⟨h | h, rfl⟩ | ⟨h, h1, h2⟩ | ⟨h, h1, h2⟩
      · subst h
        have hc : cntS 0 0 = 2760 := rfl
        rw [hc] at hn c2
        exact span0_c n (by omega) (by omega)
      · subst h
        have hc : cntS 1 0 = 5520 := rfl
        rw [hc] at hn c2
        have t := tmod_cases n 2 (by omega)
        have td := Int.tdiv_eq_ediv_of_nonneg (a := n) (b := 2) (by omega)
        have c3 := pmonth_c (n.tdiv 2) (by omega) (by omega)
        have f := firstS_bd (n := n.tdiv 2) (by omega) (by omega)
        have hs : spanS 1 0 n = if n.tmod 2 = 0 then ((rngS (n.tdiv 2)).1, (rngS (n.tdiv 2)).1 + 15 - 1) else ((rngS (n.tdiv 2)).1 + 15, (rngS (n.tdiv 2)).2) := rfl
        rw [hs]
        have hF : (rngS (n.tdiv 2)).1 = firstS (n.tdiv 2) := rfl
        rw [← hF] at f
        generalize rngS (n.tdiv 2) = R at *
        have hw0 : IntKind.i64.wrap (n.tdiv 2) = n.tdiv 2 := w64 (by omega) (by omega)
        rw [← hw0] at c3
        refine pure_of (G := G.toPg) (fn := Tryd.f41) Tryd.func41 rfl rfl rfl ?_; intro Γ hk
        repeat' (first | refine yo ?_ ?_ | refine yw ?_ ?_ | refine yk ?_ ?_ | exact trivial | with_reducible refine wA ?_ ?_ | refine ys ?_ ?_ | refine xs_done ?_ | refine yl ?_ ?_ | refine z1 c1 ?_ | refine z2 c1 ?_ | refine z3 c1 ?_ | refine z4 c1 ?_ | refine z5 c1 ?_ | refine z1 c2 ?_ | refine z2 c2 ?_ | refine z3 c2 ?_ | refine z4 c2 ?_ | refine z5 c2 ?_ | refine w8 ?_ | refine w9 ?_ | refine w1 ?_ | refine w2 ?_ | refine w3 ?_ | refine w4 ?_ | refine w5 ?_ | refine w6 ?_ | refine w7 ?_ | refine yo0 ?_ ?_ | refine yw0 ?_ ?_ | exact qq | fail)
        refine pcond (b := false) ?_ ?_ ?_
        · refine eqB ?_
          rw [Bool.eq_iff_iff]; simp; omega
        · intro h; cases h
        · intro _
          repeat' (first | refine yo ?_ ?_ | refine yw ?_ ?_ | refine yk ?_ ?_ | exact trivial | with_reducible refine wA ?_ ?_ | refine ys ?_ ?_ | refine xs_done ?_ | refine yl ?_ ?_ | (exact (show (2 : Int) ≠ 0 from by decide)) | refine z1 c3 ?_ | refine z2 c3 ?_ | refine z3 c3 ?_ | refine z4 c3 ?_ | refine z5 c3 ?_ | refine w8 ?_ | refine w9 ?_ | refine w1 ?_ | refine w2 ?_ | refine w3 ?_ | refine w4 ?_ | refine w5 ?_ | refine w6 ?_ | refine w7 ?_ | refine yo0 ?_ ?_ | refine yw0 ?_ ?_ | exact qq | fail)
          refine pcond rfl ?_ ?_ <;> intro hc <;> simp at hc
          · repeat' (first | refine yo ?_ ?_ | refine yw ?_ ?_ | refine yk ?_ ?_ | exact trivial | with_reducible refine wA ?_ ?_ | refine ys ?_ ?_ | refine xs_done ?_ | refine yl ?_ ?_ | refine w8 ?_ | refine w9 ?_ | refine w1 ?_ | refine w2 ?_ | refine w3 ?_ | refine w4 ?_ | refine w5 ?_ | refine w6 ?_ | refine w7 ?_ | refine yo0 ?_ ?_ | refine yw0 ?_ ?_ | exact qq | fail)
            refine xdone ?_
            refine kretv rfl ⟨Nat.zero_lt_one, trivial, trivial⟩ rfl ?_
            rw [if_pos (by omega), w64 (n := R.1 + 15) (by omega) (by omega), w64 (by omega) (by omega)]; rfl
          · repeat' (first | refine yo ?_ ?_ | refine yw ?_ ?_ | refine yk ?_ ?_ | exact trivial | with_reducible refine wA ?_ ?_ | refine ys ?_ ?_ | refine xs_done ?_ | refine yl ?_ ?_ | refine w8 ?_ | refine w9 ?_ | refine w1 ?_ | refine w2 ?_ | refine w3 ?_ | refine w4 ?_ | refine w5 ?_ | refine w6 ?_ | refine w7 ?_ | refine yo0 ?_ ?_ | refine yw0 ?_ ?_ | exact qq | fail)
            refine xdone ?_
            refine kretv rfl ⟨Nat.zero_lt_one, trivial, trivial⟩ rfl ?_
            rw [if_neg (by omega), w64 (n := R.1 + 15) (by omega) (by omega)]; rfl
      · subst h
        have c3 := pweeks_c 2 a h1 (by omega)
        rw [show wkL 2 = 14 from rfl] at c3
        have t := tmod_cases (14 - a) 14 (by omega)
        have hs : spanS 2 a n = (if n * 14 - (14 - a).tmod 14 < 0 then 0 else n * 14 - (14 - a).tmod 14, if 84005 < n * 14 - (14 - a).tmod 14 + 14 - 1 then 84005 else n * 14 - (14 - a).tmod 14 + 14 - 1) := rfl
        rw [hs]
        refine pure_of (G := G.toPg) (fn := Tryd.f41) Tryd.func41 rfl rfl rfl ?_; intro Γ hk
        repeat' (first | refine yo ?_ ?_ | refine yw ?_ ?_ | refine yk ?_ ?_ | exact trivial | with_reducible refine wA ?_ ?_ | refine ys ?_ ?_ | refine xs_done ?_ | refine yl ?_ ?_ | refine z1 c1 ?_ | refine z2 c1 ?_ | refine z3 c1 ?_ | refine z4 c1 ?_ | refine z5 c1 ?_ | refine z1 c2 ?_ | refine z2 c2 ?_ | refine z3 c2 ?_ | refine z4 c2 ?_ | refine z5 c2 ?_ | refine w8 ?_ | refine w9 ?_ | refine w1 ?_ | refine w2 ?_ | refine w3 ?_ | refine w4 ?_ | refine w5 ?_ | refine w6 ?_ | refine w7 ?_ | refine yo0 ?_ ?_ | refine yw0 ?_ ?_ | exact qq | fail)
        refine pcond (b := false) ?_ ?_ ?_
        · refine eqB ?_
          rw [Bool.eq_iff_iff]; simp; omega
        · intro h; cases h
        · intro _
          repeat' (first | refine yo ?_ ?_ | refine yw ?_ ?_ | refine yk ?_ ?_ | exact trivial | with_reducible refine wA ?_ ?_ | refine ys ?_ ?_ | refine xs_done ?_ | refine yl ?_ ?_ | refine z1 c3 ?_ | refine z2 c3 ?_ | refine z3 c3 ?_ | refine z4 c3 ?_ | refine z5 c3 ?_ | refine w8 ?_ | refine w9 ?_ | refine w1 ?_ | refine w2 ?_ | refine w3 ?_ | refine w4 ?_ | refine w5 ?_ | refine w6 ?_ | refine w7 ?_ | refine yo0 ?_ ?_ | refine yw0 ?_ ?_ | exact qq | fail)
          refine xdone ?_
          refine kretv rfl ⟨Nat.zero_lt_one, trivial, trivial⟩ rfl ?_
          rw [w64 (n := n * 14) (by omega) (by omega), w64 (n := n * 14 - (14 - a).tmod 14) (by omega) (by omega), w64 (n := n * 14 - (14 - a).tmod 14 + 14) (by omega) (by omega), w64 (n := n * 14 - (14 - a).tmod 14 + 14 - 1) (by omega) (by omega)]
          rfl
      · subst h
        have c3 := pweeks_c 3 a h1 (by omega)
        rw [show wkL 3 = 7 from rfl] at c3
        have t := tmod_cases (7 - a) 7 (by omega)
        have hs : spanS 3 a n = (if n * 7 - (7 - a).tmod 7 < 0 then 0 else n * 7 - (7 - a).tmod 7, if 84005 < n * 7 - (7 - a).tmod 7 + 7 - 1 then 84005 else n * 7 - (7 - a).tmod 7 + 7 - 1) := rfl
        rw [hs]
        refine pure_of (G := G.toPg) (fn := Tryd.f41) Tryd.func41 rfl rfl rfl ?_; intro Γ hk
        repeat' (first | refine yo ?_ ?_ | refine yw ?_ ?_ | refine yk ?_ ?_ | exact trivial | with_reducible refine wA ?_ ?_ | refine ys ?_ ?_ | refine xs_done ?_ | refine yl ?_ ?_ | refine z1 c1 ?_ | refine z2 c1 ?_ | refine z3 c1 ?_ | refine z4 c1 ?_ | refine z5 c1 ?_ | refine z1 c2 ?_ | refine z2 c2 ?_ | refine z3 c2 ?_ | refine z4 c2 ?_ | refine z5 c2 ?_ | refine w8 ?_ | refine w9 ?_ | refine w1 ?_ | refine w2 ?_ | refine w3 ?_ | refine w4 ?_ | refine w5 ?_ | refine w6 ?_ | refine w7 ?_ | refine yo0 ?_ ?_ | refine yw0 ?_ ?_ | exact qq | fail)
        refine pcond (b := false) ?_ ?_ ?_
        · refine eqB ?_
          rw [Bool.eq_iff_iff]; simp; omega
        · intro h; cases h
        · intro _
          repeat' (first | refine yo ?_ ?_ | refine yw ?_ ?_ | refine yk ?_ ?_ | exact trivial | with_reducible refine wA ?_ ?_ | refine ys ?_ ?_ | refine xs_done ?_ | refine yl ?_ ?_ | refine z1 c3 ?_ | refine z2 c3 ?_ | refine z3 c3 ?_ | refine z4 c3 ?_ | refine z5 c3 ?_ | refine w8 ?_ | refine w9 ?_ | refine w1 ?_ | refine w2 ?_ | refine w3 ?_ | refine w4 ?_ | refine w5 ?_ | refine w6 ?_ | refine w7 ?_ | refine yo0 ?_ ?_ | refine yw0 ?_ ?_ | exact qq | fail)
          refine xdone ?_
          refine kretv rfl ⟨Nat.zero_lt_one, trivial, trivial⟩ rfl ?_
          rw [w64 (n := n * 7) (by omega) (by omega), w64 (n := n * 7 - (7 - a).tmod 7) (by omega) (by omega), w64 (n := n * 7 - (7 - a).tmod 7 + 7) (by omega) (by omega), w64 (n := n * 7 - (7 - a).tmod 7 + 7 - 1) (by omega) (by omega)]
          rfl
  · rw [if_neg h] at c1
    have e : spE k a n = 2 := by unfold spE; rw [if_neg h]
    rw [e, if_neg (by decide)]
    refine pure_of (G := G.toPg) (fn := Tryd.f41) Tryd.func41 rfl rfl rfl ?_; intro Γ hk
    repeat' (first | refine yo ?_ ?_ | refine yw ?_ ?_ | refine yk ?_ ?_ | exact trivial | with_reducible refine wA ?_ ?_ | refine ys ?_ ?_ | refine xs_done ?_ | refine yl ?_ ?_ | refine z1 c1 ?_ | refine z2 c1 ?_ | refine z3 c1 ?_ | refine z4 c1 ?_ | refine z5 c1 ?_ | refine w8 ?_ | refine w9 ?_ | refine w1 ?_ | refine w2 ?_ | refine w3 ?_ | refine w4 ?_ | refine w5 ?_ | refine w6 ?_ | refine w7 ?_ | refine yo0 ?_ ?_ | refine yw0 ?_ ?_ | exact qq | fail)
    refine xdone ?_
    exact kretv rfl ⟨Nat.zero_lt_one, trivial, trivial⟩ rfl rfl
end Go.Proofs.YtcghpepighboaaaDoor
