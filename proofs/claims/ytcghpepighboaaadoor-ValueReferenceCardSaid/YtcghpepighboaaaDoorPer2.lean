/- payrollref3, payrollref5: which periods there are. -/
import Derived.Test.YtcghpepighboaaaDoorPer1
set_option linter.unusedSimpArgs false
set_option linter.unusedVariables false
set_option maxRecDepth 100000
namespace Go.Proofs.YtcghpepighboaaaDoor
def lenG (y m : Int) : Int := if m = 4 ∨ m = 6 ∨ m = 9 ∨ m = 11 then 30 else if m = 2 then (if leapS y = true then 29 else 28) else 31
theorem lengths3_c (y m : Int) : PureC G.P 89 [vi y, vi m] (fun r => r = vi (lenG y m)) := by
  have hd : ∀ (b : Bool), b = decide (b = true) := fun b => by cases b <;> rfl
  by_cases h4 : m = 4
  · subst h4
    refine pure_of (G := G.toPg) (fn := Tryd.f89) Tryd.func89 rfl rfl rfl ?_; intro Γ hk
    repeat' (first | refine yo ?_ ?_ | refine yw ?_ ?_ | refine yk ?_ ?_ | exact trivial | with_reducible refine wA ?_ ?_ | refine ys ?_ ?_ | refine xs_done ?_ | refine yl ?_ ?_ | refine w8 ?_ | refine w9 ?_ | refine w1 ?_ | refine w2 ?_ | refine w3 ?_ | refine w4 ?_ | refine w5 ?_ | refine w6 ?_ | refine w7 ?_ | refine yo0 ?_ ?_ | refine yw0 ?_ ?_ | exact qq | fail)
    refine xdone ?_
    exact kretv rfl ⟨trivial, trivial⟩ rfl rfl
  by_cases h6 : m = 6
  · subst h6
    refine pure_of (G := G.toPg) (fn := Tryd.f89) Tryd.func89 rfl rfl rfl ?_; intro Γ hk
    repeat' (first | refine yo ?_ ?_ | refine yw ?_ ?_ | refine yk ?_ ?_ | exact trivial | with_reducible refine wA ?_ ?_ | refine ys ?_ ?_ | refine xs_done ?_ | refine yl ?_ ?_ | refine w8 ?_ | refine w9 ?_ | refine w1 ?_ | refine w2 ?_ | refine w3 ?_ | refine w4 ?_ | refine w5 ?_ | refine w6 ?_ | refine w7 ?_ | refine yo0 ?_ ?_ | refine yw0 ?_ ?_ | exact qq | fail)
    refine xdone ?_
    exact kretv rfl ⟨trivial, trivial⟩ rfl rfl
  by_cases h9 : m = 9
  · subst h9
    refine pure_of (G := G.toPg) (fn := Tryd.f89) Tryd.func89 rfl rfl rfl ?_; intro Γ hk
    repeat' (first | refine yo ?_ ?_ | refine yw ?_ ?_ | refine yk ?_ ?_ | exact trivial | with_reducible refine wA ?_ ?_ | refine ys ?_ ?_ | refine xs_done ?_ | refine yl ?_ ?_ | refine w8 ?_ | refine w9 ?_ | refine w1 ?_ | refine w2 ?_ | refine w3 ?_ | refine w4 ?_ | refine w5 ?_ | refine w6 ?_ | refine w7 ?_ | refine yo0 ?_ ?_ | refine yw0 ?_ ?_ | exact qq | fail)
    refine xdone ?_
    exact kretv rfl ⟨trivial, trivial⟩ rfl rfl
  by_cases h11 : m = 11
  · subst h11
    refine pure_of (G := G.toPg) (fn := Tryd.f89) Tryd.func89 rfl rfl rfl ?_; intro Γ hk
    repeat' (first | refine yo ?_ ?_ | refine yw ?_ ?_ | refine yk ?_ ?_ | exact trivial | with_reducible refine wA ?_ ?_ | refine ys ?_ ?_ | refine xs_done ?_ | refine yl ?_ ?_ | refine w8 ?_ | refine w9 ?_ | refine w1 ?_ | refine w2 ?_ | refine w3 ?_ | refine w4 ?_ | refine w5 ?_ | refine w6 ?_ | refine w7 ?_ | refine yo0 ?_ ?_ | refine yw0 ?_ ?_ | exact qq | fail)
    refine xdone ?_
    exact kretv rfl ⟨trivial, trivial⟩ rfl rfl
  have e : lenG y m = if m = 2 then (if leapS y = true then 29 else 28) else 31 := by unfold lenG; rw [if_neg (by omega)]
  rw [e]
  by_cases h2 : m = 2
  · subst h2
    refine pure_of (G := G.toPg) (fn := Tryd.f89) Tryd.func89 rfl rfl rfl ?_; intro Γ hk
    repeat' (first | refine yo ?_ ?_ | refine yw ?_ ?_ | refine yk ?_ ?_ | exact trivial | with_reducible refine wA ?_ ?_ | refine ys ?_ ?_ | refine xs_done ?_ | refine yl ?_ ?_ | refine w8 ?_ | refine w9 ?_ | refine w1 ?_ | refine w2 ?_ | refine w3 ?_ | refine w4 ?_ | refine w5 ?_ | refine w6 ?_ | refine w7 ?_ | refine yo0 ?_ ?_ | refine yw0 ?_ ?_ | exact qq | fail)
    any_goals (first | exact n4 | exact n100 | exact n400 | exact fun h => ⟨h, n100⟩ | exact fun h => ⟨h, n400⟩ | exact fun h => ⟨h.1, n400⟩ | skip)
    refine pcond (b := leapS y) ?_ ?_ ?_
    · refine eqB ?_
      unfold leapS
      rw [show (y.tmod 100 != 0) = decide (y.tmod 100 ≠ 0) from by rw [Bool.eq_iff_iff]; simp, beqd, beqd]
      cases decide (y.tmod 4 = 0) <;> cases decide (y.tmod 100 ≠ 0) <;> rfl
    · intro h
      repeat' (first | refine yo ?_ ?_ | refine yw ?_ ?_ | refine yk ?_ ?_ | exact trivial | with_reducible refine wA ?_ ?_ | refine ys ?_ ?_ | refine xs_done ?_ | refine yl ?_ ?_ | refine w8 ?_ | refine w9 ?_ | refine w1 ?_ | refine w2 ?_ | refine w3 ?_ | refine w4 ?_ | refine w5 ?_ | refine w6 ?_ | refine w7 ?_ | refine yo0 ?_ ?_ | refine yw0 ?_ ?_ | exact qq | fail)
      refine xdone ?_
      refine kretv rfl ⟨trivial, trivial⟩ rfl (eqI ?_)
      rw [if_pos rfl, if_pos h]
    · intro h
      repeat' (first | refine yo ?_ ?_ | refine yw ?_ ?_ | refine yk ?_ ?_ | exact trivial | with_reducible refine wA ?_ ?_ | refine ys ?_ ?_ | refine xs_done ?_ | refine yl ?_ ?_ | refine w8 ?_ | refine w9 ?_ | refine w1 ?_ | refine w2 ?_ | refine w3 ?_ | refine w4 ?_ | refine w5 ?_ | refine w6 ?_ | refine w7 ?_ | refine yo0 ?_ ?_ | refine yw0 ?_ ?_ | exact qq | fail)
      refine xdone ?_
      refine kretv rfl ⟨trivial, trivial⟩ rfl (eqI ?_)
      rw [if_pos rfl, if_neg (by rw [h]; decide)]
  · rw [if_neg h2]
    refine pure_of (G := G.toPg) (fn := Tryd.f89) Tryd.func89 rfl rfl rfl ?_; intro Γ hk
    repeat' (first | refine yo ?_ ?_ | refine yw ?_ ?_ | refine yk ?_ ?_ | exact trivial | with_reducible refine wA ?_ ?_ | refine ys ?_ ?_ | refine xs_done ?_ | refine yl ?_ ?_ | (refine pcond_n rfl (by rw [bqd]; exact decide_eq_false (by assumption)) ?_) | refine w8 ?_ | refine w9 ?_ | refine w1 ?_ | refine w2 ?_ | refine w3 ?_ | refine w4 ?_ | refine w5 ?_ | refine w6 ?_ | refine w7 ?_ | refine yo0 ?_ ?_ | refine yw0 ?_ ?_ | exact qq | fail)
    refine xdone ?_
    exact kretv rfl ⟨trivial, trivial⟩ rfl rfl
/-- leap years among the first n fourth years from 1972 on -/
def lpS : Nat → Int
  | 0 => 0
  | n + 1 => lpS n + (if leapS (1972 + 4 * n) = true then 1 else 0)
theorem lpS_bd : ∀ n, 0 ≤ lpS n ∧ lpS n ≤ n
  | 0 => ⟨Int.le_refl _, Int.le_refl _⟩
  | n + 1 => by
    have := lpS_bd n
    unfold lpS
    split <;> omega
/-- how many of these years are before a year -/
def cnt4 (y : Int) : Nat := ((y - 1972 + 3) / 4).toNat
def bef3 (y : Int) : Int := (y - 1970) * 365 + lpS (cnt4 y)
theorem before3_c (y : Int) (h1 : 1960 ≤ y) (h2 : y ≤ 3000) : PureC G.P 116 [vi y] (fun r => r = vi (bef3 y)) := by
  have hw1 : IntKind.i64.wrap (y - 1970) = y - 1970 := w64 (by omega) (by omega)
  have hw2 : IntKind.i64.wrap ((y - 1970) * 365) = (y - 1970) * 365 := w64 (by omega) (by omega)
  refine pure_of (G := G.toPg) (fn := Tryd.f116) Tryd.func116 rfl rfl rfl ?_; intro Γ hk
  repeat' (first | refine yo ?_ ?_ | refine yw ?_ ?_ | refine yk ?_ ?_ | exact trivial | with_reducible refine wA ?_ ?_ | refine ys ?_ ?_ | refine xs_done ?_ | refine yl ?_ ?_ | refine w8 ?_ | refine w9 ?_ | refine w1 ?_ | refine w2 ?_ | refine w3 ?_ | refine w4 ?_ | refine w5 ?_ | refine w6 ?_ | refine w7 ?_ | refine yo0 ?_ ?_ | refine yw0 ?_ ?_ | exact qq | fail)
  rw [hw1, hw2]
  refine pcan (st' := ⟨[(0, vi y), (3, vi ((y - 1970) * 365 + lpS 0)), (4, vi (1972 + 4 * ((0 : Nat) : Int)))], []⟩) (can_rowsv [] (k0_sel hk rfl) rfl .nil (by exact ⟨PEq.refl _, PEq.of (by unfold lpS; rw [Int.add_zero]; rfl), PEq.refl _, trivial⟩)) ?_
  refine ploop (fun q st => ∃ i : Nat, i ≤ cnt4 y ∧ q = cnt4 y - i ∧ st = ⟨[(0, vi y), (3, vi ((y - 1970) * 365 + lpS i)), (4, vi (1972 + 4 * (i : Int)))], []⟩) (cnt4 y) ⟨0, by omega, rfl, rfl⟩ ?_
  rintro _ _ ⟨i, hi, rfl, rfl⟩
  have hc4 : (cnt4 y : Int) ≤ 300 := by unfold cnt4; omega
  have hlp := lpS_bd i
  have c1 := lengths3_c (1972 + 4 * (i : Int)) 2
  rw [show lenG (1972 + 4 * (i : Int)) 2 = if leapS (1972 + 4 * (i : Int)) = true then 29 else 28 from rfl] at c1
  have hw3 : IntKind.i64.wrap (1972 + 4 * (i : Int) + 4) = 1972 + 4 * ((i + 1 : Nat) : Int) := by rw [w64 (by omega) (by omega)]; omega
  repeat' (first | refine yo ?_ ?_ | refine yw ?_ ?_ | refine yk ?_ ?_ | exact trivial | with_reducible refine wA ?_ ?_ | refine ys ?_ ?_ | refine xs_done ?_ | refine yl ?_ ?_ | refine w8 ?_ | refine w9 ?_ | refine w1 ?_ | refine w2 ?_ | refine w3 ?_ | refine w4 ?_ | refine w5 ?_ | refine w6 ?_ | refine w7 ?_ | refine yo0 ?_ ?_ | refine yw0 ?_ ?_ | exact qq | fail)
  refine pcond rfl ?_ ?_ <;> intro hc <;> simp at hc
  · have hlt : i < cnt4 y := by unfold cnt4; omega
    cases hl : leapS (1972 + 4 * (i : Int)) with
    | true =>
      rw [hl, if_pos rfl] at c1
      repeat' (first | refine yo ?_ ?_ | refine yw ?_ ?_ | refine yk ?_ ?_ | exact trivial | with_reducible refine wA ?_ ?_ | refine ys ?_ ?_ | refine xs_done ?_ | refine yl ?_ ?_ | refine z1 c1 ?_ | refine z2 c1 ?_ | refine z3 c1 ?_ | refine z4 c1 ?_ | refine z5 c1 ?_ | refine w8 ?_ | refine w9 ?_ | refine w1 ?_ | refine w2 ?_ | refine w3 ?_ | refine w4 ?_ | refine w5 ?_ | refine w6 ?_ | refine w7 ?_ | refine yo0 ?_ ?_ | refine yw0 ?_ ?_ | exact qq | fail)
      rw [hw3, w64 (n := (y - 1970) * 365 + lpS i + 1) (by omega) (by omega)]
      exact kloop_next (st' := ⟨[(0, vi y), (3, vi ((y - 1970) * 365 + lpS (i + 1))), (4, vi (1972 + 4 * ((i + 1 : Nat) : Int)))], []⟩) (cnt4 y - (i + 1)) (can_rowsv [] (k0_sel hk rfl) rfl .nil (by exact ⟨PEq.refl _, PEq.of (by rw [lpS, if_pos hl, ← Int.add_assoc]; rfl), PEq.refl _, trivial⟩)) (by omega) ⟨i + 1, by omega, rfl, rfl⟩
    | false =>
      rw [hl, if_neg (by decide)] at c1
      repeat' (first | refine yo ?_ ?_ | refine yw ?_ ?_ | refine yk ?_ ?_ | exact trivial | with_reducible refine wA ?_ ?_ | refine ys ?_ ?_ | refine xs_done ?_ | refine yl ?_ ?_ | refine z1 c1 ?_ | refine z2 c1 ?_ | refine z3 c1 ?_ | refine z4 c1 ?_ | refine z5 c1 ?_ | refine w8 ?_ | refine w9 ?_ | refine w1 ?_ | refine w2 ?_ | refine w3 ?_ | refine w4 ?_ | refine w5 ?_ | refine w6 ?_ | refine w7 ?_ | refine yo0 ?_ ?_ | refine yw0 ?_ ?_ | exact qq | fail)
      rw [hw3]
      exact kloop_next (st' := ⟨[(0, vi y), (3, vi ((y - 1970) * 365 + lpS (i + 1))), (4, vi (1972 + 4 * ((i + 1 : Nat) : Int)))], []⟩) (cnt4 y - (i + 1)) (can_rowsv [] (k0_sel hk rfl) rfl .nil (by exact ⟨PEq.refl _, PEq.of (by rw [lpS, if_neg (by rw [hl]; decide), Int.add_zero]; rfl), PEq.refl _, trivial⟩)) (by omega) ⟨i + 1, by omega, rfl, rfl⟩
  · have : i = cnt4 y := by
      have : cnt4 y ≤ i := by unfold cnt4; omega
      omega
    subst this
    repeat' (first | refine yo ?_ ?_ | refine yw ?_ ?_ | refine yk ?_ ?_ | exact trivial | with_reducible refine wA ?_ ?_ | refine ys ?_ ?_ | refine xs_done ?_ | refine yl ?_ ?_ | refine w8 ?_ | refine w9 ?_ | refine w1 ?_ | refine w2 ?_ | refine w3 ?_ | refine w4 ?_ | refine w5 ?_ | refine w6 ?_ | refine w7 ?_ | refine yo0 ?_ ?_ | refine yw0 ?_ ?_ | exact qq | fail)
    refine xdone ?_
    exact kretv rfl ⟨trivial, trivial⟩ rfl rfl
theorem bef_vals : bef3 2200 = 84006 ∧ bef3 2199 = 83641 := by decide +kernel
theorem inDays_c (d : Int) : PureC G.P 115 [vi d] (fun r => r = vb (decide (0 ≤ d) && decide (d ≤ 84005))) := by
  refine pure_of (G := G.toPg) (fn := Tryd.f115) Tryd.func115 rfl rfl rfl ?_; intro Γ hk
  repeat' (first | refine yo ?_ ?_ | refine yw ?_ ?_ | refine yk ?_ ?_ | exact trivial | with_reducible refine wA ?_ ?_ | refine ys ?_ ?_ | refine xs_done ?_ | refine yl ?_ ?_ | refine w8 ?_ | refine w9 ?_ | refine w1 ?_ | refine w2 ?_ | refine w3 ?_ | refine w4 ?_ | refine w5 ?_ | refine w6 ?_ | refine w7 ?_ | refine yo0 ?_ ?_ | refine yw0 ?_ ?_ | exact qq | fail)
  refine kretv rfl ⟨trivial, trivial⟩ rfl (eqB ?_)
  rw [Bool.eq_iff_iff]; simp
theorem lenG_vals : lenG 2199 1 = 31 ∧ lenG 2199 2 = 28 ∧ lenG 2199 3 = 31 ∧ lenG 2199 4 = 30 ∧ lenG 2199 5 = 31 ∧ lenG 2199 6 = 30 ∧ lenG 2199 7 = 31 ∧ lenG 2199 8 = 31 ∧ lenG 2199 9 = 30 ∧ lenG 2199 10 = 31 ∧ lenG 2199 11 = 30 ∧ lenG 2199 12 = 31 := by decide +kernel
set_option maxHeartbeats 2000000 in
theorem date3_c : PureC G.P 101 [vi 84005] (fun r => r = .tup 4 (nthP [vi 2199, vi 12, vi 31, vb true])) := by
  have c0 := inDays_c 84005
  have c1 := before3_c 2200 (by decide) (by decide)
  have c2 := before3_c 2199 (by decide) (by decide)
  rw [bef_vals.1] at c1
  rw [bef_vals.2] at c2
  obtain ⟨e1, e2, e3, e4, e5, e6, e7, e8, e9, e10, e11, e12⟩ := lenG_vals
  have l1 := lengths3_c 2199 1
  have l2 := lengths3_c 2199 2
  have l3 := lengths3_c 2199 3
  have l4 := lengths3_c 2199 4
  have l5 := lengths3_c 2199 5
  have l6 := lengths3_c 2199 6
  have l7 := lengths3_c 2199 7
  have l8 := lengths3_c 2199 8
  have l9 := lengths3_c 2199 9
  have l10 := lengths3_c 2199 10
  have l11 := lengths3_c 2199 11
  have l12 := lengths3_c 2199 12
  rw [e1] at l1; rw [e2] at l2; rw [e3] at l3; rw [e4] at l4; rw [e5] at l5; rw [e6] at l6; rw [e7] at l7; rw [e8] at l8; rw [e9] at l9; rw [e10] at l10; rw [e11] at l11; rw [e12] at l12
  refine pure_of (G := G.toPg) (fn := Tryd.f101) Tryd.func101 rfl rfl rfl ?_; intro Γ hk
  repeat' (first | refine yo ?_ ?_ | refine yw ?_ ?_ | refine yk ?_ ?_ | exact trivial | with_reducible refine wA ?_ ?_ | refine ys ?_ ?_ | refine xs_done ?_ | refine yl ?_ ?_ | (exact (show (366 : Int) ≠ 0 from by decide)) | refine z1 c0 ?_ | refine z2 c0 ?_ | refine z3 c0 ?_ | refine z4 c0 ?_ | refine z5 c0 ?_ | refine z1 c1 ?_ | refine z2 c1 ?_ | refine z3 c1 ?_ | refine z4 c1 ?_ | refine z5 c1 ?_ | refine z1 c2 ?_ | refine z2 c2 ?_ | refine z3 c2 ?_ | refine z4 c2 ?_ | refine z5 c2 ?_ | refine w8 ?_ | refine w9 ?_ | refine w1 ?_ | refine w2 ?_ | refine w3 ?_ | refine w4 ?_ | refine w5 ?_ | refine w6 ?_ | refine w7 ?_ | refine yo0 ?_ ?_ | refine yw0 ?_ ?_ | exact qq | fail)
  refine ploopN 1 ?_
  repeat' (first | refine yo ?_ ?_ | refine yw ?_ ?_ | refine yk ?_ ?_ | exact trivial | with_reducible refine wA ?_ ?_ | refine ys ?_ ?_ | refine xs_done ?_ | refine yl ?_ ?_ | refine z1 c0 ?_ | refine z2 c0 ?_ | refine z3 c0 ?_ | refine z4 c0 ?_ | refine z5 c0 ?_ | refine z1 c1 ?_ | refine z2 c1 ?_ | refine z3 c1 ?_ | refine z4 c1 ?_ | refine z5 c1 ?_ | refine z1 c2 ?_ | refine z2 c2 ?_ | refine z3 c2 ?_ | refine z4 c2 ?_ | refine z5 c2 ?_ | refine w8 ?_ | refine w9 ?_ | refine w1 ?_ | refine w2 ?_ | refine w3 ?_ | refine w4 ?_ | refine w5 ?_ | refine w6 ?_ | refine w7 ?_ | refine yo0 ?_ ?_ | refine yw0 ?_ ?_ | exact qq | fail)
  refine ploopN 12 ?_
  repeat' (first | refine yo ?_ ?_ | refine yw ?_ ?_ | refine yk ?_ ?_ | exact trivial | with_reducible refine wA ?_ ?_ | refine ys ?_ ?_ | refine xs_done ?_ | refine yl ?_ ?_ | refine z1 l1 ?_ | refine z2 l1 ?_ | refine z3 l1 ?_ | refine z4 l1 ?_ | refine z5 l1 ?_ | refine z1 l2 ?_ | refine z2 l2 ?_ | refine z3 l2 ?_ | refine z4 l2 ?_ | refine z5 l2 ?_ | refine z1 l3 ?_ | refine z2 l3 ?_ | refine z3 l3 ?_ | refine z4 l3 ?_ | refine z5 l3 ?_ | refine z1 l4 ?_ | refine z2 l4 ?_ | refine z3 l4 ?_ | refine z4 l4 ?_ | refine z5 l4 ?_ | refine z1 l5 ?_ | refine z2 l5 ?_ | refine z3 l5 ?_ | refine z4 l5 ?_ | refine z5 l5 ?_ | refine z1 l6 ?_ | refine z2 l6 ?_ | refine z3 l6 ?_ | refine z4 l6 ?_ | refine z5 l6 ?_ | refine z1 l7 ?_ | refine z2 l7 ?_ | refine z3 l7 ?_ | refine z4 l7 ?_ | refine z5 l7 ?_ | refine z1 l8 ?_ | refine z2 l8 ?_ | refine z3 l8 ?_ | refine z4 l8 ?_ | refine z5 l8 ?_ | refine z1 l9 ?_ | refine z2 l9 ?_ | refine z3 l9 ?_ | refine z4 l9 ?_ | refine z5 l9 ?_ | refine z1 l10 ?_ | refine z2 l10 ?_ | refine z3 l10 ?_ | refine z4 l10 ?_ | refine z5 l10 ?_ | refine z1 l11 ?_ | refine z2 l11 ?_ | refine z3 l11 ?_ | refine z4 l11 ?_ | refine z5 l11 ?_ | refine z1 l12 ?_ | refine z2 l12 ?_ | refine z3 l12 ?_ | refine z4 l12 ?_ | refine z5 l12 ?_ | refine w8 ?_ | refine w9 ?_ | refine w1 ?_ | refine w2 ?_ | refine w3 ?_ | refine w4 ?_ | refine w5 ?_ | refine w6 ?_ | refine w7 ?_ | refine yo0 ?_ ?_ | refine yw0 ?_ ?_ | exact qq | fail)
  refine xdone ?_
  exact kretv rfl ⟨trivial, trivial, trivial, trivial, trivial⟩ rfl rfl
theorem month3_c : PureC G.P 100 [vi 84005] (fun r => r = vi 2759) := by
  have c1 := date3_c
  refine pure_of (G := G.toPg) (fn := Tryd.f100) Tryd.func100 rfl rfl rfl ?_; intro Γ hk
  repeat' (first | refine yo ?_ ?_ | refine yw ?_ ?_ | refine yk ?_ ?_ | exact trivial | with_reducible refine wA ?_ ?_ | refine ys ?_ ?_ | refine xs_done ?_ | refine yl ?_ ?_ | refine z1 c1 ?_ | refine z2 c1 ?_ | refine z3 c1 ?_ | refine z4 c1 ?_ | refine z5 c1 ?_ | refine w8 ?_ | refine w9 ?_ | refine w1 ?_ | refine w2 ?_ | refine w3 ?_ | refine w4 ?_ | refine w5 ?_ | refine w6 ?_ | refine w7 ?_ | refine yo0 ?_ ?_ | refine yw0 ?_ ?_ | exact qq | fail)
  refine xdone ?_
  exact kretv rfl ⟨trivial, trivial⟩ rfl rfl
theorem length5_c (k a : Int) : PureC G.P 74 [vC k a] (fun r => r = vi (wkL k)) := by
  by_cases h : k = 2
  · subst h
    refine pure_of (G := G.toPg) (fn := Tryd.f74) Tryd.func74 rfl rfl rfl ?_; intro Γ hk
    repeat' (first | refine yo ?_ ?_ | refine yw ?_ ?_ | refine yk ?_ ?_ | exact trivial | with_reducible refine wA ?_ ?_ | refine ys ?_ ?_ | refine xs_done ?_ | refine yl ?_ ?_ | refine w8 ?_ | refine w9 ?_ | refine w1 ?_ | refine w2 ?_ | refine w3 ?_ | refine w4 ?_ | refine w5 ?_ | refine w6 ?_ | refine w7 ?_ | refine yo0 ?_ ?_ | refine yw0 ?_ ?_ | exact qq | fail)
    refine xdone ?_
    exact kretv rfl ⟨trivial, trivial⟩ rfl rfl
  · have e : wkL k = 7 := by unfold wkL; rw [if_neg h]
    rw [e]
    refine pure_of (G := G.toPg) (fn := Tryd.f74) Tryd.func74 rfl rfl rfl ?_; intro Γ hk
    repeat' (first | refine yo ?_ ?_ | refine yw ?_ ?_ | refine yk ?_ ?_ | exact trivial | with_reducible refine wA ?_ ?_ | refine ys ?_ ?_ | refine xs_done ?_ | refine yl ?_ ?_ | (refine pcond_n rfl (by rw [bqd]; exact decide_eq_false (by assumption)) ?_) | refine w8 ?_ | refine w9 ?_ | refine w1 ?_ | refine w2 ?_ | refine w3 ?_ | refine w4 ?_ | refine w5 ?_ | refine w6 ?_ | refine w7 ?_ | refine yo0 ?_ ?_ | refine yw0 ?_ ?_ | exact qq | fail)
    refine xdone ?_
    exact kretv rfl ⟨trivial, trivial⟩ rfl rfl
theorem valid5_c (k a : Int) : PureC G.P 70 [vC k a] (fun r => r = vi (if okC k a then 0 else 2)) := by
  have c1 := length5_c k a
  by_cases h0 : k = 0
  · subst h0
    refine pure_of (G := G.toPg) (fn := Tryd.f70) Tryd.func70 rfl rfl rfl ?_; intro Γ hk
    repeat' (first | refine yo ?_ ?_ | refine yw ?_ ?_ | refine yk ?_ ?_ | exact trivial | with_reducible refine wA ?_ ?_ | refine ys ?_ ?_ | refine xs_done ?_ | refine yl ?_ ?_ | refine w8 ?_ | refine w9 ?_ | refine w1 ?_ | refine w2 ?_ | refine w3 ?_ | refine w4 ?_ | refine w5 ?_ | refine w6 ?_ | refine w7 ?_ | refine yo0 ?_ ?_ | refine yw0 ?_ ?_ | (refine pcond rfl ?_ ?_ <;> intro hc) | exact qq | fail)
    all_goals
      refine xdone ?_
      refine kretv rfl ⟨trivial, trivial⟩ rfl (eqI ?_)
      simp at hc
    · rw [if_pos (by unfold okC; omega)]
    · rw [if_neg (by unfold okC; omega)]
  by_cases h1 : k = 1
  · subst h1
    refine pure_of (G := G.toPg) (fn := Tryd.f70) Tryd.func70 rfl rfl rfl ?_; intro Γ hk
    repeat' (first | refine yo ?_ ?_ | refine yw ?_ ?_ | refine yk ?_ ?_ | exact trivial | with_reducible refine wA ?_ ?_ | refine ys ?_ ?_ | refine xs_done ?_ | refine yl ?_ ?_ | refine w8 ?_ | refine w9 ?_ | refine w1 ?_ | refine w2 ?_ | refine w3 ?_ | refine w4 ?_ | refine w5 ?_ | refine w6 ?_ | refine w7 ?_ | refine yo0 ?_ ?_ | refine yw0 ?_ ?_ | (refine pcond rfl ?_ ?_ <;> intro hc) | exact qq | fail)
    all_goals
      refine xdone ?_
      refine kretv rfl ⟨trivial, trivial⟩ rfl (eqI ?_)
      simp at hc
    · rw [if_pos (by unfold okC; omega)]
    · rw [if_neg (by unfold okC; omega)]
  by_cases h2 : k = 2
  · subst h2
    rw [show wkL 2 = 14 from rfl] at c1
    refine pure_of (G := G.toPg) (fn := Tryd.f70) Tryd.func70 rfl rfl rfl ?_; intro Γ hk
    repeat' (first | refine yo ?_ ?_ | refine yw ?_ ?_ | refine yk ?_ ?_ | exact trivial | with_reducible refine wA ?_ ?_ | refine ys ?_ ?_ | refine xs_done ?_ | refine yl ?_ ?_ | refine xs_start (id := 8) true [.take 0, .take 1, .take 2, .take 3, .take 4, .take 5, .take 6, .one 7, .take 8, .take 9] 0 rfl rfl (by kernel_rfl) ?_ | refine z1 c1 ?_ | refine z2 c1 ?_ | refine z3 c1 ?_ | refine z4 c1 ?_ | refine z5 c1 ?_ | refine w8 ?_ | refine w9 ?_ | refine w1 ?_ | refine w2 ?_ | refine w3 ?_ | refine w4 ?_ | refine w5 ?_ | refine w6 ?_ | refine w7 ?_ | refine yo0 ?_ ?_ | refine yw0 ?_ ?_ | (refine pcond rfl ?_ ?_ <;> intro hc) | exact qq | fail)
    repeat' (first | refine yo ?_ ?_ | refine yw ?_ ?_ | refine yk ?_ ?_ | exact trivial | with_reducible refine wA ?_ ?_ | refine ys ?_ ?_ | refine xs_done ?_ | refine yl ?_ ?_ | refine xs_start (id := 8) true [.take 0, .take 1, .take 2, .take 3, .take 4, .take 5, .take 6, .one 7, .take 8, .take 9] 0 rfl rfl (by kernel_rfl) ?_ | refine z1 c1 ?_ | refine z2 c1 ?_ | refine z3 c1 ?_ | refine z4 c1 ?_ | refine z5 c1 ?_ | refine w8 ?_ | refine w9 ?_ | refine w1 ?_ | refine w2 ?_ | refine w3 ?_ | refine w4 ?_ | refine w5 ?_ | refine w6 ?_ | refine w7 ?_ | refine yo0 ?_ ?_ | refine yw0 ?_ ?_ | (refine pcond rfl ?_ ?_ <;> intro hc) | exact qq | fail)
    all_goals
      refine xdone ?_
      refine kretv rfl ⟨trivial, trivial⟩ rfl (eqI ?_)
      simp at hc
    · rw [if_pos (by unfold okC; omega)]
    · rw [if_neg (by unfold okC; omega)]
  by_cases h3 : k = 3
  · subst h3
    rw [show wkL 3 = 7 from rfl] at c1
    refine pure_of (G := G.toPg) (fn := Tryd.f70) Tryd.func70 rfl rfl rfl ?_; intro Γ hk
    repeat' (first | refine yo ?_ ?_ | refine yw ?_ ?_ | refine yk ?_ ?_ | exact trivial | with_reducible refine wA ?_ ?_ | refine ys ?_ ?_ | refine xs_done ?_ | refine yl ?_ ?_ | refine xs_start (id := 8) true [.take 0, .take 1, .take 2, .take 3, .take 4, .take 5, .take 6, .one 7, .take 8, .take 9] 0 rfl rfl (by kernel_rfl) ?_ | refine z1 c1 ?_ | refine z2 c1 ?_ | refine z3 c1 ?_ | refine z4 c1 ?_ | refine z5 c1 ?_ | refine w8 ?_ | refine w9 ?_ | refine w1 ?_ | refine w2 ?_ | refine w3 ?_ | refine w4 ?_ | refine w5 ?_ | refine w6 ?_ | refine w7 ?_ | refine yo0 ?_ ?_ | refine yw0 ?_ ?_ | (refine pcond rfl ?_ ?_ <;> intro hc) | exact qq | fail)
    all_goals
      refine xdone ?_
      refine kretv rfl ⟨trivial, trivial⟩ rfl (eqI ?_)
      simp at hc
    · rw [if_pos (by unfold okC; omega)]
    · rw [if_neg (by unfold okC; omega)]
  refine pure_of (G := G.toPg) (fn := Tryd.f70) Tryd.func70 rfl rfl rfl ?_; intro Γ hk
  repeat' (first | refine yo ?_ ?_ | refine yw ?_ ?_ | refine yk ?_ ?_ | exact trivial | with_reducible refine wA ?_ ?_ | refine ys ?_ ?_ | refine xs_done ?_ | refine yl ?_ ?_ | refine xs_start (id := 8) true [.take 0, .take 1, .take 2, .take 3, .take 4, .take 5, .take 6, .one 7, .take 8, .take 9] 0 rfl rfl (by kernel_rfl) ?_ | (refine pcond_n rfl (by rw [bqd]; exact decide_eq_false (by assumption)) ?_) | refine w8 ?_ | refine w9 ?_ | refine w1 ?_ | refine w2 ?_ | refine w3 ?_ | refine w4 ?_ | refine w5 ?_ | refine w6 ?_ | refine w7 ?_ | refine yo0 ?_ ?_ | refine yw0 ?_ ?_ | exact qq | fail)
  refine xdone ?_
  refine kretv rfl ⟨trivial, trivial⟩ rfl (eqI ?_)
  rw [if_neg (by unfold okC; omega)]
theorem of5_c (k a : Int) (h : okC k a) : PureC G.P 87 [vC k a, vi 84005] (fun r => r = vi (cntS k a - 1)) := by
  have c1 := month3_c
  have c2 := date3_c
  rcases h with ⟨h | h, rfl⟩ | ⟨h, h1, h2⟩ | ⟨h, h1, h2⟩
  · subst h
    refine pure_of (G := G.toPg) (fn := Tryd.f87) Tryd.func87 rfl rfl rfl ?_; intro Γ hk
    repeat' (first | refine yo ?_ ?_ | refine yw ?_ ?_ | refine yk ?_ ?_ | exact trivial | with_reducible refine wA ?_ ?_ | refine ys ?_ ?_ | refine xs_done ?_ | refine yl ?_ ?_ | refine z1 c1 ?_ | refine z2 c1 ?_ | refine z3 c1 ?_ | refine z4 c1 ?_ | refine z5 c1 ?_ | refine z1 c2 ?_ | refine z2 c2 ?_ | refine z3 c2 ?_ | refine z4 c2 ?_ | refine z5 c2 ?_ | refine w8 ?_ | refine w9 ?_ | refine w1 ?_ | refine w2 ?_ | refine w3 ?_ | refine w4 ?_ | refine w5 ?_ | refine w6 ?_ | refine w7 ?_ | refine yo0 ?_ ?_ | refine yw0 ?_ ?_ | exact qq | fail)
    refine xdone ?_
    exact kretv rfl ⟨trivial, trivial⟩ rfl rfl
  · subst h
    refine pure_of (G := G.toPg) (fn := Tryd.f87) Tryd.func87 rfl rfl rfl ?_; intro Γ hk
    repeat' (first | refine yo ?_ ?_ | refine yw ?_ ?_ | refine yk ?_ ?_ | exact trivial | with_reducible refine wA ?_ ?_ | refine ys ?_ ?_ | refine xs_done ?_ | refine yl ?_ ?_ | refine z1 c1 ?_ | refine z2 c1 ?_ | refine z3 c1 ?_ | refine z4 c1 ?_ | refine z5 c1 ?_ | refine z1 c2 ?_ | refine z2 c2 ?_ | refine z3 c2 ?_ | refine z4 c2 ?_ | refine z5 c2 ?_ | refine w8 ?_ | refine w9 ?_ | refine w1 ?_ | refine w2 ?_ | refine w3 ?_ | refine w4 ?_ | refine w5 ?_ | refine w6 ?_ | refine w7 ?_ | refine yo0 ?_ ?_ | refine yw0 ?_ ?_ | exact qq | fail)
    refine xdone ?_
    exact kretv rfl ⟨trivial, trivial⟩ rfl rfl
  · subst h
    have c3 := length5_c 2 a
    rw [show wkL 2 = 14 from rfl] at c3
    have t := tmod_cases (14 - a) 14 (by omega)
    refine pure_of (G := G.toPg) (fn := Tryd.f87) Tryd.func87 rfl rfl rfl ?_; intro Γ hk
    repeat' (first | refine yo ?_ ?_ | refine yw ?_ ?_ | refine yk ?_ ?_ | exact trivial | with_reducible refine wA ?_ ?_ | refine ys ?_ ?_ | refine xs_done ?_ | refine yl ?_ ?_ | (exact (show (14 : Int) ≠ 0 from by decide)) | refine z1 c1 ?_ | refine z2 c1 ?_ | refine z3 c1 ?_ | refine z4 c1 ?_ | refine z5 c1 ?_ | refine z1 c2 ?_ | refine z2 c2 ?_ | refine z3 c2 ?_ | refine z4 c2 ?_ | refine z5 c2 ?_ | refine z1 c3 ?_ | refine z2 c3 ?_ | refine z3 c3 ?_ | refine z4 c3 ?_ | refine z5 c3 ?_ | refine w8 ?_ | refine w9 ?_ | refine w1 ?_ | refine w2 ?_ | refine w3 ?_ | refine w4 ?_ | refine w5 ?_ | refine w6 ?_ | refine w7 ?_ | refine yo0 ?_ ?_ | refine yw0 ?_ ?_ | exact qq | fail)
    refine xdone ?_
    refine kretv rfl ⟨trivial, trivial⟩ rfl (eqI ?_)
    rw [w64 (n := 14 - a) (by omega) (by omega), w64 (n := 84005 + (14 - a).tmod 14) (by omega) (by omega)]
    have td := Int.tdiv_eq_ediv_of_nonneg (a := 84005 + (14 - a).tmod 14) (b := 14) (by omega)
    rw [w64 (by omega) (by omega)]
    show _ = (84005 + (14 - a).tmod 14).tdiv 14 + 1 - 1
    omega
  · subst h
    have c3 := length5_c 3 a
    rw [show wkL 3 = 7 from rfl] at c3
    have t := tmod_cases (7 - a) 7 (by omega)
    refine pure_of (G := G.toPg) (fn := Tryd.f87) Tryd.func87 rfl rfl rfl ?_; intro Γ hk
    repeat' (first | refine yo ?_ ?_ | refine yw ?_ ?_ | refine yk ?_ ?_ | exact trivial | with_reducible refine wA ?_ ?_ | refine ys ?_ ?_ | refine xs_done ?_ | refine yl ?_ ?_ | (exact (show (7 : Int) ≠ 0 from by decide)) | refine z1 c1 ?_ | refine z2 c1 ?_ | refine z3 c1 ?_ | refine z4 c1 ?_ | refine z5 c1 ?_ | refine z1 c2 ?_ | refine z2 c2 ?_ | refine z3 c2 ?_ | refine z4 c2 ?_ | refine z5 c2 ?_ | refine z1 c3 ?_ | refine z2 c3 ?_ | refine z3 c3 ?_ | refine z4 c3 ?_ | refine z5 c3 ?_ | refine w8 ?_ | refine w9 ?_ | refine w1 ?_ | refine w2 ?_ | refine w3 ?_ | refine w4 ?_ | refine w5 ?_ | refine w6 ?_ | refine w7 ?_ | refine yo0 ?_ ?_ | refine yw0 ?_ ?_ | exact qq | fail)
    refine xdone ?_
    refine kretv rfl ⟨trivial, trivial⟩ rfl (eqI ?_)
    rw [w64 (n := 7 - a) (by omega) (by omega), w64 (n := 84005 + (7 - a).tmod 7) (by omega) (by omega)]
    have td := Int.tdiv_eq_ediv_of_nonneg (a := 84005 + (7 - a).tmod 7) (b := 7) (by omega)
    rw [w64 (by omega) (by omega)]
    show _ = (84005 + (7 - a).tmod 7).tdiv 7 + 1 - 1
    omega
theorem count5_c (k a : Int) (h : okC k a) : PureC G.P 71 [vC k a] (fun r => r = vi (cntS k a)) := by
  have c1 := valid5_c k a
  rw [if_pos h] at c1
  have c2 := of5_c k a h
  have hb := cntS_bd h
  refine pure_of (G := G.toPg) (fn := Tryd.f71) Tryd.func71 rfl rfl rfl ?_; intro Γ hk
  repeat' (first | refine yo ?_ ?_ | refine yw ?_ ?_ | refine yk ?_ ?_ | exact trivial | with_reducible refine wA ?_ ?_ | refine ys ?_ ?_ | refine xs_done ?_ | refine yl ?_ ?_ | refine z1 c1 ?_ | refine z2 c1 ?_ | refine z3 c1 ?_ | refine z4 c1 ?_ | refine z5 c1 ?_ | refine z1 c2 ?_ | refine z2 c2 ?_ | refine z3 c2 ?_ | refine z4 c2 ?_ | refine z5 c2 ?_ | refine w8 ?_ | refine w9 ?_ | refine w1 ?_ | refine w2 ?_ | refine w3 ?_ | refine w4 ?_ | refine w5 ?_ | refine w6 ?_ | refine w7 ?_ | refine yo0 ?_ ?_ | refine yw0 ?_ ?_ | exact qq | fail)
  refine xdone ?_
  refine kretv rfl ⟨trivial, trivial⟩ rfl (eqI ?_)
  rw [w64 (by omega) (by omega)]; omega
theorem raw3_w (y m d : Int) (h1 : 1960 ≤ y) (h2 : y ≤ 3000) (h3 : 1 ≤ m) (h4 : m ≤ 12) : PureC G.P 103 [vi y, vi m, vi d] (fun r => ∃ z : Int, r = vi z) := by
  have c1 := before3_c y h1 h2
  refine pure_of (G := G.toPg) (fn := Tryd.f103) Tryd.func103 rfl rfl rfl ?_; intro Γ hk
  repeat' (first | refine yo ?_ ?_ | refine yw ?_ ?_ | refine yk ?_ ?_ | exact trivial | with_reducible refine wA ?_ ?_ | refine ys ?_ ?_ | refine xs_done ?_ | refine yl ?_ ?_ | refine z1 c1 ?_ | refine z2 c1 ?_ | refine z3 c1 ?_ | refine z4 c1 ?_ | refine z5 c1 ?_ | refine w8 ?_ | refine w9 ?_ | refine w1 ?_ | refine w2 ?_ | refine w3 ?_ | refine w4 ?_ | refine w5 ?_ | refine w6 ?_ | refine w7 ?_ | refine yo0 ?_ ?_ | refine yw0 ?_ ?_ | exact qq | fail)
  refine pcan (can_rowsv [] (k0_sel hk rfl) rfl (by (repeat (refine SelV.cons rfl rqq ?_)); exact SelV.nil) tmq : Can _ _ _ ⟨[(0, vi y), (1, vi m), (7, vi _), (8, vi ((1 : Nat) : Int))], []⟩) ?_
  refine ploop (fun q st => ∃ (i : Nat) (z : Int), i ≤ m.toNat ∧ 1 ≤ i ∧ q = m.toNat - i ∧ st = ⟨[(0, vi y), (1, vi m), (7, vi z), (8, vi i)], []⟩) (m.toNat - 1) ⟨1, _, by omega, by omega, rfl, rfl⟩ ?_
  rintro _ _ ⟨i, z, hi, hi1, rfl, rfl⟩
  have c2 := lengths3_c y i
  have hw : IntKind.i64.wrap ((i : Int) + 1) = ((i + 1 : Nat) : Int) := w64 (by omega) (by omega)
  repeat' (first | refine yo ?_ ?_ | refine yw ?_ ?_ | refine yk ?_ ?_ | exact trivial | with_reducible refine wA ?_ ?_ | refine ys ?_ ?_ | refine xs_done ?_ | refine yl ?_ ?_ | refine w8 ?_ | refine w9 ?_ | refine w1 ?_ | refine w2 ?_ | refine w3 ?_ | refine w4 ?_ | refine w5 ?_ | refine w6 ?_ | refine w7 ?_ | refine yo0 ?_ ?_ | refine yw0 ?_ ?_ | exact qq | fail)
  refine pcond rfl ?_ ?_ <;> intro hc <;> simp at hc
  · repeat' (first | refine yo ?_ ?_ | refine yw ?_ ?_ | refine yk ?_ ?_ | exact trivial | with_reducible refine wA ?_ ?_ | refine ys ?_ ?_ | refine xs_done ?_ | refine yl ?_ ?_ | refine z1 c2 ?_ | refine z2 c2 ?_ | refine z3 c2 ?_ | refine z4 c2 ?_ | refine z5 c2 ?_ | refine w8 ?_ | refine w9 ?_ | refine w1 ?_ | refine w2 ?_ | refine w3 ?_ | refine w4 ?_ | refine w5 ?_ | refine w6 ?_ | refine w7 ?_ | refine yo0 ?_ ?_ | refine yw0 ?_ ?_ | exact qq | fail)
    rw [hw]
    exact kloop_next (st' := ⟨[(0, vi y), (1, vi m), (7, vi _), (8, vi ((i + 1 : Nat) : Int))], []⟩) (m.toNat - (i + 1)) (can_rowsv [] (k0_sel hk rfl) rfl .nil tmq) (by omega) ⟨i + 1, _, by omega, by omega, rfl, rfl⟩
  · repeat' (first | refine yo ?_ ?_ | refine yw ?_ ?_ | refine yk ?_ ?_ | exact trivial | with_reducible refine wA ?_ ?_ | refine ys ?_ ?_ | refine xs_done ?_ | refine yl ?_ ?_ | refine w8 ?_ | refine w9 ?_ | refine w1 ?_ | refine w2 ?_ | refine w3 ?_ | refine w4 ?_ | refine w5 ?_ | refine w6 ?_ | refine w7 ?_ | refine yo0 ?_ ?_ | refine yw0 ?_ ?_ | exact qq | fail)
    refine xdone ?_
    exact kretv rfl ⟨trivial, trivial⟩ rfl ⟨_, rfl⟩
theorem inYears_c (y : Int) : PureC G.P 102 [vi y] (fun r => r = vb (decide (1970 ≤ y) && decide (y ≤ 2199))) := by
  refine pure_of (G := G.toPg) (fn := Tryd.f102) Tryd.func102 rfl rfl rfl ?_; intro Γ hk
  repeat' (first | refine yo ?_ ?_ | refine yw ?_ ?_ | refine yk ?_ ?_ | exact trivial | with_reducible refine wA ?_ ?_ | refine ys ?_ ?_ | refine xs_done ?_ | refine yl ?_ ?_ | refine w8 ?_ | refine w9 ?_ | refine w1 ?_ | refine w2 ?_ | refine w3 ?_ | refine w4 ?_ | refine w5 ?_ | refine w6 ?_ | refine w7 ?_ | refine yo0 ?_ ?_ | refine yw0 ?_ ?_ | exact qq | fail)
  refine kretv rfl ⟨trivial, trivial⟩ rfl (eqB ?_)
  rw [Bool.eq_iff_iff]; simp
theorem lenG_bd (y m : Int) : 28 ≤ lenG y m ∧ lenG y m ≤ 31 := by unfold lenG; repeat' split
                                                                  all_goals omega
theorem day3_w (y m : Int) (h1 : 1970 ≤ y) (h2 : y ≤ 2199) (h3 : 1 ≤ m) (h4 : m ≤ 12) : PureC G.P 88 [vi y, vi m, vi 1] (fun r => ∃ z : Int, r = .tup 2 (nthP [vi z, vb true])) := by
  have c1 := inYears_c y
  have c2 := lengths3_c y m
  have c3 := raw3_w y m 1 (by omega) (by omega) h3 h4
  have hb := lenG_bd y m
  rw [decide_eq_true h1, decide_eq_true h2] at c1
  generalize lenG y m = L at *
  refine pure_of (G := G.toPg) (fn := Tryd.f88) Tryd.func88 rfl rfl rfl ?_; intro Γ hk
  repeat' (first | refine yo ?_ ?_ | refine yw ?_ ?_ | refine yk ?_ ?_ | exact trivial | with_reducible refine wA ?_ ?_ | refine ys ?_ ?_ | refine xs_done ?_ | refine yl ?_ ?_ | refine z1 c1 ?_ | refine z2 c1 ?_ | refine z3 c1 ?_ | refine z4 c1 ?_ | refine z5 c1 ?_ | refine z1 c2 ?_ | refine z2 c2 ?_ | refine z3 c2 ?_ | refine z4 c2 ?_ | refine z5 c2 ?_ | refine w8 ?_ | refine w9 ?_ | refine w1 ?_ | refine w2 ?_ | refine w3 ?_ | refine w4 ?_ | refine w5 ?_ | refine w6 ?_ | refine w7 ?_ | refine yo0 ?_ ?_ | refine yw0 ?_ ?_ | exact qq | fail)
  refine pcond_n rfl (by
    rw [decide_eq_false (show ¬ m < 1 by omega), decide_eq_false (show ¬ 12 < m by omega), decide_eq_false (show ¬ L < 1 by omega)]; rfl) ?_
  repeat' (first | refine yo ?_ ?_ | refine yw ?_ ?_ | refine yk ?_ ?_ | exact trivial | with_reducible refine wA ?_ ?_ | refine ys ?_ ?_ | refine xs_done ?_ | refine yl ?_ ?_ | refine w8 ?_ | refine w9 ?_ | refine w1 ?_ | refine w2 ?_ | refine w3 ?_ | refine w4 ?_ | refine w5 ?_ | refine w6 ?_ | refine w7 ?_ | refine yo0 ?_ ?_ | refine yw0 ?_ ?_ | exact qq | fail)
  refine pop_call [] rfl rfl rfl rfl rfl c3 (args_cl _ rfl) ?_
  rintro _ ⟨z, rfl⟩
  refine ⟨scB_spec _ rfl, ?_⟩
  repeat' (first | refine yo ?_ ?_ | refine yw ?_ ?_ | refine yk ?_ ?_ | exact trivial | with_reducible refine wA ?_ ?_ | refine ys ?_ ?_ | refine xs_done ?_ | refine yl ?_ ?_ | refine w8 ?_ | refine w9 ?_ | refine w1 ?_ | refine w2 ?_ | refine w3 ?_ | refine w4 ?_ | refine w5 ?_ | refine w6 ?_ | refine w7 ?_ | refine yo0 ?_ ?_ | refine yw0 ?_ ?_ | exact qq | fail)
  refine xdone ?_
  exact kretv rfl ⟨trivial, trivial, trivial⟩ rfl ⟨z, rfl⟩
theorem m12' {n : Int} (h0 : 0 ≤ n) (h1 : n ≤ 2759) : 1970 ≤ 1970 + n.tdiv 12 ∧ 1970 + n.tdiv 12 ≤ 2199 ∧ 1 ≤ 1 + n.tmod 12 ∧ 1 + n.tmod 12 ≤ 12 := by
  have e := Int.tdiv_eq_ediv_of_nonneg (a := n) (b := 12) h0
  have e2 := Int.tmod_eq_emod_of_nonneg (a := n) (b := 12) h0
  omega
theorem first3_w (n : Int) (h0 : 0 ≤ n) (h1 : n ≤ 2759) : PureC G.P 72 [vi n] (fun r => ∃ z : Int, r = .tup 2 (nthP [vi z, vb true])) := by
  obtain ⟨b1, b2, b3, b4⟩ := m12' h0 h1
  have c1 := day3_w (1970 + n.tdiv 12) (1 + n.tmod 12) b1 b2 b3 b4
  have hw0 : IntKind.i64.wrap (n.tdiv 12) = n.tdiv 12 := w64 (by omega) (by omega)
  have hw1 : IntKind.i64.wrap (1970 + n.tdiv 12) = 1970 + n.tdiv 12 := w64 (by omega) (by omega)
  have hw2 : IntKind.i64.wrap (1 + n.tmod 12) = 1 + n.tmod 12 := w64 (by omega) (by omega)
  rw [← hw1, ← hw2, ← hw0] at c1
  refine pure_of (G := G.toPg) (fn := Tryd.f72) Tryd.func72 rfl rfl rfl ?_; intro Γ hk
  repeat' (first | refine yo ?_ ?_ | refine yw ?_ ?_ | refine yk ?_ ?_ | exact trivial | with_reducible refine wA ?_ ?_ | refine ys ?_ ?_ | refine xs_done ?_ | refine yl ?_ ?_ | refine w8 ?_ | refine w9 ?_ | refine w1 ?_ | refine w2 ?_ | refine w3 ?_ | refine w4 ?_ | refine w5 ?_ | refine w6 ?_ | refine w7 ?_ | refine yo0 ?_ ?_ | refine yw0 ?_ ?_ | exact qq | fail)
  refine pcond_n rfl (by
    rw [decide_eq_false (show ¬ n < 0 by omega), decide_eq_false (show ¬ 2759 < n by omega)]; rfl) ?_
  repeat' (first | refine yo ?_ ?_ | refine yw ?_ ?_ | refine yk ?_ ?_ | exact trivial | with_reducible refine wA ?_ ?_ | refine ys ?_ ?_ | refine xs_done ?_ | refine yl ?_ ?_ | (exact (show (12 : Int) ≠ 0 from by decide)) | refine w8 ?_ | refine w9 ?_ | refine w1 ?_ | refine w2 ?_ | refine w3 ?_ | refine w4 ?_ | refine w5 ?_ | refine w6 ?_ | refine w7 ?_ | refine yo0 ?_ ?_ | refine yw0 ?_ ?_ | exact qq | fail)
  refine pop_call [] rfl rfl rfl rfl rfl c1 (args_cl _ rfl) ?_
  rintro _ ⟨z, rfl⟩
  refine ⟨scB_spec _ rfl, ?_⟩
  repeat' (first | refine yo ?_ ?_ | refine yw ?_ ?_ | refine yk ?_ ?_ | exact trivial | with_reducible refine wA ?_ ?_ | refine ys ?_ ?_ | refine xs_done ?_ | refine yl ?_ ?_ | refine w8 ?_ | refine w9 ?_ | refine w1 ?_ | refine w2 ?_ | refine w3 ?_ | refine w4 ?_ | refine w5 ?_ | refine w6 ?_ | refine w7 ?_ | refine yo0 ?_ ?_ | refine yw0 ?_ ?_ | exact qq | fail)
  refine xdone ?_
  exact kretv rfl ⟨trivial, trivial, trivial⟩ rfl ⟨z, rfl⟩
theorem length3_w (n : Int) (h0 : 0 ≤ n) (h1 : n ≤ 2759) : PureC G.P 73 [vi n] (fun r => ∃ z : Int, r = vi z) := by
  have c1 := lengths3_c (IntKind.i64.wrap (1970 + IntKind.i64.wrap (n.tdiv 12))) (IntKind.i64.wrap (1 + n.tmod 12))
  refine pure_of (G := G.toPg) (fn := Tryd.f73) Tryd.func73 rfl rfl rfl ?_; intro Γ hk
  repeat' (first | refine yo ?_ ?_ | refine yw ?_ ?_ | refine yk ?_ ?_ | exact trivial | with_reducible refine wA ?_ ?_ | refine ys ?_ ?_ | refine xs_done ?_ | refine yl ?_ ?_ | refine w8 ?_ | refine w9 ?_ | refine w1 ?_ | refine w2 ?_ | refine w3 ?_ | refine w4 ?_ | refine w5 ?_ | refine w6 ?_ | refine w7 ?_ | refine yo0 ?_ ?_ | refine yw0 ?_ ?_ | exact qq | fail)
  refine pcond_n rfl (by
    rw [decide_eq_false (show ¬ n < 0 by omega), decide_eq_false (show ¬ 2759 < n by omega)]; rfl) ?_
  repeat' (first | refine yo ?_ ?_ | refine yw ?_ ?_ | refine yk ?_ ?_ | exact trivial | with_reducible refine wA ?_ ?_ | refine ys ?_ ?_ | refine xs_done ?_ | refine yl ?_ ?_ | (exact (show (12 : Int) ≠ 0 from by decide)) | refine z1 c1 ?_ | refine z2 c1 ?_ | refine z3 c1 ?_ | refine z4 c1 ?_ | refine z5 c1 ?_ | refine w8 ?_ | refine w9 ?_ | refine w1 ?_ | refine w2 ?_ | refine w3 ?_ | refine w4 ?_ | refine w5 ?_ | refine w6 ?_ | refine w7 ?_ | refine yo0 ?_ ?_ | refine yw0 ?_ ?_ | exact qq | fail)
  refine xdone ?_
  exact kretv rfl ⟨trivial, trivial⟩ rfl ⟨_, rfl⟩
theorem span5_w (k a n : Int) : PureC G.P 44 [vC k a, vi n] (fun r => ∃ d1 d2 : Int, r = .tup 2 (nthP [vC d1 d2, vi (spE k a n)])) := by
  have c1 := valid5_c k a
  by_cases h : okC k a
  · rw [if_pos h] at c1
    have c2 := count5_c k a h
    have hb := cntS_bd h
    by_cases hn : n < 0 ∨ cntS k a ≤ n
    · have e : spE k a n = 2 := by unfold spE; rw [if_pos h, if_pos hn]
      rw [e]
      generalize cntS k a = C at *
      refine pure_of (G := G.toPg) (fn := Tryd.f44) Tryd.func44 rfl rfl rfl ?_; intro Γ hk
      repeat' (first | refine yo ?_ ?_ | refine yw ?_ ?_ | refine yk ?_ ?_ | exact trivial | with_reducible refine wA ?_ ?_ | refine ys ?_ ?_ | refine xs_done ?_ | refine yl ?_ ?_ | refine z1 c1 ?_ | refine z2 c1 ?_ | refine z3 c1 ?_ | refine z4 c1 ?_ | refine z5 c1 ?_ | refine z1 c2 ?_ | refine z2 c2 ?_ | refine z3 c2 ?_ | refine z4 c2 ?_ | refine z5 c2 ?_ | refine w8 ?_ | refine w9 ?_ | refine w1 ?_ | refine w2 ?_ | refine w3 ?_ | refine w4 ?_ | refine w5 ?_ | refine w6 ?_ | refine w7 ?_ | refine yo0 ?_ ?_ | refine yw0 ?_ ?_ | exact qq | fail)
      refine pcond_y rfl (by rw [Bool.eq_iff_iff]; simp; omega) ?_
      repeat' (first | refine yo ?_ ?_ | refine yw ?_ ?_ | refine yk ?_ ?_ | exact trivial | with_reducible refine wA ?_ ?_ | refine ys ?_ ?_ | refine xs_done ?_ | refine yl ?_ ?_ | refine w8 ?_ | refine w9 ?_ | refine w1 ?_ | refine w2 ?_ | refine w3 ?_ | refine w4 ?_ | refine w5 ?_ | refine w6 ?_ | refine w7 ?_ | refine yo0 ?_ ?_ | refine yw0 ?_ ?_ | exact qq | fail)
      refine xdone ?_
      exact kretv rfl ⟨Nat.zero_lt_one, trivial, trivial⟩ rfl ⟨0, 0, rfl⟩
    · have e : spE k a n = 0 := by unfold spE; rw [if_pos h, if_neg hn]
      rw [e]
      rcases h with ⟨h | h, rfl⟩ | ⟨h, h1, h2⟩ | ⟨h, h1, h2⟩
      · subst h
        have hc : cntS 0 0 = 2760 := rfl
        rw [hc] at hn c2
        have c3 := first3_w n (by omega) (by omega)
        have c4 := length3_w n (by omega) (by omega)
        refine pure_of (G := G.toPg) (fn := Tryd.f44) Tryd.func44 rfl rfl rfl ?_; intro Γ hk
        repeat' (first | refine yo ?_ ?_ | refine yw ?_ ?_ | refine yk ?_ ?_ | exact trivial | with_reducible refine wA ?_ ?_ | refine ys ?_ ?_ | refine xs_done ?_ | refine yl ?_ ?_ | refine z1 c1 ?_ | refine z2 c1 ?_ | refine z3 c1 ?_ | refine z4 c1 ?_ | refine z5 c1 ?_ | refine z1 c2 ?_ | refine z2 c2 ?_ | refine z3 c2 ?_ | refine z4 c2 ?_ | refine z5 c2 ?_ | refine w8 ?_ | refine w9 ?_ | refine w1 ?_ | refine w2 ?_ | refine w3 ?_ | refine w4 ?_ | refine w5 ?_ | refine w6 ?_ | refine w7 ?_ | refine yo0 ?_ ?_ | refine yw0 ?_ ?_ | exact qq | fail)
        refine pcond_n rfl (by rw [Bool.eq_iff_iff]; simp; omega) ?_
        repeat' (first | refine yo ?_ ?_ | refine yw ?_ ?_ | refine yk ?_ ?_ | exact trivial | with_reducible refine wA ?_ ?_ | refine ys ?_ ?_ | refine xs_done ?_ | refine yl ?_ ?_ | refine w8 ?_ | refine w9 ?_ | refine w1 ?_ | refine w2 ?_ | refine w3 ?_ | refine w4 ?_ | refine w5 ?_ | refine w6 ?_ | refine w7 ?_ | refine yo0 ?_ ?_ | refine yw0 ?_ ?_ | exact qq | fail)
        refine pop_call [] rfl rfl rfl rfl rfl c3 (args_cl _ rfl) ?_
        rintro _ ⟨z, rfl⟩
        refine ⟨scB_spec _ rfl, ?_⟩
        repeat' (first | refine yo ?_ ?_ | refine yw ?_ ?_ | refine yk ?_ ?_ | exact trivial | with_reducible refine wA ?_ ?_ | refine ys ?_ ?_ | refine xs_done ?_ | refine yl ?_ ?_ | refine w8 ?_ | refine w9 ?_ | refine w1 ?_ | refine w2 ?_ | refine w3 ?_ | refine w4 ?_ | refine w5 ?_ | refine w6 ?_ | refine w7 ?_ | refine yo0 ?_ ?_ | refine yw0 ?_ ?_ | exact qq | fail)
        refine pop_call [] rfl rfl rfl rfl rfl c4 (args_cl _ rfl) ?_
        rintro _ ⟨y, rfl⟩
        refine ⟨scB_spec _ rfl, ?_⟩
        repeat' (first | refine yo ?_ ?_ | refine yw ?_ ?_ | refine yk ?_ ?_ | exact trivial | with_reducible refine wA ?_ ?_ | refine ys ?_ ?_ | refine xs_done ?_ | refine yl ?_ ?_ | refine w8 ?_ | refine w9 ?_ | refine w1 ?_ | refine w2 ?_ | refine w3 ?_ | refine w4 ?_ | refine w5 ?_ | refine w6 ?_ | refine w7 ?_ | refine yo0 ?_ ?_ | refine yw0 ?_ ?_ | exact qq | fail)
        refine xdone ?_
        exact kretv rfl ⟨Nat.zero_lt_one, trivial, trivial⟩ rfl ⟨_, _, rfl⟩
      · subst h
        have hc : cntS 1 0 = 5520 := rfl
        rw [hc] at hn c2
        have td := Int.tdiv_eq_ediv_of_nonneg (a := n) (b := 2) (by omega)
        have c3 := first3_w (n.tdiv 2) (by omega) (by omega)
        have c4 := length3_w (n.tdiv 2) (by omega) (by omega)
        have hw0 : IntKind.i64.wrap (n.tdiv 2) = n.tdiv 2 := w64 (by omega) (by omega)
        rw [← hw0] at c3 c4
        refine pure_of (G := G.toPg) (fn := Tryd.f44) Tryd.func44 rfl rfl rfl ?_; intro Γ hk
        repeat' (first | refine yo ?_ ?_ | refine yw ?_ ?_ | refine yk ?_ ?_ | exact trivial | with_reducible refine wA ?_ ?_ | refine ys ?_ ?_ | refine xs_done ?_ | refine yl ?_ ?_ | refine z1 c1 ?_ | refine z2 c1 ?_ | refine z3 c1 ?_ | refine z4 c1 ?_ | refine z5 c1 ?_ | refine z1 c2 ?_ | refine z2 c2 ?_ | refine z3 c2 ?_ | refine z4 c2 ?_ | refine z5 c2 ?_ | refine w8 ?_ | refine w9 ?_ | refine w1 ?_ | refine w2 ?_ | refine w3 ?_ | refine w4 ?_ | refine w5 ?_ | refine w6 ?_ | refine w7 ?_ | refine yo0 ?_ ?_ | refine yw0 ?_ ?_ | exact qq | fail)
        refine pcond_n rfl (by rw [Bool.eq_iff_iff]; simp; omega) ?_
        repeat' (first | refine yo ?_ ?_ | refine yw ?_ ?_ | refine yk ?_ ?_ | exact trivial | with_reducible refine wA ?_ ?_ | refine ys ?_ ?_ | refine xs_done ?_ | refine yl ?_ ?_ | (exact (show (2 : Int) ≠ 0 from by decide)) | refine w8 ?_ | refine w9 ?_ | refine w1 ?_ | refine w2 ?_ | refine w3 ?_ | refine w4 ?_ | refine w5 ?_ | refine w6 ?_ | refine w7 ?_ | refine yo0 ?_ ?_ | refine yw0 ?_ ?_ | exact qq | fail)
        refine pop_call [] rfl rfl rfl rfl rfl c3 (args_cl _ rfl) ?_
        rintro _ ⟨z, rfl⟩
        refine ⟨scB_spec _ rfl, ?_⟩
        repeat' (first | refine yo ?_ ?_ | refine yw ?_ ?_ | refine yk ?_ ?_ | exact trivial | with_reducible refine wA ?_ ?_ | refine ys ?_ ?_ | refine xs_done ?_ | refine yl ?_ ?_ | (exact (show (2 : Int) ≠ 0 from by decide)) | refine w8 ?_ | refine w9 ?_ | refine w1 ?_ | refine w2 ?_ | refine w3 ?_ | refine w4 ?_ | refine w5 ?_ | refine w6 ?_ | refine w7 ?_ | refine yo0 ?_ ?_ | refine yw0 ?_ ?_ | exact qq | fail)
        refine pcond rfl ?_ ?_ <;> intro hc
        · repeat' (first | refine yo ?_ ?_ | refine yw ?_ ?_ | refine yk ?_ ?_ | exact trivial | with_reducible refine wA ?_ ?_ | refine ys ?_ ?_ | refine xs_done ?_ | refine yl ?_ ?_ | (exact (show (2 : Int) ≠ 0 from by decide)) | refine w8 ?_ | refine w9 ?_ | refine w1 ?_ | refine w2 ?_ | refine w3 ?_ | refine w4 ?_ | refine w5 ?_ | refine w6 ?_ | refine w7 ?_ | refine yo0 ?_ ?_ | refine yw0 ?_ ?_ | exact qq | fail)
          refine pop_call [] rfl rfl rfl rfl rfl c4 (args_cl _ rfl) ?_
          rintro _ ⟨y, rfl⟩
          refine ⟨scB_spec _ rfl, ?_⟩
          repeat' (first | refine yo ?_ ?_ | refine yw ?_ ?_ | refine yk ?_ ?_ | exact trivial | with_reducible refine wA ?_ ?_ | refine ys ?_ ?_ | refine xs_done ?_ | refine yl ?_ ?_ | refine w8 ?_ | refine w9 ?_ | refine w1 ?_ | refine w2 ?_ | refine w3 ?_ | refine w4 ?_ | refine w5 ?_ | refine w6 ?_ | refine w7 ?_ | refine yo0 ?_ ?_ | refine yw0 ?_ ?_ | exact qq | fail)
          refine xdone ?_
          exact kretv rfl ⟨Nat.zero_lt_one, trivial, trivial⟩ rfl ⟨_, _, rfl⟩
        · repeat' (first | refine yo ?_ ?_ | refine yw ?_ ?_ | refine yk ?_ ?_ | exact trivial | with_reducible refine wA ?_ ?_ | refine ys ?_ ?_ | refine xs_done ?_ | refine yl ?_ ?_ | refine w8 ?_ | refine w9 ?_ | refine w1 ?_ | refine w2 ?_ | refine w3 ?_ | refine w4 ?_ | refine w5 ?_ | refine w6 ?_ | refine w7 ?_ | refine yo0 ?_ ?_ | refine yw0 ?_ ?_ | exact qq | fail)
          refine xdone ?_
          exact kretv rfl ⟨Nat.zero_lt_one, trivial, trivial⟩ rfl ⟨_, _, rfl⟩
      · subst h
        have c3 := length5_c 2 a
        rw [show wkL 2 = 14 from rfl] at c3
        refine pure_of (G := G.toPg) (fn := Tryd.f44) Tryd.func44 rfl rfl rfl ?_; intro Γ hk
        repeat' (first | refine yo ?_ ?_ | refine yw ?_ ?_ | refine yk ?_ ?_ | exact trivial | with_reducible refine wA ?_ ?_ | refine ys ?_ ?_ | refine xs_done ?_ | refine yl ?_ ?_ | refine z1 c1 ?_ | refine z2 c1 ?_ | refine z3 c1 ?_ | refine z4 c1 ?_ | refine z5 c1 ?_ | refine z1 c2 ?_ | refine z2 c2 ?_ | refine z3 c2 ?_ | refine z4 c2 ?_ | refine z5 c2 ?_ | refine w8 ?_ | refine w9 ?_ | refine w1 ?_ | refine w2 ?_ | refine w3 ?_ | refine w4 ?_ | refine w5 ?_ | refine w6 ?_ | refine w7 ?_ | refine yo0 ?_ ?_ | refine yw0 ?_ ?_ | exact qq | fail)
        refine pcond_n rfl (by rw [Bool.eq_iff_iff]; simp; omega) ?_
        repeat' (first | refine yo ?_ ?_ | refine yw ?_ ?_ | refine yk ?_ ?_ | exact trivial | with_reducible refine wA ?_ ?_ | refine ys ?_ ?_ | refine xs_done ?_ | refine yl ?_ ?_ | (exact (show (14 : Int) ≠ 0 from by decide)) | refine z1 c3 ?_ | refine z2 c3 ?_ | refine z3 c3 ?_ | refine z4 c3 ?_ | refine z5 c3 ?_ | refine w8 ?_ | refine w9 ?_ | refine w1 ?_ | refine w2 ?_ | refine w3 ?_ | refine w4 ?_ | refine w5 ?_ | refine w6 ?_ | refine w7 ?_ | refine yo0 ?_ ?_ | refine yw0 ?_ ?_ | exact qq | fail)
        refine xdone ?_
        exact kretv rfl ⟨Nat.zero_lt_one, trivial, trivial⟩ rfl ⟨_, _, rfl⟩
      · subst h
        have c3 := length5_c 3 a
        rw [show wkL 3 = 7 from rfl] at c3
        refine pure_of (G := G.toPg) (fn := Tryd.f44) Tryd.func44 rfl rfl rfl ?_; intro Γ hk
        repeat' (first | refine yo ?_ ?_ | refine yw ?_ ?_ | refine yk ?_ ?_ | exact trivial | with_reducible refine wA ?_ ?_ | refine ys ?_ ?_ | refine xs_done ?_ | refine yl ?_ ?_ | refine z1 c1 ?_ | refine z2 c1 ?_ | refine z3 c1 ?_ | refine z4 c1 ?_ | refine z5 c1 ?_ | refine z1 c2 ?_ | refine z2 c2 ?_ | refine z3 c2 ?_ | refine z4 c2 ?_ | refine z5 c2 ?_ | refine w8 ?_ | refine w9 ?_ | refine w1 ?_ | refine w2 ?_ | refine w3 ?_ | refine w4 ?_ | refine w5 ?_ | refine w6 ?_ | refine w7 ?_ | refine yo0 ?_ ?_ | refine yw0 ?_ ?_ | exact qq | fail)
        refine pcond_n rfl (by rw [Bool.eq_iff_iff]; simp; omega) ?_
        repeat' (first | refine yo ?_ ?_ | refine yw ?_ ?_ | refine yk ?_ ?_ | exact trivial | with_reducible refine wA ?_ ?_ | refine ys ?_ ?_ | refine xs_done ?_ | refine yl ?_ ?_ | (exact (show (7 : Int) ≠ 0 from by decide)) | refine z1 c3 ?_ | refine z2 c3 ?_ | refine z3 c3 ?_ | refine z4 c3 ?_ | refine z5 c3 ?_ | refine w8 ?_ | refine w9 ?_ | refine w1 ?_ | refine w2 ?_ | refine w3 ?_ | refine w4 ?_ | refine w5 ?_ | refine w6 ?_ | refine w7 ?_ | refine yo0 ?_ ?_ | refine yw0 ?_ ?_ | exact qq | fail)
        refine xdone ?_
        exact kretv rfl ⟨Nat.zero_lt_one, trivial, trivial⟩ rfl ⟨_, _, rfl⟩
  · rw [if_neg h] at c1
    have e : spE k a n = 2 := by unfold spE; rw [if_neg h]
    rw [e]
    refine pure_of (G := G.toPg) (fn := Tryd.f44) Tryd.func44 rfl rfl rfl ?_; intro Γ hk
    repeat' (first | refine yo ?_ ?_ | refine yw ?_ ?_ | refine yk ?_ ?_ | exact trivial | with_reducible refine wA ?_ ?_ | refine ys ?_ ?_ | refine xs_done ?_ | refine yl ?_ ?_ | refine z1 c1 ?_ | refine z2 c1 ?_ | refine z3 c1 ?_ | refine z4 c1 ?_ | refine z5 c1 ?_ | refine w8 ?_ | refine w9 ?_ | refine w1 ?_ | refine w2 ?_ | refine w3 ?_ | refine w4 ?_ | refine w5 ?_ | refine w6 ?_ | refine w7 ?_ | refine yo0 ?_ ?_ | refine yw0 ?_ ?_ | exact qq | fail)
    refine xdone ?_
    exact kretv rfl ⟨Nat.zero_lt_one, trivial, trivial⟩ rfl ⟨0, 0, rfl⟩
end Go.Proofs.YtcghpepighboaaaDoor
