/- package calendar: leap years, lengths of months. -/
import Derived.Test.YtcghpepighboaaaDoorPvTap
import Derived.Test.YtcghpepighboaaaDoorRat0
set_option linter.unusedSimpArgs false
set_option linter.unusedVariables false
set_option maxRecDepth 100000
namespace Go.Proofs.YtcghpepighboaaaDoor
def leapS (y : Int) : Bool := decide (y.tmod 4 = 0) && (decide (y.tmod 100 ≠ 0) || decide (y.tmod 400 = 0))
abbrev lenL : List Int := [31, 28, 31, 30, 31, 30, 31, 31, 30, 31, 30, 31]
def lenS (y m : Int) : Int := if m = 2 ∧ leapS y = true then 29 else lenL.getD (m - 1).toNat 0
theorem beqd (a b : Int) : (a == b) = decide (a = b) := by rw [Bool.eq_iff_iff]; simp
theorem n4 : (4 : Int) ≠ 0 := by decide
theorem n100 : (100 : Int) ≠ 0 := by decide
theorem n400 : (400 : Int) ≠ 0 := by decide
theorem leap_c (y : Int) : PureC G.P 114 [vi y] (fun r => r = vb (leapS y)) := by
  refine pure_of (G := G.toPg) (fn := Tryd.f114) Tryd.func114 rfl rfl rfl ?_; intro Γ hk
  repeat' (first | refine yo ?_ ?_ | refine yw ?_ ?_ | refine yk ?_ ?_ | exact trivial | with_reducible refine wA ?_ ?_ | refine ys ?_ ?_ | refine xs_done ?_ | refine yl ?_ ?_ | refine w8 ?_ | refine w9 ?_ | refine w1 ?_ | refine w2 ?_ | refine w3 ?_ | refine w4 ?_ | refine w5 ?_ | refine w6 ?_ | refine w7 ?_ | refine yo0 ?_ ?_ | refine yw0 ?_ ?_ | exact qq | fail)
  any_goals (first | exact n4 | exact n100 | exact n400 | exact fun h => ⟨h, n100⟩ | exact fun h => ⟨h, n400⟩ | exact fun h => ⟨h.1, n400⟩ | skip)
  refine kretv rfl ⟨trivial, trivial⟩ rfl (eqB ?_)
  unfold leapS
  rw [show (y.tmod 100 != 0) = decide (y.tmod 100 ≠ 0) from by rw [Bool.eq_iff_iff]; simp, beqd, beqd]
  cases decide (y.tmod 4 = 0) <;> cases decide (y.tmod 100 ≠ 0) <;> rfl
def leapsS (y : Int) : Int := y.tdiv 4 - y.tdiv 100 + y.tdiv 400
theorem tdiv_bd {y k : Int} (h1 : -1000000 ≤ y) (h2 : y ≤ 1000000) (hk : 0 < k) : -1000000 ≤ y.tdiv k ∧ y.tdiv k ≤ 1000000 := by
  have := Int.natAbs_tdiv_le_natAbs y k
  omega
theorem leaps_c (y : Int) (h1 : -1000000 ≤ y) (h2 : y ≤ 1000000) : PureC G.P 121 [vi y] (fun r => r = vi (leapsS y)) := by
  have b1 := tdiv_bd h1 h2 (show (0 : Int) < 4 by decide)
  have b2 := tdiv_bd h1 h2 (show (0 : Int) < 100 by decide)
  have b3 := tdiv_bd h1 h2 (show (0 : Int) < 400 by decide)
  refine pure_of (G := G.toPg) (fn := Tryd.f121) Tryd.func121 rfl rfl rfl ?_; intro Γ hk
  repeat' (first | refine yo ?_ ?_ | refine yw ?_ ?_ | refine yk ?_ ?_ | exact trivial | with_reducible refine wA ?_ ?_ | refine ys ?_ ?_ | refine xs_done ?_ | refine yl ?_ ?_ | refine w8 ?_ | refine w9 ?_ | refine w1 ?_ | refine w2 ?_ | refine w3 ?_ | refine w4 ?_ | refine w5 ?_ | refine w6 ?_ | refine w7 ?_ | refine yo0 ?_ ?_ | refine yw0 ?_ ?_ | exact qq | fail)
  any_goals (first | exact n4 | exact n100 | exact n400 | exact fun h => ⟨h, n100⟩ | exact fun h => ⟨h, n400⟩ | exact fun h => ⟨h.1, n400⟩ | skip)
  refine kretv rfl ⟨trivial, trivial⟩ rfl (eqI ?_)
  unfold leapsS
  rw [w64 (n := y.tdiv 4) (by omega) (by omega), w64 (n := y.tdiv 100) (by omega) (by omega), w64 (n := y.tdiv 400) (by omega) (by omega), w64 (n := y.tdiv 4 - y.tdiv 100) (by omega) (by omega), w64 (by omega) (by omega)]
theorem length_c (y m : Int) (hm : 1 ≤ m ∧ m ≤ 12) : PureC G.P 99 [vi y, vi m] (fun r => r = vi (lenS y m)) := by
  have c1 := leap_c y
  have hw : IntKind.i64.wrap (m - 1) = m - 1 := w64 (by omega) (by omega)
  refine pure_of (G := G.toPg) (fn := Tryd.f99) Tryd.func99 rfl rfl rfl ?_; intro Γ hk
  repeat' (first | refine yo ?_ ?_ | refine yw ?_ ?_ | refine yk ?_ ?_ | exact trivial | with_reducible refine wA ?_ ?_ | refine ys ?_ ?_ | refine xs_done ?_ | refine yl ?_ ?_ | refine z1 c1 ?_ | refine z2 c1 ?_ | refine z3 c1 ?_ | refine z4 c1 ?_ | refine z5 c1 ?_ | refine w8 ?_ | refine w9 ?_ | refine w1 ?_ | refine w2 ?_ | refine w3 ?_ | refine w4 ?_ | refine w5 ?_ | refine w6 ?_ | refine w7 ?_ | refine yo0 ?_ ?_ | refine yw0 ?_ ?_ | exact qq | fail)
  refine pcond (b := decide (m = 2 ∧ leapS y = true)) ?_ ?_ ?_
  · refine eqB ?_
    rw [beqd]
    by_cases h : m = 2 <;> simp [h]
  · intro h
    have h := of_decide_eq_true h
    repeat' (first | refine yo ?_ ?_ | refine yw ?_ ?_ | refine yk ?_ ?_ | exact trivial | with_reducible refine wA ?_ ?_ | refine ys ?_ ?_ | refine xs_done ?_ | refine yl ?_ ?_ | refine w8 ?_ | refine w9 ?_ | refine w1 ?_ | refine w2 ?_ | refine w3 ?_ | refine w4 ?_ | refine w5 ?_ | refine w6 ?_ | refine w7 ?_ | refine yo0 ?_ ?_ | refine yw0 ?_ ?_ | exact qq | fail)
    refine kretv rfl ⟨trivial, trivial⟩ rfl (eqI ?_)
    rw [lenS, if_pos h]
  · intro h
    have h := of_decide_eq_false h
    repeat' (first | refine yo ?_ ?_ | refine yw ?_ ?_ | refine yk ?_ ?_ | exact trivial | with_reducible refine wA ?_ ?_ | refine ys ?_ ?_ | refine xs_done ?_ | refine yl ?_ ?_ | refine w8 ?_ | refine w9 ?_ | refine w1 ?_ | refine w2 ?_ | refine w3 ?_ | refine w4 ?_ | refine w5 ?_ | refine w6 ?_ | refine w7 ?_ | refine yo0 ?_ ?_ | refine yw0 ?_ ?_ | exact qq | fail)
    · exact (show 0 + (IntKind.i64.wrap (m - 1)).toNat < 12 from by rw [hw]; omega)
    refine kretv rfl ⟨trivial, trivial⟩ rfl (eqI ?_)
    rw [lenS, if_neg h, hw, Nat.zero_add]
/-- the number of January 1 -/
def begS (y : Int) : Int := 365 * (y - 1970) + leapsS (y - 1) - leapsS 1969
theorem leapsS_bd {y : Int} (h1 : -100000 ≤ y) (h2 : y ≤ 100000) : -300000 ≤ leapsS y ∧ leapsS y ≤ 300000 := by
  have b1 := Int.natAbs_tdiv_le_natAbs y 4
  have b2 := Int.natAbs_tdiv_le_natAbs y 100
  have b3 := Int.natAbs_tdiv_le_natAbs y 400
  unfold leapsS; omega
theorem begin_c (y : Int) (h1 : -10000 ≤ y) (h2 : y ≤ 10000) : PureC G.P 113 [vi y] (fun r => r = vi (begS y)) := by
  have hw : IntKind.i64.wrap (y - 1) = y - 1 := w64 (by omega) (by omega)
  have c1 := leaps_c (y - 1) (by omega) (by omega)
  rw [← hw] at c1
  have c2 := leaps_c 1969 (by omega) (by omega)
  have b1 := leapsS_bd (y := y - 1) (by omega) (by omega)
  have b2 := leapsS_bd (y := 1969) (by omega) (by omega)
  refine pure_of (G := G.toPg) (fn := Tryd.f113) Tryd.func113 rfl rfl rfl ?_; intro Γ hk
  repeat' (first | refine yo ?_ ?_ | refine yw ?_ ?_ | refine yk ?_ ?_ | exact trivial | with_reducible refine wA ?_ ?_ | refine ys ?_ ?_ | refine xs_done ?_ | refine yl ?_ ?_ | refine z1 c1 ?_ | refine z2 c1 ?_ | refine z3 c1 ?_ | refine z4 c1 ?_ | refine z5 c1 ?_ | refine z1 c2 ?_ | refine z2 c2 ?_ | refine z3 c2 ?_ | refine z4 c2 ?_ | refine z5 c2 ?_ | refine w8 ?_ | refine w9 ?_ | refine w1 ?_ | refine w2 ?_ | refine w3 ?_ | refine w4 ?_ | refine w5 ?_ | refine w6 ?_ | refine w7 ?_ | refine yo0 ?_ ?_ | refine yw0 ?_ ?_ | exact qq | fail)
  refine kretv rfl ⟨trivial, trivial⟩ rfl (eqI ?_)
  unfold begS
  rw [hw, w64 (n := y - 1970) (by omega) (by omega), w64 (n := 365 * (y - 1970)) (by omega) (by omega), w64 (n := 365 * (y - 1970) + leapsS (y - 1)) (by omega) (by omega), w64 (by omega) (by omega)]
theorem calvalid_c (d : Int) : PureC G.P 111 [vi d] (fun r => r = vb (decide (0 ≤ d) && decide (d ≤ 84005))) := by
  refine pure_of (G := G.toPg) (fn := Tryd.f111) Tryd.func111 rfl rfl rfl ?_; intro Γ hk
  repeat' (first | refine yo ?_ ?_ | refine yw ?_ ?_ | refine yk ?_ ?_ | exact trivial | with_reducible refine wA ?_ ?_ | refine ys ?_ ?_ | refine xs_done ?_ | refine yl ?_ ?_ | refine w8 ?_ | refine w9 ?_ | refine w1 ?_ | refine w2 ?_ | refine w3 ?_ | refine w4 ?_ | refine w5 ?_ | refine w6 ?_ | refine w7 ?_ | refine yo0 ?_ ?_ | refine yw0 ?_ ?_ | exact qq | fail)
  refine kretv rfl ⟨trivial, trivial⟩ rfl (eqB ?_)
  cases decide (0 ≤ d) <;> rfl
def yearF : Nat → Int → Int → Int
  | 0, y, _ => y
  | n + 1, y, d => if begS (y + 1) ≤ d then yearF n (y + 1) d else y
def yearS (d : Int) : Int := yearF 300 (1970 + d / 366) d
theorem begS_ge {y : Int} (h1 : 1970 ≤ y) (h2 : y ≤ 10000) : 365 * (y - 1970) ≤ begS y := by
  unfold begS leapsS
  rw [Int.tdiv_eq_ediv_of_nonneg (by omega), Int.tdiv_eq_ediv_of_nonneg (by omega), Int.tdiv_eq_ediv_of_nonneg (by omega)]
  have e : (1969 : Int).tdiv 4 - (1969 : Int).tdiv 100 + (1969 : Int).tdiv 400 = 477 := by decide
  rw [e]; omega
theorem yearOf_c (d : Int) (h0 : 0 ≤ d) (h1 : d ≤ 90000) : PureC G.P 112 [vi d] (fun r => r = vi (yearS d)) := by
  have hq : d.tdiv 366 = d / 366 := Int.tdiv_eq_ediv_of_nonneg h0
  have hw1 : IntKind.i64.wrap (1970 + IntKind.i64.wrap (d.tdiv 366)) = 1970 + d / 366 := by rw [hq, w64 (n := d / 366) (by omega) (by omega), w64 (by omega) (by omega)]
  refine pure_of (G := G.toPg) (fn := Tryd.f112) Tryd.func112 rfl rfl rfl ?_; intro Γ hk
  repeat' (first | refine yo ?_ ?_ | refine yw ?_ ?_ | refine yk ?_ ?_ | exact trivial | with_reducible refine wA ?_ ?_ | refine ys ?_ ?_ | refine xs_done ?_ | refine yl ?_ ?_ | refine w8 ?_ | refine w9 ?_ | refine w1 ?_ | refine w2 ?_ | refine w3 ?_ | refine w4 ?_ | refine w5 ?_ | refine w6 ?_ | refine w7 ?_ | refine yo0 ?_ ?_ | refine yw0 ?_ ?_ | exact qq | fail)
  · exact (show (366 : Int) ≠ 0 from by decide)
  rw [hw1]
  refine pcan (st' := ⟨[(0, vi d), (3, vi (1970 + d / 366 + (0 : Nat)))], []⟩) (can_rowsv [] (k0_sel hk rfl) rfl .nil (by exact ⟨PEq.refl _, by rw [show (1970 + d / 366 + ((0 : Nat) : Int)) = 1970 + d / 366 by omega]; exact PEq.refl _, trivial⟩)) ?_
  refine ploop (fun q st => ∃ i : Nat, 1970 + d / 366 + i ≤ 2300 ∧ yearF (300 - i) (1970 + d / 366 + i) d = yearS d ∧ q = 400 - i ∧ st = ⟨[(0, vi d), (3, vi (1970 + d / 366 + i))], []⟩) 400 ⟨0, by omega, by rw [show (1970 + d / 366 + ((0 : Nat) : Int)) = 1970 + d / 366 by omega]; rfl, by omega, rfl⟩ ?_
  rintro _ _ ⟨i, hi, hv, rfl, rfl⟩
  have hw2 : IntKind.i64.wrap (1970 + d / 366 + i + 1) = 1970 + d / 366 + i + 1 := w64 (by omega) (by omega)
  have c1 := begin_c (1970 + d / 366 + i + 1) (by omega) (by omega)
  have hg := begS_ge (y := 1970 + d / 366 + i + 1) (by omega) (by omega)
  rw [← hw2] at c1
  repeat' (first | refine yo ?_ ?_ | refine yw ?_ ?_ | refine yk ?_ ?_ | exact trivial | with_reducible refine wA ?_ ?_ | refine ys ?_ ?_ | refine xs_done ?_ | refine yl ?_ ?_ | refine z1 c1 ?_ | refine z2 c1 ?_ | refine z3 c1 ?_ | refine z4 c1 ?_ | refine z5 c1 ?_ | refine w8 ?_ | refine w9 ?_ | refine w1 ?_ | refine w2 ?_ | refine w3 ?_ | refine w4 ?_ | refine w5 ?_ | refine w6 ?_ | refine w7 ?_ | refine yo0 ?_ ?_ | refine yw0 ?_ ?_ | exact qq | fail)
  refine pcond (b := decide (begS (1970 + d / 366 + i + 1) ≤ d)) ?_ ?_ ?_
  · refine eqB ?_
    rw [hw2]
  · intro h
    have h := of_decide_eq_true h
    repeat' (first | refine yo ?_ ?_ | refine yw ?_ ?_ | refine yk ?_ ?_ | exact trivial | with_reducible refine wA ?_ ?_ | refine ys ?_ ?_ | refine xs_done ?_ | refine yl ?_ ?_ | refine w8 ?_ | refine w9 ?_ | refine w1 ?_ | refine w2 ?_ | refine w3 ?_ | refine w4 ?_ | refine w5 ?_ | refine w6 ?_ | refine w7 ?_ | refine yo0 ?_ ?_ | refine yw0 ?_ ?_ | exact qq | fail)
    rw [hw2]
    have hf : yearF (300 - (i + 1)) (1970 + d / 366 + i + 1) d = yearS d := by
      rw [show 300 - i = (300 - (i + 1)) + 1 by omega, yearF, if_pos h] at hv; exact hv
    exact kloop_next (st' := ⟨[(0, vi d), (3, vi (1970 + d / 366 + i + 1))], []⟩) (400 - (i + 1)) (can_rowsv [] (k0_sel hk rfl) rfl .nil tmq) (by omega) ⟨i + 1, by omega, by rw [show (1970 + d / 366 + ((i + 1 : Nat) : Int)) = 1970 + d / 366 + i + 1 by omega]; exact hf, rfl, by rw [show (1970 + d / 366 + ((i + 1 : Nat) : Int)) = 1970 + d / 366 + i + 1 by omega]⟩
  · intro h
    have h := of_decide_eq_false h
    repeat' (first | refine yo ?_ ?_ | refine yw ?_ ?_ | refine yk ?_ ?_ | exact trivial | with_reducible refine wA ?_ ?_ | refine ys ?_ ?_ | refine xs_done ?_ | refine yl ?_ ?_ | refine w8 ?_ | refine w9 ?_ | refine w1 ?_ | refine w2 ?_ | refine w3 ?_ | refine w4 ?_ | refine w5 ?_ | refine w6 ?_ | refine w7 ?_ | refine yo0 ?_ ?_ | refine yw0 ?_ ?_ | exact qq | fail)
    refine kretv rfl ⟨trivial, trivial⟩ rfl (eqI ?_)
    rw [← hv]
    by_cases hz : 300 - i = 0
    · rw [hz, yearF]
    · rw [show 300 - i = (300 - i - 1) + 1 by omega, yearF, if_neg h]
end Go.Proofs.YtcghpepighboaaaDoor
