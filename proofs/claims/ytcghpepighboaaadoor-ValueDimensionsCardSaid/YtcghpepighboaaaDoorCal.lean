/- package calendar: leap years, lengths of months. -/
import Derived.Test.YtcghpepighboaaaDoorPvTap
import Derived.Test.YtcghpepighboaaaDoorPvG
set_option linter.unusedSimpArgs false
set_option linter.unusedVariables false
set_option maxRecDepth 100000
namespace Go.Proofs.YtcghpepighboaaaDoor
def leapS (y : Int) : Bool := decide (y.tmod 4 = 0) && (decide (y.tmod 100 ≠ 0) || decide (y.tmod 400 = 0))
abbrev lenL : List Int := [31, 28, 31, 30, 31, 30, 31, 31, 30, 31, 30, 31]
def lenS (y m : Int) : Int := if m = 2 ∧ leapS y = true then 29 else lenL.getD (m - 1).toNat 0
theorem beqd (a b : Int) : (a == b) = decide (a = b) := by rw [Bool.eq_iff_iff]; simp
theorem n4 : (4 : Int) ≠ 0 := by decide
theorem n100 : (100 : Int) ≠ 0 := by decide
theorem n400 : (400 : Int) ≠ 0 := by decide
theorem leap_c (y : Int) : PureC G.P 114 [vi y] (fun r => r = vb (leapS y)) := by
  refine pure_of (G := G.toPg) (fn := Tryd.f114) Tryd.func114 rfl rfl rfl ?_; intro Γ hk
  repeat' (first | refine yo ?_ ?_ | refine yw ?_ ?_ | refine yk ?_ ?_ | exact trivial | with_reducible refine wA ?_ ?_ | refine ys ?_ ?_ | refine xs_done ?_ | refine yl ?_ ?_ | refine w8 ?_ | refine w9 ?_ | refine w1 ?_ | refine w2 ?_ | refine w3 ?_ | refine w4 ?_ | refine w5 ?_ | refine w6 ?_ | refine w7 ?_ | refine yo0 ?_ ?_ | refine yw0 ?_ ?_ | exact qq | fail)
  any_goals (first | exact n4 | exact n100 | exact n400 | exact fun h => ⟨h, n100⟩ | exact fun h => ⟨h, n400⟩ | exact fun h => ⟨h.1, n400⟩ | skip)
  refine kretv rfl ⟨trivial, trivial⟩ rfl (eqB ?_)
  unfold leapS
  rw [show (y.tmod 100 != 0) = decide (y.tmod 100 ≠ 0) from by rw [Bool.eq_iff_iff]; simp, beqd, beqd]
  cases decide (y.tmod 4 = 0) <;> cases decide (y.tmod 100 ≠ 0) <;> rfl
def leapsS (y : Int) : Int := y.tdiv 4 - y.tdiv 100 + y.tdiv 400
theorem tdiv_bd {y k : Int} (h1 : -1000000 ≤ y) (h2 : y ≤ 1000000) (hk : 0 < k) : -1000000 ≤ y.tdiv k ∧ y.tdiv k ≤ 1000000 := by
  have := Int.natAbs_tdiv_le_natAbs y k
  omega
theorem leaps_c (y : Int) (h1 : -1000000 ≤ y) (h2 : y ≤ 1000000) : PureC G.P 121 [vi y] (fun r => r = vi (leapsS y)) := by
  have b1 := tdiv_bd h1 h2 (show (0 : Int) < 4 by decide)
  have b2 := tdiv_bd h1 h2 (show (0 : Int) < 100 by decide)
  have b3 := tdiv_bd h1 h2 (show (0 : Int) < 400 by decide)
  refine pure_of (G := G.toPg) (fn := Tryd.f121) Tryd.func121 rfl rfl rfl ?_; intro Γ hk
  repeat' (first | refine yo ?_ ?_ | refine yw ?_ ?_ | refine yk ?_ ?_ | exact trivial | with_reducible refine wA ?_ ?_ | refine ys ?_ ?_ | refine xs_done ?_ | refine yl ?_ ?_ | refine w8 ?_ | refine w9 ?_ | refine w1 ?_ | refine w2 ?_ | refine w3 ?_ | refine w4 ?_ | refine w5 ?_ | refine w6 ?_ | refine w7 ?_ | refine yo0 ?_ ?_ | refine yw0 ?_ ?_ | exact qq | fail)
  any_goals (first | exact n4 | exact n100 | exact n400 | exact fun h => ⟨h, n100⟩ | exact fun h => ⟨h, n400⟩ | exact fun h => ⟨h.1, n400⟩ | skip)
  refine kretv rfl ⟨trivial, trivial⟩ rfl (eqI ?_)
  unfold leapsS
  rw [w64 (n := y.tdiv 4) (by omega) (by omega), w64 (n := y.tdiv 100) (by omega) (by omega), w64 (n := y.tdiv 400) (by omega) (by omega), w64 (n := y.tdiv 4 - y.tdiv 100) (by omega) (by omega), w64 (by omega) (by omega)]
theorem length_c (y m : Int) (hm : 1 ≤ m ∧ m ≤ 12) : PureC G.P 99 [vi y, vi m] (fun r => r = vi (lenS y m)) := by
  have c1 := leap_c y
  have hw : IntKind.i64.wrap (m - 1) = m - 1 := w64 (by omega) (by omega)
  refine pure_of (G := G.toPg) (fn := Tryd.f99) Tryd.func99 rfl rfl rfl ?_; intro Γ hk
  repeat' (first | refine yo ?_ ?_ | refine yw ?_ ?_ | refine yk ?_ ?_ | exact trivial | with_reducible refine wA ?_ ?_ | refine ys ?_ ?_ | refine xs_done ?_ | refine yl ?_ ?_ | refine z1 c1 ?_ | refine z2 c1 ?_ | refine z3 c1 ?_ | refine z4 c1 ?_ | refine z5 c1 ?_ | refine w8 ?_ | refine w9 ?_ | refine w1 ?_ | refine w2 ?_ | refine w3 ?_ | refine w4 ?_ | refine w5 ?_ | refine w6 ?_ | refine w7 ?_ | refine yo0 ?_ ?_ | refine yw0 ?_ ?_ | exact qq | fail)
  refine pcond (b := decide (m = 2 ∧ leapS y = true)) ?_ ?_ ?_
  · refine eqB ?_
    rw [beqd]
    by_cases h : m = 2 <;> simp [h]
  · intro h
    have h := of_decide_eq_true h
    repeat' (first | refine yo ?_ ?_ | refine yw ?_ ?_ | refine yk ?_ ?_ | exact trivial | with_reducible refine wA ?_ ?_ | refine ys ?_ ?_ | refine xs_done ?_ | refine yl ?_ ?_ | refine w8 ?_ | refine w9 ?_ | refine w1 ?_ | refine w2 ?_ | refine w3 ?_ | refine w4 ?_ | refine w5 ?_ | refine w6 ?_ | refine w7 ?_ | refine yo0 ?_ ?_ | refine yw0 ?_ ?_ | exact qq | fail)
    refine kretv rfl ⟨trivial, trivial⟩ rfl (eqI ?_)
    rw [lenS, if_pos h]
  · intro h
    have h := of_decide_eq_false h
    repeat' (first | refine yo ?_ ?_ | refine yw ?_ ?_ | refine yk ?_ ?_ | exact trivial | with_reducible refine wA ?_ ?_ | refine ys ?_ ?_ | refine xs_done ?_ | refine yl ?_ ?_ | refine w8 ?_ | refine w9 ?_ | refine w1 ?_ | refine w2 ?_ | refine w3 ?_ | refine w4 ?_ | refine w5 ?_ | refine w6 ?_ | refine w7 ?_ | refine yo0 ?_ ?_ | refine yw0 ?_ ?_ | exact qq | fail)
    · exact (show 0 + (IntKind.i64.wrap (m - 1)).toNat < 12 from by rw [hw]; omega)
    refine kretv rfl ⟨trivial, trivial⟩ rfl (eqI ?_)
    rw [lenS, if_neg h, hw, Nat.zero_add]
def begS (y : Int) : Int := 365 * (y - 1970) + leapsS (y - 1) - leapsS 1969
theorem leapsS_bd {y : Int} (h1 : -100000 ≤ y) (h2 : y ≤ 100000) : -300000 ≤ leapsS y ∧ leapsS y ≤ 300000 := by
  have b1 := Int.natAbs_tdiv_le_natAbs y 4
  have b2 := Int.natAbs_tdiv_le_natAbs y 100
  have b3 := Int.natAbs_tdiv_le_natAbs y 400
  unfold leapsS; omega
theorem begin_c (y : Int) (h1 : -10000 ≤ y) (h2 : y ≤ 10000) : PureC G.P 113 [vi y] (fun r => r = vi (begS y)) := by
  have hw : IntKind.i64.wrap (y - 1) = y - 1 := w64 (by omega) (by omega)
  have c1 := leaps_c (y - 1) (by omega) (by omega)
  rw [← hw] at c1
  have c2 := leaps_c 1969 (by omega) (by omega)
  have b1 := leapsS_bd (y := y - 1) (by omega) (by omega)
  have b2 := leapsS_bd (y := 1969) (by omega) (by omega)
  refine pure_of (G := G.toPg) (fn := Tryd.f113) Tryd.func113 rfl rfl rfl ?_; intro Γ hk
  repeat' (first | refine yo ?_ ?_ | refine yw ?_ ?_ | refine yk ?_ ?_ | exact trivial | with_reducible refine wA ?_ ?_ | refine ys ?_ ?_ | refine xs_done ?_ | refine yl ?_ ?_ | refine z1 c1 ?_ | refine z2 c1 ?_ | refine z3 c1 ?_ | refine z4 c1 ?_ | refine z5 c1 ?_ | refine z1 c2 ?_ | refine z2 c2 ?_ | refine z3 c2 ?_ | refine z4 c2 ?_ | refine z5 c2 ?_ | refine w8 ?_ | refine w9 ?_ | refine w1 ?_ | refine w2 ?_ | refine w3 ?_ | refine w4 ?_ | refine w5 ?_ | refine w6 ?_ | refine w7 ?_ | refine yo0 ?_ ?_ | refine yw0 ?_ ?_ | exact qq | fail)
  refine kretv rfl ⟨trivial, trivial⟩ rfl (eqI ?_)
  unfold begS
  rw [hw, w64 (n := y - 1970) (by omega) (by omega), w64 (n := 365 * (y - 1970)) (by omega) (by omega), w64 (n := 365 * (y - 1970) + leapsS (y - 1)) (by omega) (by omega), w64 (by omega) (by omega)]
theorem calvalid_c (d : Int) : PureC G.P 111 [vi d] (fun r => r = vb (decide (0 ≤ d) && decide (d ≤ 84005))) := by
  refine pure_of (G := G.toPg) (fn := Tryd.f111) Tryd.func111 rfl rfl rfl ?_; intro Γ hk
  repeat' (first | refine yo ?_ ?_ | refine yw ?_ ?_ | refine yk ?_ ?_ | exact trivial | with_reducible refine wA ?_ ?_ | refine ys ?_ ?_ | refine xs_done ?_ | refine yl ?_ ?_ | refine w8 ?_ | refine w9 ?_ | refine w1 ?_ | refine w2 ?_ | refine w3 ?_ | refine w4 ?_ | refine w5 ?_ | refine w6 ?_ | refine w7 ?_ | refine yo0 ?_ ?_ | refine yw0 ?_ ?_ | exact qq | fail)
  refine kretv rfl ⟨trivial, trivial⟩ rfl (eqB ?_)
  cases decide (0 ≤ d) <;> rfl
def yearF : Nat → Int → Int → Int
  | 0, y, _ => y
  | n + 1, y, d => if begS (y + 1) ≤ d then yearF n (y + 1) d else y
def yearS (d : Int) : Int := yearF 300 (1970 + d / 366) d
theorem begS_ge {y : Int} (h1 : 1970 ≤ y) (h2 : y ≤ 10000) : 365 * (y - 1970) ≤ begS y := by
  unfold begS leapsS
  rw [Int.tdiv_eq_ediv_of_nonneg (by omega), Int.tdiv_eq_ediv_of_nonneg (by omega), Int.tdiv_eq_ediv_of_nonneg (by omega)]
  have e : (1969 : Int).tdiv 4 - (1969 : Int).tdiv 100 + (1969 : Int).tdiv 400 = 477 := by decide
  rw [e]; omega
theorem yearOf_c (d : Int) (h0 : 0 ≤ d) (h1 : d ≤ 90000) : PureC G.P 112 [vi d] (fun r => r = vi (yearS d)) := by
  have hq : d.tdiv 366 = d / 366 := Int.tdiv_eq_ediv_of_nonneg h0
  have hw1 : IntKind.i64.wrap (1970 + IntKind.i64.wrap (d.tdiv 366)) = 1970 + d / 366 := by rw [hq, w64 (n := d / 366) (by omega) (by omega), w64 (by omega) (by omega)]
  refine pure_of (G := G.toPg) (fn := Tryd.f112) Tryd.func112 rfl rfl rfl ?_; intro Γ hk
  repeat' (first | refine yo ?_ ?_ | refine yw ?_ ?_ | refine yk ?_ ?_ | exact trivial | with_reducible refine wA ?_ ?_ | refine ys ?_ ?_ | refine xs_done ?_ | refine yl ?_ ?_ | refine w8 ?_ | refine w9 ?_ | refine w1 ?_ | refine w2 ?_ | refine w3 ?_ | refine w4 ?_ | refine w5 ?_ | refine w6 ?_ | refine w7 ?_ | refine yo0 ?_ ?_ | refine yw0 ?_ ?_ | exact qq | fail)
  · exact (show (366 : Int) ≠ 0 from by decide)
  rw [hw1]
  refine pcan (st' := ⟨[(0, vi d), (3, vi (1970 + d / 366 + (0 : Nat)))], []⟩) (can_rowsv [] (k0_sel hk rfl) rfl .nil (by exact ⟨PEq.refl _, by rw [show (1970 + d / 366 + ((0 : Nat) : Int)) = 1970 + d / 366 by omega]; exact PEq.refl _, trivial⟩)) ?_
  refine ploop (fun q st => ∃ i : Nat, 1970 + d / 366 + i ≤ 2300 ∧ yearF (300 - i) (1970 + d / 366 + i) d = yearS d ∧ q = 400 - i ∧ st = ⟨[(0, vi d), (3, vi (1970 + d / 366 + i))], []⟩) 400 ⟨0, by omega, by rw [show (1970 + d / 366 + ((0 : Nat) : Int)) = 1970 + d / 366 by omega]; rfl, by omega, rfl⟩ ?_
  rintro _ _ ⟨i, hi, hv, rfl, rfl⟩
  have hw2 : IntKind.i64.wrap (1970 + d / 366 + i + 1) = 1970 + d / 366 + i + 1 := w64 (by omega) (by omega)
  have c1 := begin_c (1970 + d / 366 + i + 1) (by omega) (by omega)
  have hg := begS_ge (y := 1970 + d / 366 + i + 1) (by omega) (by omega)
  rw [← hw2] at c1
  repeat' (first | refine yo ?_ ?_ | refine yw ?_ ?_ | refine yk ?_ ?_ | exact trivial | with_reducible refine wA ?_ ?_ | refine ys ?_ ?_ | refine xs_done ?_ | refine yl ?_ ?_ | refine z1 c1 ?_ | refine z2 c1 ?_ | refine z3 c1 ?_ | refine z4 c1 ?_ | refine z5 c1 ?_ | refine w8 ?_ | refine w9 ?_ | refine w1 ?_ | refine w2 ?_ | refine w3 ?_ | refine w4 ?_ | refine w5 ?_ | refine w6 ?_ | refine w7 ?_ | refine yo0 ?_ ?_ | refine yw0 ?_ ?_ | exact qq | fail)
  refine pcond (b := decide (begS (1970 + d / 366 + i + 1) ≤ d)) ?_ ?_ ?_
  · refine eqB ?_
    rw [hw2]
  · intro h
    have h := of_decide_eq_true h
    repeat' (first | refine yo ?_ ?_ | refine yw ?_ ?_ | refine yk ?_ ?_ | exact trivial | with_reducible refine wA ?_ ?_ | refine ys ?_ ?_ | refine xs_done ?_ | refine yl ?_ ?_ | refine w8 ?_ | refine w9 ?_ | refine w1 ?_ | refine w2 ?_ | refine w3 ?_ | refine w4 ?_ | refine w5 ?_ | refine w6 ?_ | refine w7 ?_ | refine yo0 ?_ ?_ | refine yw0 ?_ ?_ | exact qq | fail)
    rw [hw2]
    have hf : yearF (300 - (i + 1)) (1970 + d / 366 + i + 1) d = yearS d := by
      rw [show 300 - i = (300 - (i + 1)) + 1 by omega, yearF, if_pos h] at hv; exact hv
    exact kloop_next (st' := ⟨[(0, vi d), (3, vi (1970 + d / 366 + i + 1))], []⟩) (400 - (i + 1)) (can_rowsv [] (k0_sel hk rfl) rfl .nil tmq) (by omega) ⟨i + 1, by omega, by rw [show (1970 + d / 366 + ((i + 1 : Nat) : Int)) = 1970 + d / 366 + i + 1 by omega]; exact hf, rfl, by rw [show (1970 + d / 366 + ((i + 1 : Nat) : Int)) = 1970 + d / 366 + i + 1 by omega]⟩
  · intro h
    have h := of_decide_eq_false h
    repeat' (first | refine yo ?_ ?_ | refine yw ?_ ?_ | refine yk ?_ ?_ | exact trivial | with_reducible refine wA ?_ ?_ | refine ys ?_ ?_ | refine xs_done ?_ | refine yl ?_ ?_ | refine w8 ?_ | refine w9 ?_ | refine w1 ?_ | refine w2 ?_ | refine w3 ?_ | refine w4 ?_ | refine w5 ?_ | refine w6 ?_ | refine w7 ?_ | refine yo0 ?_ ?_ | refine yw0 ?_ ?_ | exact qq | fail)
    refine kretv rfl ⟨trivial, trivial⟩ rfl (eqI ?_)
    rw [← hv]
    by_cases hz : 300 - i = 0
    · rw [hz, yearF]
    · rw [show 300 - i = (300 - i - 1) + 1 by omega, yearF, if_neg h]
def dl (y : Int) : Int := if leapS y = true then 1 else 0
def remL (y m : Int) : Int := [365 + dl y, 334 + dl y, 306, 275, 245, 214, 184, 153, 122, 92, 61, 31, 0].getD (m - 1).toNat 0
theorem rem_step (y : Int) {m : Int} (h1 : 1 ≤ m) (h2 : m ≤ 12) : lenS y m + remL y (m + 1) = remL y m ∧ 28 ≤ lenS y m ∧ lenS y m ≤ 31 := by
  have hm : m = 1 ∨ m = 2 ∨ m = 3 ∨ m = 4 ∨ m = 5 ∨ m = 6 ∨ m = 7 ∨ m = 8 ∨ m = 9 ∨ m = 10 ∨ m = 11 ∨ m = 12 := by omega
  unfold lenS remL dl
  rcases hm with rfl | rfl | rfl | rfl | rfl | rfl | rfl | rfl | rfl | rfl | rfl | rfl <;> cases leapS y <;> simp <;> decide
theorem beg_step {y : Int} (h1 : 1970 ≤ y) (h2 : y ≤ 10000) : begS (y + 1) = begS y + 365 + dl y := by
  unfold begS leapsS dl leapS
  rw [show y + 1 - 1 = y by omega]
  rw [Int.tdiv_eq_ediv_of_nonneg (a := y) (by omega), Int.tdiv_eq_ediv_of_nonneg (a := y) (by omega), Int.tdiv_eq_ediv_of_nonneg (a := y) (by omega), Int.tdiv_eq_ediv_of_nonneg (a := y - 1) (by omega), Int.tdiv_eq_ediv_of_nonneg (a := y - 1) (by omega), Int.tdiv_eq_ediv_of_nonneg (a := y - 1) (by omega), Int.tmod_eq_emod_of_nonneg (by omega), Int.tmod_eq_emod_of_nonneg (by omega), Int.tmod_eq_emod_of_nonneg (by omega)]
  by_cases a : y % 4 = 0 <;> by_cases b : y % 100 = 0 <;> by_cases c : y % 400 = 0 <;> simp [a, b, c] <;> omega
def monF (y : Int) : Nat → Int → Int → Int × Int
  | 0, r, m => (r, m)
  | n + 1, r, m => if lenS y m ≤ r then monF y n (r - lenS y m) (m + 1) else (r, m)
def dateS (d : Int) : Int × Int × Int := (yearS d, (monF (yearS d) 13 (d - begS (yearS d)) 1).2, (monF (yearS d) 13 (d - begS (yearS d)) 1).1 + 1)
theorem yearF_spec : ∀ (n : Nat) (y d : Int), 1970 ≤ y → y + n ≤ 10000 → begS y ≤ d → d < 365 * (y + n - 1970) → begS (yearF n y d) ≤ d ∧ d < begS (yearF n y d + 1) ∧ y ≤ yearF n y d ∧ yearF n y d ≤ y + n
  | 0, y, d, h1, h2, h3, h4 => by
    have := begS_ge h1 (by omega)
    simp only [Int.natCast_zero, Int.add_zero] at h4
    omega
  | n + 1, y, d, h1, h2, h3, h4 => by
    unfold yearF
    split
    · rename_i h
      have := yearF_spec n (y + 1) d (by omega) (by omega) h (by omega)
      omega
    · omega
theorem begS_le {y : Int} (h1 : 1970 ≤ y) (h2 : y ≤ 10000) : begS y ≤ 366 * (y - 1970) := by
  unfold begS leapsS
  rw [Int.tdiv_eq_ediv_of_nonneg (by omega), Int.tdiv_eq_ediv_of_nonneg (by omega), Int.tdiv_eq_ediv_of_nonneg (by omega)]
  have e : (1969 : Int).tdiv 4 - (1969 : Int).tdiv 100 + (1969 : Int).tdiv 400 = 477 := by decide
  rw [e]; omega
theorem yearS_spec {d : Int} (h0 : 0 ≤ d) (h1 : d ≤ 90000) : begS (yearS d) ≤ d ∧ d < begS (yearS d + 1) ∧ 1970 ≤ yearS d ∧ yearS d ≤ 2600 := by
  have hb := begS_le (y := 1970 + d / 366) (by omega) (by omega)
  have := yearF_spec 300 (1970 + d / 366) d (by omega) (by omega) (by omega) (by omega)
  unfold yearS; omega
theorem date_c (d : Int) (h0 : 0 ≤ d) (h1 : d ≤ 84005) : PureC G.P 97 [vi d] (fun r => r = .tup 4 (nthP [vi (dateS d).1, vi (dateS d).2.1, vi (dateS d).2.2, vb true])) := by
  obtain ⟨y1, y2, y3, y4⟩ := yearS_spec h0 (by omega : d ≤ 90000)
  have c0 := calvalid_c d
  rw [decide_eq_true h0, decide_eq_true h1] at c0
  have c1 := yearOf_c d h0 (by omega)
  have c2 := begin_c (yearS d) (by omega) (by omega)
  have hs := beg_step y3 (by omega)
  have hg := begS_ge y3 (by omega)
  have hl := begS_le y3 (by omega)
  unfold dateS
  generalize yearS d = y at *
  have hw : IntKind.i64.wrap (d - begS y) = d - begS y := w64 (by omega) (by omega)
  have hdl : 0 ≤ dl y ∧ dl y ≤ 1 := by unfold dl; split <;> omega
  have hr1 : remL y 1 = 365 + dl y := rfl
  refine pure_of (G := G.toPg) (fn := Tryd.f97) Tryd.func97 rfl rfl rfl ?_; intro Γ hk
  repeat' (first | refine yo ?_ ?_ | refine yw ?_ ?_ | refine yk ?_ ?_ | exact trivial | with_reducible refine wA ?_ ?_ | refine ys ?_ ?_ | refine xs_done ?_ | refine yl ?_ ?_ | refine z1 c0 ?_ | refine z2 c0 ?_ | refine z3 c0 ?_ | refine z4 c0 ?_ | refine z5 c0 ?_ | refine z1 c1 ?_ | refine z2 c1 ?_ | refine z3 c1 ?_ | refine z4 c1 ?_ | refine z5 c1 ?_ | refine z1 c2 ?_ | refine z2 c2 ?_ | refine z3 c2 ?_ | refine z4 c2 ?_ | refine z5 c2 ?_ | refine w8 ?_ | refine w9 ?_ | refine w1 ?_ | refine w2 ?_ | refine w3 ?_ | refine w4 ?_ | refine w5 ?_ | refine w6 ?_ | refine w7 ?_ | refine yo0 ?_ ?_ | refine yw0 ?_ ?_ | exact qq | fail)
  rw [hw]
  refine pcan (st' := ⟨[(6, vi y), (7, vi (d - begS y)), (8, vi ((1 : Nat) : Int))], []⟩) (can_rowsv [] (k0_sel hk rfl) rfl .nil tmq) ?_
  refine ploop (fun q st => ∃ (m : Nat) (r : Int), 1 ≤ m ∧ m ≤ 12 ∧ 0 ≤ r ∧ r < remL y m ∧ r ≤ 400 ∧ monF y (14 - m) r m = monF y 13 (d - begS y) 1 ∧ q = 14 - m ∧ st = ⟨[(6, vi y), (7, vi r), (8, vi m)], []⟩) 13 ⟨1, d - begS y, by omega, by omega, by omega, by rw [show (((1 : Nat) : Int)) = 1 from rfl, hr1]; omega, by omega, rfl, by omega, rfl⟩ ?_
  rintro _ _ ⟨m, r, m1, m2, r0, r1, r2, hv, rfl, rfl⟩
  obtain ⟨e1, e2, e3⟩ := rem_step y (m := m) (by omega) (by omega)
  have c3 := length_c y m ⟨by omega, by omega⟩
  have hw2 : IntKind.i64.wrap (r - lenS y m) = r - lenS y m := w64 (by omega) (by omega)
  have hw3 : IntKind.i64.wrap ((m : Int) + 1) = ((m + 1 : Nat) : Int) := w64 (by omega) (by omega)
  have hw4 : IntKind.i64.wrap (r + 1) = r + 1 := w64 (by omega) (by omega)
  repeat' (first | refine yo ?_ ?_ | refine yw ?_ ?_ | refine yk ?_ ?_ | exact trivial | with_reducible refine wA ?_ ?_ | refine ys ?_ ?_ | refine xs_done ?_ | refine yl ?_ ?_ | refine z1 c3 ?_ | refine z2 c3 ?_ | refine z3 c3 ?_ | refine z4 c3 ?_ | refine z5 c3 ?_ | refine w8 ?_ | refine w9 ?_ | refine w1 ?_ | refine w2 ?_ | refine w3 ?_ | refine w4 ?_ | refine w5 ?_ | refine w6 ?_ | refine w7 ?_ | refine yo0 ?_ ?_ | refine yw0 ?_ ?_ | exact qq | fail)
  refine pcond (b := decide (lenS y m ≤ r)) (eqB rfl) ?_ ?_ <;> intro h
  · have h := of_decide_eq_true h
    have hm11 : m ≠ 12 := fun e => by
      subst e
      have : remL y (((12 : Nat) : Int) + 1) = 0 := rfl
      omega
    repeat' (first | refine yo ?_ ?_ | refine yw ?_ ?_ | refine yk ?_ ?_ | exact trivial | with_reducible refine wA ?_ ?_ | refine ys ?_ ?_ | refine xs_done ?_ | refine yl ?_ ?_ | refine z1 c3 ?_ | refine z2 c3 ?_ | refine z3 c3 ?_ | refine z4 c3 ?_ | refine z5 c3 ?_ | refine w8 ?_ | refine w9 ?_ | refine w1 ?_ | refine w2 ?_ | refine w3 ?_ | refine w4 ?_ | refine w5 ?_ | refine w6 ?_ | refine w7 ?_ | refine yo0 ?_ ?_ | refine yw0 ?_ ?_ | exact qq | fail)
    rw [hw2, hw3]
    have hf : monF y (14 - (m + 1)) (r - lenS y m) ((m + 1 : Nat) : Int) = monF y 13 (d - begS y) 1 := by
      rw [show 14 - m = (14 - (m + 1)) + 1 by omega, monF, if_pos h] at hv; exact hv
    exact kloop_next (st' := ⟨[(6, vi y), (7, vi (r - lenS y m)), (8, vi ((m + 1 : Nat) : Int))], []⟩) (14 - (m + 1)) (can_rowsv [] (k0_sel hk rfl) rfl .nil tmq) (by omega) ⟨m + 1, r - lenS y m, by omega, by omega, by omega, by rw [show (((m + 1 : Nat) : Int)) = (m : Int) + 1 by omega]; omega, by omega, hf, rfl, rfl⟩
  · have h := of_decide_eq_false h
    repeat' (first | refine yo ?_ ?_ | refine yw ?_ ?_ | refine yk ?_ ?_ | exact trivial | with_reducible refine wA ?_ ?_ | refine ys ?_ ?_ | refine xs_done ?_ | refine yl ?_ ?_ | refine w8 ?_ | refine w9 ?_ | refine w1 ?_ | refine w2 ?_ | refine w3 ?_ | refine w4 ?_ | refine w5 ?_ | refine w6 ?_ | refine w7 ?_ | refine yo0 ?_ ?_ | refine yw0 ?_ ?_ | exact qq | fail)
    refine kretv rfl ⟨trivial, trivial, trivial, trivial, trivial⟩ rfl ?_
    rw [← hv, show 14 - m = (13 - m) + 1 by omega, monF, if_neg h, hw4]; rfl
theorem monF_bd (y : Int) : ∀ (n : Nat) (r m : Int), m ≤ (monF y n r m).2 ∧ (monF y n r m).2 ≤ m + n
  | 0, r, m => by unfold monF; omega
  | n + 1, r, m => by
    unfold monF
    split
    · have := monF_bd y n (r - lenS y m) (m + 1); omega
    · omega
def monthS (d : Int) : Int := ((dateS d).1 - 1970) * 12 + (dateS d).2.1 - 1
theorem month_c (d : Int) (h0 : 0 ≤ d) (h1 : d ≤ 84005) : PureC G.P 96 [vi d] (fun r => r = vi (monthS d)) := by
  have c1 := date_c d h0 h1
  obtain ⟨y1, y2, y3, y4⟩ := yearS_spec h0 (by omega : d ≤ 90000)
  have hb := monF_bd (yearS d) 13 (d - begS (yearS d)) 1
  have e1 : (dateS d).1 = yearS d := rfl
  have e2 : (dateS d).2.1 = (monF (yearS d) 13 (d - begS (yearS d)) 1).2 := rfl
  unfold monthS
  rw [← e1] at y3 y4
  rw [← e2] at hb
  generalize (dateS d).1 = y at *
  generalize (dateS d).2.1 = m at *
  refine pure_of (G := G.toPg) (fn := Tryd.f96) Tryd.func96 rfl rfl rfl ?_; intro Γ hk
  repeat' (first | refine yo ?_ ?_ | refine yw ?_ ?_ | refine yk ?_ ?_ | exact trivial | with_reducible refine wA ?_ ?_ | refine ys ?_ ?_ | refine xs_done ?_ | refine yl ?_ ?_ | refine z1 c1 ?_ | refine z2 c1 ?_ | refine z3 c1 ?_ | refine z4 c1 ?_ | refine z5 c1 ?_ | refine w8 ?_ | refine w9 ?_ | refine w1 ?_ | refine w2 ?_ | refine w3 ?_ | refine w4 ?_ | refine w5 ?_ | refine w6 ?_ | refine w7 ?_ | refine yo0 ?_ ?_ | refine yw0 ?_ ?_ | exact qq | fail)
  refine kretv rfl ⟨trivial, trivial⟩ rfl (eqI ?_)
  rw [w64 (n := y - 1970) (by omega) (by omega), w64 (n := (y - 1970) * 12) (by omega) (by omega), w64 (n := (y - 1970) * 12 + m) (by omega) (by omega), w64 (by omega) (by omega)]
def cumS (y : Int) : Nat → Int
  | 0 => 0
  | k + 1 => cumS y k + lenS y (k + 1)
theorem cumS_bd (y : Int) : ∀ k : Nat, k ≤ 12 → 0 ≤ cumS y k ∧ cumS y k ≤ 31 * k
  | 0, _ => by unfold cumS; omega
  | k + 1, h => by
    have := cumS_bd y k (by omega)
    have := rem_step y (m := k + 1) (by omega) (by omega)
    unfold cumS; omega
theorem cnum_c (y m d : Int) (y1 : 1970 ≤ y) (y2 : y ≤ 9000) (m1 : 1 ≤ m) (m2 : m ≤ 12) (d1 : 1 ≤ d) (d2 : d ≤ 31) : PureC G.P 98 [vi y, vi m, vi d] (fun r => r = vi (begS y + cumS y (m.toNat - 1) + d - 1)) := by
  have c1 := begin_c y (by omega) (by omega)
  have hl := begS_le y1 (by omega)
  have hg := begS_ge y1 (by omega)
  refine pure_of (G := G.toPg) (fn := Tryd.f98) Tryd.func98 rfl rfl rfl ?_; intro Γ hk
  repeat' (first | refine yo ?_ ?_ | refine yw ?_ ?_ | refine yk ?_ ?_ | exact trivial | with_reducible refine wA ?_ ?_ | refine ys ?_ ?_ | refine xs_done ?_ | refine yl ?_ ?_ | refine z1 c1 ?_ | refine z2 c1 ?_ | refine z3 c1 ?_ | refine z4 c1 ?_ | refine z5 c1 ?_ | refine w8 ?_ | refine w9 ?_ | refine w1 ?_ | refine w2 ?_ | refine w3 ?_ | refine w4 ?_ | refine w5 ?_ | refine w6 ?_ | refine w7 ?_ | refine yo0 ?_ ?_ | refine yw0 ?_ ?_ | exact qq | fail)
  refine pcan (st' := ⟨[(0, vi y), (1, vi m), (2, vi d), (7, vi (begS y + cumS y 0)), (8, vi ((0 + 1 : Nat) : Int))], []⟩) (can_rowsv [] (k0_sel hk rfl) rfl .nil (by exact ⟨PEq.refl _, PEq.refl _, PEq.refl _, by rw [show begS y + cumS y 0 = begS y from Int.add_zero _]; exact PEq.refl _, PEq.refl _, trivial⟩)) ?_
  refine ploop (fun q st => ∃ k : Nat, (k : Int) + 1 ≤ m ∧ q = 20 - k ∧ st = ⟨[(0, vi y), (1, vi m), (2, vi d), (7, vi (begS y + cumS y k)), (8, vi ((k + 1 : Nat) : Int))], []⟩) 20 ⟨0, by omega, by omega, rfl⟩ ?_
  rintro _ _ ⟨k, hk1, rfl, rfl⟩
  have hc := cumS_bd y k (by omega)
  repeat' (first | refine yo ?_ ?_ | refine yw ?_ ?_ | refine yk ?_ ?_ | exact trivial | with_reducible refine wA ?_ ?_ | refine ys ?_ ?_ | refine xs_done ?_ | refine yl ?_ ?_ | refine w8 ?_ | refine w9 ?_ | refine w1 ?_ | refine w2 ?_ | refine w3 ?_ | refine w4 ?_ | refine w5 ?_ | refine w6 ?_ | refine w7 ?_ | refine yo0 ?_ ?_ | refine yw0 ?_ ?_ | exact qq | fail)
  refine pcond rfl ?_ ?_ <;> intro h <;> simp at h
  · have c3 := length_c y ((k + 1 : Nat) : Int) ⟨by omega, by omega⟩
    have hr := rem_step y (m := ((k + 1 : Nat) : Int)) (by omega) (by omega)
    have hw2 : IntKind.i64.wrap (begS y + cumS y k + lenS y ((k + 1 : Nat) : Int)) = begS y + cumS y (k + 1) := by
      rw [w64 (by omega) (by omega)]; show _ = begS y + (cumS y k + lenS y ((k : Int) + 1)); rw [show (((k + 1 : Nat) : Int)) = (k : Int) + 1 by omega]; omega
    have hw3 : IntKind.i64.wrap (((k + 1 : Nat) : Int) + 1) = ((k + 1 + 1 : Nat) : Int) := w64 (by omega) (by omega)
    repeat' (first | refine yo ?_ ?_ | refine yw ?_ ?_ | refine yk ?_ ?_ | exact trivial | with_reducible refine wA ?_ ?_ | refine ys ?_ ?_ | refine xs_done ?_ | refine yl ?_ ?_ | refine z1 c3 ?_ | refine z2 c3 ?_ | refine z3 c3 ?_ | refine z4 c3 ?_ | refine z5 c3 ?_ | refine w8 ?_ | refine w9 ?_ | refine w1 ?_ | refine w2 ?_ | refine w3 ?_ | refine w4 ?_ | refine w5 ?_ | refine w6 ?_ | refine w7 ?_ | refine yo0 ?_ ?_ | refine yw0 ?_ ?_ | exact qq | fail)
    rw [hw2, hw3]
    exact kloop_next (st' := ⟨[(0, vi y), (1, vi m), (2, vi d), (7, vi (begS y + cumS y (k + 1))), (8, vi ((k + 1 + 1 : Nat) : Int))], []⟩) (20 - (k + 1)) (can_rowsv [] (k0_sel hk rfl) rfl .nil tmq) (by omega) ⟨k + 1, by omega, rfl, rfl⟩
  · repeat' (first | refine yo ?_ ?_ | refine yw ?_ ?_ | refine yk ?_ ?_ | exact trivial | with_reducible refine wA ?_ ?_ | refine ys ?_ ?_ | refine xs_done ?_ | refine yl ?_ ?_ | refine w8 ?_ | refine w9 ?_ | refine w1 ?_ | refine w2 ?_ | refine w3 ?_ | refine w4 ?_ | refine w5 ?_ | refine w6 ?_ | refine w7 ?_ | refine yo0 ?_ ?_ | refine yw0 ?_ ?_ | exact qq | fail)
    refine kretv rfl ⟨trivial, trivial⟩ rfl (eqI ?_)
    rw [show m.toNat - 1 = k by omega, w64 (n := begS y + cumS y k + d) (by omega) (by omega), w64 (by omega) (by omega)]
def firstS (n : Int) : Int := begS (1970 + n.tdiv 12) + cumS (1970 + n.tdiv 12) ((n.tmod 12 + 1).toNat - 1) + 1 - 1
def mlenS (n : Int) : Int := lenS (1970 + n.tdiv 12) (n.tmod 12 + 1)
theorem m12 {n : Int} (h0 : 0 ≤ n) (h1 : n ≤ 2759) : 0 ≤ n.tdiv 12 ∧ n.tdiv 12 ≤ 230 ∧ 0 ≤ n.tmod 12 ∧ n.tmod 12 ≤ 11 := by
  rw [Int.tdiv_eq_ediv_of_nonneg h0, Int.tmod_eq_emod_of_nonneg h0]; omega
theorem n12 : (12 : Int) ≠ 0 := by decide
theorem first_c' (n : Int) (h0 : 0 ≤ n) (h1 : n ≤ 2759) : PureC G.P 85 [vi n] (fun r => r = .tup 2 (nthP [vi (firstS n), vb true])) := by
  obtain ⟨b1, b2, b3, b4⟩ := m12 h0 h1
  have w1 : IntKind.i64.wrap (n.tdiv 12) = n.tdiv 12 := w64 (by omega) (by omega)
  have w2 : IntKind.i64.wrap (1970 + n.tdiv 12) = 1970 + n.tdiv 12 := w64 (by omega) (by omega)
  have w3 : IntKind.i64.wrap (n.tmod 12 + 1) = n.tmod 12 + 1 := w64 (by omega) (by omega)
  have c1 := cnum_c (1970 + n.tdiv 12) (n.tmod 12 + 1) 1 (by omega) (by omega) (by omega) (by omega) (by omega) (by omega)
  rw [show [vi (1970 + n.tdiv 12), vi (n.tmod 12 + 1), vi 1] = [vi (IntKind.i64.wrap (1970 + IntKind.i64.wrap (n.tdiv 12))), vi (IntKind.i64.wrap (n.tmod 12 + 1)), vi 1] by rw [w1, w2, w3]] at c1
  refine pure_of (G := G.toPg) (fn := Tryd.f85) Tryd.func85 rfl rfl rfl ?_; intro Γ hk
  repeat' (first | refine yo ?_ ?_ | refine yw ?_ ?_ | refine yk ?_ ?_ | exact trivial | with_reducible refine wA ?_ ?_ | refine ys ?_ ?_ | refine xs_done ?_ | refine yl ?_ ?_ | refine w8 ?_ | refine w9 ?_ | refine w1 ?_ | refine w2 ?_ | refine w3 ?_ | refine w4 ?_ | refine w5 ?_ | refine w6 ?_ | refine w7 ?_ | refine yo0 ?_ ?_ | refine yw0 ?_ ?_ | exact qq | fail)
  refine pcond (b := false) ?_ ?_ ?_
  · refine eqB ?_
    rw [decide_eq_false (show ¬ n < 0 by omega), decide_eq_false (show ¬ 2759 < n by omega)]; rfl
  · intro h; cases h
  · intro _
    repeat' (first | refine yo ?_ ?_ | refine yw ?_ ?_ | refine yk ?_ ?_ | exact trivial | with_reducible refine wA ?_ ?_ | refine ys ?_ ?_ | refine xs_done ?_ | refine yl ?_ ?_ | refine z1 c1 ?_ | refine z2 c1 ?_ | refine z3 c1 ?_ | refine z4 c1 ?_ | refine z5 c1 ?_ | refine w8 ?_ | refine w9 ?_ | refine w1 ?_ | refine w2 ?_ | refine w3 ?_ | refine w4 ?_ | refine w5 ?_ | refine w6 ?_ | refine w7 ?_ | refine yo0 ?_ ?_ | refine yw0 ?_ ?_ | exact qq | fail)
    any_goals (first | exact n12 | skip)
    exact kretv rfl ⟨trivial, trivial, trivial⟩ rfl rfl
theorem mlength_c (n : Int) (h0 : 0 ≤ n) (h1 : n ≤ 2759) : PureC G.P 86 [vi n] (fun r => r = vi (mlenS n)) := by
  obtain ⟨b1, b2, b3, b4⟩ := m12 h0 h1
  have w1 : IntKind.i64.wrap (n.tdiv 12) = n.tdiv 12 := w64 (by omega) (by omega)
  have w2 : IntKind.i64.wrap (1970 + n.tdiv 12) = 1970 + n.tdiv 12 := w64 (by omega) (by omega)
  have w3 : IntKind.i64.wrap (n.tmod 12 + 1) = n.tmod 12 + 1 := w64 (by omega) (by omega)
  have c1 := length_c (1970 + n.tdiv 12) (n.tmod 12 + 1) ⟨by omega, by omega⟩
  rw [show [vi (1970 + n.tdiv 12), vi (n.tmod 12 + 1)] = [vi (IntKind.i64.wrap (1970 + IntKind.i64.wrap (n.tdiv 12))), vi (IntKind.i64.wrap (n.tmod 12 + 1))] by rw [w1, w2, w3]] at c1
  refine pure_of (G := G.toPg) (fn := Tryd.f86) Tryd.func86 rfl rfl rfl ?_; intro Γ hk
  repeat' (first | refine yo ?_ ?_ | refine yw ?_ ?_ | refine yk ?_ ?_ | exact trivial | with_reducible refine wA ?_ ?_ | refine ys ?_ ?_ | refine xs_done ?_ | refine yl ?_ ?_ | refine w8 ?_ | refine w9 ?_ | refine w1 ?_ | refine w2 ?_ | refine w3 ?_ | refine w4 ?_ | refine w5 ?_ | refine w6 ?_ | refine w7 ?_ | refine yo0 ?_ ?_ | refine yw0 ?_ ?_ | exact qq | fail)
  refine pcond (b := false) ?_ ?_ ?_
  · refine eqB ?_
    rw [decide_eq_false (show ¬ n < 0 by omega), decide_eq_false (show ¬ 2759 < n by omega)]; rfl
  · intro h; cases h
  · intro _
    repeat' (first | refine yo ?_ ?_ | refine yw ?_ ?_ | refine yk ?_ ?_ | exact trivial | with_reducible refine wA ?_ ?_ | refine ys ?_ ?_ | refine xs_done ?_ | refine yl ?_ ?_ | refine z1 c1 ?_ | refine z2 c1 ?_ | refine z3 c1 ?_ | refine z4 c1 ?_ | refine z5 c1 ?_ | refine w8 ?_ | refine w9 ?_ | refine w1 ?_ | refine w2 ?_ | refine w3 ?_ | refine w4 ?_ | refine w5 ?_ | refine w6 ?_ | refine w7 ?_ | refine yo0 ?_ ?_ | refine yw0 ?_ ?_ | exact qq | fail)
    any_goals (first | exact n12 | skip)
    exact kretv rfl ⟨trivial, trivial⟩ rfl rfl
end Go.Proofs.YtcghpepighboaaaDoor
