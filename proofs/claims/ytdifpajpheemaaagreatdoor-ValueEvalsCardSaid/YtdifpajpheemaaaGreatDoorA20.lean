/- package calendar: leap years, lengths of months. -/
import Derived.Test.YtdifpajpheemaaaGreatDoorA08
import Derived.Test.YtdifpajpheemaaaGreatDoorA04
import Derived.Test.YtdifpajpheemaaaGreatDoorA05
import Derived.Carry
import Derived.Test.YtdifpajpheemaaaGreatDoorA10
import Derived.Test.YtdifpajpheemaaaGreatDoorA13
import Derived.Test.YtdifpajpheemaaaGreatDoorA01
import Derived.Test.YtdifpajpheemaaaGreatDoorRows
import Derived.ProofKit
import Derived.LaidMore
import Derived.FnData
import Derived.OpenShut
set_option linter.unusedSimpArgs false
set_option linter.unusedVariables false
set_option maxRecDepth 100000
namespace Go.Proofs.YtdifpajpheemaaaGreatDoor
def leapS (y : Int) : Bool := decide (y.tmod 4 = 0) && (decide (y.tmod 100 ≠ 0) || decide (y.tmod 400 = 0))
abbrev lenL : List Int := [31, 28, 31, 30, 31, 30, 31, 31, 30, 31, 30, 31]
def lenS (y m : Int) : Int := if m = 2 ∧ leapS y = true then 29 else lenL.getD (m - 1).toNat 0
theorem beqd (a b : Int) : (a == b) = decide (a = b) := by rw [Bool.eq_iff_iff]; simp
theorem n4 : (4 : Int) ≠ 0 := by decide
theorem n100 : (100 : Int) ≠ 0 := by decide
theorem n400 : (400 : Int) ≠ 0 := by decide
theorem leap_c (y : Int) : PureC G.P 127 [vi y] (fun r => r = vb (leapS y)) := by
  refine pure_of (G := G.toPg) (fn := Tryz.f127) Tryz.func127 rfl rfl rfl ?_; intro Γ hk
  repeat' (first | refine yo ?_ ?_ | refine yw ?_ ?_ | refine yk ?_ ?_ | exact trivial | with_reducible refine wA ?_ ?_ | refine ys ?_ ?_ | refine xs_done ?_ | refine yl ?_ ?_ | refine w8 ?_ | refine w9 ?_ | refine w1 ?_ | refine w2 ?_ | refine w3 ?_ | refine w4 ?_ | refine w5 ?_ | refine w6 ?_ | refine w7 ?_ | refine yo0 ?_ ?_ | refine yw0 ?_ ?_ | exact qq | fail)
  any_goals (first | exact n4 | exact n100 | exact n400 | exact fun h => ⟨h, n100⟩ | exact fun h => ⟨h, n400⟩ | exact fun h => ⟨h.1, n400⟩ | skip)
  refine kretv rfl ⟨trivial, trivial⟩ rfl (eqB ?_)
  unfold leapS
  rw [show (y.tmod 100 != 0) = decide (y.tmod 100 ≠ 0) from by rw [Bool.eq_iff_iff]; simp, beqd, beqd]
  cases decide (y.tmod 4 = 0) <;> cases decide (y.tmod 100 ≠ 0) <;> rfl
def leapsS (y : Int) : Int := y.tdiv 4 - y.tdiv 100 + y.tdiv 400
theorem tdiv_bd {y k : Int} (h1 : -1000000 ≤ y) (h2 : y ≤ 1000000) (hk : 0 < k) : -1000000 ≤ y.tdiv k ∧ y.tdiv k ≤ 1000000 := by
  have := Int.natAbs_tdiv_le_natAbs y k
  omega
theorem leaps_c (y : Int) (h1 : -1000000 ≤ y) (h2 : y ≤ 1000000) : PureC G.P 128 [vi y] (fun r => r = vi (leapsS y)) := by
  have b1 := tdiv_bd h1 h2 (show (0 : Int) < 4 by decide)
  have b2 := tdiv_bd h1 h2 (show (0 : Int) < 100 by decide)
  have b3 := tdiv_bd h1 h2 (show (0 : Int) < 400 by decide)
  refine pure_of (G := G.toPg) (fn := Tryz.f128) Tryz.func128 rfl rfl rfl ?_; intro Γ hk
  repeat' (first | refine yo ?_ ?_ | refine yw ?_ ?_ | refine yk ?_ ?_ | exact trivial | with_reducible refine wA ?_ ?_ | refine ys ?_ ?_ | refine xs_done ?_ | refine yl ?_ ?_ | refine w8 ?_ | refine w9 ?_ | refine w1 ?_ | refine w2 ?_ | refine w3 ?_ | refine w4 ?_ | refine w5 ?_ | refine w6 ?_ | refine w7 ?_ | refine yo0 ?_ ?_ | refine yw0 ?_ ?_ | exact qq | fail)
  any_goals (first | exact n4 | exact n100 | exact n400 | exact fun h => ⟨h, n100⟩ | exact fun h => ⟨h, n400⟩ | exact fun h => ⟨h.1, n400⟩ | skip)
  refine kretv rfl ⟨trivial, trivial⟩ rfl (eqI ?_)
  unfold leapsS
  rw [w64 (n := y.tdiv 4) (by omega) (by omega), w64 (n := y.tdiv 100) (by omega) (by omega), w64 (n := y.tdiv 400) (by omega) (by omega), w64 (n := y.tdiv 4 - y.tdiv 100) (by omega) (by omega), w64 (by omega) (by omega)]
theorem length_c (y m : Int) (hm : 1 ≤ m ∧ m ≤ 12) : PureC G.P 119 [vi y, vi m] (fun r => r = vi (lenS y m)) := by
  have c1 := leap_c y
  have hw : IntKind.i64.wrap (m - 1) = m - 1 := w64 (by omega) (by omega)
  refine pure_of (G := G.toPg) (fn := Tryz.f119) Tryz.func119 rfl rfl rfl ?_; intro Γ hk
  repeat' (first | refine yo ?_ ?_ | refine yw ?_ ?_ | refine yk ?_ ?_ | exact trivial | with_reducible refine wA ?_ ?_ | refine ys ?_ ?_ | refine xs_done ?_ | refine yl ?_ ?_ | refine z1 c1 ?_ | refine z2 c1 ?_ | refine z3 c1 ?_ | refine z4 c1 ?_ | refine z5 c1 ?_ | refine w8 ?_ | refine w9 ?_ | refine w1 ?_ | refine w2 ?_ | refine w3 ?_ | refine w4 ?_ | refine w5 ?_ | refine w6 ?_ | refine w7 ?_ | refine yo0 ?_ ?_ | refine yw0 ?_ ?_ | exact qq | fail)
  refine pcond (b := decide (m = 2 ∧ leapS y = true)) ?_ ?_ ?_
  · refine eqB ?_
    rw [beqd]
    by_cases h : m = 2 <;> simp [h]
  · intro h
    have h := of_decide_eq_true h
    repeat' (first | refine yo ?_ ?_ | refine yw ?_ ?_ | refine yk ?_ ?_ | exact trivial | with_reducible refine wA ?_ ?_ | refine ys ?_ ?_ | refine xs_done ?_ | refine yl ?_ ?_ | refine w8 ?_ | refine w9 ?_ | refine w1 ?_ | refine w2 ?_ | refine w3 ?_ | refine w4 ?_ | refine w5 ?_ | refine w6 ?_ | refine w7 ?_ | refine yo0 ?_ ?_ | refine yw0 ?_ ?_ | exact qq | fail)
    refine kretv rfl ⟨trivial, trivial⟩ rfl (eqI ?_)
    rw [lenS, if_pos h]
  · intro h
    have h := of_decide_eq_false h
    repeat' (first | refine yo ?_ ?_ | refine yw ?_ ?_ | refine yk ?_ ?_ | exact trivial | with_reducible refine wA ?_ ?_ | refine ys ?_ ?_ | refine xs_done ?_ | refine yl ?_ ?_ | refine w8 ?_ | refine w9 ?_ | refine w1 ?_ | refine w2 ?_ | refine w3 ?_ | refine w4 ?_ | refine w5 ?_ | refine w6 ?_ | refine w7 ?_ | refine yo0 ?_ ?_ | refine yw0 ?_ ?_ | exact qq | fail)
    · exact (show 0 + (IntKind.i64.wrap (m - 1)).toNat < 12 from by rw [hw]; omega)
    refine kretv rfl ⟨trivial, trivial⟩ rfl (eqI ?_)
    rw [lenS, if_neg h, hw, Nat.zero_add]
def begS (y : Int) : Int := 365 * (y - 1970) + leapsS (y - 1) - leapsS 1969
theorem leapsS_bd {y : Int} (h1 : -100000 ≤ y) (h2 : y ≤ 100000) : -300000 ≤ leapsS y ∧ leapsS y ≤ 300000 := by
  have b1 := Int.natAbs_tdiv_le_natAbs y 4
  have b2 := Int.natAbs_tdiv_le_natAbs y 100
  have b3 := Int.natAbs_tdiv_le_natAbs y 400
  unfold leapsS; omega
theorem begin_c (y : Int) (h1 : -10000 ≤ y) (h2 : y ≤ 10000) : PureC G.P 126 [vi y] (fun r => r = vi (begS y)) := by
  have hw : IntKind.i64.wrap (y - 1) = y - 1 := w64 (by omega) (by omega)
  have c1 := leaps_c (y - 1) (by omega) (by omega)
  rw [← hw] at c1
  have c2 := leaps_c 1969 (by omega) (by omega)
  have b1 := leapsS_bd (y := y - 1) (by omega) (by omega)
  have b2 := leapsS_bd (y := 1969) (by omega) (by omega)
  refine pure_of (G := G.toPg) (fn := Tryz.f126) Tryz.func126 rfl rfl rfl ?_; intro Γ hk
  repeat' (first | refine yo ?_ ?_ | refine yw ?_ ?_ | refine yk ?_ ?_ | exact trivial | with_reducible refine wA ?_ ?_ | refine ys ?_ ?_ | refine xs_done ?_ | refine yl ?_ ?_ | refine z1 c1 ?_ | refine z2 c1 ?_ | refine z3 c1 ?_ | refine z4 c1 ?_ | refine z5 c1 ?_ | refine z1 c2 ?_ | refine z2 c2 ?_ | refine z3 c2 ?_ | refine z4 c2 ?_ | refine z5 c2 ?_ | refine w8 ?_ | refine w9 ?_ | refine w1 ?_ | refine w2 ?_ | refine w3 ?_ | refine w4 ?_ | refine w5 ?_ | refine w6 ?_ | refine w7 ?_ | refine yo0 ?_ ?_ | refine yw0 ?_ ?_ | exact qq | fail)
  refine kretv rfl ⟨trivial, trivial⟩ rfl (eqI ?_)
  unfold begS
  rw [hw, w64 (n := y - 1970) (by omega) (by omega), w64 (n := 365 * (y - 1970)) (by omega) (by omega), w64 (n := 365 * (y - 1970) + leapsS (y - 1)) (by omega) (by omega), w64 (by omega) (by omega)]
theorem calvalid_c (d : Int) : PureC G.P 124 [vi d] (fun r => r = vb (decide (0 ≤ d) && decide (d ≤ 84005))) := by
  refine pure_of (G := G.toPg) (fn := Tryz.f124) Tryz.func124 rfl rfl rfl ?_; intro Γ hk
  repeat' (first | refine yo ?_ ?_ | refine yw ?_ ?_ | refine yk ?_ ?_ | exact trivial | with_reducible refine wA ?_ ?_ | refine ys ?_ ?_ | refine xs_done ?_ | refine yl ?_ ?_ | refine w8 ?_ | refine w9 ?_ | refine w1 ?_ | refine w2 ?_ | refine w3 ?_ | refine w4 ?_ | refine w5 ?_ | refine w6 ?_ | refine w7 ?_ | refine yo0 ?_ ?_ | refine yw0 ?_ ?_ | exact qq | fail)
  refine kretv rfl ⟨trivial, trivial⟩ rfl (eqB ?_)
  cases decide (0 ≤ d) <;> rfl
def yearF : Nat → Int → Int → Int
  | 0, y, _ => y
  | n + 1, y, d => if begS (y + 1) ≤ d then yearF n (y + 1) d else y
def yearS (d : Int) : Int := yearF 300 (1970 + d / 366) d
theorem begS_ge {y : Int} (h1 : 1970 ≤ y) (h2 : y ≤ 10000) : 365 * (y - 1970) ≤ begS y := by
  unfold begS leapsS
  rw [Int.tdiv_eq_ediv_of_nonneg (by omega), Int.tdiv_eq_ediv_of_nonneg (by omega), Int.tdiv_eq_ediv_of_nonneg (by omega)]
  have e : (1969 : Int).tdiv 4 - (1969 : Int).tdiv 100 + (1969 : Int).tdiv 400 = 477 := by decide
  rw [e]; omega
theorem yearOf_c (d : Int) (h0 : 0 ≤ d) (h1 : d ≤ 90000) : PureC G.P 125 [vi d] (fun r => r = vi (yearS d)) := by
  have hq : d.tdiv 366 = d / 366 := Int.tdiv_eq_ediv_of_nonneg h0
  have hw1 : IntKind.i64.wrap (1970 + IntKind.i64.wrap (d.tdiv 366)) = 1970 + d / 366 := by rw [hq, w64 (n := d / 366) (by omega) (by omega), w64 (by omega) (by omega)]
  refine pure_of (G := G.toPg) (fn := Tryz.f125) Tryz.func125 rfl rfl rfl ?_; intro Γ hk
  repeat' (first | refine yo ?_ ?_ | refine yw ?_ ?_ | refine yk ?_ ?_ | exact trivial | with_reducible refine wA ?_ ?_ | refine ys ?_ ?_ | refine xs_done ?_ | refine yl ?_ ?_ | refine w8 ?_ | refine w9 ?_ | refine w1 ?_ | refine w2 ?_ | refine w3 ?_ | refine w4 ?_ | refine w5 ?_ | refine w6 ?_ | refine w7 ?_ | refine yo0 ?_ ?_ | refine yw0 ?_ ?_ | exact qq | fail)
  · exact (show (366 : Int) ≠ 0 from by decide)
  rw [hw1]
  refine pcan (st' := ⟨[(0, vi d), (3, vi (1970 + d / 366 + (0 : Nat)))], []⟩) (can_rowsv [] (k0_sel hk rfl) rfl .nil (by exact ⟨PEq.refl _, by rw [show (1970 + d / 366 + ((0 : Nat) : Int)) = 1970 + d / 366 by omega]; exact PEq.refl _, trivial⟩)) ?_
  refine ploop (fun q st => ∃ i : Nat, 1970 + d / 366 + i ≤ 2300 ∧ yearF (300 - i) (1970 + d / 366 + i) d = yearS d ∧ q = 400 - i ∧ st = ⟨[(0, vi d), (3, vi (1970 + d / 366 + i))], []⟩) 400 ⟨0, by omega, by rw [show (1970 + d / 366 + ((0 : Nat) : Int)) = 1970 + d / 366 by omega]; rfl, by omega, rfl⟩ ?_
  rintro _ _ ⟨i, hi, hv, rfl, rfl⟩
  have hw2 : IntKind.i64.wrap (1970 + d / 366 + i + 1) = 1970 + d / 366 + i + 1 := w64 (by omega) (by omega)
  have c1 := begin_c (1970 + d / 366 + i + 1) (by omega) (by omega)
  have hg := begS_ge (y := 1970 + d / 366 + i + 1) (by omega) (by omega)
  rw [← hw2] at c1
  repeat' (first | refine yo ?_ ?_ | refine yw ?_ ?_ | refine yk ?_ ?_ | exact trivial | with_reducible refine wA ?_ ?_ | refine ys ?_ ?_ | refine xs_done ?_ | refine yl ?_ ?_ | refine z1 c1 ?_ | refine z2 c1 ?_ | refine z3 c1 ?_ | refine z4 c1 ?_ | refine z5 c1 ?_ | refine w8 ?_ | refine w9 ?_ | refine w1 ?_ | refine w2 ?_ | refine w3 ?_ | refine w4 ?_ | refine w5 ?_ | refine w6 ?_ | refine w7 ?_ | refine yo0 ?_ ?_ | refine yw0 ?_ ?_ | exact qq | fail)
  refine pcond (b := decide (begS (1970 + d / 366 + i + 1) ≤ d)) ?_ ?_ ?_
  · refine eqB ?_
    rw [hw2]
  · intro h
    have h := of_decide_eq_true h
    repeat' (first | refine yo ?_ ?_ | refine yw ?_ ?_ | refine yk ?_ ?_ | exact trivial | with_reducible refine wA ?_ ?_ | refine ys ?_ ?_ | refine xs_done ?_ | refine yl ?_ ?_ | refine w8 ?_ | refine w9 ?_ | refine w1 ?_ | refine w2 ?_ | refine w3 ?_ | refine w4 ?_ | refine w5 ?_ | refine w6 ?_ | refine w7 ?_ | refine yo0 ?_ ?_ | refine yw0 ?_ ?_ | exact qq | fail)
    rw [hw2]
    have hf : yearF (300 - (i + 1)) (1970 + d / 366 + i + 1) d = yearS d := by
      rw [show 300 - i = (300 - (i + 1)) + 1 by omega, yearF, if_pos h] at hv; exact hv
    exact kloop_next (st' := ⟨[(0, vi d), (3, vi (1970 + d / 366 + i + 1))], []⟩) (400 - (i + 1)) (can_rowsv [] (k0_sel hk rfl) rfl .nil tmq) (by omega) ⟨i + 1, by omega, by rw [show (1970 + d / 366 + ((i + 1 : Nat) : Int)) = 1970 + d / 366 + i + 1 by omega]; exact hf, rfl, by rw [show (1970 + d / 366 + ((i + 1 : Nat) : Int)) = 1970 + d / 366 + i + 1 by omega]⟩
  · intro h
    have h := of_decide_eq_false h
    repeat' (first | refine yo ?_ ?_ | refine yw ?_ ?_ | refine yk ?_ ?_ | exact trivial | with_reducible refine wA ?_ ?_ | refine ys ?_ ?_ | refine xs_done ?_ | refine yl ?_ ?_ | refine w8 ?_ | refine w9 ?_ | refine w1 ?_ | refine w2 ?_ | refine w3 ?_ | refine w4 ?_ | refine w5 ?_ | refine w6 ?_ | refine w7 ?_ | refine yo0 ?_ ?_ | refine yw0 ?_ ?_ | exact qq | fail)
    refine kretv rfl ⟨trivial, trivial⟩ rfl (eqI ?_)
    rw [← hv]
    by_cases hz : 300 - i = 0
    · rw [hz, yearF]
    · rw [show 300 - i = (300 - i - 1) + 1 by omega, yearF, if_neg h]
def dl (y : Int) : Int := if leapS y = true then 1 else 0
def remL (y m : Int) : Int := [365 + dl y, 334 + dl y, 306, 275, 245, 214, 184, 153, 122, 92, 61, 31, 0].getD (m - 1).toNat 0
theorem rem_step (y : Int) {m : Int} (h1 : 1 ≤ m) (h2 : m ≤ 12) : lenS y m + remL y (m + 1) = remL y m ∧ 28 ≤ lenS y m ∧ lenS y m ≤ 31 := by
  have hm : m = 1 ∨ m = 2 ∨ m = 3 ∨ m = 4 ∨ m = 5 ∨ m = 6 ∨ m = 7 ∨ m = 8 ∨ m = 9 ∨ m = 10 ∨ m = 11 ∨ m = 12 := by omega
  unfold lenS remL dl
  rcases hm with rfl | rfl | rfl | rfl | rfl | rfl | rfl | rfl | rfl | rfl | rfl | rfl <;> cases leapS y <;> simp <;> decide
theorem beg_step {y : Int} (h1 : 1970 ≤ y) (h2 : y ≤ 10000) : begS (y + 1) = begS y + 365 + dl y := by
  unfold begS leapsS dl leapS
  rw [show y + 1 - 1 = y by omega]
  rw [Int.tdiv_eq_ediv_of_nonneg (a := y) (by omega), Int.tdiv_eq_ediv_of_nonneg (a := y) (by omega), Int.tdiv_eq_ediv_of_nonneg (a := y) (by omega), Int.tdiv_eq_ediv_of_nonneg (a := y - 1) (by omega), Int.tdiv_eq_ediv_of_nonneg (a := y - 1) (by omega), Int.tdiv_eq_ediv_of_nonneg (a := y - 1) (by omega), Int.tmod_eq_emod_of_nonneg (by omega), Int.tmod_eq_emod_of_nonneg (by omega), Int.tmod_eq_emod_of_nonneg (by omega)]
  by_cases a : y % 4 = 0 <;> by_cases b : y % 100 = 0 <;> by_cases c : y % 400 = 0 <;> simp [a, b, c] <;> omega
def monF (y : Int) : Nat → Int → Int → Int × Int
  | 0, r, m => (r, m)
  | n + 1, r, m => if lenS y m ≤ r then monF y n (r - lenS y m) (m + 1) else (r, m)
def dateS (d : Int) : Int × Int × Int := (yearS d, (monF (yearS d) 13 (d - begS (yearS d)) 1).2, (monF (yearS d) 13 (d - begS (yearS d)) 1).1 + 1)
theorem yearF_spec : ∀ (n : Nat) (y d : Int), 1970 ≤ y → y + n ≤ 10000 → begS y ≤ d → d < 365 * (y + n - 1970) → begS (yearF n y d) ≤ d ∧ d < begS (yearF n y d + 1) ∧ y ≤ yearF n y d ∧ yearF n y d ≤ y + n
  | 0, y, d, h1, h2, h3, h4 => by
    have := begS_ge h1 (by omega)
    simp only [Int.natCast_zero, Int.add_zero] at h4
    omega
  | n + 1, y, d, h1, h2, h3, h4 => by
    unfold yearF
    split
    · rename_i h
      have := yearF_spec n (y + 1) d (by omega) (by omega) h (by omega)
      omega
    · omega
theorem begS_le {y : Int} (h1 : 1970 ≤ y) (h2 : y ≤ 10000) : begS y ≤ 366 * (y - 1970) := by
  unfold begS leapsS
  rw [Int.tdiv_eq_ediv_of_nonneg (by omega), Int.tdiv_eq_ediv_of_nonneg (by omega), Int.tdiv_eq_ediv_of_nonneg (by omega)]
  have e : (1969 : Int).tdiv 4 - (1969 : Int).tdiv 100 + (1969 : Int).tdiv 400 = 477 := by decide
  rw [e]; omega
theorem yearS_spec {d : Int} (h0 : 0 ≤ d) (h1 : d ≤ 90000) : begS (yearS d) ≤ d ∧ d < begS (yearS d + 1) ∧ 1970 ≤ yearS d ∧ yearS d ≤ 2600 := by
  have hb := begS_le (y := 1970 + d / 366) (by omega) (by omega)
  have := yearF_spec 300 (1970 + d / 366) d (by omega) (by omega) (by omega) (by omega)
  unfold yearS; omega
theorem date_c (d : Int) (h0 : 0 ≤ d) (h1 : d ≤ 84005) : PureC G.P 117 [vi d] (fun r => r = .tup 4 (nthP [vi (dateS d).1, vi (dateS d).2.1, vi (dateS d).2.2, vb true])) := by
  obtain ⟨y1, y2, y3, y4⟩ := yearS_spec h0 (by omega : d ≤ 90000)
  have c0 := calvalid_c d
  rw [decide_eq_true h0, decide_eq_true h1] at c0
  have c1 := yearOf_c d h0 (by omega)
  have c2 := begin_c (yearS d) (by omega) (by omega)
  have hs := beg_step y3 (by omega)
  have hg := begS_ge y3 (by omega)
  have hl := begS_le y3 (by omega)
  unfold dateS
  generalize yearS d = y at *
  have hw : IntKind.i64.wrap (d - begS y) = d - begS y := w64 (by omega) (by omega)
  have hdl : 0 ≤ dl y ∧ dl y ≤ 1 := by unfold dl; split <;> omega
  have hr1 : remL y 1 = 365 + dl y := rfl
  refine pure_of (G := G.toPg) (fn := Tryz.f117) Tryz.func117 rfl rfl rfl ?_; intro Γ hk
  repeat' (first | refine yo ?_ ?_ | refine yw ?_ ?_ | refine yk ?_ ?_ | exact trivial | with_reducible refine wA ?_ ?_ | refine ys ?_ ?_ | refine xs_done ?_ | refine yl ?_ ?_ | refine z1 c0 ?_ | refine z2 c0 ?_ | refine z3 c0 ?_ | refine z4 c0 ?_ | refine z5 c0 ?_ | refine z1 c1 ?_ | refine z2 c1 ?_ | refine z3 c1 ?_ | refine z4 c1 ?_ | refine z5 c1 ?_ | refine z1 c2 ?_ | refine z2 c2 ?_ | refine z3 c2 ?_ | refine z4 c2 ?_ | refine z5 c2 ?_ | refine w8 ?_ | refine w9 ?_ | refine w1 ?_ | refine w2 ?_ | refine w3 ?_ | refine w4 ?_ | refine w5 ?_ | refine w6 ?_ | refine w7 ?_ | refine yo0 ?_ ?_ | refine yw0 ?_ ?_ | exact qq | fail)
  rw [hw]
  refine pcan (st' := ⟨[(6, vi y), (7, vi (d - begS y)), (8, vi ((1 : Nat) : Int))], []⟩) (can_rowsv [] (k0_sel hk rfl) rfl .nil tmq) ?_
  refine ploop (fun q st => ∃ (m : Nat) (r : Int), 1 ≤ m ∧ m ≤ 12 ∧ 0 ≤ r ∧ r < remL y m ∧ r ≤ 400 ∧ monF y (14 - m) r m = monF y 13 (d - begS y) 1 ∧ q = 14 - m ∧ st = ⟨[(6, vi y), (7, vi r), (8, vi m)], []⟩) 13 ⟨1, d - begS y, by omega, by omega, by omega, by rw [show (((1 : Nat) : Int)) = 1 from rfl, hr1]; omega, by omega, rfl, by omega, rfl⟩ ?_
  rintro _ _ ⟨m, r, m1, m2, r0, r1, r2, hv, rfl, rfl⟩
  obtain ⟨e1, e2, e3⟩ := rem_step y (m := m) (by omega) (by omega)
  have c3 := length_c y m ⟨by omega, by omega⟩
  have hw2 : IntKind.i64.wrap (r - lenS y m) = r - lenS y m := w64 (by omega) (by omega)
  have hw3 : IntKind.i64.wrap ((m : Int) + 1) = ((m + 1 : Nat) : Int) := w64 (by omega) (by omega)
  have hw4 : IntKind.i64.wrap (r + 1) = r + 1 := w64 (by omega) (by omega)
  repeat' (first | refine yo ?_ ?_ | refine yw ?_ ?_ | refine yk ?_ ?_ | exact trivial | with_reducible refine wA ?_ ?_ | refine ys ?_ ?_ | refine xs_done ?_ | refine yl ?_ ?_ | refine z1 c3 ?_ | refine z2 c3 ?_ | refine z3 c3 ?_ | refine z4 c3 ?_ | refine z5 c3 ?_ | refine w8 ?_ | refine w9 ?_ | refine w1 ?_ | refine w2 ?_ | refine w3 ?_ | refine w4 ?_ | refine w5 ?_ | refine w6 ?_ | refine w7 ?_ | refine yo0 ?_ ?_ | refine yw0 ?_ ?_ | exact qq | fail)
  refine pcond (b := decide (lenS y m ≤ r)) (eqB rfl) ?_ ?_ <;> intro h
  · have h := of_decide_eq_true h
    have hm11 : m ≠ 12 := fun e => by
      subst e
      have : remL y (((12 : Nat) : Int) + 1) = 0 := rfl
      omega
    repeat' (first | refine yo ?_ ?_ | refine yw ?_ ?_ | refine yk ?_ ?_ | exact trivial | with_reducible refine wA ?_ ?_ | refine ys ?_ ?_ | refine xs_done ?_ | refine yl ?_ ?_ | refine z1 c3 ?_ | refine z2 c3 ?_ | refine z3 c3 ?_ | refine z4 c3 ?_ | refine z5 c3 ?_ | refine w8 ?_ | refine w9 ?_ | refine w1 ?_ | refine w2 ?_ | refine w3 ?_ | refine w4 ?_ | refine w5 ?_ | refine w6 ?_ | refine w7 ?_ | refine yo0 ?_ ?_ | refine yw0 ?_ ?_ | exact qq | fail)
    rw [hw2, hw3]
    have hf : monF y (14 - (m + 1)) (r - lenS y m) ((m + 1 : Nat) : Int) = monF y 13 (d - begS y) 1 := by
      rw [show 14 - m = (14 - (m + 1)) + 1 by omega, monF, if_pos h] at hv; exact hv
    exact kloop_next (st' := ⟨[(6, vi y), (7, vi (r - lenS y m)), (8, vi ((m + 1 : Nat) : Int))], []⟩) (14 - (m + 1)) (can_rowsv [] (k0_sel hk rfl) rfl .nil tmq) (by omega) ⟨m + 1, r - lenS y m, by omega, by omega, by omega, by rw [show (((m + 1 : Nat) : Int)) = (m : Int) + 1 by omega]; omega, by omega, hf, rfl, rfl⟩
  · have h := of_decide_eq_false h
    repeat' (first | refine yo ?_ ?_ | refine yw ?_ ?_ | refine yk ?_ ?_ | exact trivial | with_reducible refine wA ?_ ?_ | refine ys ?_ ?_ | refine xs_done ?_ | refine yl ?_ ?_ | refine w8 ?_ | refine w9 ?_ | refine w1 ?_ | refine w2 ?_ | refine w3 ?_ | refine w4 ?_ | refine w5 ?_ | refine w6 ?_ | refine w7 ?_ | refine yo0 ?_ ?_ | refine yw0 ?_ ?_ | exact qq | fail)
    refine kretv rfl ⟨trivial, trivial, trivial, trivial, trivial⟩ rfl ?_
    rw [← hv, show 14 - m = (13 - m) + 1 by omega, monF, if_neg h, hw4]; rfl
theorem monF_bd (y : Int) : ∀ (n : Nat) (r m : Int), m ≤ (monF y n r m).2 ∧ (monF y n r m).2 ≤ m + n
  | 0, r, m => by unfold monF; omega
  | n + 1, r, m => by
    unfold monF
    split
    · have := monF_bd y n (r - lenS y m) (m + 1); omega
    · omega
def monthS (d : Int) : Int := ((dateS d).1 - 1970) * 12 + (dateS d).2.1 - 1
theorem month_c (d : Int) (h0 : 0 ≤ d) (h1 : d ≤ 84005) : PureC G.P 116 [vi d] (fun r => r = vi (monthS d)) := by
  have c1 := date_c d h0 h1
  obtain ⟨y1, y2, y3, y4⟩ := yearS_spec h0 (by omega : d ≤ 90000)
  have hb := monF_bd (yearS d) 13 (d - begS (yearS d)) 1
  have e1 : (dateS d).1 = yearS d := rfl
  have e2 : (dateS d).2.1 = (monF (yearS d) 13 (d - begS (yearS d)) 1).2 := rfl
  unfold monthS
  rw [← e1] at y3 y4
  rw [← e2] at hb
  generalize (dateS d).1 = y at *
  generalize (dateS d).2.1 = m at *
  refine pure_of (G := G.toPg) (fn := Tryz.f116) Tryz.func116 rfl rfl rfl ?_; intro Γ hk
  repeat' (first | refine yo ?_ ?_ | refine yw ?_ ?_ | refine yk ?_ ?_ | exact trivial | with_reducible refine wA ?_ ?_ | refine ys ?_ ?_ | refine xs_done ?_ | refine yl ?_ ?_ | refine z1 c1 ?_ | refine z2 c1 ?_ | refine z3 c1 ?_ | refine z4 c1 ?_ | refine z5 c1 ?_ | refine w8 ?_ | refine w9 ?_ | refine w1 ?_ | refine w2 ?_ | refine w3 ?_ | refine w4 ?_ | refine w5 ?_ | refine w6 ?_ | refine w7 ?_ | refine yo0 ?_ ?_ | refine yw0 ?_ ?_ | exact qq | fail)
  refine kretv rfl ⟨trivial, trivial⟩ rfl (eqI ?_)
  rw [w64 (n := y - 1970) (by omega) (by omega), w64 (n := (y - 1970) * 12) (by omega) (by omega), w64 (n := (y - 1970) * 12 + m) (by omega) (by omega), w64 (by omega) (by omega)]
def cumS (y : Int) : Nat → Int
  | 0 => 0
  | k + 1 => cumS y k + lenS y (k + 1)
theorem cumS_bd (y : Int) : ∀ k : Nat, k ≤ 12 → 0 ≤ cumS y k ∧ cumS y k ≤ 31 * k
  | 0, _ => by unfold cumS; omega
  | k + 1, h => by
    have := cumS_bd y k (by omega)
    have := rem_step y (m := k + 1) (by omega) (by omega)
    unfold cumS; omega
theorem cnum_c (y m d : Int) (y1 : 1970 ≤ y) (y2 : y ≤ 9000) (m1 : 1 ≤ m) (m2 : m ≤ 12) (d1 : 1 ≤ d) (d2 : d ≤ 31) : PureC G.P 118 [vi y, vi m, vi d] (fun r => r = vi (begS y + cumS y (m.toNat - 1) + d - 1)) := by
  have c1 := begin_c y (by omega) (by omega)
  have hl := begS_le y1 (by omega)
  have hg := begS_ge y1 (by omega)
  refine pure_of (G := G.toPg) (fn := Tryz.f118) Tryz.func118 rfl rfl rfl ?_; intro Γ hk
  repeat' (first | refine yo ?_ ?_ | refine yw ?_ ?_ | refine yk ?_ ?_ | exact trivial | with_reducible refine wA ?_ ?_ | refine ys ?_ ?_ | refine xs_done ?_ | refine yl ?_ ?_ | refine z1 c1 ?_ | refine z2 c1 ?_ | refine z3 c1 ?_ | refine z4 c1 ?_ | refine z5 c1 ?_ | refine w8 ?_ | refine w9 ?_ | refine w1 ?_ | refine w2 ?_ | refine w3 ?_ | refine w4 ?_ | refine w5 ?_ | refine w6 ?_ | refine w7 ?_ | refine yo0 ?_ ?_ | refine yw0 ?_ ?_ | exact qq | fail)
  refine pcan (st' := ⟨[(0, vi y), (1, vi m), (2, vi d), (7, vi (begS y + cumS y 0)), (8, vi ((0 + 1 : Nat) : Int))], []⟩) (can_rowsv [] (k0_sel hk rfl) rfl .nil (by exact ⟨PEq.refl _, PEq.refl _, PEq.refl _, by rw [show begS y + cumS y 0 = begS y from Int.add_zero _]; exact PEq.refl _, PEq.refl _, trivial⟩)) ?_
  refine ploop (fun q st => ∃ k : Nat, (k : Int) + 1 ≤ m ∧ q = 20 - k ∧ st = ⟨[(0, vi y), (1, vi m), (2, vi d), (7, vi (begS y + cumS y k)), (8, vi ((k + 1 : Nat) : Int))], []⟩) 20 ⟨0, by omega, by omega, rfl⟩ ?_
  rintro _ _ ⟨k, hk1, rfl, rfl⟩
  have hc := cumS_bd y k (by omega)
  repeat' (first | refine yo ?_ ?_ | refine yw ?_ ?_ | refine yk ?_ ?_ | exact trivial | with_reducible refine wA ?_ ?_ | refine ys ?_ ?_ | refine xs_done ?_ | refine yl ?_ ?_ | refine w8 ?_ | refine w9 ?_ | refine w1 ?_ | refine w2 ?_ | refine w3 ?_ | refine w4 ?_ | refine w5 ?_ | refine w6 ?_ | refine w7 ?_ | refine yo0 ?_ ?_ | refine yw0 ?_ ?_ | exact qq | fail)
  refine pcond rfl ?_ ?_ <;> intro h <;> simp at h
  · have c3 := length_c y ((k + 1 : Nat) : Int) ⟨by omega, by omega⟩
    have hr := rem_step y (m := ((k + 1 : Nat) : Int)) (by omega) (by omega)
    have hw2 : IntKind.i64.wrap (begS y + cumS y k + lenS y ((k + 1 : Nat) : Int)) = begS y + cumS y (k + 1) := by
      rw [w64 (by omega) (by omega)]; show _ = begS y + (cumS y k + lenS y ((k : Int) + 1)); rw [show (((k + 1 : Nat) : Int)) = (k : Int) + 1 by omega]; omega
    have hw3 : IntKind.i64.wrap (((k + 1 : Nat) : Int) + 1) = ((k + 1 + 1 : Nat) : Int) := w64 (by omega) (by omega)
    repeat' (first | refine yo ?_ ?_ | refine yw ?_ ?_ | refine yk ?_ ?_ | exact trivial | with_reducible refine wA ?_ ?_ | refine ys ?_ ?_ | refine xs_done ?_ | refine yl ?_ ?_ | refine z1 c3 ?_ | refine z2 c3 ?_ | refine z3 c3 ?_ | refine z4 c3 ?_ | refine z5 c3 ?_ | refine w8 ?_ | refine w9 ?_ | refine w1 ?_ | refine w2 ?_ | refine w3 ?_ | refine w4 ?_ | refine w5 ?_ | refine w6 ?_ | refine w7 ?_ | refine yo0 ?_ ?_ | refine yw0 ?_ ?_ | exact qq | fail)
    rw [hw2, hw3]
    exact kloop_next (st' := ⟨[(0, vi y), (1, vi m), (2, vi d), (7, vi (begS y + cumS y (k + 1))), (8, vi ((k + 1 + 1 : Nat) : Int))], []⟩) (20 - (k + 1)) (can_rowsv [] (k0_sel hk rfl) rfl .nil tmq) (by omega) ⟨k + 1, by omega, rfl, rfl⟩
  · repeat' (first | refine yo ?_ ?_ | refine yw ?_ ?_ | refine yk ?_ ?_ | exact trivial | with_reducible refine wA ?_ ?_ | refine ys ?_ ?_ | refine xs_done ?_ | refine yl ?_ ?_ | refine w8 ?_ | refine w9 ?_ | refine w1 ?_ | refine w2 ?_ | refine w3 ?_ | refine w4 ?_ | refine w5 ?_ | refine w6 ?_ | refine w7 ?_ | refine yo0 ?_ ?_ | refine yw0 ?_ ?_ | exact qq | fail)
    refine kretv rfl ⟨trivial, trivial⟩ rfl (eqI ?_)
    rw [show m.toNat - 1 = k by omega, w64 (n := begS y + cumS y k + d) (by omega) (by omega), w64 (by omega) (by omega)]
def firstS (n : Int) : Int := begS (1970 + n.tdiv 12) + cumS (1970 + n.tdiv 12) ((n.tmod 12 + 1).toNat - 1) + 1 - 1
def mlenS (n : Int) : Int := lenS (1970 + n.tdiv 12) (n.tmod 12 + 1)
theorem m12 {n : Int} (h0 : 0 ≤ n) (h1 : n ≤ 2759) : 0 ≤ n.tdiv 12 ∧ n.tdiv 12 ≤ 230 ∧ 0 ≤ n.tmod 12 ∧ n.tmod 12 ≤ 11 := by
  rw [Int.tdiv_eq_ediv_of_nonneg h0, Int.tmod_eq_emod_of_nonneg h0]; omega
theorem n12 : (12 : Int) ≠ 0 := by decide
theorem first_c' (n : Int) (h0 : 0 ≤ n) (h1 : n ≤ 2759) : PureC G.P 107 [vi n] (fun r => r = .tup 2 (nthP [vi (firstS n), vb true])) := by
  obtain ⟨b1, b2, b3, b4⟩ := m12 h0 h1
  have w1 : IntKind.i64.wrap (n.tdiv 12) = n.tdiv 12 := w64 (by omega) (by omega)
  have w2 : IntKind.i64.wrap (1970 + n.tdiv 12) = 1970 + n.tdiv 12 := w64 (by omega) (by omega)
  have w3 : IntKind.i64.wrap (n.tmod 12 + 1) = n.tmod 12 + 1 := w64 (by omega) (by omega)
  have c1 := cnum_c (1970 + n.tdiv 12) (n.tmod 12 + 1) 1 (by omega) (by omega) (by omega) (by omega) (by omega) (by omega)
  rw [show [vi (1970 + n.tdiv 12), vi (n.tmod 12 + 1), vi 1] = [vi (IntKind.i64.wrap (1970 + IntKind.i64.wrap (n.tdiv 12))), vi (IntKind.i64.wrap (n.tmod 12 + 1)), vi 1] by rw [w1, w2, w3]] at c1
  refine pure_of (G := G.toPg) (fn := Tryz.f107) Tryz.func107 rfl rfl rfl ?_; intro Γ hk
  repeat' (first | refine yo ?_ ?_ | refine yw ?_ ?_ | refine yk ?_ ?_ | exact trivial | with_reducible refine wA ?_ ?_ | refine ys ?_ ?_ | refine xs_done ?_ | refine yl ?_ ?_ | refine w8 ?_ | refine w9 ?_ | refine w1 ?_ | refine w2 ?_ | refine w3 ?_ | refine w4 ?_ | refine w5 ?_ | refine w6 ?_ | refine w7 ?_ | refine yo0 ?_ ?_ | refine yw0 ?_ ?_ | exact qq | fail)
  refine pcond (b := false) ?_ ?_ ?_
  · refine eqB ?_
    rw [decide_eq_false (show ¬ n < 0 by omega), decide_eq_false (show ¬ 2759 < n by omega)]; rfl
  · intro h; cases h
  · intro _
    repeat' (first | refine yo ?_ ?_ | refine yw ?_ ?_ | refine yk ?_ ?_ | exact trivial | with_reducible refine wA ?_ ?_ | refine ys ?_ ?_ | refine xs_done ?_ | refine yl ?_ ?_ | refine z1 c1 ?_ | refine z2 c1 ?_ | refine z3 c1 ?_ | refine z4 c1 ?_ | refine z5 c1 ?_ | refine w8 ?_ | refine w9 ?_ | refine w1 ?_ | refine w2 ?_ | refine w3 ?_ | refine w4 ?_ | refine w5 ?_ | refine w6 ?_ | refine w7 ?_ | refine yo0 ?_ ?_ | refine yw0 ?_ ?_ | exact qq | fail)
    any_goals (first | exact n12 | skip)
    exact kretv rfl ⟨trivial, trivial, trivial⟩ rfl rfl
theorem mlength_c (n : Int) (h0 : 0 ≤ n) (h1 : n ≤ 2759) : PureC G.P 108 [vi n] (fun r => r = vi (mlenS n)) := by
  obtain ⟨b1, b2, b3, b4⟩ := m12 h0 h1
  have w1 : IntKind.i64.wrap (n.tdiv 12) = n.tdiv 12 := w64 (by omega) (by omega)
  have w2 : IntKind.i64.wrap (1970 + n.tdiv 12) = 1970 + n.tdiv 12 := w64 (by omega) (by omega)
  have w3 : IntKind.i64.wrap (n.tmod 12 + 1) = n.tmod 12 + 1 := w64 (by omega) (by omega)
  have c1 := length_c (1970 + n.tdiv 12) (n.tmod 12 + 1) ⟨by omega, by omega⟩
  rw [show [vi (1970 + n.tdiv 12), vi (n.tmod 12 + 1)] = [vi (IntKind.i64.wrap (1970 + IntKind.i64.wrap (n.tdiv 12))), vi (IntKind.i64.wrap (n.tmod 12 + 1))] by rw [w1, w2, w3]] at c1
  refine pure_of (G := G.toPg) (fn := Tryz.f108) Tryz.func108 rfl rfl rfl ?_; intro Γ hk
  repeat' (first | refine yo ?_ ?_ | refine yw ?_ ?_ | refine yk ?_ ?_ | exact trivial | with_reducible refine wA ?_ ?_ | refine ys ?_ ?_ | refine xs_done ?_ | refine yl ?_ ?_ | refine w8 ?_ | refine w9 ?_ | refine w1 ?_ | refine w2 ?_ | refine w3 ?_ | refine w4 ?_ | refine w5 ?_ | refine w6 ?_ | refine w7 ?_ | refine yo0 ?_ ?_ | refine yw0 ?_ ?_ | exact qq | fail)
  refine pcond (b := false) ?_ ?_ ?_
  · refine eqB ?_
    rw [decide_eq_false (show ¬ n < 0 by omega), decide_eq_false (show ¬ 2759 < n by omega)]; rfl
  · intro h; cases h
  · intro _
    repeat' (first | refine yo ?_ ?_ | refine yw ?_ ?_ | refine yk ?_ ?_ | exact trivial | with_reducible refine wA ?_ ?_ | refine ys ?_ ?_ | refine xs_done ?_ | refine yl ?_ ?_ | refine z1 c1 ?_ | refine z2 c1 ?_ | refine z3 c1 ?_ | refine z4 c1 ?_ | refine z5 c1 ?_ | refine w8 ?_ | refine w9 ?_ | refine w1 ?_ | refine w2 ?_ | refine w3 ?_ | refine w4 ?_ | refine w5 ?_ | refine w6 ?_ | refine w7 ?_ | refine yo0 ?_ ?_ | refine yw0 ?_ ?_ | exact qq | fail)
    any_goals (first | exact n12 | skip)
    exact kretv rfl ⟨trivial, trivial⟩ rfl rfl
end Go.Proofs.YtdifpajpheemaaaGreatDoor
namespace Go.Proofs.YtdifpajpheemaaaGreatDoor
open Go.MapKept
def mget {K : Type} [DecidableEq K] : List (K × Int) → K → Option Int
  | [], _ => none
  | e :: l, k => if e.1 = k then some e.2 else mget l k
def mset {K : Type} [DecidableEq K] : List (K × Int) → K → Int → List (K × Int)
  | [], k, v => [(k, v)]
  | e :: l, k, v => if e.1 = k then (k, v) :: l else e :: mset l k v
section
variable {K : Type} [DecidableEq K]
theorem mget_none {k : K} : ∀ {l : List (K × Int)}, (∀ e ∈ l, e.1 ≠ k) → mget l k = none
  | [], _ => rfl
  | e :: l, h => by rw [mget, if_neg (h e (by simp))]; exact mget_none fun x hx => h x (by simp [hx])
theorem mset_none {k : K} {v : Int} : ∀ {l : List (K × Int)}, (∀ e ∈ l, e.1 ≠ k) → mset l k v = l ++ [(k, v)]
  | [], _ => rfl
  | e :: l, h => by rw [mset, if_neg (h e (by simp)), mset_none fun x hx => h x (by simp [hx])]; rfl
theorem mget_at {k : K} {v : Int} : ∀ {l : List (K × Int)} {j : Nat}, (l.map (·.1)).Nodup → l[j]? = some (k, v) → mget l k = some v
  | [], _, _, h => by simp at h
  | e :: l, 0, _, h => by simp at h; subst h; simp [mget]
  | e :: l, j + 1, hn, h => by
    have h' : l[j]? = some (k, v) := by simpa using h
    simp only [List.map_cons, List.nodup_cons] at hn
    have : e.1 ≠ k := fun he => hn.1 (by rw [he]; exact List.mem_map.2 ⟨(k, v), List.mem_of_getElem? h', rfl⟩)
    rw [mget, if_neg this, mget_at hn.2 h']
theorem mset_at {k : K} {v v0 : Int} : ∀ {l : List (K × Int)} {j : Nat}, (l.map (·.1)).Nodup → l[j]? = some (k, v0) → mset l k v = l.set j (k, v)
  | [], _, _, h => by simp at h
  | e :: l, 0, _, h => by simp at h; subst h; simp [mset]
  | e :: l, j + 1, hn, h => by
    have h' : l[j]? = some (k, v0) := by simpa using h
    simp only [List.map_cons, List.nodup_cons] at hn
    have : e.1 ≠ k := fun he => hn.1 (by rw [he]; exact List.mem_map.2 ⟨(k, v0), List.mem_of_getElem? h', rfl⟩)
    rw [mset, if_neg this, mset_at hn.2 h']; rfl
end
def kI (x : Int) : Value := .int .i64 x
theorem kI_inj (a b : Int) (h : kI a = kI b) : a = b := by unfold kI at h; injection h
section
variable {N : Nat} {Γ : Fr} {st : PSt} {ρ : Nat → Loc} {I : Nat → Prop} {a : Act} {w : World}
theorem Rel.newMap (h : Rel N Γ st ρ I a w) (row : Row) (hs : row.s = .mp) (o : Obj) (ho : ∀ cs T fz, o ≠ Obj.cells cs T fz)
    (hc : ∀ (k' : Nat) (ρ' : Nat → Loc) (w' : World), (∀ b, b < w.heap.size → w'.heap[b]? = w.heap[b]?) → w'.heap[w.heap.size]? = some o → st.mem.length < k' → (∀ l, l < st.mem.length → ρ' l = ρ l) → ρ' st.mem.length = ⟨w.heap.size, 0, 0⟩ → SideAt k' ρ' I w' w.heap.size row) :
    Rel N Γ ⟨st.tm, st.mem ++ [row]⟩ (addLoc ρ st.mem.length ⟨w.heap.size, 0, 0⟩) I a (w.alloc o) := by
  have hx : Ext w (w.alloc o) := Go.RowKit.Below.alloc (Go.RowKit.Below.refl _ _) (Nat.le_refl _) _
  have ht : Tr I w (w.alloc o) := hx.tr h.fr.m.lt
  have hρ : ∀ l, l < st.mem.length → addLoc ρ st.mem.length ⟨w.heap.size, 0, 0⟩ l = ρ l := fun l hl => if_neg (by omega)
  have hρn : addLoc ρ st.mem.length ⟨w.heap.size, 0, 0⟩ st.mem.length = ⟨w.heap.size, 0, 0⟩ := if_pos rfl
  have hsz : (w.alloc o).heap.size = w.heap.size + 1 := by simp
  have hnl : ¬ row.s.live := by rw [hs]; exact fun h => h
  have hno : ¬ row.s.isOwn := by rw [hs]; exact fun h => h
  have up : ∀ {p : PV} {v : Value}, VRel st.mem.length ρ I w p v → VRel (st.mem ++ [row]).length (addLoc ρ st.mem.length ⟨w.heap.size, 0, 0⟩) I (w.alloc o) p v := fun hv =>
    hv.up (by simp) hρ (fun _ h => h) ht
  have get : ∀ (l : Nat) (r : Row), (st.mem ++ [row])[l]? = some r → (l < st.mem.length ∧ st.mem[l]? = some r) ∨ (l = st.mem.length ∧ r = row) := fun l r hl => by
    by_cases hlt : l < st.mem.length
    · rw [List.getElem?_append_left hlt] at hl; exact .inl ⟨hlt, hl⟩
    · rw [List.getElem?_append_right (by omega)] at hl
      by_cases he : l = st.mem.length
      · subst he; simp at hl; exact .inr ⟨rfl, hl.symm⟩
      · rw [List.getElem?_eq_none (by simp; omega)] at hl; cases hl
  have getL : ∀ (l : Nat) (r : Row), (st.mem ++ [row])[l]? = some r → r.s.live → l < st.mem.length ∧ st.mem[l]? = some r := fun l r hl hlv => by
    rcases get l r hl with h | ⟨_, rfl⟩
    · exact h
    · exact absurd hlv hnl
  refine ⟨⟨⟨fun l r hl hlive => ?_, fun l l' r r' hne hl hl' hs1 hs2 => ?_, fun l r hl ho hb => ?_, fun l r hl hi => ?_, fun b hb => ?_, fun l r hl hm => ?_, fun l l' r r' hne hl hl' hs1 hs2 => ?_⟩, h.fr.os, h.fr.tape, h.fr.output, by rw [hsz]; exact Nat.le_succ_of_le h.fr.size, fun b hb he => ?_, fun b c2 T2 fz hb => ?_, h.fr.old, h.fr.new, fun l r hl ho hlt => ?_, fun l r hl ho hk => ?_, by simp; exact Nat.le_succ_of_le h.fr.k0, fun l hl => ?_, fun l r hl hm hk => ?_, h.fr.gl.mono (fun _ h => h) ht⟩, h.defers, h.size, fun t => up (h.slot t)⟩
  · obtain ⟨hlt, hl⟩ := getL l r hl hlive
    rw [hρ l hlt]
    obtain ⟨h1, cs', T', h2, h3⟩ := h.fr.m.row l r hl hlive
    refine ⟨h1, cs', T', by rw [hx.block _ (h.lt hl hlive)]; exact h2, fun i hi j hj => ?_⟩
    obtain ⟨u, g1, g2, g3⟩ := h3 i hi j hj
    exact ⟨u, g1, g2, up g3⟩
  · obtain ⟨hlt, hA⟩ := getL l r hl hs1
    obtain ⟨hlt', hB⟩ := getL l' r' hl' hs2
    rw [hρ l hlt, hρ l' hlt']; exact h.fr.m.apart l l' r r' hne hA hB hs1 hs2
  · obtain ⟨hlt, hA⟩ := getL l r hl (RS.live_of_own ho)
    rw [hρ l hlt] at hb; exact h.fr.m.mine l r hA ho hb
  · obtain ⟨hlt, hA⟩ := getL l r hl (by rw [hi]; trivial)
    rw [hρ l hlt]; exact h.fr.m.imm l r hA hi
  · rw [hsz]; exact Nat.lt_succ_of_lt (h.fr.m.lt b hb)
  · rcases get l r hl with ⟨hlt, hl⟩ | ⟨rfl, rfl⟩
    · rw [hρ l hlt]
      obtain ⟨g1, g2⟩ := h.fr.m.side l r hl hm
      exact ⟨g1, g2.up (Nat.le_refl _) rfl (.of fun b hb _ => hx.block b hb) fun i hi j hj v hv => up hv⟩
    · rw [hρn]
      refine ⟨fun hb => absurd (h.fr.m.lt _ hb) (by simp), hc _ _ _ (fun b hb => hx.block b hb) ?_ (by simp) hρ hρn⟩
      show (w.heap.push _)[w.heap.size]? = _
      simp
  · rcases get l r hl with ⟨hlt, hA⟩ | ⟨e1, e2⟩ <;> rcases get l' r' hl' with ⟨hlt', hB⟩ | ⟨e3, e4⟩
    · rw [hρ l hlt, hρ l' hlt']; exact h.fr.m.sap l l' r r' hne hA hB hs1 hs2
    · rw [hρ l hlt, e3, hρn]; have := (h.fr.m.side l r hA hs1).2.lt; simp; omega
    · rw [hρ l' hlt', e1, hρn]; have := (h.fr.m.side l' r' hB hs2).2.lt; simp; omega
    · exact absurd (e1.trans e3.symm) hne
  · rw [hx.block b (Nat.lt_of_lt_of_le hb h.fr.size)]; exact h.fr.block b hb he
  · obtain ⟨cs', h1, h2⟩ := h.fr.shape b c2 T2 fz hb
    obtain ⟨cs2, h3, h4⟩ := ht.shape b cs' T2 fz h1
    exact ⟨cs2, h3, h4.trans h2⟩
  · obtain ⟨hlt', hA⟩ := getL l r hl (RS.live_of_own ho)
    rw [hρ l hlt'] at hlt ⊢; exact h.fr.own l r hA ho hlt
  · obtain ⟨hlt', hA⟩ := getL l r hl (RS.live_of_own ho)
    rw [hρ l hlt']; exact h.fr.fresh l r hA ho hk
  · rw [hρ l (Nat.lt_of_lt_of_le hl h.fr.k0)]; exact h.fr.ρ0 l hl
  · rcases get l r hl with ⟨hlt, hl⟩ | ⟨rfl, rfl⟩
    · rw [hρ l hlt]; exact h.fr.sfresh l r hl hm hk
    · rw [hρn]; exact h.fr.size
def noIt : List Row → Bool
  | [] => true
  | r :: m => (match r.s with | .mp => Nat.beq r.sz 1 | _ => true) && noIt m
theorem noIt_get : ∀ (m : List Row), noIt m = true → ∀ (l : Nat) (r : Row), m[l]? = some r → r.s = .mp → r.sz = 1
  | [], _, _, _, h, _ => by simp at h
  | r0 :: m, hn, 0, r, h, hm => by
    simp only [List.getElem?_cons_zero, Option.some.injEq] at h
    subst h
    rw [noIt, Bool.and_eq_true, hm] at hn
    exact Nat.eq_of_beq_eq_true hn.1
  | r0 :: m, hn, l + 1, r, h, hm => by
    rw [noIt, Bool.and_eq_true] at hn
    exact noIt_get m hn.2 l r (by simpa using h) hm
theorem Rel.setMap (h : Rel N Γ st ρ I a w) {l : Nat} {r : Row} (hl : st.mem[l]? = some r) (ho : r.s = .mp) (hk0 : Γ.k0 ≤ l) (hni : noIt st.mem = true) {es' : Array MapEntry} {clock' : Nat} (row : Row) (hs : row.s = .mp) (hsz : row.sz = 1) (hst : Stamped es' clock') (hv : ∀ (k' : Nat) (ρ' : Nat → Loc) (w' : World), VRel k' ρ' I w' (row.f 0 0) (mapV es')) :
    Rel N Γ ⟨st.tm, st.mem.set l row⟩ ρ I a { w with heap := w.heap.setIfInBounds (ρ l).b (.map es' clock') } := by
  obtain ⟨hnI, hside⟩ := h.fr.m.side l r hl ho
  have hlt := hside.lt
  obtain ⟨o, ho1, ho2⟩ := hside.nc
  have hlen : l < st.mem.length := lt_get hl
  have hself : ({ w with heap := w.heap.setIfInBounds (ρ l).b (.map es' clock') } : World).heap[(ρ l).b]? = some (.map es' clock') := by simp [hlt]
  have hother : ∀ b, b ≠ (ρ l).b → ({ w with heap := w.heap.setIfInBounds (ρ l).b (.map es' clock') } : World).heap[b]? = w.heap[b]? := fun b hb => by simp [Array.getElem?_setIfInBounds, Ne.symm hb]
  have hne : ∀ (b : Nat) cs T fz, w.heap[b]? = some (Obj.cells cs T fz) → b ≠ (ρ l).b := fun b cs T fz hb e => by subst e; rw [ho1] at hb; exact ho2 _ _ _ (Option.some.inj hb)
  generalize hw' : ({ w with heap := w.heap.setIfInBounds (ρ l).b (.map es' clock') } : World) = w' at hself hother ⊢
  have hos : w'.os = w.os := by rw [← hw']
  have htape : w'.tape = w.tape := by rw [← hw']
  have hout : w'.output = w.output := by rw [← hw']
  have hhs : w'.heap.size = w.heap.size := by rw [← hw']; simp
  have ht : Tr I w w' := ⟨fun b hb => hother b (fun e => hnI (e ▸ hb)), fun b cs T fz hb => ⟨cs, by rw [hother b (hne b cs T fz hb)]; exact hb, rfl⟩⟩
  have up : ∀ {p : PV} {v : Value}, VRel st.mem.length ρ I w p v → VRel (st.mem.set l row).length ρ I w' p v := fun hv => hv.up (by simp) (fun _ _ => rfl) (fun _ h => h) ht
  have get : ∀ (l' : Nat) (r' : Row), (st.mem.set l row)[l']? = some r' → (l' ≠ l ∧ st.mem[l']? = some r') ∨ (l' = l ∧ r' = row) := fun l' r' hl' => by
    by_cases he : l' = l
    · subst he; rw [List.getElem?_set_self hlen] at hl'; exact .inr ⟨rfl, by simpa using hl'.symm⟩
    · rw [List.getElem?_set_ne (Ne.symm he)] at hl'; exact .inl ⟨he, hl'⟩
  have getL : ∀ (l' : Nat) (r' : Row), (st.mem.set l row)[l']? = some r' → r'.s.live → st.mem[l']? = some r' := fun l' r' hl' hlv => by
    rcases get l' r' hl' with ⟨_, h⟩ | ⟨_, rfl⟩
    · exact h
    · rw [hs] at hlv; exact hlv.elim
  refine ⟨⟨⟨fun l' r' hl' hlive => ?_, fun l1 l2 r1 r2 hne h1 h2 hs1 hs2 => ?_, fun l' r' hl' ho' hb2 => ?_, fun l' r' hl' hi => ?_, fun b hb2 => ?_, fun l' r' hl' hm => ?_, fun l1 l2 r1 r2 hne h1 h2 hs1 hs2 => ?_⟩, hos.trans h.fr.os, htape.trans h.fr.tape, hout.trans h.fr.output, by rw [hhs]; exact h.fr.size, fun b hb2 he => ?_, fun b c2 T2 fz hb2 => ?_, h.fr.old, h.fr.new, fun l' r' hl' ho' hlt => ?_, fun l' r' hl' ho' hk => ?_, by simpa using h.fr.k0, h.fr.ρ0, fun l' r' hl' hm hk => ?_, h.fr.gl.mono (fun _ h => h) ht⟩, h.defers, h.size, fun t => up (h.slot t)⟩
  · obtain ⟨h1, c2, T2, h2, h3⟩ := h.fr.m.row l' r' (getL l' r' hl' hlive) hlive
    refine ⟨h1, c2, T2, by rw [hother _ (hne _ _ _ _ h2)]; exact h2, fun i hi j hj => ?_⟩
    obtain ⟨u, g1, g2, g3⟩ := h3 i hi j hj
    exact ⟨u, g1, g2, up g3⟩
  · exact h.fr.m.apart l1 l2 r1 r2 hne (getL _ _ h1 hs1) (getL _ _ h2 hs2) hs1 hs2
  · exact h.fr.m.mine l' r' (getL _ _ hl' (RS.live_of_own ho')) ho' hb2
  · exact h.fr.m.imm l' r' (getL _ _ hl' (by rw [hi]; trivial)) hi
  · rw [hhs]; exact h.fr.m.lt b hb2
  · rcases get l' r' hl' with ⟨n1, h1⟩ | ⟨rfl, rfl⟩
    · obtain ⟨g1, g2, g3⟩ := h.fr.m.side l' r' h1 hm
      have hap := h.fr.m.sap l' l r' r n1 h1 hl hm ho
      have hz := noIt_get _ hni l' r' h1 hm
      refine ⟨g1, by rw [hother _ hap]; exact g2, fun h0 => ⟨fun hz1 => ?_, fun hz2 => by omega⟩⟩
      obtain ⟨es, clock, q1, q2, q3⟩ := (g3 h0).1 hz
      exact ⟨es, clock, by rw [hother _ hap]; exact q1, q2, up q3⟩
    · exact ⟨hnI, ⟨_, hself, fun _ _ _ e => by cases e⟩, fun h0 => ⟨fun _ => ⟨es', clock', hself, hst, hv _ _ _⟩, fun hz2 => by omega⟩⟩
  · rcases get l1 r1 h1 with ⟨n1, hA⟩ | ⟨e1, e2⟩ <;> rcases get l2 r2 h2 with ⟨n2, hB⟩ | ⟨e3, e4⟩
    · exact h.fr.m.sap l1 l2 r1 r2 hne hA hB hs1 hs2
    · rw [e3]; exact h.fr.m.sap l1 l r1 r n1 hA hl hs1 ho
    · rw [e1]; exact h.fr.m.sap l l2 r r2 (Ne.symm n2) hl hB ho hs2
    · exact absurd (e1.trans e3.symm) hne
  · by_cases e : b = (ρ l).b
    · exact absurd hb2 (by rw [e]; exact Nat.not_lt.2 (h.fr.sfresh l r hl ho hk0))
    · rw [hother b e]; exact h.fr.block b hb2 he
  · obtain ⟨cs1, h1, h2⟩ := h.fr.shape b c2 T2 fz hb2
    obtain ⟨cs2, h3, h4⟩ := ht.shape b cs1 T2 fz h1
    exact ⟨cs2, h3, h4.trans h2⟩
  · exact h.fr.own l' r' (getL _ _ hl' (RS.live_of_own ho')) ho' hlt
  · exact h.fr.fresh l' r' (getL _ _ hl' (RS.live_of_own ho')) ho' hk
  · rcases get l' r' hl' with ⟨n1, h1⟩ | ⟨rfl, rfl⟩
    · exact h.fr.sfresh l' r' h1 hm hk
    · exact h.fr.sfresh l' r hl ho hk
end
end Go.Proofs.YtdifpajpheemaaaGreatDoor
namespace Go.Proofs.YtdifpajpheemaaaGreatDoor
open Go.MapKept
def bV (n : Int) : Value := .bool (n != 0)
structure MapTB (P : Program) (t : TypeId) {K : Type} (kv : K → Value) where
  kt : TypeId
  et : TypeId
  d : TypeDesc
  ht : P.underlying t = some (.map kt et)
  hk : P.underlying kt = some d
  key : ∀ a, IsKey d (kv a)
  inj : ∀ a b, kv a = kv b → a = b
  zero : ∀ w, (zeroValue et).run P w = .ok (bV 0) w
def mVB {K : Type} (kv : K → Value) (l : List (K × Int)) : Value := .tuple ((l.map fun e => Value.tuple #[kv e.1, bV e.2]).toArray)
def mRowB {K : Type} (kv : K → Value) (l : List (K × Int)) : Row := ⟨.mp, false, 1, 1, fun _ _ => .val (mVB kv l)⟩
theorem m_eqB {K : Type} {kv : K → Value} {l : List (K × Int)} {τ : Nat → Option Nat} : RowEq ((mRowB kv l).ren τ) (mRowB kv l) := RowEq.refl _
theorem mapV_eqB {K : Type} {kv : K → Value} {es : Array MapEntry} {l : List (K × Int)} (h : mapV es = mVB kv l) : es.toList.map (fun e => (e.key, e.val)) = l.map (fun e => (kv e.1, bV e.2)) := by
  unfold mapV mVB at h
  injection h with h
  have h2 := congrArg Array.toList h
  simp only [Array.toList_map] at h2
  have : ∀ (a : List MapEntry) (b : List (K × Int)), a.map (fun e => Value.tuple #[e.key, e.val]) = b.map (fun e => Value.tuple #[kv e.1, bV e.2]) → a.map (fun e => (e.key, e.val)) = b.map (fun e => (kv e.1, bV e.2)) := by
    intro a
    induction a with
    | nil => intro b hb; cases b <;> simp_all
    | cons x a ih =>
      intro b hb
      cases b with
      | nil => simp at hb
      | cons y b =>
        simp only [List.map_cons, List.cons.injEq, Value.tuple.injEq, Array.mk.injEq] at hb ⊢
        obtain ⟨h1, h2⟩ := hb
        simp at h1
        exact ⟨by rw [h1.1, h1.2], ih b h2⟩
  exact this _ _ h2
section
variable {P : Program} {t : TypeId} {K : Type} [DecidableEq K] {kv : K → Value} (M : MapTB P t kv) {es : Array MapEntry} {clock : Nat} {l : List (K × Int)} {w : World} {b : Nat}
omit [DecidableEq K] in
theorem ent_getB (h : es.toList.map (fun e => (e.key, e.val)) = l.map (fun e => (kv e.1, bV e.2))) (j : Nat) : (es.toList[j]?).map (fun e => (e.key, e.val)) = (l[j]?).map (fun e => (kv e.1, bV e.2)) := by
  rw [← List.getElem?_map, h, List.getElem?_map]
omit [DecidableEq K] in
theorem ent_nodupB (h : es.toList.map (fun e => (e.key, e.val)) = l.map (fun e => (kv e.1, bV e.2))) (hs : Stamped es clock) : (l.map (·.1)).Nodup := by
  have h1 := hs.2.2
  have h2 : es.toList.map (·.key) = (l.map (·.1)).map kv := by
    have := congrArg (List.map Prod.fst) h
    rw [List.map_map, List.map_map] at this
    rw [List.map_map]
    exact this
  rw [h2] at h1
  exact List.Pairwise.of_map kv (fun a b hne he => hne (by rw [he])) h1
include M
omit [DecidableEq K] in
theorem ent_keysB (h : es.toList.map (fun e => (e.key, e.val)) = l.map (fun e => (kv e.1, bV e.2))) : ∀ x ∈ es.toList, IsKey M.d x.key := fun x hx => by
  have : (x.key, x.val) ∈ l.map (fun e => (kv e.1, bV e.2)) := by rw [← h]; exact List.mem_map.2 ⟨x, hx, rfl⟩
  obtain ⟨e, _, he⟩ := List.mem_map.1 this
  have : kv e.1 = x.key := congrArg Prod.fst he
  rw [← this]; exact M.key _
omit [DecidableEq K] in
theorem ent_findB (h : es.toList.map (fun e => (e.key, e.val)) = l.map (fun e => (kv e.1, bV e.2))) (hs : Stamped es clock) (k : K) :
    (Instr.findNow M.d (kv k) es.toList 0 = some none ∧ (∀ e ∈ l, e.1 ≠ k) ∧ ∀ x ∈ es.toList, x.key ≠ kv k) ∨ ∃ j e v, Instr.findNow M.d (kv k) es.toList 0 = some (some (j, bV v)) ∧ es.toList[j]? = some e ∧ e.key = kv k ∧ l[j]? = some (k, v) := by
  rcases findNow_spec (M.key k) es.toList 0 (ent_keysB M h) with ⟨h1, h2⟩ | ⟨j, e, h1, h2, h3⟩
  · refine .inl ⟨h1, fun e he hk => ?_, h2⟩
    have : (kv e.1, bV e.2) ∈ es.toList.map (fun e => (e.key, e.val)) := by rw [h]; exact List.mem_map.2 ⟨e, he, rfl⟩
    obtain ⟨x, hx, hxe⟩ := List.mem_map.1 this
    exact h2 x hx ((congrArg Prod.fst hxe).trans (by rw [hk]))
  · have h4 := ent_getB h j
    rw [h2] at h4
    cases h5 : l[j]? with
    | none => rw [h5] at h4; cases h4
    | some y =>
      rw [h5] at h4
      simp only [Option.map_some, Option.some.injEq, Prod.mk.injEq] at h4
      refine .inr ⟨j, e, y.2, by rw [h1, h4.2, Nat.zero_add], h2, h3, ?_⟩
      have : y.1 = k := M.inj _ _ (by rw [← h4.1, h3])
      rw [h5, ← this]
theorem run_lookB (hb : w.heap[b]? = some (.map es clock)) (h : es.toList.map (fun e => (e.key, e.val)) = l.map (fun e => (kv e.1, bV e.2))) (hs : Stamped es clock) (k : K) (ok : Bool) :
    (Instr.lookup t (.map (some b)) (kv k) ok).run P w = .ok (if ok then .tuple #[bV ((mget l k).getD 0), .bool (mget l k).isSome] else bV ((mget l k).getD 0)) w := by
  have hc := fun em => run_checkKey (P := P) (w := w) M.hk (M.key k) em 9999
  rcases ent_findB M h hs k with ⟨h1, h2, _⟩ | ⟨j, e, v, h1, h2, h3, h4⟩
  · rw [mget_none h2]
    cases ok <;> simp [Instr.lookup, run_underlying M.ht, MapKept.run_getObj_map hb, hc, run_findKey M.hk h1, M.zero, Result.andThen]
  · rw [mget_at (ent_nodupB h hs) h4]
    cases ok <;> simp [Instr.lookup, run_underlying M.ht, MapKept.run_getObj_map hb, hc, run_findKey M.hk h1, M.zero, Result.andThen]
theorem run_msetB (hb : w.heap[b]? = some (.map es clock)) (h : es.toList.map (fun e => (e.key, e.val)) = l.map (fun e => (kv e.1, bV e.2))) (hs : Stamped es clock) (k : K) (v : Int) :
    ∃ es' clock', (Instr.mapUpdate t (.map (some b)) (kv k) (bV v)).run P w = .ok () { w with heap := w.heap.setIfInBounds b (.map es' clock') } ∧ Stamped es' clock' ∧ es'.toList.map (fun e => (e.key, e.val)) = (mset l k v).map (fun e => (kv e.1, bV e.2)) := by
  have hc := fun em => run_checkKey (P := P) (w := w) M.hk (M.key k) em 9999
  rcases ent_findB M h hs k with ⟨h1, h2, h3⟩ | ⟨j, e, v0, h1, h2, h3, h4⟩
  · refine ⟨es.push ⟨kv k, bV v, clock⟩, clock + 1, ?_, stamped_push hs h3, ?_⟩
    · simp [Instr.mapUpdate, run_underlying M.ht, MapKept.run_getObj_map hb, hc, run_findKey M.hk h1, MapKept.run_setObj_map _ hb, Result.andThen]
    · rw [mset_none h2]; simp [h]
  · have hj : es[j]? = some e := by simpa using h2
    refine ⟨es.modify j (fun e' => { e' with key := kv k, val := bV v }), clock, ?_, stamped_modify hs _ _ (fun _ _ => rfl) (fun e' _ he' => by rw [hj] at he'; cases he'; exact h3.symm), ?_⟩
    · simp [Instr.mapUpdate, run_underlying M.ht, MapKept.run_getObj_map hb, hc, run_findKey M.hk h1, hj, h3, run_keyThatStays (M.key k), MapKept.run_setObj_map _ hb, Result.andThen]
    · rw [mset_at (ent_nodupB h hs) h4, List.map_set, ← h]
      apply List.ext_getElem?
      intro i
      simp only [Array.toList_modify, List.getElem?_map, List.getElem?_modify, List.getElem?_set, List.length_map]
      by_cases e1 : j = i
      · subst e1
        have hjl := (List.getElem?_eq_some_iff.1 h2).1
        simp at hjl
        simp [hj, hjl]
      · simp [e1]
end
section
variable {G : Pg} {N : Nat} {Γ : Fr} {st : PSt} {K : Exit → PSt → Prop} {ops : Array Oper} {o : Oper} {rest : List Oper} {d l : Nat} {x y z : Operand} {t : TypeId} {KT : Type} [DecidableEq KT] {kv : KT → Value} {m : List (KT × Int)}
omit [DecidableEq KT] in
theorem pop_mkmapB (kv : KT → Value) (hg : o.guard = none) (hd : o.dst = some d) (hN : Nat.blt d N = true) (ho : o.op = .makeMap t none) {k : Nat} {m' : List Row} (hm : snocM st.mem (mRowB kv ([] : List (KT × Int))) 0 (fun k m => some (k, m)) = some (k, m')) (h : POps G N Γ ops rest (PSt.put ⟨st.tm, m'⟩ d (.mref k)) K) : POps G N Γ ops (o :: rest) st K := .mk fun ρ I a w hrel => by
  have hw : Region.wanted o (yielded ops a.tmps) = true := by simp [Region.wanted, hg]
  simp only [wpList, hw, if_true]
  refine .inl ?_
  have hv : (execOp a.eval o).run G.P w = .ok (.value (.map (some w.heap.size))) (w.alloc (.map #[] 0)) := by
    unfold execOp
    rw [ho]
    rfl
  rw [snocM_eq] at hm
  simp only [Option.some.injEq, Prod.mk.injEq, Nat.zero_add] at hm
  obtain ⟨rfl, rfl⟩ := hm
  simp only [Oper.wp, hv, Oper.upon_value, hd]
  have hr := hrel.newMap (mRowB kv ([] : List (KT × Int))) rfl (.map #[] 0) (fun _ _ _ e => by cases e) (fun k' ρ' w' _ hb _ _ _ => ⟨⟨_, hb, fun _ _ _ e => by cases e⟩, fun _ => ⟨fun _ => ⟨#[], 0, hb, stamped_empty 0, (show mapV #[] = mVB kv [] by unfold mapV mVB; simp)⟩, fun hz => by cases hz⟩⟩)
  refine h.go _ I _ _ (hr.put (by rwa [Nat.blt_eq] at hN) ⟨by simp, ?_⟩)
  simp [addLoc]
theorem pop_lookB (M : MapTB G.P t kv) (ok : Bool) (kk : KT) (hg : o.guard = none) (hd : o.dst = some d) (hN : Nat.blt d N = true) (ho : o.op = .lookup t x y ok) (hx : st.ev x = .mref l) (hy : st.ev y = .val (kv kk)) (hr : rowAt st.mem l = some (mRowB kv m))
    (h : POps G N Γ ops rest (st.put d (bif ok then .tup 2 (nthP [.val (bV ((mget m kk).getD 0)), vb (mget m kk).isSome]) else .val (bV ((mget m kk).getD 0)))) K) : POps G N Γ ops (o :: rest) st K := .mk fun ρ I a w hrel => by
  have hw : Region.wanted o (yielded ops a.tmps) = true := by simp [Region.wanted, hg]
  simp only [wpList, hw, if_true]
  refine .inl ?_
  rw [rowAt_get] at hr
  have hxv := ev_rel hrel x
  rw [hx] at hxv
  obtain ⟨_, hxv⟩ := hxv
  have hyv := ev_rel hrel y
  rw [hy] at hyv
  have hyv : a.eval y = kv kk := hyv
  obtain ⟨_, _, hs⟩ := hrel.fr.m.side l _ hr rfl
  obtain ⟨es, clock, q1, q2, q3⟩ := (hs Nat.zero_lt_one).1 rfl
  have hv : (execOp a.eval o).run G.P w = .ok (.value (if ok then .tuple #[bV ((mget m kk).getD 0), .bool (mget m kk).isSome] else bV ((mget m kk).getD 0))) w := by
    unfold execOp
    rw [ho]
    simp only [hxv, hyv, Sem.run_bind, run_lookB M q1 (mapV_eqB q3) q2 kk ok, Result.andThen, Sem.run_pure]
  simp only [Oper.wp, hv, Oper.upon_value, hd]
  refine h.go ρ I _ w (hrel.put (by rwa [Nat.blt_eq] at hN) ?_)
  cases ok
  · exact rfl
  · refine ⟨_, rfl, rfl, fun i hi => ?_⟩
    rcases i with _ | _ | i
    · exact rfl
    · exact rfl
    · omega
theorem pop_msetB (M : MapTB G.P t kv) (kk : KT) (v : Int) (hg : o.guard = none) (hd : o.dst = none) (ho : o.op = .mapUpdate t x y z) (hx : st.ev x = .mref l) (hy : st.ev y = .val (kv kk)) (hz : st.ev z = .val (bV v)) (hr : rowAt st.mem l = some (mRowB kv m)) (hk : Γ.k0 ≤ l) (hni : noIt st.mem = true) {m' : List Row}
    (hm : setM st.mem l (mRowB kv (mset m kk v)) some = some m') (h : POps G N Γ ops rest ⟨st.tm, m'⟩ K) : POps G N Γ ops (o :: rest) st K := .mk fun ρ I a w hrel => by
  have hw : Region.wanted o (yielded ops a.tmps) = true := by simp [Region.wanted, hg]
  simp only [wpList, hw, if_true]
  refine .inl ?_
  rw [rowAt_get] at hr
  rw [setM_eq] at hm
  simp only [Option.some.injEq] at hm
  subst hm
  have hxv := ev_rel hrel x
  rw [hx] at hxv
  obtain ⟨_, hxv⟩ := hxv
  have hyv := ev_rel hrel y
  rw [hy] at hyv
  have hyv : a.eval y = kv kk := hyv
  have hzv := ev_rel hrel z
  rw [hz] at hzv
  have hzv : a.eval z = bV v := hzv
  obtain ⟨_, _, hs⟩ := hrel.fr.m.side l _ hr rfl
  obtain ⟨es, clock, q1, q2, q3⟩ := (hs Nat.zero_lt_one).1 rfl
  obtain ⟨es', clock', g1, g2, g3⟩ := run_msetB M q1 (mapV_eqB q3) q2 kk v
  have hv : (execOp a.eval o).run G.P w = .ok .skip { w with heap := w.heap.setIfInBounds (ρ l).b (.map es' clock') } := by
    unfold execOp
    rw [ho]
    simp only [hxv, hyv, hzv, Sem.run_bind, g1, Result.andThen, Sem.run_pure]
  simp only [Oper.wp, hv, Oper.upon_skip, hd, Act.put]
  refine h.go ρ I _ _ (hrel.setMap hr rfl hk hni (mRowB kv (mset m kk v)) rfl rfl g2 fun k' ρ' w' => ?_)
  show mapV es' = mVB kv (mset m kk v)
  have := congrArg (List.map fun e : Value × Value => Value.tuple #[e.1, e.2]) g3
  rw [List.map_map, List.map_map] at this
  unfold mapV mVB
  congr 1
  apply Array.ext'
  rw [Array.toList_map]
  exact this
end
end Go.Proofs.YtdifpajpheemaaaGreatDoor
namespace Go.Proofs.YtdifpajpheemaaaGreatDoor
abbrev vC (k a : Int) : PV := .agg 2 (nthP [vi k, vi a])
theorem last_month : monthS 84005 = 2759 := by decide +kernel
theorem pvalid0_c : PureC G.P 86 [vC 0 0] (fun r => r = vi 0) := by
  refine pure_of (G := G.toPg) (fn := Tryz.f86) Tryz.func86 rfl rfl rfl ?_; intro Γ hk
  repeat' (first | refine yo ?_ ?_ | refine yw ?_ ?_ | refine yk ?_ ?_ | exact trivial | with_reducible refine wA ?_ ?_ | refine ys ?_ ?_ | refine xs_done ?_ | refine yl ?_ ?_ | refine w8 ?_ | refine w9 ?_ | refine w1 ?_ | refine w2 ?_ | refine w3 ?_ | refine w4 ?_ | refine w5 ?_ | refine w6 ?_ | refine w7 ?_ | refine yo0 ?_ ?_ | refine yw0 ?_ ?_ | exact qq | fail)
  exact kretv rfl ⟨trivial, trivial⟩ rfl rfl
theorem pof0_c : PureC G.P 106 [vC 0 0, vi 84005] (fun r => r = vi 2759) := by
  have c1 := month_c 84005 (by decide) (by decide)
  rw [last_month] at c1
  refine pure_of (G := G.toPg) (fn := Tryz.f106) Tryz.func106 rfl rfl rfl ?_; intro Γ hk
  repeat' (first | refine yo ?_ ?_ | refine yw ?_ ?_ | refine yk ?_ ?_ | exact trivial | with_reducible refine wA ?_ ?_ | refine ys ?_ ?_ | refine xs_done ?_ | refine yl ?_ ?_ | refine z1 c1 ?_ | refine z2 c1 ?_ | refine z3 c1 ?_ | refine z4 c1 ?_ | refine z5 c1 ?_ | refine w8 ?_ | refine w9 ?_ | refine w1 ?_ | refine w2 ?_ | refine w3 ?_ | refine w4 ?_ | refine w5 ?_ | refine w6 ?_ | refine w7 ?_ | refine yo0 ?_ ?_ | refine yw0 ?_ ?_ | exact qq | fail)
  exact kretv rfl ⟨trivial, trivial⟩ rfl rfl
theorem pcount0_c : PureC G.P 87 [vC 0 0] (fun r => r = vi 2760) := by
  have c1 := pvalid0_c
  have c2 := pof0_c
  refine pure_of (G := G.toPg) (fn := Tryz.f87) Tryz.func87 rfl rfl rfl ?_; intro Γ hk
  repeat' (first | refine yo ?_ ?_ | refine yw ?_ ?_ | refine yk ?_ ?_ | exact trivial | with_reducible refine wA ?_ ?_ | refine ys ?_ ?_ | refine xs_done ?_ | refine yl ?_ ?_ | refine z1 c1 ?_ | refine z2 c1 ?_ | refine z3 c1 ?_ | refine z4 c1 ?_ | refine z5 c1 ?_ | refine z1 c2 ?_ | refine z2 c2 ?_ | refine z3 c2 ?_ | refine z4 c2 ?_ | refine z5 c2 ?_ | refine w8 ?_ | refine w9 ?_ | refine w1 ?_ | refine w2 ?_ | refine w3 ?_ | refine w4 ?_ | refine w5 ?_ | refine w6 ?_ | refine w7 ?_ | refine yo0 ?_ ?_ | refine yw0 ?_ ?_ | exact qq | fail)
  exact kretv rfl ⟨trivial, trivial⟩ rfl rfl
def rngS (n : Int) : Int × Int := (firstS n, firstS n + mlenS n - 1)
theorem firstS_bd {n : Int} (h0 : 0 ≤ n) (h1 : n ≤ 2759) : -1000000 ≤ firstS n ∧ firstS n ≤ 1000000 := by
  obtain ⟨b1, b2, b3, b4⟩ := m12 h0 h1
  have hl := begS_le (y := 1970 + n.tdiv 12) (by omega) (by omega)
  have hg := begS_ge (y := 1970 + n.tdiv 12) (by omega) (by omega)
  have hc := cumS_bd (1970 + n.tdiv 12) ((n.tmod 12 + 1).toNat - 1) (by omega)
  unfold firstS
  omega
theorem mlenS_bd {n : Int} (h0 : 0 ≤ n) (h1 : n ≤ 2759) : 28 ≤ mlenS n ∧ mlenS n ≤ 31 := by
  obtain ⟨b1, b2, b3, b4⟩ := m12 h0 h1
  have := rem_step (1970 + n.tdiv 12) (m := n.tmod 12 + 1) (by omega) (by omega)
  unfold mlenS; omega
theorem pmonth_c (n : Int) (h0 : 0 ≤ n) (h1 : n ≤ 2759) : PureC G.P 88 [vi n] (fun r => r = vC (rngS n).1 (rngS n).2) := by
  have c1 := first_c' n h0 h1
  have c2 := mlength_c n h0 h1
  have f := firstS_bd h0 h1
  have l := mlenS_bd h0 h1
  unfold rngS
  generalize firstS n = F at *
  generalize mlenS n = L at *
  refine pure_of (G := G.toPg) (fn := Tryz.f88) Tryz.func88 rfl rfl rfl ?_; intro Γ hk
  repeat' (first | refine yo ?_ ?_ | refine yw ?_ ?_ | refine yk ?_ ?_ | exact trivial | with_reducible refine wA ?_ ?_ | refine ys ?_ ?_ | refine xs_done ?_ | refine yl ?_ ?_ | refine z1 c1 ?_ | refine z2 c1 ?_ | refine z3 c1 ?_ | refine z4 c1 ?_ | refine z5 c1 ?_ | refine z1 c2 ?_ | refine z2 c2 ?_ | refine z3 c2 ?_ | refine z4 c2 ?_ | refine z5 c2 ?_ | refine w8 ?_ | refine w9 ?_ | refine w1 ?_ | refine w2 ?_ | refine w3 ?_ | refine w4 ?_ | refine w5 ?_ | refine w6 ?_ | refine w7 ?_ | refine yo0 ?_ ?_ | refine yw0 ?_ ?_ | exact qq | fail)
  refine kretv rfl ⟨Nat.zero_lt_one, trivial⟩ rfl ?_
  rw [w64 (n := F + L) (by omega) (by omega), w64 (by omega) (by omega)]; rfl
theorem span0_c (n : Int) (h0 : 0 ≤ n) (h1 : n ≤ 2759) : PureC G.P 58 [vC 0 0, vi n] (fun r => r = .tup 2 (nthP [vC (rngS n).1 (rngS n).2, vi 0])) := by
  have c1 := pvalid0_c
  have c2 := pcount0_c
  have c3 := pmonth_c n h0 h1
  refine pure_of (G := G.toPg) (fn := Tryz.f58) Tryz.func58 rfl rfl rfl ?_; intro Γ hk
  repeat' (first | refine yo ?_ ?_ | refine yw ?_ ?_ | refine yk ?_ ?_ | exact trivial | with_reducible refine wA ?_ ?_ | refine ys ?_ ?_ | refine xs_done ?_ | refine yl ?_ ?_ | refine z1 c1 ?_ | refine z2 c1 ?_ | refine z3 c1 ?_ | refine z4 c1 ?_ | refine z5 c1 ?_ | refine z1 c2 ?_ | refine z2 c2 ?_ | refine z3 c2 ?_ | refine z4 c2 ?_ | refine z5 c2 ?_ | refine w8 ?_ | refine w9 ?_ | refine w1 ?_ | refine w2 ?_ | refine w3 ?_ | refine w4 ?_ | refine w5 ?_ | refine w6 ?_ | refine w7 ?_ | refine yo0 ?_ ?_ | refine yw0 ?_ ?_ | exact qq | fail)
  refine pcond (b := false) ?_ ?_ ?_
  · refine eqB ?_
    rw [decide_eq_false (show ¬ n < 0 by omega)]
    simp; omega
  · intro h; cases h
  · intro _
    repeat' (first | refine yo ?_ ?_ | refine yw ?_ ?_ | refine yk ?_ ?_ | exact trivial | with_reducible refine wA ?_ ?_ | refine ys ?_ ?_ | refine xs_done ?_ | refine yl ?_ ?_ | refine z1 c3 ?_ | refine z2 c3 ?_ | refine z3 c3 ?_ | refine z4 c3 ?_ | refine z5 c3 ?_ | refine w8 ?_ | refine w9 ?_ | refine w1 ?_ | refine w2 ?_ | refine w3 ?_ | refine w4 ?_ | refine w5 ?_ | refine w6 ?_ | refine w7 ?_ | refine yo0 ?_ ?_ | refine yw0 ?_ ?_ | exact qq | fail)
    exact kretv rfl ⟨Nat.zero_lt_one, trivial, trivial⟩ rfl rfl
def refL (X : Int → Bool) : Nat → Nat → List Int
  | 0, _ => []
  | n + 1, c => if c = 0 then [] else if X n = true then refL X n c else (n : Int) :: refL X n (c - 1)
theorem refL_zero (X : Int → Bool) (n : Nat) : refL X n 0 = [] := by
  cases n with
  | zero => rfl
  | succ n => unfold refL; rw [if_pos rfl]
section
variable {K : Type} [DecidableEq K]
theorem mget_mset (k k' : K) (v : Int) : ∀ l : List (K × Int), mget (mset l k v) k' = if k = k' then some v else mget l k'
  | [] => by simp [mset, mget]
  | e :: l => by
    by_cases h : e.1 = k
    · rw [mset, if_pos h, mget]
      by_cases h2 : k = k'
      · rw [if_pos h2, if_pos h2]
      · rw [if_neg h2, if_neg h2, mget, if_neg (by rw [h]; exact h2)]
    · rw [mset, if_neg h, mget, mget_mset k k' v l, mget]
      by_cases h2 : e.1 = k'
      · rw [if_pos h2, if_pos h2, if_neg (fun e2 => h (h2.trans e2.symm))]
      · rw [if_neg h2, if_neg h2]
end
def mapIB : MapTB G.P 113 kI := ⟨3, 4, _, Tryz.underlying113, Tryz.underlying3, fun _ => rfl, kI_inj, Tryz.zeroValue4⟩
def exI (m : Nat) (x : Nat → Int) (i : Int) : Bool := (List.range m).any fun j => x j == i
theorem exI_succ (m : Nat) (x : Nat → Int) (i : Int) : exI (m + 1) x i = (exI m x i || (x m == i)) := by
  unfold exI
  rw [List.range_succ, List.any_append]
  simp
abbrev vLi (l : List Int) : PV := .vsl l.length 1 (tF c1 (lF 0 l))
set_option maxHeartbeats 4000000 in
theorem ref_ok (a b n count : Int) (m : Nat) (x : Nat → Int) (d1 d2 : Int) (hs : PureC G.P 58 [vC a b, vi n] (fun r => r = .tup 2 (nthP [vC d1 d2, vi 0]))) (h0 : 0 ≤ n) (h1 : n ≤ 1000000) (hc1 : 1 ≤ count) (hc2 : count ≤ 120) (hm : m ≤ 1024) :
    PureC G.P 33 [vC a b, vi n, vi count, .vsl m 1 (tI x)] (fun r => r = .tup 2 (nthP [vLi (refL (exI m x) n.toNat count.toNat), vi 0])) := by
  refine pure_of (G := G.toPg) (fn := Tryz.f33) Tryz.func33 rfl rfl rfl ?_; intro Γ hk
  repeat' (first | refine yo ?_ ?_ | refine yw ?_ ?_ | refine yk ?_ ?_ | exact trivial | with_reducible refine wA ?_ ?_ | refine ys ?_ ?_ | refine xs_done ?_ | refine yl ?_ ?_ | refine z1 hs ?_ | refine z2 hs ?_ | refine z3 hs ?_ | refine z4 hs ?_ | refine z5 hs ?_ | refine w8 ?_ | refine w9 ?_ | refine w1 ?_ | refine w2 ?_ | refine w3 ?_ | refine w4 ?_ | refine w5 ?_ | refine w6 ?_ | refine w7 ?_ | refine yo0 ?_ ?_ | refine yw0 ?_ ?_ | exact qq | fail)
  refine pcond (b := false) ?_ ?_ ?_
  · refine eqB ?_
    rw [Bool.eq_iff_iff]; simp; omega
  · intro h; cases h
  intro _
  repeat' (first | refine yo ?_ ?_ | refine yw ?_ ?_ | refine yk ?_ ?_ | exact trivial | with_reducible refine wA ?_ ?_ | refine ys ?_ ?_ | refine xs_done ?_ | refine yl ?_ ?_ | refine w8 ?_ | refine w9 ?_ | refine w1 ?_ | refine w2 ?_ | refine w3 ?_ | refine w4 ?_ | refine w5 ?_ | refine w6 ?_ | refine w7 ?_ | refine yo0 ?_ ?_ | refine yw0 ?_ ?_ | exact qq | fail)
  refine pcond (b := false) ?_ ?_ ?_
  · refine eqB ?_
    rw [Bool.eq_iff_iff]; simp; omega
  · intro h; cases h
  intro _
  repeat' (first | refine yo ?_ ?_ | refine yw ?_ ?_ | refine yk ?_ ?_ | exact trivial | with_reducible refine wA ?_ ?_ | refine ys ?_ ?_ | refine xs_done ?_ | refine yl ?_ ?_ | refine w8 ?_ | refine w9 ?_ | refine w1 ?_ | refine w2 ?_ | refine w3 ?_ | refine w4 ?_ | refine w5 ?_ | refine w6 ?_ | refine w7 ?_ | refine yo0 ?_ ?_ | refine yw0 ?_ ?_ | exact qq | fail)
  refine pop_mkmapB kI rfl rfl rfl rfl rfl ?_
  repeat' (first | refine yo ?_ ?_ | refine yw ?_ ?_ | refine yk ?_ ?_ | exact trivial | with_reducible refine wA ?_ ?_ | refine ys ?_ ?_ | refine xs_done ?_ | refine yl ?_ ?_ | refine w8 ?_ | refine w9 ?_ | refine w1 ?_ | refine w2 ?_ | refine w3 ?_ | refine w4 ?_ | refine w5 ?_ | refine w6 ?_ | refine w7 ?_ | refine yo0 ?_ ?_ | refine yw0 ?_ ?_ | exact qq | fail)
  refine pcan (st' := ⟨[(1, vi n), (2, vi count), (12, .mref 0), (36, .vsl m 1 (tI x)), (37, vi m), (38, vi ((0 : Nat) : Int))], [mRowB kI []]⟩) (can_rowsv [2] (k0_sel hk rfl) rfl (.cons rfl m_eqB .nil) tmq) ?_
  refine ploop (fun q st => ∃ (i : Nat) (M : List (Int × Int)), i ≤ m ∧ (∀ y, mget M y = if exI i x y then some 1 else none) ∧ q = m - i ∧ st = ⟨[(1, vi n), (2, vi count), (12, .mref 0), (36, .vsl m 1 (tI x)), (37, vi m), (38, vi i)], [mRowB kI M]⟩) m ⟨0, [], by omega, fun y => rfl, rfl, rfl⟩ ?_
  rintro _ _ ⟨i, M, hi, hM, rfl, rfl⟩
  repeat' (first | refine yo ?_ ?_ | refine yw ?_ ?_ | refine yk ?_ ?_ | exact trivial | with_reducible refine wA ?_ ?_ | refine ys ?_ ?_ | refine xs_done ?_ | refine yl ?_ ?_ | refine w8 ?_ | refine w9 ?_ | refine w1 ?_ | refine w2 ?_ | refine w3 ?_ | refine w4 ?_ | refine w5 ?_ | refine w6 ?_ | refine w7 ?_ | refine yo0 ?_ ?_ | refine yw0 ?_ ?_ | exact qq | fail)
  refine pcond rfl ?_ ?_ <;> intro hc <;> simp at hc
  · repeat' (first | refine yo ?_ ?_ | refine yw ?_ ?_ | refine yk ?_ ?_ | exact trivial | with_reducible refine wA ?_ ?_ | refine ys ?_ ?_ | refine xs_done ?_ | refine yl ?_ ?_ | refine w8 ?_ | refine w9 ?_ | refine w1 ?_ | refine w2 ?_ | refine w3 ?_ | refine w4 ?_ | refine w5 ?_ | refine w6 ?_ | refine w7 ?_ | refine yo0 ?_ ?_ | refine yw0 ?_ ?_ | exact qq | fail)
    refine pop_msetB mapIB (x i) 1 rfl rfl rfl rfl rfl rfl rfl (by rw [hk]; exact Nat.zero_le _) rfl rfl ?_
    repeat' (first | refine yo ?_ ?_ | refine yw ?_ ?_ | refine yk ?_ ?_ | exact trivial | with_reducible refine wA ?_ ?_ | refine ys ?_ ?_ | refine xs_done ?_ | refine yl ?_ ?_ | refine w8 ?_ | refine w9 ?_ | refine w1 ?_ | refine w2 ?_ | refine w3 ?_ | refine w4 ?_ | refine w5 ?_ | refine w6 ?_ | refine w7 ?_ | refine yo0 ?_ ?_ | refine yw0 ?_ ?_ | exact qq | fail)
    rw [show IntKind.i64.wrap ((i : Int) + 1) = ((i + 1 : Nat) : Int) from w64 (by omega) (by omega)]
    exact kloop_next (st' := ⟨[(1, vi n), (2, vi count), (12, .mref 0), (36, .vsl m 1 (tI x)), (37, vi m), (38, vi ((i + 1 : Nat) : Int))], [mRowB kI (mset M (x i) 1)]⟩) (m - (i + 1)) (can_rowsv [0] (k0_sel hk rfl) rfl (.cons rfl m_eqB .nil) tmq) (by omega) ⟨i + 1, _, by omega, fun y => by
      rw [mget_mset, hM, exI_succ]
      by_cases h : x i = y
      · rw [if_pos h]; simp [h]
      · rw [if_neg h]; simp [h], rfl, rfl⟩
  · have hin : i = m := by omega
    subst hin
    repeat' (first | refine yo ?_ ?_ | refine yw ?_ ?_ | refine yk ?_ ?_ | exact trivial | with_reducible refine wA ?_ ?_ | refine ys ?_ ?_ | refine xs_done ?_ | refine yl ?_ ?_ | refine w8 ?_ | refine w9 ?_ | refine w1 ?_ | refine w2 ?_ | refine w3 ?_ | refine w4 ?_ | refine w5 ?_ | refine w6 ?_ | refine w7 ?_ | refine yo0 ?_ ?_ | refine yw0 ?_ ?_ | exact qq | fail)
    rw [w64 (n := n - 1) (by omega) (by omega)]
    refine pcan (can_virt (vRow c1 1 0 (lF 0 [])) rfl) ?_
    refine pcan (st' := ⟨[(2, vi count), (12, .mref 0), (15, slP 0 1), (16, vi ((n.toNat : Int) - 1))], [mRowB kI M, vRow c1 1 0 (lF 0 [])]⟩) (can_rowsv [0, 1] (k0_sel hk rfl) rfl (.cons rfl m_eqB (.cons rfl rqq .nil)) (by exact ⟨PEq.refl _, PEq.refl _, PEq.refl _, PEq.of (by rw [show ((n.toNat : Int)) = n by omega]; rfl), trivial⟩)) ?_
    refine ploop (fun q st => ∃ (k : Nat) (l : List Int), l.length = k ∧ (k : Int) ≤ count ∧ l ++ refL (exI i x) q (count.toNat - k) = refL (exI i x) n.toNat count.toNat ∧ q ≤ n.toNat ∧ st = ⟨[(2, vi count), (12, .mref 0), (15, slP k 1), (16, vi ((q : Int) - 1))], [mRowB kI M, vRow c1 1 k (lF 0 l)]⟩) n.toNat ⟨0, [], rfl, by omega, by simp, Nat.le_refl _, rfl⟩ ?_
    rintro q _ ⟨k, l, hlk, hkc, hR, hq, rfl⟩
    obtain ⟨R, hRd⟩ : ∃ R, R = refL (exI i x) n.toNat count.toNat := ⟨_, rfl⟩
    rw [← hRd] at hR ⊢
    rcases k with _ | k
    · repeat' (first | refine yo ?_ ?_ | refine yw ?_ ?_ | refine yk ?_ ?_ | exact trivial | with_reducible refine wA ?_ ?_ | refine ys ?_ ?_ | refine xs_done ?_ | refine yl ?_ ?_ | refine w8 ?_ | refine w9 ?_ | refine w1 ?_ | refine w2 ?_ | refine w3 ?_ | refine w4 ?_ | refine w5 ?_ | refine w6 ?_ | refine w7 ?_ | refine yo0 ?_ ?_ | refine yw0 ?_ ?_ | exact qq | fail)
      refine pcond (b := decide (0 < q ∧ ((0 : Nat) : Int) < count)) ?_ ?_ ?_
      · refine eqB ?_
        rw [Bool.eq_iff_iff]
        by_cases h1 : 0 < q
        · rw [decide_eq_true (show (q : Int) - 1 ≥ 0 by omega)]; simp [h1]
        · rw [decide_eq_false (show ¬ (q : Int) - 1 ≥ 0 by omega)]; simp [h1]
      · intro hb
        obtain ⟨hq0, hkc2⟩ := of_decide_eq_true hb
        obtain ⟨q', rfl⟩ : ∃ q', q = q' + 1 := ⟨q - 1, by omega⟩
        rw [show (((q' + 1 : Nat) : Int) - 1) = (q' : Int) by omega]
        rw [refL, if_neg (by omega)] at hR
        repeat' (first | refine yo ?_ ?_ | refine yw ?_ ?_ | refine yk ?_ ?_ | exact trivial | with_reducible refine wA ?_ ?_ | refine ys ?_ ?_ | refine xs_done ?_ | refine yl ?_ ?_ | refine w8 ?_ | refine w9 ?_ | refine w1 ?_ | refine w2 ?_ | refine w3 ?_ | refine w4 ?_ | refine w5 ?_ | refine w6 ?_ | refine w7 ?_ | refine yo0 ?_ ?_ | refine yw0 ?_ ?_ | exact qq | fail)
        refine pop_lookB mapIB false (q' : Int) rfl rfl rfl rfl rfl rfl rfl ?_
        rw [hM]
        by_cases hx : exI i x q' = true
        · rw [if_pos hx] at hR ⊢
          repeat' (first | refine yo ?_ ?_ | refine yw ?_ ?_ | refine yk ?_ ?_ | exact trivial | with_reducible refine wA ?_ ?_ | refine ys ?_ ?_ | refine xs_done ?_ | refine yl ?_ ?_ | refine w8 ?_ | refine w9 ?_ | refine w1 ?_ | refine w2 ?_ | refine w3 ?_ | refine w4 ?_ | refine w5 ?_ | refine w6 ?_ | refine w7 ?_ | refine yo0 ?_ ?_ | refine yw0 ?_ ?_ | exact qq | fail)
          rw [w64 (n := (q' : Int) - 1) (by omega) (by omega)]
          exact kloop_next (st' := ⟨[(2, vi count), (12, .mref 0), (15, slP (0) 1), (16, vi ((q' : Int) - 1))], [mRowB kI M, vRow c1 1 (0) (lF 0 l)]⟩) q' (can_rowsv [0, 1] (k0_sel hk rfl) rfl (.cons rfl m_eqB (.cons rfl rqq .nil)) tmq) (by omega) ⟨0, l, hlk, hkc, hR, by omega, rfl⟩
        · rw [if_neg hx] at hR ⊢
          repeat' (first | refine yo ?_ ?_ | refine yw ?_ ?_ | refine yk ?_ ?_ | exact trivial | with_reducible refine wA ?_ ?_ | refine ys ?_ ?_ | refine xs_done ?_ | refine yl ?_ ?_ | refine w8 ?_ | refine w9 ?_ | refine w1 ?_ | refine w2 ?_ | refine w3 ?_ | refine w4 ?_ | refine w5 ?_ | refine w6 ?_ | refine w7 ?_ | refine yo0 ?_ ?_ | refine yw0 ?_ ?_ | exact qq | fail)
          rw [w64 (n := (q' : Int) - 1) (by omega) (by omega)]
          exact kloop_next (st' := ⟨[(2, vi count), (12, .mref 0), (15, slP (0 + 1) 1), (16, vi ((q' : Int) - 1))], [mRowB kI M, vRow c1 1 (0 + 1) (lF 0 (l ++ [(q' : Int)]))]⟩) q' (can_rowsv [0, 3] (k0_sel hk rfl) rfl (.cons rfl m_eqB (.cons rfl rqq .nil)) tmq) (by omega) ⟨0 + 1, l ++ [(q' : Int)], by rw [List.length_append, hlk]; rfl, by omega, by rw [← hR, List.append_assoc, show count.toNat - (0 + 1) = count.toNat - (0) - 1 by omega]; rfl, by omega, rfl⟩
      · intro hb
        have hb := of_decide_eq_false hb
        have hex : R = l := by
          rw [← hR]
          by_cases hq0 : 0 < q
          · rw [show count.toNat - (0) = 0 by omega, refL_zero, List.append_nil]
          · rw [show q = 0 by omega, refL, List.append_nil]
        repeat' (first | refine yo ?_ ?_ | refine yw ?_ ?_ | refine yk ?_ ?_ | exact trivial | with_reducible refine wA ?_ ?_ | refine ys ?_ ?_ | refine xs_done ?_ | refine yl ?_ ?_ | refine w8 ?_ | refine w9 ?_ | refine w1 ?_ | refine w2 ?_ | refine w3 ?_ | refine w4 ?_ | refine w5 ?_ | refine w6 ?_ | refine w7 ?_ | refine yo0 ?_ ?_ | refine yw0 ?_ ?_ | exact qq | fail)
        refine xdone ?_
        have hl0 : l = [] := List.length_eq_zero_iff.1 hlk
        subst hl0
        exact kret [] rfl ⟨trivial, trivial, trivial⟩ (qs := [vLi [], vi 0]) ⟨argNil, argVal, trivial⟩ (by rw [hex]; rfl)
    · repeat' (first | refine yo ?_ ?_ | refine yw ?_ ?_ | refine yk ?_ ?_ | exact trivial | with_reducible refine wA ?_ ?_ | refine ys ?_ ?_ | refine xs_done ?_ | refine yl ?_ ?_ | refine w8 ?_ | refine w9 ?_ | refine w1 ?_ | refine w2 ?_ | refine w3 ?_ | refine w4 ?_ | refine w5 ?_ | refine w6 ?_ | refine w7 ?_ | refine yo0 ?_ ?_ | refine yw0 ?_ ?_ | exact qq | fail)
      refine pcond (b := decide (0 < q ∧ (((k + 1) : Nat) : Int) < count)) ?_ ?_ ?_
      · refine eqB ?_
        rw [Bool.eq_iff_iff]
        by_cases h1 : 0 < q
        · rw [decide_eq_true (show (q : Int) - 1 ≥ 0 by omega)]; simp [h1]
        · rw [decide_eq_false (show ¬ (q : Int) - 1 ≥ 0 by omega)]; simp [h1]
      · intro hb
        obtain ⟨hq0, hkc2⟩ := of_decide_eq_true hb
        obtain ⟨q', rfl⟩ : ∃ q', q = q' + 1 := ⟨q - 1, by omega⟩
        rw [show (((q' + 1 : Nat) : Int) - 1) = (q' : Int) by omega]
        rw [refL, if_neg (by omega)] at hR
        repeat' (first | refine yo ?_ ?_ | refine yw ?_ ?_ | refine yk ?_ ?_ | exact trivial | with_reducible refine wA ?_ ?_ | refine ys ?_ ?_ | refine xs_done ?_ | refine yl ?_ ?_ | refine w8 ?_ | refine w9 ?_ | refine w1 ?_ | refine w2 ?_ | refine w3 ?_ | refine w4 ?_ | refine w5 ?_ | refine w6 ?_ | refine w7 ?_ | refine yo0 ?_ ?_ | refine yw0 ?_ ?_ | exact qq | fail)
        refine pop_lookB mapIB false (q' : Int) rfl rfl rfl rfl rfl rfl rfl ?_
        rw [hM]
        by_cases hx : exI i x q' = true
        · rw [if_pos hx] at hR ⊢
          repeat' (first | refine yo ?_ ?_ | refine yw ?_ ?_ | refine yk ?_ ?_ | exact trivial | with_reducible refine wA ?_ ?_ | refine ys ?_ ?_ | refine xs_done ?_ | refine yl ?_ ?_ | refine w8 ?_ | refine w9 ?_ | refine w1 ?_ | refine w2 ?_ | refine w3 ?_ | refine w4 ?_ | refine w5 ?_ | refine w6 ?_ | refine w7 ?_ | refine yo0 ?_ ?_ | refine yw0 ?_ ?_ | exact qq | fail)
          rw [w64 (n := (q' : Int) - 1) (by omega) (by omega)]
          exact kloop_next (st' := ⟨[(2, vi count), (12, .mref 0), (15, slP (k + 1) 1), (16, vi ((q' : Int) - 1))], [mRowB kI M, vRow c1 1 (k + 1) (lF 0 l)]⟩) q' (can_rowsv [0, 1] (k0_sel hk rfl) rfl (.cons rfl m_eqB (.cons rfl rqq .nil)) tmq) (by omega) ⟨k + 1, l, hlk, hkc, hR, by omega, rfl⟩
        · rw [if_neg hx] at hR ⊢
          repeat' (first | refine yo ?_ ?_ | refine yw ?_ ?_ | refine yk ?_ ?_ | exact trivial | with_reducible refine wA ?_ ?_ | refine ys ?_ ?_ | refine xs_done ?_ | refine yl ?_ ?_ | exact ⟨Nat.le_refl _, (by rw [hk]; exact Nat.le_of_ble_eq_true rfl), Nat.le_of_eq (Nat.zero_add _), (show (k + 1 : Nat) * 8 ≤ 140737488355328 from by omega), (show (k + 1 : Nat) ≤ 9223372036854775807 from by omega)⟩ | refine w8 ?_ | refine w9 ?_ | refine w1 ?_ | refine w2 ?_ | refine w3 ?_ | refine w4 ?_ | refine w5 ?_ | refine w6 ?_ | refine w7 ?_ | refine yo0 ?_ ?_ | refine yw0 ?_ ?_ | exact qq | fail)
          rw [w64 (n := (q' : Int) - 1) (by omega) (by omega)]
          exact kloop_next (st' := ⟨[(2, vi count), (12, .mref 0), (15, slP (k + 1 + 1) 1), (16, vi ((q' : Int) - 1))], [mRowB kI M, vRow c1 1 (k + 1 + 1) (lF 0 (l ++ [(q' : Int)]))]⟩) q' (can_rowsv [0, 3] (k0_sel hk rfl) rfl (.cons rfl m_eqB (.cons rfl rqq .nil)) tmq) (by omega) ⟨k + 1 + 1, l ++ [(q' : Int)], by rw [List.length_append, hlk]; rfl, by omega, by rw [← hR, List.append_assoc, show count.toNat - (k + 1 + 1) = count.toNat - (k + 1) - 1 by omega]; rfl, by omega, rfl⟩
      · intro hb
        have hb := of_decide_eq_false hb
        have hex : R = l := by
          rw [← hR]
          by_cases hq0 : 0 < q
          · rw [show count.toNat - (k + 1) = 0 by omega, refL_zero, List.append_nil]
          · rw [show q = 0 by omega, refL, List.append_nil]
        repeat' (first | refine yo ?_ ?_ | refine yw ?_ ?_ | refine yk ?_ ?_ | exact trivial | with_reducible refine wA ?_ ?_ | refine ys ?_ ?_ | refine xs_done ?_ | refine yl ?_ ?_ | refine w8 ?_ | refine w9 ?_ | refine w1 ?_ | refine w2 ?_ | refine w3 ?_ | refine w4 ?_ | refine w5 ?_ | refine w6 ?_ | refine w7 ?_ | refine yo0 ?_ ?_ | refine yw0 ?_ ?_ | exact qq | fail)
        refine xdone ?_
        exact kret [1] rfl ⟨trivial, trivial, trivial⟩ (qs := [.vsl (k + 1) 1 (tF c1 (lF 0 l)), vi 0]) ⟨arg_o (s := .own) c1_cl rfl trivial (List.Mem.head _), argVal, trivial⟩ (by rw [hex, ← hlk]; rfl)
end Go.Proofs.YtdifpajpheemaaaGreatDoor
namespace Go.Proofs.YtdifpajpheemaaaGreatDoor
abbrev nmE (n : Int) : Ex := .mk 1 n 1 0 0 0 ⟨#[]⟩ 0 0 0 kn
theorem num22_c (n : Int) : PureC G.P 30 [vi n] (fun r => r = vX (nmE n)) := by
  refine pure_of (G := G.toPg) (fn := Tryz.f30) Tryz.func30 rfl rfl rfl ?_; intro Γ hk
  repeat' (first | refine yo ?_ ?_ | refine yw ?_ ?_ | refine yk ?_ ?_ | exact trivial | with_reducible refine wA ?_ ?_ | refine ys ?_ ?_ | refine xs_done ?_ | refine yl ?_ ?_ | refine w8 ?_ | refine w9 ?_ | refine w1 ?_ | refine w2 ?_ | refine w3 ?_ | refine w4 ?_ | refine w5 ?_ | refine w6 ?_ | refine w7 ?_ | refine yo0 ?_ ?_ | refine yw0 ?_ ?_ | exact qq | fail)
  refine xdone ?_
  exact kret [] rfl ⟨Nat.zero_lt_one, trivial⟩ (qs := [vX (nmE n)]) ⟨argEx argNil, trivial⟩ rfl
abbrev cLt : Ex := eOp 9 2 (k2 (nmE 1) (nmE 2))
abbrev bdE : Ex := eOp 8 2 (k2 (nmE 1) (nmE 0))
abbrev ifE : Ex := eOp 18 3 (k3 cLt (nmE 5) bdE)
theorem ev_if : evalS [] [] [] ifE = ((5, 1), 0) := by decide +kernel
theorem lk_a : lookS 2 (lF (0, 0, 0) [(1, 10, 1), (5, 20, 1)]) 9 2 = ((10, 1), 0) := by decide +kernel
theorem lk_b : lookS 2 (lF (0, 0, 0) [(1, 10, 1), (5, 20, 1)]) 0 1 = ((0, 0), 16) := by decide +kernel
theorem bd_if : Bd ifE := by
  have n : ∀ z : Int, -9223372036854775808 ≤ z ∧ z ≤ 9223372036854775807 → Bd (nmE z) := fun z h => .mk ⟨h.1, h.2, by decide⟩ fun i hi => absurd hi (Nat.not_lt_zero i)
  have t : ∀ (op : Int) (a b : Ex), Bd a → Bd b → Bd (eOp op 2 (k2 a b)) := fun op a b ha hb => .mk ⟨by decide, by decide, by decide⟩ fun i hi => by
    unfold k2; split
    · exact ha
    · exact hb
  refine .mk ⟨by decide, by decide, by decide⟩ fun i hi => ?_
  unfold k3
  split
  · exact t _ _ _ (n _ (by decide)) (n _ (by decide))
  split
  · exact n _ (by decide)
  · exact t _ _ _ (n _ (by decide)) (n _ (by decide))
abbrev n_x : ByteArray := ⟨#[120]⟩
theorem av_x : avgS [⟨n_x, 3, lF (0, 0) [(1, 1), (2, 1), (6, 1)]⟩] n_x 2 = ((3, 2), 0) := by decide +kernel
theorem rf_x : refL (exI 1 fun _ => 4) 5 2 = [3, 2] := by decide +kernel
theorem mn_x : meanS 0 (fun _ => (0, 0)) = ((0, 0), 16) := by decide +kernel
theorem ls_x : lastS' [] n_x 1 = ((0, 0), 16) := by decide +kernel
theorem argK3n {mem : List Row} {L : List Nat} {l : Nat} {a b c : Ex} {p q r : List PV} {op vn vd um uh ud : Int} {nm : ByteArray} {cnt mode : Int} (hr : rowAt mem l = some ⟨.own, false, 3, 10, fun x y => nthP (p ++ (q ++ r)) (x * 10 + y)⟩) (hp : p.length = 10) (hq : q.length = 10) (hL : l ∈ L)
    (h0 : ∀ y, y < 10 → ArgOk mem L (nthP p y) (nthP (cX a) y)) (h1 : ∀ y, y < 10 → ArgOk mem L (nthP q y) (nthP (cX b) y)) (h2 : ∀ y, y < 10 → ArgOk mem L (nthP r y) (nthP (cX c) y)) : ArgOk mem L (.lsl l 0 3) (.vsl 3 10 (Ex.mk op vn vd um uh ud nm cnt mode 3 (k3 a b c)).kc) :=
  argLsl' (r := ⟨.own, false, 3, 10, _⟩) hr trivial hL (by simp) fun x hx y hy => by
    have hy : y < 10 := hy
    show ArgOk mem L (nthP (p ++ (q ++ r)) ((0 + x) * 10 + y)) (nthP (cX (k3 a b c x)) y)
    have app : ∀ (u v : List PV) (z : Nat), u.length = 10 → (z < 10 → nthP (u ++ v) z = nthP u z) ∧ nthP (u ++ v) (10 + z) = nthP v z := by
      intro u v z hu
      match u, hu with
      | [u0, u1, u2, u3, u4, u5, u6, u7, u8, u9], _ => 
        refine ⟨fun hz => ?_, ?_⟩
        · rcases c10 hz with rfl | rfl | rfl | rfl | rfl | rfl | rfl | rfl | rfl | rfl <;> rfl
        · rw [Nat.add_comm]; rfl
    rcases (by omega : x = 0 ∨ x = 1 ∨ x = 2) with rfl | rfl | rfl
    · rw [show (0 + 0) * 10 + y = y by omega, (app p _ y hp).1 hy]; exact h0 y hy
    · rw [show (0 + 1) * 10 + y = 10 + y by omega, (app p _ y hp).2, (app q _ y hq).1 hy]; exact h1 y hy
    · rw [show (0 + 2) * 10 + y = 10 + (10 + y) by omega, (app p _ (10 + y) hp).2, (app q _ y hq).2]; exact h2 y hy
theorem argIf {mem : List Row} {l l1 l2 : Nat} (hr : rowAt mem l = some ⟨.own, false, 3, 10, fun x y => nthP ([vi 9, vi 0, vi 0, vi 0, vi 0, vi 0, vs ⟨#[]⟩, vi 0, vi 0, .lsl l1 0 2] ++ (cX (nmE 5) ++ [vi 8, vi 0, vi 0, vi 0, vi 0, vi 0, vs ⟨#[]⟩, vi 0, vi 0, .lsl l2 0 2])) (x * 10 + y)⟩)
    (h1 : rowAt mem l1 = some ⟨.own, false, 2, 10, fun x y => nthP (cX (nmE 1) ++ cX (nmE 2)) (x * 10 + y)⟩) (h2 : rowAt mem l2 = some ⟨.own, false, 2, 10, fun x y => nthP (cX (nmE 1) ++ cX (nmE 0)) (x * 10 + y)⟩) :
    ArgOk mem [l, l1, l2] (.agg 10 (nthP [vi 18, vi 0, vi 0, vi 0, vi 0, vi 0, vs ⟨#[]⟩, vi 0, vi 0, .lsl l 0 3])) (vX ifE) :=
  argEx (argK3n (a := cLt) (b := nmE 5) (c := bdE) hr rfl rfl (List.Mem.head _) (fun y hy => by
    rcases c10 hy with rfl | rfl | rfl | rfl | rfl | rfl | rfl | rfl | rfl | rfl
    all_goals first
      | exact argVal
      | exact argK2 h1 (List.Mem.tail _ (List.Mem.head _))) (fun y hy => argCl (clL_nth _ y ⟨trivial, trivial, trivial, trivial, trivial, trivial, trivial, trivial, trivial, trivial, trivial⟩)) (fun y hy => by
    rcases c10 hy with rfl | rfl | rfl | rfl | rfl | rfl | rfl | rfl | rfl | rfl
    all_goals first
      | exact argVal
      | exact argK2 h2 (List.Mem.tail _ (List.Mem.tail _ (List.Mem.head _)))))
theorem argEn2 {mem : List Row} {L : List Nat} {l : Nat} {a b c d e f : Int} (hr : rowAt mem l = some ⟨.own, false, 2, 3, fun x y => nthP [vi a, vi b, vi c, vi d, vi e, vi f] (x * 3 + y)⟩) (hL : l ∈ L) : ArgOk mem L (.lsl l 0 2) (.vsl 2 3 (tF cN3 (lF (0, 0, 0) [(a, b, c), (d, e, f)]))) :=
  argLsl (r := ⟨.own, false, 2, 3, _⟩) hr trivial hL (Nat.le_refl _) fun x hx y hy => ⟨by
    have hy : y < 3 := hy
    rcases (by omega : x = 0 ∨ x = 1) with rfl | rfl <;> rcases (by omega : y = 0 ∨ y = 1 ∨ y = 2) with rfl | rfl | rfl <;> rfl, tF_cl cN3_cl _ x y⟩
theorem argI1 {mem : List Row} {L : List Nat} {l : Nat} {a : Int} (hr : rowAt mem l = some ⟨.own, false, 1, 1, fun x y => nthP [vi a] (x * 1 + y)⟩) (hL : l ∈ L) : ArgOk mem L (.lsl l 0 1) (.vsl 1 1 (tI fun _ => a)) :=
  argLsl (r := ⟨.own, false, 1, 1, _⟩) hr trivial hL (Nat.le_refl _) fun x hx y hy => ⟨by
    obtain rfl : x = 0 := by omega
    have hy : y < 1 := hy
    obtain rfl : y = 0 := by omega
    rfl, trivial⟩
theorem argPa1 {mem : List Row} {l l1 : Nat} {nm : ByteArray} {a b c d e f : Int} (hr : rowAt mem l = some ⟨.own, false, 1, 2, fun x y => nthP [vs nm, .lsl l1 0 3] (x * 2 + y)⟩) (h1 : rowAt mem l1 = some ⟨.own, false, 3, 2, fun x y => nthP [vi a, vi b, vi c, vi d, vi e, vi f] (x * 2 + y)⟩) : ArgOk mem [l, l1] (.lsl l 0 1) (vPas [⟨nm, 3, lF (0, 0) [(a, b), (c, d), (e, f)]⟩]) :=
  argLsl' (r := ⟨.own, false, 1, 2, _⟩) hr trivial (List.Mem.head _) (Nat.le_refl _) fun x hx y hy => by
    obtain rfl : x = 0 := by omega
    have hy : y < 2 := hy
    rcases (by omega : y = 0 ∨ y = 1) with rfl | rfl
    · exact argVal
    · exact argLsl (r := ⟨.own, false, 3, 2, _⟩) h1 trivial (List.Mem.tail _ (List.Mem.head _)) (Nat.le_refl _) fun x hx y hy => ⟨by
        have hy : y < 2 := hy
        rcases (by omega : x = 0 ∨ x = 1 ∨ x = 2) with rfl | rfl | rfl <;> rcases (by omega : y = 0 ∨ y = 1) with rfl | rfl <;> rfl, clL_nth _ y ⟨trivial, trivial, trivial⟩⟩
set_option maxHeartbeats 4000000 in
theorem sane22_c : PureC G.P 11 [] (fun r => r = vb true) := by
  have n1 := num22_c 1
  have n2 := num22_c 2
  have n5 := num22_c 5
  have n0 := num22_c 0
  refine pure_of (G := G.toPg) (fn := Tryz.f11) Tryz.func11 rfl rfl rfl ?_; intro Γ hk
  repeat' (first | refine yo ?_ ?_ | refine yw ?_ ?_ | refine yk ?_ ?_ | exact trivial | with_reducible refine wA ?_ ?_ | refine ys ?_ ?_ | refine xs_done ?_ | refine yl ?_ ?_ | (refine pop_callc [] rfl rfl rfl rfl rfl rfl (fun _ h => by cases h) (n1) (args_cl _ rfl) ?_; rintro _ rfl) | (refine pop_callc [] rfl rfl rfl rfl rfl rfl (fun _ h => by cases h) (n2) (args_cl _ rfl) ?_; rintro _ rfl) | refine w8 ?_ | refine w9 ?_ | refine w1 ?_ | refine w2 ?_ | refine w3 ?_ | refine w4 ?_ | refine w5 ?_ | refine w6 ?_ | refine w7 ?_ | refine yo0 ?_ ?_ | refine yw0 ?_ ?_ | exact qq | fail)
  refine pcan (st' := ⟨[(1, .ptr 0 0 0)], [⟨.own, true, 1, 10, fun _ => nthP [vi 9, vi 0, vi 0, vi 0, vi 0, vi 0, vs ⟨#[]⟩, vi 0, vi 0, .lsl 1 0 2]⟩, ⟨.own, false, 2, 10, fun x y => nthP (cX (nmE 1) ++ cX (nmE 2)) (x * 10 + y)⟩]⟩) (can_rowsv [1, 0] (k0_sel hk rfl) rfl (.cons rfl ?_ (.cons rfl ?_ .nil)) tmq) ?_
  · exact ⟨rfl, rfl, Nat.le_refl _, fun i _ j hj => by
      have hj : j < 10 := hj
      rcases c10 hj with rfl | rfl | rfl | rfl | rfl | rfl | rfl | rfl | rfl | rfl <;> exact PEq.refl _⟩
  · exact ⟨rfl, rfl, Nat.le_refl _, fun i hi j hj => by
      have hj : j < 10 := hj
      have hi : i < 2 := hi
      rcases (by omega : i = 0 ∨ i = 1) with rfl | rfl <;> rcases c10 hj with rfl | rfl | rfl | rfl | rfl | rfl | rfl | rfl | rfl | rfl <;> exact PEq.refl _⟩
  refine pcut (fun st => st = ⟨[(2, .ptr 0 0 0), (3, vi 0)], [⟨.own, true, 1, 2, fun _ => nthP [vi 5, vi 1]⟩]⟩) ?_ ?_
  · have ev := valEval_c [] [] [] ⟨by decide, by decide, by decide, by simp, by simp, by simp⟩ ifE bd_if
    rw [ev_if] at ev
    (refine any_start [0,1] 15 rfl ?_); (first | refine aT 0 ?_ | refine aT2 0 ?_ | (refine aC 0 ?_ ?_; rotate_left)); (refine any_many [1, 12] (by kernel_rfl) (by decide) rfl ⟨?_, ?_, trivial⟩ <;> first | ((refine any_i 1 (ch := []) rfl rfl ( pst_rowsc [] rfl rfl rfl rfl rfl rfl .nil (pure_rows n5) (by exact ⟨PEq.refl _, trivial⟩) ?_)); (rintro r rows ⟨rfl, rfl⟩; refine ⟨_, _, rfl, trivial, rfl, ?_⟩); (refine any_many [2, 12] (by kernel_rfl) (by decide) rfl ⟨?_, ?_, trivial⟩ <;> first | ((refine any_i 2 (ch := []) rfl rfl ( pst_rowsc [] rfl rfl rfl rfl rfl rfl .nil (pure_rows n1) (by exact ⟨PEq.refl _, trivial⟩) ?_)); (rintro r rows ⟨rfl, rfl⟩; refine ⟨_, _, rfl, trivial, rfl, ?_⟩); (refine any_many [3, 12] (by kernel_rfl) (by decide) rfl ⟨?_, ?_, trivial⟩ <;> first | ((refine any_i 3 (ch := []) rfl rfl ( pst_rowsc [] rfl rfl rfl rfl rfl rfl .nil (pure_rows n0) (by exact ⟨PEq.refl _, trivial⟩) ?_)); (rintro r rows ⟨rfl, rfl⟩; refine ⟨_, _, rfl, trivial, rfl, ?_⟩); (refine any_many [4, 12] (by kernel_rfl) (by decide) rfl ⟨?_, ?_, trivial⟩ <;> first | ((refine any_i 4 (ch := []) rfl rfl (pst_make rfl rfl rfl rfl trivial ?_)); (first | refine aT2 5 ?_ | (refine aC2 5 ?_ ?_; rotate_left)); (refine any_many [6, 12] (by kernel_rfl) (by decide) rfl ⟨?_, ?_, trivial⟩ <;> first | ((refine any_i 6 (ch := []) rfl rfl (pst_make rfl rfl rfl rfl trivial ?_)); (first | refine aT2 7 ?_ | (refine aC2 7 ?_ ?_; rotate_left)); (refine any_many [8, 12] (by kernel_rfl) (by decide) rfl ⟨?_, ?_, trivial⟩ <;> first | ((refine any_i 8 (ch := []) rfl rfl (pst_call [_, _, _] rfl rfl rfl rfl rfl ev ⟨argIf rfl rfl rfl, argNil, argNil, argNil, trivial⟩ ?_)); (rintro _ rfl; refine ⟨scB_spec _ rfl, ?_⟩); (first | refine aT 9 ?_ | refine aT2 9 ?_ | (refine aC 9 ?_ ?_; rotate_left)); (first | refine aT 10 ?_ | refine aT2 10 ?_ | (refine aC 10 ?_ ?_; rotate_left)); (first | refine aT 11 ?_ | refine aT2 11 ?_ | (refine aC 11 ?_ ?_; rotate_left)); (refine aO 12 rfl (ch := [])  (pst_new rfl rfl rfl rfl trivial ?_)); (refine aO 13 rfl (ch := [_])  (pst_store rfl rfl rfl rfl Nat.zero_lt_one ?_)); (first | refine aT 14 ?_ | refine aT2 14 ?_ | (refine aC 14 ?_ ?_; rotate_left)); (refine any_done (by kernel_rfl) ?_)) | ((refine any_i 12 (ch := []) rfl rfl (pst_new rfl rfl rfl rfl trivial ?_)); (refine aO 8 rfl (ch := [])  (pst_call [_, _, _] rfl rfl rfl rfl rfl ev ⟨argIf rfl rfl rfl, argNil, argNil, argNil, trivial⟩ ?_)); (rintro _ rfl; refine ⟨scB_spec _ rfl, ?_⟩); (first | refine aT 9 ?_ | refine aT2 9 ?_ | (refine aC 9 ?_ ?_; rotate_left)); (first | refine aT 10 ?_ | refine aT2 10 ?_ | (refine aC 10 ?_ ?_; rotate_left)); (first | refine aT 11 ?_ | refine aT2 11 ?_ | (refine aC 11 ?_ ?_; rotate_left)); (refine aO 13 rfl (ch := [_])  (pst_store rfl rfl rfl rfl Nat.zero_lt_one ?_)); (first | refine aT 14 ?_ | refine aT2 14 ?_ | (refine aC 14 ?_ ?_; rotate_left)); (refine any_done (by kernel_rfl) ?_)))) | ((refine any_i 12 (ch := []) rfl rfl (pst_new rfl rfl rfl rfl trivial ?_)); (refine aO 6 rfl (ch := [])  (pst_make rfl rfl rfl rfl trivial ?_)); (first | refine aT2 7 ?_ | (refine aC2 7 ?_ ?_; rotate_left)); (refine aO 8 rfl (ch := [])  (pst_call [_, _, _] rfl rfl rfl rfl rfl ev ⟨argIf rfl rfl rfl, argNil, argNil, argNil, trivial⟩ ?_)); (rintro _ rfl; refine ⟨scB_spec _ rfl, ?_⟩); (first | refine aT 9 ?_ | refine aT2 9 ?_ | (refine aC 9 ?_ ?_; rotate_left)); (first | refine aT 10 ?_ | refine aT2 10 ?_ | (refine aC 10 ?_ ?_; rotate_left)); (first | refine aT 11 ?_ | refine aT2 11 ?_ | (refine aC 11 ?_ ?_; rotate_left)); (refine aO 13 rfl (ch := [_])  (pst_store rfl rfl rfl rfl Nat.zero_lt_one ?_)); (first | refine aT 14 ?_ | refine aT2 14 ?_ | (refine aC 14 ?_ ?_; rotate_left)); (refine any_done (by kernel_rfl) ?_)))) | ((refine any_i 12 (ch := []) rfl rfl (pst_new rfl rfl rfl rfl trivial ?_)); (refine aO 4 rfl (ch := [])  (pst_make rfl rfl rfl rfl trivial ?_)); (first | refine aT2 5 ?_ | (refine aC2 5 ?_ ?_; rotate_left)); (refine aO 6 rfl (ch := [])  (pst_make rfl rfl rfl rfl trivial ?_)); (first | refine aT2 7 ?_ | (refine aC2 7 ?_ ?_; rotate_left)); (refine aO 8 rfl (ch := [])  (pst_call [_, _, _] rfl rfl rfl rfl rfl ev ⟨argIf rfl rfl rfl, argNil, argNil, argNil, trivial⟩ ?_)); (rintro _ rfl; refine ⟨scB_spec _ rfl, ?_⟩); (first | refine aT 9 ?_ | refine aT2 9 ?_ | (refine aC 9 ?_ ?_; rotate_left)); (first | refine aT 10 ?_ | refine aT2 10 ?_ | (refine aC 10 ?_ ?_; rotate_left)); (first | refine aT 11 ?_ | refine aT2 11 ?_ | (refine aC 11 ?_ ?_; rotate_left)); (refine aO 13 rfl (ch := [_])  (pst_store rfl rfl rfl rfl Nat.zero_lt_one ?_)); (first | refine aT 14 ?_ | refine aT2 14 ?_ | (refine aC 14 ?_ ?_; rotate_left)); (refine any_done (by kernel_rfl) ?_)))) | ((refine any_i 12 (ch := []) rfl rfl (pst_new rfl rfl rfl rfl trivial ?_)); (refine aO 3 rfl (ch := [])  ( pst_rowsc [] rfl rfl rfl rfl rfl rfl .nil (pure_rows n0) (by exact ⟨PEq.refl _, trivial⟩) ?_)); (rintro r rows ⟨rfl, rfl⟩; refine ⟨_, _, rfl, trivial, rfl, ?_⟩); (refine aO 4 rfl (ch := [])  (pst_make rfl rfl rfl rfl trivial ?_)); (first | refine aT2 5 ?_ | (refine aC2 5 ?_ ?_; rotate_left)); (refine aO 6 rfl (ch := [])  (pst_make rfl rfl rfl rfl trivial ?_)); (first | refine aT2 7 ?_ | (refine aC2 7 ?_ ?_; rotate_left)); (refine aO 8 rfl (ch := [])  (pst_call [_, _, _] rfl rfl rfl rfl rfl ev ⟨argIf rfl rfl rfl, argNil, argNil, argNil, trivial⟩ ?_)); (rintro _ rfl; refine ⟨scB_spec _ rfl, ?_⟩); (first | refine aT 9 ?_ | refine aT2 9 ?_ | (refine aC 9 ?_ ?_; rotate_left)); (first | refine aT 10 ?_ | refine aT2 10 ?_ | (refine aC 10 ?_ ?_; rotate_left)); (first | refine aT 11 ?_ | refine aT2 11 ?_ | (refine aC 11 ?_ ?_; rotate_left)); (refine aO 13 rfl (ch := [_])  (pst_store rfl rfl rfl rfl Nat.zero_lt_one ?_)); (first | refine aT 14 ?_ | refine aT2 14 ?_ | (refine aC 14 ?_ ?_; rotate_left)); (refine any_done (by kernel_rfl) ?_)))) | ((refine any_i 12 (ch := []) rfl rfl (pst_new rfl rfl rfl rfl trivial ?_)); (refine aO 2 rfl (ch := [])  ( pst_rowsc [] rfl rfl rfl rfl rfl rfl .nil (pure_rows n1) (by exact ⟨PEq.refl _, trivial⟩) ?_)); (rintro r rows ⟨rfl, rfl⟩; refine ⟨_, _, rfl, trivial, rfl, ?_⟩); (refine aO 3 rfl (ch := [])  ( pst_rowsc [] rfl rfl rfl rfl rfl rfl .nil (pure_rows n0) (by exact ⟨PEq.refl _, trivial⟩) ?_)); (rintro r rows ⟨rfl, rfl⟩; refine ⟨_, _, rfl, trivial, rfl, ?_⟩); (refine aO 4 rfl (ch := [])  (pst_make rfl rfl rfl rfl trivial ?_)); (first | refine aT2 5 ?_ | (refine aC2 5 ?_ ?_; rotate_left)); (refine aO 6 rfl (ch := [])  (pst_make rfl rfl rfl rfl trivial ?_)); (first | refine aT2 7 ?_ | (refine aC2 7 ?_ ?_; rotate_left)); (refine aO 8 rfl (ch := [])  (pst_call [_, _, _] rfl rfl rfl rfl rfl ev ⟨argIf rfl rfl rfl, argNil, argNil, argNil, trivial⟩ ?_)); (rintro _ rfl; refine ⟨scB_spec _ rfl, ?_⟩); (first | refine aT 9 ?_ | refine aT2 9 ?_ | (refine aC 9 ?_ ?_; rotate_left)); (first | refine aT 10 ?_ | refine aT2 10 ?_ | (refine aC 10 ?_ ?_; rotate_left)); (first | refine aT 11 ?_ | refine aT2 11 ?_ | (refine aC 11 ?_ ?_; rotate_left)); (refine aO 13 rfl (ch := [_])  (pst_store rfl rfl rfl rfl Nat.zero_lt_one ?_)); (first | refine aT 14 ?_ | refine aT2 14 ?_ | (refine aC 14 ?_ ?_; rotate_left)); (refine any_done (by kernel_rfl) ?_)))) | ((refine any_i 12 (ch := []) rfl rfl (pst_new rfl rfl rfl rfl trivial ?_)); (refine aO 1 rfl (ch := [])  ( pst_rowsc [] rfl rfl rfl rfl rfl rfl .nil (pure_rows n5) (by exact ⟨PEq.refl _, trivial⟩) ?_)); (rintro r rows ⟨rfl, rfl⟩; refine ⟨_, _, rfl, trivial, rfl, ?_⟩); (refine aO 2 rfl (ch := [])  ( pst_rowsc [] rfl rfl rfl rfl rfl rfl .nil (pure_rows n1) (by exact ⟨PEq.refl _, trivial⟩) ?_)); (rintro r rows ⟨rfl, rfl⟩; refine ⟨_, _, rfl, trivial, rfl, ?_⟩); (refine aO 3 rfl (ch := [])  ( pst_rowsc [] rfl rfl rfl rfl rfl rfl .nil (pure_rows n0) (by exact ⟨PEq.refl _, trivial⟩) ?_)); (rintro r rows ⟨rfl, rfl⟩; refine ⟨_, _, rfl, trivial, rfl, ?_⟩); (refine aO 4 rfl (ch := [])  (pst_make rfl rfl rfl rfl trivial ?_)); (first | refine aT2 5 ?_ | (refine aC2 5 ?_ ?_; rotate_left)); (refine aO 6 rfl (ch := [])  (pst_make rfl rfl rfl rfl trivial ?_)); (first | refine aT2 7 ?_ | (refine aC2 7 ?_ ?_; rotate_left)); (refine aO 8 rfl (ch := [])  (pst_call [_, _, _] rfl rfl rfl rfl rfl ev ⟨argIf rfl rfl rfl, argNil, argNil, argNil, trivial⟩ ?_)); (rintro _ rfl; refine ⟨scB_spec _ rfl, ?_⟩); (first | refine aT 9 ?_ | refine aT2 9 ?_ | (refine aC 9 ?_ ?_; rotate_left)); (first | refine aT 10 ?_ | refine aT2 10 ?_ | (refine aC 10 ?_ ?_; rotate_left)); (first | refine aT 11 ?_ | refine aT2 11 ?_ | (refine aC 11 ?_ ?_; rotate_left)); (refine aO 13 rfl (ch := [_])  (pst_store rfl rfl rfl rfl Nat.zero_lt_one ?_)); (first | refine aT 14 ?_ | refine aT2 14 ?_ | (refine aC 14 ?_ ?_; rotate_left)); (refine any_done (by kernel_rfl) ?_)))
    all_goals first
      | exact kcut (can_rowsv [2] (k0_sel hk rfl) rfl (.cons rfl rqq .nil) tmq) rfl
      | exact kcut (can_rowsv [3] (k0_sel hk rfl) rfl (.cons rfl rqq .nil) tmq) rfl
      | exact kcut (can_rowsv [4] (k0_sel hk rfl) rfl (.cons rfl rqq .nil) tmq) rfl
      | exact kcut (can_rowsv [5] (k0_sel hk rfl) rfl (.cons rfl rqq .nil) tmq) rfl
  rintro _ rfl
  have la := lookup_c 2 (lF (0, 0, 0) [(1, 10, 1), (5, 20, 1)]) 9 2 (by decide) (by decide +kernel) (by decide)
  rw [lk_a] at la
  have lb := lookup_c 2 (lF (0, 0, 0) [(1, 10, 1), (5, 20, 1)]) 0 1 (by decide) (by decide +kernel) (by decide)
  rw [lk_b] at lb
  repeat' (first | refine yo ?_ ?_ | refine yw ?_ ?_ | refine yk ?_ ?_ | exact trivial | with_reducible refine wA ?_ ?_ | refine ys ?_ ?_ | refine xs_done ?_ | refine yl ?_ ?_ | refine w8 ?_ | refine w9 ?_ | refine w1 ?_ | refine w2 ?_ | refine w3 ?_ | refine w4 ?_ | refine w5 ?_ | refine w6 ?_ | refine w7 ?_ | refine yo0 ?_ ?_ | refine yw0 ?_ ?_ | exact qq | fail)
  refine pop_call [1] rfl rfl rfl rfl rfl la ⟨argEn2 rfl (List.Mem.head _), argCl (clA ⟨trivial, trivial, trivial⟩), trivial⟩ ?_
  rintro _ rfl
  refine ⟨scB_spec _ rfl, ?_⟩
  repeat' (first | refine yo ?_ ?_ | refine yw ?_ ?_ | refine yk ?_ ?_ | exact trivial | with_reducible refine wA ?_ ?_ | refine ys ?_ ?_ | refine xs_done ?_ | refine yl ?_ ?_ | refine w8 ?_ | refine w9 ?_ | refine w1 ?_ | refine w2 ?_ | refine w3 ?_ | refine w4 ?_ | refine w5 ?_ | refine w6 ?_ | refine w7 ?_ | refine yo0 ?_ ?_ | refine yw0 ?_ ?_ | exact qq | fail)
  refine pop_call [1] rfl rfl rfl rfl rfl lb ⟨argEn2 rfl (List.Mem.head _), argCl (clA ⟨trivial, trivial, trivial⟩), trivial⟩ ?_
  rintro _ rfl
  refine ⟨scB_spec _ rfl, ?_⟩
  have av := average_c [⟨n_x, 3, lF (0, 0) [(1, 1), (2, 1), (6, 1)]⟩] n_x 2 (by decide) (by
    intro p hp
    simp only [List.mem_cons, List.not_mem_nil, or_false] at hp
    subst hp
    refine ⟨by decide, ?_⟩
    decide +kernel)
  rw [av_x] at av
  have rf := ref_ok 0 0 5 2 1 (fun _ => 4) _ _ (span0_c 5 (by decide) (by decide)) (by decide) (by decide) (by decide) (by decide) (by decide)
  have mn := mean_c 0 (fun _ => (0, 0)) (by decide) (fun i hi => absurd hi (Nat.not_lt_zero i))
  have ls := last_c' [] n_x 1 (by decide) (by simp)
  rw [show refL (exI 1 fun _ => 4) (5 : Int).toNat (2 : Int).toNat = [3, 2] from rf_x] at rf
  rw [mn_x] at mn
  rw [ls_x] at ls
  repeat' (first | refine yo ?_ ?_ | refine yw ?_ ?_ | refine yk ?_ ?_ | exact trivial | with_reducible refine wA ?_ ?_ | refine ys ?_ ?_ | refine xs_done ?_ | refine yl ?_ ?_ | refine w8 ?_ | refine w9 ?_ | refine w1 ?_ | refine w2 ?_ | refine w3 ?_ | refine w4 ?_ | refine w5 ?_ | refine w6 ?_ | refine w7 ?_ | refine yo0 ?_ ?_ | refine yw0 ?_ ?_ | exact qq | fail)
  refine pop_call [5, 4] rfl rfl rfl rfl rfl av ⟨argPa1 rfl rfl, argVal, argVal, trivial⟩ ?_
  rintro _ rfl
  refine ⟨scB_spec _ rfl, ?_⟩
  repeat' (first | refine yo ?_ ?_ | refine yw ?_ ?_ | refine yk ?_ ?_ | exact trivial | with_reducible refine wA ?_ ?_ | refine ys ?_ ?_ | refine xs_done ?_ | refine yl ?_ ?_ | refine w8 ?_ | refine w9 ?_ | refine w1 ?_ | refine w2 ?_ | refine w3 ?_ | refine w4 ?_ | refine w5 ?_ | refine w6 ?_ | refine w7 ?_ | refine yo0 ?_ ?_ | refine yw0 ?_ ?_ | exact qq | fail)
  refine pop_callc [7] rfl rfl rfl rfl rfl rfl (fun l' _ => by rw [hk]; exact Nat.zero_le _) rf ⟨argCl (clA ⟨trivial, trivial, trivial⟩), argVal, argVal, argI1 rfl (List.Mem.head _), trivial⟩ ?_
  rintro _ rfl
  repeat' (first | refine yo ?_ ?_ | refine yw ?_ ?_ | refine yk ?_ ?_ | exact trivial | with_reducible refine wA ?_ ?_ | refine ys ?_ ?_ | refine xs_done ?_ | refine yl ?_ ?_ | refine w8 ?_ | refine w9 ?_ | refine w1 ?_ | refine w2 ?_ | refine w3 ?_ | refine w4 ?_ | refine w5 ?_ | refine w6 ?_ | refine w7 ?_ | refine yo0 ?_ ?_ | refine yw0 ?_ ?_ | exact qq | fail)
  refine pop_call [] rfl rfl rfl rfl rfl mn ⟨argNil, trivial⟩ ?_
  rintro _ rfl
  refine ⟨scB_spec _ rfl, ?_⟩
  repeat' (first | refine yo ?_ ?_ | refine yw ?_ ?_ | refine yk ?_ ?_ | exact trivial | with_reducible refine wA ?_ ?_ | refine ys ?_ ?_ | refine xs_done ?_ | refine yl ?_ ?_ | refine w8 ?_ | refine w9 ?_ | refine w1 ?_ | refine w2 ?_ | refine w3 ?_ | refine w4 ?_ | refine w5 ?_ | refine w6 ?_ | refine w7 ?_ | refine yo0 ?_ ?_ | refine yw0 ?_ ?_ | exact qq | fail)
  refine pop_call [] rfl rfl rfl rfl rfl ls ⟨argNil, argVal, argVal, trivial⟩ ?_
  rintro _ rfl
  refine ⟨scB_spec _ rfl, ?_⟩
  repeat' (first | refine yo ?_ ?_ | refine yw ?_ ?_ | refine yk ?_ ?_ | exact trivial | with_reducible refine wA ?_ ?_ | refine ys ?_ ?_ | refine xs_done ?_ | refine yl ?_ ?_ | refine w8 ?_ | refine w9 ?_ | refine w1 ?_ | refine w2 ?_ | refine w3 ?_ | refine w4 ?_ | refine w5 ?_ | refine w6 ?_ | refine w7 ?_ | refine yo0 ?_ ?_ | refine yw0 ?_ ?_ | exact qq | fail)
  · exact fun h => ⟨h, (show (0 : Nat) < 2 from by decide)⟩
  · exact fun h => ⟨h, Int.le_refl 0, (show (0 : Int) < (2 : Nat) from by decide)⟩
  refine kretv rfl ⟨trivial, trivial⟩ rfl rfl
end Go.Proofs.YtdifpajpheemaaaGreatDoor
namespace Go.Proofs.YtdifpajpheemaaaGreatDoor
def IntsAt (w : World) (v : Value) (l : List Int) : Prop :=
  ∃ (a : Option Addr) (cap : Nat), v = .slice a l.length cap ∧ l.length ≤ cap ∧ l.length ≤ 9223372036854775807 ∧
    ∀ k, k < l.length → ∃ b off, a = some ⟨b, off, none⟩ ∧ b < w.heap.size ∧ w.cell? ⟨b, off + k, none⟩ = some (.int .i64 (l.getD k 0))
theorem intsAt_of_row {w : World} {a : Option Addr} {len cap : Nat} {zs : List Int} (h : (a = none ∧ len = 0 ∧ cap = 0 ∧ zs = []) ∨ ∃ x, a = some x ∧ len ≤ cap ∧ cap ≤ maxLen ∧ zs.length = cap ∧ (∀ i, i < zs.length → w.cell? (x.add i) = some (.int .i64 (zs.getD i 0))) ∧ ∀ n ∈ zs, (Lit.int .i64 n).wf = true) :
    IntsAt w (.slice a len cap) (zs.take len) := by
  rcases h with ⟨rfl, rfl, rfl, rfl⟩ | ⟨x, rfl, h1, h2, h3, h4, _⟩
  · exact ⟨none, 0, rfl, by simp, by simp, fun k hk => by simp at hk⟩
  · have hl : (zs.take len).length = len := by simp; omega
    unfold maxLen at h2
    refine ⟨some x, cap, by rw [hl], by rw [hl]; omega, by rw [hl]; omega, fun k hk => ?_⟩
    rw [hl] at hk
    have hc := h4 k (by omega)
    have hc0 := h4 0 (by omega)
    obtain ⟨b, off, spot⟩ := x
    have hs : spot = none := by
      cases spot with
      | none => rfl
      | some q =>
        simp only [World.cell?, Addr.add, if_true] at hc0
        split at hc0 <;> simp at hc0
    subst hs
    have hc2 : w.cell? ⟨b, off + k, none⟩ = some (.int .i64 (zs.getD k 0)) := by
      rw [← hc]; congr 1; unfold Addr.add; split <;> simp_all
    refine ⟨b, off, rfl, ?_, by rw [hc2]; simp [List.getElem?_take, hk]⟩
    by_cases hb : b < w.heap.size
    · exact hb
    · simp [World.cell?, Array.getElem?_eq_none (show w.heap.size ≤ b by omega)] at hc2
theorem IntsAt.rel {w : World} {v : Value} {l : List Int} (h : IntsAt w v l) (ρ : Nat → Loc) : VRel 0 ρ (fun b => b < w.heap.size) w (.vsl l.length 1 (tI fun i => l.getD i 0)) v := by
  obtain ⟨a, cap, rfl, hcap, hl, hc⟩ := h
  refine ⟨a, cap, rfl, hcap, ?_⟩
  by_cases h0 : l.length = 0
  · exact .inl h0
  · obtain ⟨b, off, e1, e2, _⟩ := hc 0 (by omega)
    refine .inr ⟨b, off, e1, e2, fun i hi j hj => ?_⟩
    obtain ⟨b', off', f1, f2, f3⟩ := hc i hi
    rw [e1] at f1
    simp only [Option.some.injEq, Addr.mk.injEq] at f1
    obtain ⟨rfl, rfl, _⟩ := f1
    obtain rfl : j = 0 := by omega
    exact ⟨_, by simpa using f3, rfl, rfl⟩
theorem law_of {P : Program} {f : FuncId} {args : List PV} {vs : List Value} {w : World} (h : PureC P f args (fun r => r = vb true)) (ha : ARel (fun _ => ⟨0, 0, 0⟩) (fun b => b < w.heap.size) w args vs) (hG : GOk (fun b => b < w.heap.size) w := by exact fun x hx => by cases hx) :
    Calls P f vs.toArray w fun e w' => e = .returned (.bool true) ∧ Ext w w' :=
  (h.2 _ _ w vs (fun _ h => h) hG ha).mono fun e w' ⟨v, r, h1, h2, h3, h4⟩ => by
    subst h2; exact ⟨by rw [h1, show v = .bool true from h4], h3⟩
end Go.Proofs.YtdifpajpheemaaaGreatDoor
namespace Go.Proofs.YtdifpajpheemaaaGreatDoor
open Go.ChangeShapes Go.WideShapes Go.ChangeAt Go.RowKit
theorem glo_g : Tryz.prog.globalNamed "payroll/calendar.lengths" = some 0 := by kernel_rfl
theorem glo_t : (Tryz.prog.globals[0]?).map (·.type) = some 146 := by kernel_rfl
theorem glo_cs : Tryz.prog.cellsOf 3 = 1 := by kernel_rfl
abbrev gloL : List Int := [31, 28, 31, 30, 31, 30, 31, 31, 30, 31, 30, 31]
theorem door_met (os : Os) (args : Array Value) : laidMetH Tryz.prog [("payroll/calendar.lengths", Rows.laid_payroll_calendar_lengths)] ((World.doorLaid Tryz.prog 400 os).forCall (fun _ _ => 0) ⟨#[], args, []⟩).memory :=
  laidMetH_of_parts3 (fuel := 8) (laidMet_of_run' 8 (by kernel_rfl) (by kernel_rfl)) (by kernel_rfl) (by kernel_rfl)
theorem glo_of {W : World} (h : laidMetH Tryz.prog [("payroll/calendar.lengths", Rows.laid_payroll_calendar_lengths)] W) : GOk (fun b => b < W.heap.size) W := by
  rw [MakeChecks.laidMetH_plain _ _ _ (by kernel_rfl)] at h
  obtain ⟨ps, ⟨g0, t0, cs0, f0, p0, q0, hg0, ht0, hv0, hd0, _, _⟩, _, _⟩ := h
  obtain rfl := Option.some.inj (glo_g.symm.trans hg0)
  obtain rfl := Option.some.inj (glo_t.symm.trans ht0)
  obtain ⟨xs, m1, rfl, hx1, hlen, hn3, hel⟩ := DataW.trod_array Tryz.underlying146 hd0
  simp only [Prod.mk.injEq, Rows.laid_payroll_calendar_lengths, DataW.agg.injEq] at hx1
  have hel' : ∀ (i : Nat) (n : Int), i < 12 → gloL[i]? = some n → cs0.toList[i]? = some (.int .i64 n) := by
    intro i n hi hn
    have h1 := hel i hi
    rw [glo_cs, Nat.mul_one] at h1
    obtain ⟨x, hx⟩ : ∃ x, xs[i]? = some x := ⟨xs[i]'(by omega), List.getElem?_eq_getElem _⟩
    rw [hx] at h1
    obtain ⟨k, e1, e2, _⟩ := DataW.trod_int Tryz.underlying3 h1
    have e3 : (xs.map (·.1))[i]? = some x.1 := by rw [List.getElem?_map, hx]; rfl
    rw [← hx1.1] at e3
    have e4 : (gloL.map fun n => (DataW.lit (.int .i64 n) : DataW Unit))[i]? = some x.1 := e3
    rw [List.getElem?_map, hn, e2] at e4
    have hk : n = k := by simpa using e4
    subst hk
    have e5 := congrArg (·[0]?) e1
    simpa [List.getElem?_take, List.getElem?_drop] using e5
  obtain ⟨T, fz, hh⟩ : ∃ T fz, W.heap[0]? = some (Obj.cells cs0 T fz) := by
    simp only [World.var?, glo_g, Option.bind_some] at hv0
    split at hv0
    · rename_i cs T fz hh
      obtain rfl := Option.some.inj hv0
      exact ⟨_, _, hh⟩
    · cases hv0
  have hl12 : cs0.toList.length = 12 := hlen.trans (by kernel_rfl)
  have hcs : cs0 = (gloL.map fun n => Value.int .i64 n).toArray := by
    apply Array.ext'
    apply List.ext_getElem?
    intro i
    by_cases hi : i < 12
    · obtain ⟨n, hn⟩ : ∃ n, gloL[i]? = some n := ⟨gloL[i]'hi, List.getElem?_eq_getElem _⟩
      rw [hel' i n hi hn]
      show _ = (gloL.map fun n => Value.int .i64 n)[i]?
      rw [List.getElem?_map, hn]; rfl
    · rw [List.getElem?_eq_none (by omega)]
      show _ = (gloL.map fun n => Value.int .i64 n)[i]?
      rw [List.getElem?_eq_none (by simp [gloL]; omega)]
  intro x hx
  have hx' : x = (0, gloL) := by simpa [globs, gloL] using hx
  subst hx'
  refine ⟨?_, T, fz, by rw [hh, hcs]⟩
  exact (Array.getElem?_eq_some_iff.1 hh).1
end Go.Proofs.YtdifpajpheemaaaGreatDoor
