/- package period, for the calendar of months. -/
import Derived.Test.YtcghpepighboaaaDoorCal
import Derived.Test.YtcghpepighboaaaDoorPvMapB
set_option linter.unusedSimpArgs false
set_option linter.unusedVariables false
set_option maxRecDepth 100000
namespace Go.Proofs.YtcghpepighboaaaDoor
abbrev vC (k a : Int) : PV := .agg 2 (nthP [vi k, vi a])
theorem last_month : monthS 84005 = 2759 := by decide +kernel
theorem pvalid0_c : PureC G.P 66 [vC 0 0] (fun r => r = vi 0) := by
  refine pure_of (G := G.toPg) (fn := Tryd.f66) Tryd.func66 rfl rfl rfl ?_; intro Γ hk
  repeat' (first | refine yo ?_ ?_ | refine yw ?_ ?_ | refine yk ?_ ?_ | exact trivial | with_reducible refine wA ?_ ?_ | refine ys ?_ ?_ | refine xs_done ?_ | refine yl ?_ ?_ | refine w8 ?_ | refine w9 ?_ | refine w1 ?_ | refine w2 ?_ | refine w3 ?_ | refine w4 ?_ | refine w5 ?_ | refine w6 ?_ | refine w7 ?_ | refine yo0 ?_ ?_ | refine yw0 ?_ ?_ | exact qq | fail)
  exact kretv rfl ⟨trivial, trivial⟩ rfl rfl
theorem pof0_c : PureC G.P 84 [vC 0 0, vi 84005] (fun r => r = vi 2759) := by
  have c1 := month_c 84005 (by decide) (by decide)
  rw [last_month] at c1
  refine pure_of (G := G.toPg) (fn := Tryd.f84) Tryd.func84 rfl rfl rfl ?_; intro Γ hk
  repeat' (first | refine yo ?_ ?_ | refine yw ?_ ?_ | refine yk ?_ ?_ | exact trivial | with_reducible refine wA ?_ ?_ | refine ys ?_ ?_ | refine xs_done ?_ | refine yl ?_ ?_ | refine z1 c1 ?_ | refine z2 c1 ?_ | refine z3 c1 ?_ | refine z4 c1 ?_ | refine z5 c1 ?_ | refine w8 ?_ | refine w9 ?_ | refine w1 ?_ | refine w2 ?_ | refine w3 ?_ | refine w4 ?_ | refine w5 ?_ | refine w6 ?_ | refine w7 ?_ | refine yo0 ?_ ?_ | refine yw0 ?_ ?_ | exact qq | fail)
  exact kretv rfl ⟨trivial, trivial⟩ rfl rfl
theorem pcount0_c : PureC G.P 67 [vC 0 0] (fun r => r = vi 2760) := by
  have c1 := pvalid0_c
  have c2 := pof0_c
  refine pure_of (G := G.toPg) (fn := Tryd.f67) Tryd.func67 rfl rfl rfl ?_; intro Γ hk
  repeat' (first | refine yo ?_ ?_ | refine yw ?_ ?_ | refine yk ?_ ?_ | exact trivial | with_reducible refine wA ?_ ?_ | refine ys ?_ ?_ | refine xs_done ?_ | refine yl ?_ ?_ | refine z1 c1 ?_ | refine z2 c1 ?_ | refine z3 c1 ?_ | refine z4 c1 ?_ | refine z5 c1 ?_ | refine z1 c2 ?_ | refine z2 c2 ?_ | refine z3 c2 ?_ | refine z4 c2 ?_ | refine z5 c2 ?_ | refine w8 ?_ | refine w9 ?_ | refine w1 ?_ | refine w2 ?_ | refine w3 ?_ | refine w4 ?_ | refine w5 ?_ | refine w6 ?_ | refine w7 ?_ | refine yo0 ?_ ?_ | refine yw0 ?_ ?_ | exact qq | fail)
  exact kretv rfl ⟨trivial, trivial⟩ rfl rfl
def rngS (n : Int) : Int × Int := (firstS n, firstS n + mlenS n - 1)
theorem firstS_bd {n : Int} (h0 : 0 ≤ n) (h1 : n ≤ 2759) : -1000000 ≤ firstS n ∧ firstS n ≤ 1000000 := by
  obtain ⟨b1, b2, b3, b4⟩ := m12 h0 h1
  have hl := begS_le (y := 1970 + n.tdiv 12) (by omega) (by omega)
  have hg := begS_ge (y := 1970 + n.tdiv 12) (by omega) (by omega)
  have hc := cumS_bd (1970 + n.tdiv 12) ((n.tmod 12 + 1).toNat - 1) (by omega)
  unfold firstS
  omega
theorem mlenS_bd {n : Int} (h0 : 0 ≤ n) (h1 : n ≤ 2759) : 28 ≤ mlenS n ∧ mlenS n ≤ 31 := by
  obtain ⟨b1, b2, b3, b4⟩ := m12 h0 h1
  have := rem_step (1970 + n.tdiv 12) (m := n.tmod 12 + 1) (by omega) (by omega)
  unfold mlenS; omega
theorem pmonth_c (n : Int) (h0 : 0 ≤ n) (h1 : n ≤ 2759) : PureC G.P 68 [vi n] (fun r => r = vC (rngS n).1 (rngS n).2) := by
  have c1 := first_c' n h0 h1
  have c2 := mlength_c n h0 h1
  have f := firstS_bd h0 h1
  have l := mlenS_bd h0 h1
  unfold rngS
  generalize firstS n = F at *
  generalize mlenS n = L at *
  refine pure_of (G := G.toPg) (fn := Tryd.f68) Tryd.func68 rfl rfl rfl ?_; intro Γ hk
  repeat' (first | refine yo ?_ ?_ | refine yw ?_ ?_ | refine yk ?_ ?_ | exact trivial | with_reducible refine wA ?_ ?_ | refine ys ?_ ?_ | refine xs_done ?_ | refine yl ?_ ?_ | refine z1 c1 ?_ | refine z2 c1 ?_ | refine z3 c1 ?_ | refine z4 c1 ?_ | refine z5 c1 ?_ | refine z1 c2 ?_ | refine z2 c2 ?_ | refine z3 c2 ?_ | refine z4 c2 ?_ | refine z5 c2 ?_ | refine w8 ?_ | refine w9 ?_ | refine w1 ?_ | refine w2 ?_ | refine w3 ?_ | refine w4 ?_ | refine w5 ?_ | refine w6 ?_ | refine w7 ?_ | refine yo0 ?_ ?_ | refine yw0 ?_ ?_ | exact qq | fail)
  refine kretv rfl ⟨Nat.zero_lt_one, trivial⟩ rfl ?_
  rw [w64 (n := F + L) (by omega) (by omega), w64 (by omega) (by omega)]; rfl
theorem span0_c (n : Int) (h0 : 0 ≤ n) (h1 : n ≤ 2759) : PureC G.P 41 [vC 0 0, vi n] (fun r => r = .tup 2 (nthP [vC (rngS n).1 (rngS n).2, vi 0])) := by
  have c1 := pvalid0_c
  have c2 := pcount0_c
  have c3 := pmonth_c n h0 h1
  refine pure_of (G := G.toPg) (fn := Tryd.f41) Tryd.func41 rfl rfl rfl ?_; intro Γ hk
  repeat' (first | refine yo ?_ ?_ | refine yw ?_ ?_ | refine yk ?_ ?_ | exact trivial | with_reducible refine wA ?_ ?_ | refine ys ?_ ?_ | refine xs_done ?_ | refine yl ?_ ?_ | refine z1 c1 ?_ | refine z2 c1 ?_ | refine z3 c1 ?_ | refine z4 c1 ?_ | refine z5 c1 ?_ | refine z1 c2 ?_ | refine z2 c2 ?_ | refine z3 c2 ?_ | refine z4 c2 ?_ | refine z5 c2 ?_ | refine w8 ?_ | refine w9 ?_ | refine w1 ?_ | refine w2 ?_ | refine w3 ?_ | refine w4 ?_ | refine w5 ?_ | refine w6 ?_ | refine w7 ?_ | refine yo0 ?_ ?_ | refine yw0 ?_ ?_ | exact qq | fail)
  refine pcond (b := false) ?_ ?_ ?_
  · refine eqB ?_
    rw [decide_eq_false (show ¬ n < 0 by omega)]
    simp; omega
  · intro h; cases h
  · intro _
    repeat' (first | refine yo ?_ ?_ | refine yw ?_ ?_ | refine yk ?_ ?_ | exact trivial | with_reducible refine wA ?_ ?_ | refine ys ?_ ?_ | refine xs_done ?_ | refine yl ?_ ?_ | refine z1 c3 ?_ | refine z2 c3 ?_ | refine z3 c3 ?_ | refine z4 c3 ?_ | refine z5 c3 ?_ | refine w8 ?_ | refine w9 ?_ | refine w1 ?_ | refine w2 ?_ | refine w3 ?_ | refine w4 ?_ | refine w5 ?_ | refine w6 ?_ | refine w7 ?_ | refine yo0 ?_ ?_ | refine yw0 ?_ ?_ | exact qq | fail)
    exact kretv rfl ⟨Nat.zero_lt_one, trivial, trivial⟩ rfl rfl
def refL (X : Int → Bool) : Nat → Nat → List Int
  | 0, _ => []
  | n + 1, c => if c = 0 then [] else if X n = true then refL X n c else (n : Int) :: refL X n (c - 1)
theorem refL_zero (X : Int → Bool) (n : Nat) : refL X n 0 = [] := by
  cases n with
  | zero => rfl
  | succ n => unfold refL; rw [if_pos rfl]
theorem refL_len (X : Int → Bool) : ∀ (n c : Nat), (refL X n c).length ≤ c
  | 0, c => by simp [refL]
  | n + 1, c => by
    unfold refL
    split
    · simp
    split
    · exact refL_len X n c
    · have := refL_len X n (c - 1)
      simp; omega
section
variable {K : Type} [DecidableEq K]
theorem mget_mset (k k' : K) (v : Int) : ∀ l : List (K × Int), mget (mset l k v) k' = if k = k' then some v else mget l k'
  | [] => by simp [mset, mget]
  | e :: l => by
    by_cases h : e.1 = k
    · rw [mset, if_pos h, mget]
      by_cases h2 : k = k'
      · rw [if_pos h2, if_pos h2]
      · rw [if_neg h2, if_neg h2, mget, if_neg (by rw [h]; exact h2)]
    · rw [mset, if_neg h, mget, mget_mset k k' v l, mget]
      by_cases h2 : e.1 = k'
      · rw [if_pos h2, if_pos h2, if_neg (fun e2 => h (h2.trans e2.symm))]
      · rw [if_neg h2, if_neg h2]
end
def mapIB : MapTB G.P 86 kI := ⟨3, 4, _, Tryd.underlying86, Tryd.underlying3, fun _ => rfl, kI_inj, Tryd.zeroValue4⟩
def exI (m : Nat) (x : Nat → Int) (i : Int) : Bool := (List.range m).any fun j => x j == i
theorem exI_succ (m : Nat) (x : Nat → Int) (i : Int) : exI (m + 1) x i = (exI m x i || (x m == i)) := by
  unfold exI
  rw [List.range_succ, List.any_append]
  simp
abbrev vLi (l : List Int) : PV := .vsl l.length 1 (tF c1 (lF 0 l))
set_option maxHeartbeats 4000000 in
theorem ref_ok (a b n count : Int) (m : Nat) (x : Nat → Int) (d1 d2 : Int) (hs : PureC G.P 41 [vC a b, vi n] (fun r => r = .tup 2 (nthP [vC d1 d2, vi 0]))) (h0 : 0 ≤ n) (h1 : n ≤ 1000000) (hc1 : 1 ≤ count) (hc2 : count ≤ 120) (hm : m ≤ 1024) :
    PureC G.P 13 [vC a b, vi n, vi count, .vsl m 1 (tI x)] (fun r => r = .tup 2 (nthP [vLi (refL (exI m x) n.toNat count.toNat), vi 0])) := by
  refine pure_of (G := G.toPg) (fn := Tryd.f13) Tryd.func13 rfl rfl rfl ?_; intro Γ hk
  repeat' (first | refine yo ?_ ?_ | refine yw ?_ ?_ | refine yk ?_ ?_ | exact trivial | with_reducible refine wA ?_ ?_ | refine ys ?_ ?_ | refine xs_done ?_ | refine yl ?_ ?_ | refine z1 hs ?_ | refine z2 hs ?_ | refine z3 hs ?_ | refine z4 hs ?_ | refine z5 hs ?_ | refine w8 ?_ | refine w9 ?_ | refine w1 ?_ | refine w2 ?_ | refine w3 ?_ | refine w4 ?_ | refine w5 ?_ | refine w6 ?_ | refine w7 ?_ | refine yo0 ?_ ?_ | refine yw0 ?_ ?_ | exact qq | fail)
  refine pcond (b := false) ?_ ?_ ?_
  · refine eqB ?_
    rw [Bool.eq_iff_iff]; simp; omega
  · intro h; cases h
  intro _
  repeat' (first | refine yo ?_ ?_ | refine yw ?_ ?_ | refine yk ?_ ?_ | exact trivial | with_reducible refine wA ?_ ?_ | refine ys ?_ ?_ | refine xs_done ?_ | refine yl ?_ ?_ | refine w8 ?_ | refine w9 ?_ | refine w1 ?_ | refine w2 ?_ | refine w3 ?_ | refine w4 ?_ | refine w5 ?_ | refine w6 ?_ | refine w7 ?_ | refine yo0 ?_ ?_ | refine yw0 ?_ ?_ | exact qq | fail)
  refine pcond (b := false) ?_ ?_ ?_
  · refine eqB ?_
    rw [Bool.eq_iff_iff]; simp; omega
  · intro h; cases h
  intro _
  repeat' (first | refine yo ?_ ?_ | refine yw ?_ ?_ | refine yk ?_ ?_ | exact trivial | with_reducible refine wA ?_ ?_ | refine ys ?_ ?_ | refine xs_done ?_ | refine yl ?_ ?_ | refine w8 ?_ | refine w9 ?_ | refine w1 ?_ | refine w2 ?_ | refine w3 ?_ | refine w4 ?_ | refine w5 ?_ | refine w6 ?_ | refine w7 ?_ | refine yo0 ?_ ?_ | refine yw0 ?_ ?_ | exact qq | fail)
  refine pop_mkmapB kI rfl rfl rfl rfl rfl ?_
  repeat' (first | refine yo ?_ ?_ | refine yw ?_ ?_ | refine yk ?_ ?_ | exact trivial | with_reducible refine wA ?_ ?_ | refine ys ?_ ?_ | refine xs_done ?_ | refine yl ?_ ?_ | refine w8 ?_ | refine w9 ?_ | refine w1 ?_ | refine w2 ?_ | refine w3 ?_ | refine w4 ?_ | refine w5 ?_ | refine w6 ?_ | refine w7 ?_ | refine yo0 ?_ ?_ | refine yw0 ?_ ?_ | exact qq | fail)
  refine pcan (st' := ⟨[(1, vi n), (2, vi count), (12, .mref 0), (36, .vsl m 1 (tI x)), (37, vi m), (38, vi ((0 : Nat) : Int))], [mRowB kI []]⟩) (can_rowsv [2] (k0_sel hk rfl) rfl (.cons rfl m_eqB .nil) tmq) ?_
  refine ploop (fun q st => ∃ (i : Nat) (M : List (Int × Int)), i ≤ m ∧ (∀ y, mget M y = if exI i x y then some 1 else none) ∧ q = m - i ∧ st = ⟨[(1, vi n), (2, vi count), (12, .mref 0), (36, .vsl m 1 (tI x)), (37, vi m), (38, vi i)], [mRowB kI M]⟩) m ⟨0, [], by omega, fun y => rfl, rfl, rfl⟩ ?_
  rintro _ _ ⟨i, M, hi, hM, rfl, rfl⟩
  repeat' (first | refine yo ?_ ?_ | refine yw ?_ ?_ | refine yk ?_ ?_ | exact trivial | with_reducible refine wA ?_ ?_ | refine ys ?_ ?_ | refine xs_done ?_ | refine yl ?_ ?_ | refine w8 ?_ | refine w9 ?_ | refine w1 ?_ | refine w2 ?_ | refine w3 ?_ | refine w4 ?_ | refine w5 ?_ | refine w6 ?_ | refine w7 ?_ | refine yo0 ?_ ?_ | refine yw0 ?_ ?_ | exact qq | fail)
  refine pcond rfl ?_ ?_ <;> intro hc <;> simp at hc
  · repeat' (first | refine yo ?_ ?_ | refine yw ?_ ?_ | refine yk ?_ ?_ | exact trivial | with_reducible refine wA ?_ ?_ | refine ys ?_ ?_ | refine xs_done ?_ | refine yl ?_ ?_ | refine w8 ?_ | refine w9 ?_ | refine w1 ?_ | refine w2 ?_ | refine w3 ?_ | refine w4 ?_ | refine w5 ?_ | refine w6 ?_ | refine w7 ?_ | refine yo0 ?_ ?_ | refine yw0 ?_ ?_ | exact qq | fail)
    refine pop_msetB mapIB (x i) 1 rfl rfl rfl rfl rfl rfl rfl (by rw [hk]; exact Nat.zero_le _) rfl rfl ?_
    repeat' (first | refine yo ?_ ?_ | refine yw ?_ ?_ | refine yk ?_ ?_ | exact trivial | with_reducible refine wA ?_ ?_ | refine ys ?_ ?_ | refine xs_done ?_ | refine yl ?_ ?_ | refine w8 ?_ | refine w9 ?_ | refine w1 ?_ | refine w2 ?_ | refine w3 ?_ | refine w4 ?_ | refine w5 ?_ | refine w6 ?_ | refine w7 ?_ | refine yo0 ?_ ?_ | refine yw0 ?_ ?_ | exact qq | fail)
    rw [show IntKind.i64.wrap ((i : Int) + 1) = ((i + 1 : Nat) : Int) from w64 (by omega) (by omega)]
    exact kloop_next (st' := ⟨[(1, vi n), (2, vi count), (12, .mref 0), (36, .vsl m 1 (tI x)), (37, vi m), (38, vi ((i + 1 : Nat) : Int))], [mRowB kI (mset M (x i) 1)]⟩) (m - (i + 1)) (can_rowsv [0] (k0_sel hk rfl) rfl (.cons rfl m_eqB .nil) tmq) (by omega) ⟨i + 1, _, by omega, fun y => by
      rw [mget_mset, hM, exI_succ]
      by_cases h : x i = y
      · rw [if_pos h]; simp [h]
      · rw [if_neg h]; simp [h], rfl, rfl⟩
  · have hin : i = m := by omega
    subst hin
    repeat' (first | refine yo ?_ ?_ | refine yw ?_ ?_ | refine yk ?_ ?_ | exact trivial | with_reducible refine wA ?_ ?_ | refine ys ?_ ?_ | refine xs_done ?_ | refine yl ?_ ?_ | refine w8 ?_ | refine w9 ?_ | refine w1 ?_ | refine w2 ?_ | refine w3 ?_ | refine w4 ?_ | refine w5 ?_ | refine w6 ?_ | refine w7 ?_ | refine yo0 ?_ ?_ | refine yw0 ?_ ?_ | exact qq | fail)
    rw [w64 (n := n - 1) (by omega) (by omega)]
    refine pcan (can_virt (vRow c1 1 0 (lF 0 [])) rfl) ?_
    refine pcan (st' := ⟨[(2, vi count), (12, .mref 0), (15, slP 0 1), (16, vi ((n.toNat : Int) - 1))], [mRowB kI M, vRow c1 1 0 (lF 0 [])]⟩) (can_rowsv [0, 1] (k0_sel hk rfl) rfl (.cons rfl m_eqB (.cons rfl rqq .nil)) (by exact ⟨PEq.refl _, PEq.refl _, PEq.refl _, PEq.of (by rw [show ((n.toNat : Int)) = n by omega]; rfl), trivial⟩)) ?_
    refine ploop (fun q st => ∃ (k : Nat) (l : List Int), l.length = k ∧ (k : Int) ≤ count ∧ l ++ refL (exI i x) q (count.toNat - k) = refL (exI i x) n.toNat count.toNat ∧ q ≤ n.toNat ∧ st = ⟨[(2, vi count), (12, .mref 0), (15, slP k 1), (16, vi ((q : Int) - 1))], [mRowB kI M, vRow c1 1 k (lF 0 l)]⟩) n.toNat ⟨0, [], rfl, by omega, by simp, Nat.le_refl _, rfl⟩ ?_
    rintro q _ ⟨k, l, hlk, hkc, hR, hq, rfl⟩
    obtain ⟨R, hRd⟩ : ∃ R, R = refL (exI i x) n.toNat count.toNat := ⟨_, rfl⟩
    rw [← hRd] at hR ⊢
    rcases k with _ | k
    · repeat' (first | refine yo ?_ ?_ | refine yw ?_ ?_ | refine yk ?_ ?_ | exact trivial | with_reducible refine wA ?_ ?_ | refine ys ?_ ?_ | refine xs_done ?_ | refine yl ?_ ?_ | refine w8 ?_ | refine w9 ?_ | refine w1 ?_ | refine w2 ?_ | refine w3 ?_ | refine w4 ?_ | refine w5 ?_ | refine w6 ?_ | refine w7 ?_ | refine yo0 ?_ ?_ | refine yw0 ?_ ?_ | exact qq | fail)
      refine pcond (b := decide (0 < q ∧ ((0 : Nat) : Int) < count)) ?_ ?_ ?_
      · refine eqB ?_
        rw [Bool.eq_iff_iff]
        by_cases h1 : 0 < q
        · rw [decide_eq_true (show (q : Int) - 1 ≥ 0 by omega)]; simp [h1]
        · rw [decide_eq_false (show ¬ (q : Int) - 1 ≥ 0 by omega)]; simp [h1]
      · intro hb
        obtain ⟨hq0, hkc2⟩ := of_decide_eq_true hb
        obtain ⟨q', rfl⟩ : ∃ q', q = q' + 1 := ⟨q - 1, by omega⟩
        rw [show (((q' + 1 : Nat) : Int) - 1) = (q' : Int) by omega]
        rw [refL, if_neg (by omega)] at hR
        repeat' (first | refine yo ?_ ?_ | refine yw ?_ ?_ | refine yk ?_ ?_ | exact trivial | with_reducible refine wA ?_ ?_ | refine ys ?_ ?_ | refine xs_done ?_ | refine yl ?_ ?_ | refine w8 ?_ | refine w9 ?_ | refine w1 ?_ | refine w2 ?_ | refine w3 ?_ | refine w4 ?_ | refine w5 ?_ | refine w6 ?_ | refine w7 ?_ | refine yo0 ?_ ?_ | refine yw0 ?_ ?_ | exact qq | fail)
        refine pop_lookB mapIB false (q' : Int) rfl rfl rfl rfl rfl rfl rfl ?_
        rw [hM]
        by_cases hx : exI i x q' = true
        · rw [if_pos hx] at hR ⊢
          repeat' (first | refine yo ?_ ?_ | refine yw ?_ ?_ | refine yk ?_ ?_ | exact trivial | with_reducible refine wA ?_ ?_ | refine ys ?_ ?_ | refine xs_done ?_ | refine yl ?_ ?_ | refine w8 ?_ | refine w9 ?_ | refine w1 ?_ | refine w2 ?_ | refine w3 ?_ | refine w4 ?_ | refine w5 ?_ | refine w6 ?_ | refine w7 ?_ | refine yo0 ?_ ?_ | refine yw0 ?_ ?_ | exact qq | fail)
          rw [w64 (n := (q' : Int) - 1) (by omega) (by omega)]
          exact kloop_next (st' := ⟨[(2, vi count), (12, .mref 0), (15, slP (0) 1), (16, vi ((q' : Int) - 1))], [mRowB kI M, vRow c1 1 (0) (lF 0 l)]⟩) q' (can_rowsv [0, 1] (k0_sel hk rfl) rfl (.cons rfl m_eqB (.cons rfl rqq .nil)) tmq) (by omega) ⟨0, l, hlk, hkc, hR, by omega, rfl⟩
        · rw [if_neg hx] at hR ⊢
          repeat' (first | refine yo ?_ ?_ | refine yw ?_ ?_ | refine yk ?_ ?_ | exact trivial | with_reducible refine wA ?_ ?_ | refine ys ?_ ?_ | refine xs_done ?_ | refine yl ?_ ?_ | refine w8 ?_ | refine w9 ?_ | refine w1 ?_ | refine w2 ?_ | refine w3 ?_ | refine w4 ?_ | refine w5 ?_ | refine w6 ?_ | refine w7 ?_ | refine yo0 ?_ ?_ | refine yw0 ?_ ?_ | exact qq | fail)
          rw [w64 (n := (q' : Int) - 1) (by omega) (by omega)]
          exact kloop_next (st' := ⟨[(2, vi count), (12, .mref 0), (15, slP (0 + 1) 1), (16, vi ((q' : Int) - 1))], [mRowB kI M, vRow c1 1 (0 + 1) (lF 0 (l ++ [(q' : Int)]))]⟩) q' (can_rowsv [0, 3] (k0_sel hk rfl) rfl (.cons rfl m_eqB (.cons rfl rqq .nil)) tmq) (by omega) ⟨0 + 1, l ++ [(q' : Int)], by rw [List.length_append, hlk]; rfl, by omega, by rw [← hR, List.append_assoc, show count.toNat - (0 + 1) = count.toNat - (0) - 1 by omega]; rfl, by omega, rfl⟩
      · intro hb
        have hb := of_decide_eq_false hb
        have hex : R = l := by
          rw [← hR]
          by_cases hq0 : 0 < q
          · rw [show count.toNat - (0) = 0 by omega, refL_zero, List.append_nil]
          · rw [show q = 0 by omega, refL, List.append_nil]
        repeat' (first | refine yo ?_ ?_ | refine yw ?_ ?_ | refine yk ?_ ?_ | exact trivial | with_reducible refine wA ?_ ?_ | refine ys ?_ ?_ | refine xs_done ?_ | refine yl ?_ ?_ | refine w8 ?_ | refine w9 ?_ | refine w1 ?_ | refine w2 ?_ | refine w3 ?_ | refine w4 ?_ | refine w5 ?_ | refine w6 ?_ | refine w7 ?_ | refine yo0 ?_ ?_ | refine yw0 ?_ ?_ | exact qq | fail)
        refine xdone ?_
        have hl0 : l = [] := List.length_eq_zero_iff.1 hlk
        subst hl0
        exact kret [] rfl ⟨trivial, trivial, trivial⟩ (qs := [vLi [], vi 0]) ⟨argNil, argVal, trivial⟩ (by rw [hex]; rfl)
    · repeat' (first | refine yo ?_ ?_ | refine yw ?_ ?_ | refine yk ?_ ?_ | exact trivial | with_reducible refine wA ?_ ?_ | refine ys ?_ ?_ | refine xs_done ?_ | refine yl ?_ ?_ | refine w8 ?_ | refine w9 ?_ | refine w1 ?_ | refine w2 ?_ | refine w3 ?_ | refine w4 ?_ | refine w5 ?_ | refine w6 ?_ | refine w7 ?_ | refine yo0 ?_ ?_ | refine yw0 ?_ ?_ | exact qq | fail)
      refine pcond (b := decide (0 < q ∧ (((k + 1) : Nat) : Int) < count)) ?_ ?_ ?_
      · refine eqB ?_
        rw [Bool.eq_iff_iff]
        by_cases h1 : 0 < q
        · rw [decide_eq_true (show (q : Int) - 1 ≥ 0 by omega)]; simp [h1]
        · rw [decide_eq_false (show ¬ (q : Int) - 1 ≥ 0 by omega)]; simp [h1]
      · intro hb
        obtain ⟨hq0, hkc2⟩ := of_decide_eq_true hb
        obtain ⟨q', rfl⟩ : ∃ q', q = q' + 1 := ⟨q - 1, by omega⟩
        rw [show (((q' + 1 : Nat) : Int) - 1) = (q' : Int) by omega]
        rw [refL, if_neg (by omega)] at hR
        repeat' (first | refine yo ?_ ?_ | refine yw ?_ ?_ | refine yk ?_ ?_ | exact trivial | with_reducible refine wA ?_ ?_ | refine ys ?_ ?_ | refine xs_done ?_ | refine yl ?_ ?_ | refine w8 ?_ | refine w9 ?_ | refine w1 ?_ | refine w2 ?_ | refine w3 ?_ | refine w4 ?_ | refine w5 ?_ | refine w6 ?_ | refine w7 ?_ | refine yo0 ?_ ?_ | refine yw0 ?_ ?_ | exact qq | fail)
        refine pop_lookB mapIB false (q' : Int) rfl rfl rfl rfl rfl rfl rfl ?_
        rw [hM]
        by_cases hx : exI i x q' = true
        · rw [if_pos hx] at hR ⊢
          repeat' (first | refine yo ?_ ?_ | refine yw ?_ ?_ | refine yk ?_ ?_ | exact trivial | with_reducible refine wA ?_ ?_ | refine ys ?_ ?_ | refine xs_done ?_ | refine yl ?_ ?_ | refine w8 ?_ | refine w9 ?_ | refine w1 ?_ | refine w2 ?_ | refine w3 ?_ | refine w4 ?_ | refine w5 ?_ | refine w6 ?_ | refine w7 ?_ | refine yo0 ?_ ?_ | refine yw0 ?_ ?_ | exact qq | fail)
          rw [w64 (n := (q' : Int) - 1) (by omega) (by omega)]
          exact kloop_next (st' := ⟨[(2, vi count), (12, .mref 0), (15, slP (k + 1) 1), (16, vi ((q' : Int) - 1))], [mRowB kI M, vRow c1 1 (k + 1) (lF 0 l)]⟩) q' (can_rowsv [0, 1] (k0_sel hk rfl) rfl (.cons rfl m_eqB (.cons rfl rqq .nil)) tmq) (by omega) ⟨k + 1, l, hlk, hkc, hR, by omega, rfl⟩
        · rw [if_neg hx] at hR ⊢
          repeat' (first | refine yo ?_ ?_ | refine yw ?_ ?_ | refine yk ?_ ?_ | exact trivial | with_reducible refine wA ?_ ?_ | refine ys ?_ ?_ | refine xs_done ?_ | refine yl ?_ ?_ | exact ⟨Nat.le_refl _, (by rw [hk]; exact Nat.le_of_ble_eq_true rfl), Nat.le_of_eq (Nat.zero_add _), (show (k + 1 : Nat) * 8 ≤ 140737488355328 from by omega), (show (k + 1 : Nat) ≤ 9223372036854775807 from by omega)⟩ | refine w8 ?_ | refine w9 ?_ | refine w1 ?_ | refine w2 ?_ | refine w3 ?_ | refine w4 ?_ | refine w5 ?_ | refine w6 ?_ | refine w7 ?_ | refine yo0 ?_ ?_ | refine yw0 ?_ ?_ | exact qq | fail)
          rw [w64 (n := (q' : Int) - 1) (by omega) (by omega)]
          exact kloop_next (st' := ⟨[(2, vi count), (12, .mref 0), (15, slP (k + 1 + 1) 1), (16, vi ((q' : Int) - 1))], [mRowB kI M, vRow c1 1 (k + 1 + 1) (lF 0 (l ++ [(q' : Int)]))]⟩) q' (can_rowsv [0, 3] (k0_sel hk rfl) rfl (.cons rfl m_eqB (.cons rfl rqq .nil)) tmq) (by omega) ⟨k + 1 + 1, l ++ [(q' : Int)], by rw [List.length_append, hlk]; rfl, by omega, by rw [← hR, List.append_assoc, show count.toNat - (k + 1 + 1) = count.toNat - (k + 1) - 1 by omega]; rfl, by omega, rfl⟩
      · intro hb
        have hb := of_decide_eq_false hb
        have hex : R = l := by
          rw [← hR]
          by_cases hq0 : 0 < q
          · rw [show count.toNat - (k + 1) = 0 by omega, refL_zero, List.append_nil]
          · rw [show q = 0 by omega, refL, List.append_nil]
        repeat' (first | refine yo ?_ ?_ | refine yw ?_ ?_ | refine yk ?_ ?_ | exact trivial | with_reducible refine wA ?_ ?_ | refine ys ?_ ?_ | refine xs_done ?_ | refine yl ?_ ?_ | refine w8 ?_ | refine w9 ?_ | refine w1 ?_ | refine w2 ?_ | refine w3 ?_ | refine w4 ?_ | refine w5 ?_ | refine w6 ?_ | refine w7 ?_ | refine yo0 ?_ ?_ | refine yw0 ?_ ?_ | exact qq | fail)
        refine xdone ?_
        exact kret [1] rfl ⟨trivial, trivial, trivial⟩ (qs := [.vsl (k + 1) 1 (tF c1 (lF 0 l)), vi 0]) ⟨arg_o (s := .own) c1_cl rfl trivial (List.Mem.head _), argVal, trivial⟩ (by rw [hex, ← hlk]; rfl)
end Go.Proofs.YtcghpepighboaaaDoor
