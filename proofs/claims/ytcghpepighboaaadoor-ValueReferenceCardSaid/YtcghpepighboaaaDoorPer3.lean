/- value.Reference, payrollref22.Reference: for any calendar. -/
import Derived.Test.YtcghpepighboaaaDoorPer2
set_option linter.unusedSimpArgs false
set_option linter.unusedVariables false
set_option maxRecDepth 100000
namespace Go.Proofs.YtcghpepighboaaaDoor
theorem spE_02 (k a n : Int) : spE k a n = 0 ∨ spE k a n = 2 := by
  unfold spE
  split
  · split
    · exact .inr rfl
    · exact .inl rfl
  · exact .inr rfl
theorem spE_bd {k a n : Int} (h : spE k a n = 0) : 0 ≤ n ∧ n ≤ 12100 := by
  unfold spE at h
  split at h
  · rename_i hc
    have := cntS_bd hc
    split at h
    · cases h
    · omega
  · cases h
/-- the periods of reference, or the error -/
def refS (k a n count : Int) (m : Nat) (x : Nat → Int) : List Int × Int :=
  if spE k a n ≠ 0 then ([], 2) else if count < 1 ∨ 120 < count then ([], 2) else (refL (exI m x) n.toNat count.toNat, 0)
theorem refV_c (k a n count : Int) (m : Nat) (x : Nat → Int) (hm : m ≤ 1024) : PureC G.P 13 [vC k a, vi n, vi count, .vsl m 1 (tI x)] (fun r => r = .tup 2 (nthP [vLi (refS k a n count m x).1, vi (refS k a n count m x).2])) := by
  have hs := pspan_c k a n
  unfold refS
  rcases spE_02 k a n with h | h
  · rw [if_neg (by rw [h]; decide)]
    rw [h, if_pos rfl] at hs
    have hb := spE_bd h
    by_cases hc : count < 1 ∨ 120 < count
    · rw [if_pos hc]
      refine pure_of (G := G.toPg) (fn := Tryd.f13) Tryd.func13 rfl rfl rfl ?_; intro Γ hk
      repeat' (first | refine yo ?_ ?_ | refine yw ?_ ?_ | refine yk ?_ ?_ | exact trivial | with_reducible refine wA ?_ ?_ | refine ys ?_ ?_ | refine xs_done ?_ | refine yl ?_ ?_ | refine z1 hs ?_ | refine z2 hs ?_ | refine z3 hs ?_ | refine z4 hs ?_ | refine z5 hs ?_ | refine w8 ?_ | refine w9 ?_ | refine w1 ?_ | refine w2 ?_ | refine w3 ?_ | refine w4 ?_ | refine w5 ?_ | refine w6 ?_ | refine w7 ?_ | refine yo0 ?_ ?_ | refine yw0 ?_ ?_ | exact qq | fail)
      refine pcond_y rfl (by rw [Bool.eq_iff_iff]; simp; omega) ?_
      repeat' (first | refine yo ?_ ?_ | refine yw ?_ ?_ | refine yk ?_ ?_ | exact trivial | with_reducible refine wA ?_ ?_ | refine ys ?_ ?_ | refine xs_done ?_ | refine yl ?_ ?_ | refine w8 ?_ | refine w9 ?_ | refine w1 ?_ | refine w2 ?_ | refine w3 ?_ | refine w4 ?_ | refine w5 ?_ | refine w6 ?_ | refine w7 ?_ | refine yo0 ?_ ?_ | refine yw0 ?_ ?_ | exact qq | fail)
      refine xdone ?_
      exact kret [] rfl ⟨trivial, trivial, trivial⟩ (qs := [vLi [], vi 2]) ⟨argNil, argVal, trivial⟩ rfl
    · rw [if_neg hc]
      exact ref_ok k a n count m x _ _ hs hb.1 (by omega) (by omega) (by omega) hm
  · rw [if_pos (by rw [h]; decide)]
    rw [h, if_neg (by decide)] at hs
    refine pure_of (G := G.toPg) (fn := Tryd.f13) Tryd.func13 rfl rfl rfl ?_; intro Γ hk
    repeat' (first | refine yo ?_ ?_ | refine yw ?_ ?_ | refine yk ?_ ?_ | exact trivial | with_reducible refine wA ?_ ?_ | refine ys ?_ ?_ | refine xs_done ?_ | refine yl ?_ ?_ | refine z1 hs ?_ | refine z2 hs ?_ | refine z3 hs ?_ | refine z4 hs ?_ | refine z5 hs ?_ | refine w8 ?_ | refine w9 ?_ | refine w1 ?_ | refine w2 ?_ | refine w3 ?_ | refine w4 ?_ | refine w5 ?_ | refine w6 ?_ | refine w7 ?_ | refine yo0 ?_ ?_ | refine yw0 ?_ ?_ | exact qq | fail)
    refine xdone ?_
    exact kret [] rfl ⟨trivial, trivial, trivial⟩ (qs := [vLi [], vi 2]) ⟨argNil, argVal, trivial⟩ rfl
set_option maxHeartbeats 4000000 in
theorem ref22_ok (k a n count : Int) (m : Nat) (x : Nat → Int) (h0 : spE k a n = 0) (hc1 : 1 ≤ count) (hc2 : count ≤ 120) (hm : m ≤ 1024) : PureC G.P 20 [vC k a, vi n, vi count, .vsl m 1 (tI x)] (fun r => r = .tup 2 (nthP [vLi (refL (exI m x) n.toNat count.toNat), vi 0])) := by
  have hs := span5_w k a n
  rw [h0] at hs
  have hb := spE_bd h0
  refine pure_of (G := G.toPg) (fn := Tryd.f20) Tryd.func20 rfl rfl rfl ?_; intro Γ hk
  repeat' (first | refine yo ?_ ?_ | refine yw ?_ ?_ | refine yk ?_ ?_ | exact trivial | with_reducible refine wA ?_ ?_ | refine ys ?_ ?_ | refine xs_done ?_ | refine yl ?_ ?_ | refine w8 ?_ | refine w9 ?_ | refine w1 ?_ | refine w2 ?_ | refine w3 ?_ | refine w4 ?_ | refine w5 ?_ | refine w6 ?_ | refine w7 ?_ | refine yo0 ?_ ?_ | refine yw0 ?_ ?_ | exact qq | fail)
  refine pop_call [] rfl rfl rfl rfl rfl hs (args_cl _ rfl) ?_
  rintro _ ⟨d1, d2, rfl⟩
  refine ⟨scB_spec _ rfl, ?_⟩
  repeat' (first | refine yo ?_ ?_ | refine yw ?_ ?_ | refine yk ?_ ?_ | exact trivial | with_reducible refine wA ?_ ?_ | refine ys ?_ ?_ | refine xs_done ?_ | refine yl ?_ ?_ | refine w8 ?_ | refine w9 ?_ | refine w1 ?_ | refine w2 ?_ | refine w3 ?_ | refine w4 ?_ | refine w5 ?_ | refine w6 ?_ | refine w7 ?_ | refine yo0 ?_ ?_ | refine yw0 ?_ ?_ | exact qq | fail)
  refine pcond_n rfl (by rw [decide_eq_false (show ¬ count < 1 by omega), decide_eq_false (show ¬ 120 < count by omega)]; rfl) ?_
  repeat' (first | refine yo ?_ ?_ | refine yw ?_ ?_ | refine yk ?_ ?_ | exact trivial | with_reducible refine wA ?_ ?_ | refine ys ?_ ?_ | refine xs_done ?_ | refine yl ?_ ?_ | refine w8 ?_ | refine w9 ?_ | refine w1 ?_ | refine w2 ?_ | refine w3 ?_ | refine w4 ?_ | refine w5 ?_ | refine w6 ?_ | refine w7 ?_ | refine yo0 ?_ ?_ | refine yw0 ?_ ?_ | exact qq | fail)
  refine pcond_n rfl (by simp; omega) ?_
  repeat' (first | refine yo ?_ ?_ | refine yw ?_ ?_ | refine yk ?_ ?_ | exact trivial | with_reducible refine wA ?_ ?_ | refine ys ?_ ?_ | refine xs_done ?_ | refine yl ?_ ?_ | refine w8 ?_ | refine w9 ?_ | refine w1 ?_ | refine w2 ?_ | refine w3 ?_ | refine w4 ?_ | refine w5 ?_ | refine w6 ?_ | refine w7 ?_ | refine yo0 ?_ ?_ | refine yw0 ?_ ?_ | exact qq | fail)
  rw [w64 (n := n - 1) (by omega) (by omega)]
  refine pcan (can_virt (vRow c1 1 0 (lF 0 [])) rfl) ?_
  refine pcan (st' := ⟨[(2, vi count), (3, .vsl m 1 (tI x)), (12, slP 0 0), (13, vi ((n.toNat : Int) - 1))], [vRow c1 1 0 (lF 0 [])]⟩) (can_rowsv [2] (k0_sel hk rfl) rfl (.cons rfl rqq .nil) (by exact ⟨PEq.refl _, PEq.refl _, PEq.refl _, PEq.of (by rw [show ((n.toNat : Int)) = n by omega]; rfl), trivial⟩)) ?_
  refine ploop (fun q st => ∃ (k : Nat) (l : List Int), l.length = k ∧ (k : Int) ≤ count ∧ l ++ refL (exI m x) q (count.toNat - k) = refL (exI m x) n.toNat count.toNat ∧ q ≤ n.toNat ∧ st = ⟨[(2, vi count), (3, .vsl m 1 (tI x)), (12, slP k 0), (13, vi ((q : Int) - 1))], [vRow c1 1 k (lF 0 l)]⟩) n.toNat ⟨0, [], rfl, by omega, by simp, Nat.le_refl _, rfl⟩ ?_
  rintro q _ ⟨k, l, hlk, hkc, hR, hq, rfl⟩
  obtain ⟨R, hRd⟩ : ∃ R, R = refL (exI m x) n.toNat count.toNat := ⟨_, rfl⟩
  rw [← hRd] at hR ⊢
  rcases k with _ | k
  · repeat' (first | refine yo ?_ ?_ | refine yw ?_ ?_ | refine yk ?_ ?_ | exact trivial | with_reducible refine wA ?_ ?_ | refine ys ?_ ?_ | refine xs_done ?_ | refine yl ?_ ?_ | refine w8 ?_ | refine w9 ?_ | refine w1 ?_ | refine w2 ?_ | refine w3 ?_ | refine w4 ?_ | refine w5 ?_ | refine w6 ?_ | refine w7 ?_ | refine yo0 ?_ ?_ | refine yw0 ?_ ?_ | exact qq | fail)
    refine pcond (b := decide (0 < q ∧ ((0 : Nat) : Int) < count)) ?_ ?_ ?_
    · refine eqB ?_
      rw [Bool.eq_iff_iff]
      by_cases h1 : 0 < q
      · rw [decide_eq_true (show (q : Int) - 1 ≥ 0 by omega)]; simp [h1]
      · rw [decide_eq_false (show ¬ (q : Int) - 1 ≥ 0 by omega)]; simp [h1]
    · intro hb2
      obtain ⟨hq0, hkc2⟩ := of_decide_eq_true hb2
      obtain ⟨q', rfl⟩ : ∃ q', q = q' + 1 := ⟨q - 1, by omega⟩
      rw [show (((q' + 1 : Nat) : Int) - 1) = (q' : Int) by omega]
      rw [refL, if_neg (by omega)] at hR
      repeat' (first | refine yo ?_ ?_ | refine yw ?_ ?_ | refine yk ?_ ?_ | exact trivial | with_reducible refine wA ?_ ?_ | refine ys ?_ ?_ | refine xs_done ?_ | refine yl ?_ ?_ | refine w8 ?_ | refine w9 ?_ | refine w1 ?_ | refine w2 ?_ | refine w3 ?_ | refine w4 ?_ | refine w5 ?_ | refine w6 ?_ | refine w7 ?_ | refine yo0 ?_ ?_ | refine yw0 ?_ ?_ | exact qq | fail)
      refine pcan (st' := ⟨[(2, vi count), (3, .vsl m 1 (tI x)), (12, slP (0) 0), (13, vi (q' : Int)), (14, vb (exI 0 x q')), (15, vi ((0 : Nat) : Int))], [vRow c1 1 (0) (lF 0 l)]⟩) (can_rowsv [0] (k0_sel hk rfl) rfl (.cons rfl rqq .nil) tmq) ?_
      refine ploop (fun p st => ∃ i : Nat, i ≤ m ∧ p = m - i ∧ st = ⟨[(2, vi count), (3, .vsl m 1 (tI x)), (12, slP (0) 0), (13, vi (q' : Int)), (14, vb (exI i x q')), (15, vi i)], [vRow c1 1 (0) (lF 0 l)]⟩) m ⟨0, by omega, rfl, rfl⟩ ?_
      rintro _ _ ⟨i, hi, rfl, rfl⟩
      have hwi : IntKind.i64.wrap ((i : Int) + 1) = ((i + 1 : Nat) : Int) := w64 (by omega) (by omega)
      repeat' (first | refine yo ?_ ?_ | refine yw ?_ ?_ | refine yk ?_ ?_ | exact trivial | with_reducible refine wA ?_ ?_ | refine ys ?_ ?_ | refine xs_done ?_ | refine yl ?_ ?_ | refine w8 ?_ | refine w9 ?_ | refine w1 ?_ | refine w2 ?_ | refine w3 ?_ | refine w4 ?_ | refine w5 ?_ | refine w6 ?_ | refine w7 ?_ | refine yo0 ?_ ?_ | refine yw0 ?_ ?_ | exact qq | fail)
      refine pcond rfl ?_ ?_ <;> intro hc <;> simp at hc
      · repeat' (first | refine yo ?_ ?_ | refine yw ?_ ?_ | refine yk ?_ ?_ | exact trivial | with_reducible refine wA ?_ ?_ | refine ys ?_ ?_ | refine xs_done ?_ | refine yl ?_ ?_ | refine w8 ?_ | refine w9 ?_ | refine w1 ?_ | refine w2 ?_ | refine w3 ?_ | refine w4 ?_ | refine w5 ?_ | refine w6 ?_ | refine w7 ?_ | refine yo0 ?_ ?_ | refine yw0 ?_ ?_ | exact qq | fail)
        refine xdone ?_
        rw [hwi]
        exact kloop_next (st' := ⟨[(2, vi count), (3, .vsl m 1 (tI x)), (12, slP (0) 0), (13, vi (q' : Int)), (14, vb (exI (i + 1) x q')), (15, vi ((i + 1 : Nat) : Int))], [vRow c1 1 (0) (lF 0 l)]⟩) (m - (i + 1)) (can_rowsv [0] (k0_sel hk rfl) rfl (.cons rfl rqq .nil) (by exact ⟨PEq.refl _, PEq.refl _, PEq.refl _, PEq.refl _, PEq.of (by rw [exI_succ]; cases exI i x q' <;> rfl), PEq.refl _, trivial⟩)) (by omega) ⟨i + 1, by omega, rfl, rfl⟩
      · have : i = m := by omega
        subst this
        repeat' (first | refine yo ?_ ?_ | refine yw ?_ ?_ | refine yk ?_ ?_ | exact trivial | with_reducible refine wA ?_ ?_ | refine ys ?_ ?_ | refine xs_done ?_ | refine yl ?_ ?_ | refine w8 ?_ | refine w9 ?_ | refine w1 ?_ | refine w2 ?_ | refine w3 ?_ | refine w4 ?_ | refine w5 ?_ | refine w6 ?_ | refine w7 ?_ | refine yo0 ?_ ?_ | refine yw0 ?_ ?_ | exact qq | fail)
        cases hx : exI i x q' with
        | true =>
          rw [if_pos hx] at hR
          repeat' (first | refine yo ?_ ?_ | refine yw ?_ ?_ | refine yk ?_ ?_ | exact trivial | with_reducible refine wA ?_ ?_ | refine ys ?_ ?_ | refine xs_done ?_ | refine yl ?_ ?_ | refine w8 ?_ | refine w9 ?_ | refine w1 ?_ | refine w2 ?_ | refine w3 ?_ | refine w4 ?_ | refine w5 ?_ | refine w6 ?_ | refine w7 ?_ | refine yo0 ?_ ?_ | refine yw0 ?_ ?_ | exact qq | fail)
          refine xdone ?_
          rw [w64 (n := (q' : Int) - 1) (by omega) (by omega)]
          exact kloop_next (st' := ⟨[(2, vi count), (3, .vsl i 1 (tI x)), (12, slP (0) 0), (13, vi ((q' : Int) - 1))], [vRow c1 1 (0) (lF 0 l)]⟩) q' (can_rowsv [0] (k0_sel hk rfl) rfl (.cons rfl rqq .nil) tmq) (by omega) ⟨0, l, hlk, hkc, hR, by omega, rfl⟩
        | false =>
          rw [if_neg (by rw [hx]; decide)] at hR
          repeat' (first | refine yo ?_ ?_ | refine yw ?_ ?_ | refine yk ?_ ?_ | exact trivial | with_reducible refine wA ?_ ?_ | refine ys ?_ ?_ | refine xs_done ?_ | refine yl ?_ ?_ | exact ⟨Nat.le_refl _, (by rw [hk]; exact Nat.le_of_ble_eq_true rfl), Nat.le_of_eq (Nat.zero_add _), (show (_ : Nat) * 8 ≤ 140737488355328 from by omega), (show (_ : Nat) ≤ 9223372036854775807 from by omega)⟩ | refine w8 ?_ | refine w9 ?_ | refine w1 ?_ | refine w2 ?_ | refine w3 ?_ | refine w4 ?_ | refine w5 ?_ | refine w6 ?_ | refine w7 ?_ | refine yo0 ?_ ?_ | refine yw0 ?_ ?_ | exact qq | fail)
          refine xdone ?_
          rw [w64 (n := (q' : Int) - 1) (by omega) (by omega)]
          exact kloop_next (st' := ⟨[(2, vi count), (3, .vsl i 1 (tI x)), (12, slP (0 + 1) 0), (13, vi ((q' : Int) - 1))], [vRow c1 1 (0 + 1) (lF 0 (l ++ [(q' : Int)]))]⟩) q' (can_rowsv [2] (k0_sel hk rfl) rfl (.cons rfl rqq .nil) tmq) (by omega) ⟨0 + 1, l ++ [(q' : Int)], by rw [List.length_append, hlk]; rfl, by omega, by rw [← hR, List.append_assoc, show count.toNat - (0 + 1) = count.toNat - (0) - 1 by omega]; rfl, by omega, rfl⟩
    · intro hb2
      have hb2 := of_decide_eq_false hb2
      have hex : R = l := by
        rw [← hR]
        by_cases hq0 : 0 < q
        · rw [show count.toNat - (0) = 0 by omega, refL_zero, List.append_nil]
        · rw [show q = 0 by omega, refL, List.append_nil]
      repeat' (first | refine yo ?_ ?_ | refine yw ?_ ?_ | refine yk ?_ ?_ | exact trivial | with_reducible refine wA ?_ ?_ | refine ys ?_ ?_ | refine xs_done ?_ | refine yl ?_ ?_ | refine w8 ?_ | refine w9 ?_ | refine w1 ?_ | refine w2 ?_ | refine w3 ?_ | refine w4 ?_ | refine w5 ?_ | refine w6 ?_ | refine w7 ?_ | refine yo0 ?_ ?_ | refine yw0 ?_ ?_ | exact qq | fail)
      refine xdone ?_
      have hl0 : l = [] := List.length_eq_zero_iff.1 hlk
      subst hl0
      exact kret [] rfl ⟨trivial, trivial, trivial⟩ (qs := [vLi [], vi 0]) ⟨argNil, argVal, trivial⟩ (by rw [hex]; rfl)
  · repeat' (first | refine yo ?_ ?_ | refine yw ?_ ?_ | refine yk ?_ ?_ | exact trivial | with_reducible refine wA ?_ ?_ | refine ys ?_ ?_ | refine xs_done ?_ | refine yl ?_ ?_ | refine w8 ?_ | refine w9 ?_ | refine w1 ?_ | refine w2 ?_ | refine w3 ?_ | refine w4 ?_ | refine w5 ?_ | refine w6 ?_ | refine w7 ?_ | refine yo0 ?_ ?_ | refine yw0 ?_ ?_ | exact qq | fail)
    refine pcond (b := decide (0 < q ∧ ((k + 1 : Nat) : Int) < count)) ?_ ?_ ?_
    · refine eqB ?_
      rw [Bool.eq_iff_iff]
      by_cases h1 : 0 < q
      · rw [decide_eq_true (show (q : Int) - 1 ≥ 0 by omega)]; simp [h1]
      · rw [decide_eq_false (show ¬ (q : Int) - 1 ≥ 0 by omega)]; simp [h1]
    · intro hb2
      obtain ⟨hq0, hkc2⟩ := of_decide_eq_true hb2
      obtain ⟨q', rfl⟩ : ∃ q', q = q' + 1 := ⟨q - 1, by omega⟩
      rw [show (((q' + 1 : Nat) : Int) - 1) = (q' : Int) by omega]
      rw [refL, if_neg (by omega)] at hR
      repeat' (first | refine yo ?_ ?_ | refine yw ?_ ?_ | refine yk ?_ ?_ | exact trivial | with_reducible refine wA ?_ ?_ | refine ys ?_ ?_ | refine xs_done ?_ | refine yl ?_ ?_ | refine w8 ?_ | refine w9 ?_ | refine w1 ?_ | refine w2 ?_ | refine w3 ?_ | refine w4 ?_ | refine w5 ?_ | refine w6 ?_ | refine w7 ?_ | refine yo0 ?_ ?_ | refine yw0 ?_ ?_ | exact qq | fail)
      refine pcan (st' := ⟨[(2, vi count), (3, .vsl m 1 (tI x)), (12, slP (k + 1) 0), (13, vi (q' : Int)), (14, vb (exI 0 x q')), (15, vi ((0 : Nat) : Int))], [vRow c1 1 (k + 1) (lF 0 l)]⟩) (can_rowsv [0] (k0_sel hk rfl) rfl (.cons rfl rqq .nil) tmq) ?_
      refine ploop (fun p st => ∃ i : Nat, i ≤ m ∧ p = m - i ∧ st = ⟨[(2, vi count), (3, .vsl m 1 (tI x)), (12, slP (k + 1) 0), (13, vi (q' : Int)), (14, vb (exI i x q')), (15, vi i)], [vRow c1 1 (k + 1) (lF 0 l)]⟩) m ⟨0, by omega, rfl, rfl⟩ ?_
      rintro _ _ ⟨i, hi, rfl, rfl⟩
      have hwi : IntKind.i64.wrap ((i : Int) + 1) = ((i + 1 : Nat) : Int) := w64 (by omega) (by omega)
      repeat' (first | refine yo ?_ ?_ | refine yw ?_ ?_ | refine yk ?_ ?_ | exact trivial | with_reducible refine wA ?_ ?_ | refine ys ?_ ?_ | refine xs_done ?_ | refine yl ?_ ?_ | refine w8 ?_ | refine w9 ?_ | refine w1 ?_ | refine w2 ?_ | refine w3 ?_ | refine w4 ?_ | refine w5 ?_ | refine w6 ?_ | refine w7 ?_ | refine yo0 ?_ ?_ | refine yw0 ?_ ?_ | exact qq | fail)
      refine pcond rfl ?_ ?_ <;> intro hc <;> simp at hc
      · repeat' (first | refine yo ?_ ?_ | refine yw ?_ ?_ | refine yk ?_ ?_ | exact trivial | with_reducible refine wA ?_ ?_ | refine ys ?_ ?_ | refine xs_done ?_ | refine yl ?_ ?_ | refine w8 ?_ | refine w9 ?_ | refine w1 ?_ | refine w2 ?_ | refine w3 ?_ | refine w4 ?_ | refine w5 ?_ | refine w6 ?_ | refine w7 ?_ | refine yo0 ?_ ?_ | refine yw0 ?_ ?_ | exact qq | fail)
        refine xdone ?_
        rw [hwi]
        exact kloop_next (st' := ⟨[(2, vi count), (3, .vsl m 1 (tI x)), (12, slP (k + 1) 0), (13, vi (q' : Int)), (14, vb (exI (i + 1) x q')), (15, vi ((i + 1 : Nat) : Int))], [vRow c1 1 (k + 1) (lF 0 l)]⟩) (m - (i + 1)) (can_rowsv [0] (k0_sel hk rfl) rfl (.cons rfl rqq .nil) (by exact ⟨PEq.refl _, PEq.refl _, PEq.refl _, PEq.refl _, PEq.of (by rw [exI_succ]; cases exI i x q' <;> rfl), PEq.refl _, trivial⟩)) (by omega) ⟨i + 1, by omega, rfl, rfl⟩
      · have : i = m := by omega
        subst this
        repeat' (first | refine yo ?_ ?_ | refine yw ?_ ?_ | refine yk ?_ ?_ | exact trivial | with_reducible refine wA ?_ ?_ | refine ys ?_ ?_ | refine xs_done ?_ | refine yl ?_ ?_ | refine w8 ?_ | refine w9 ?_ | refine w1 ?_ | refine w2 ?_ | refine w3 ?_ | refine w4 ?_ | refine w5 ?_ | refine w6 ?_ | refine w7 ?_ | refine yo0 ?_ ?_ | refine yw0 ?_ ?_ | exact qq | fail)
        cases hx : exI i x q' with
        | true =>
          rw [if_pos hx] at hR
          repeat' (first | refine yo ?_ ?_ | refine yw ?_ ?_ | refine yk ?_ ?_ | exact trivial | with_reducible refine wA ?_ ?_ | refine ys ?_ ?_ | refine xs_done ?_ | refine yl ?_ ?_ | refine w8 ?_ | refine w9 ?_ | refine w1 ?_ | refine w2 ?_ | refine w3 ?_ | refine w4 ?_ | refine w5 ?_ | refine w6 ?_ | refine w7 ?_ | refine yo0 ?_ ?_ | refine yw0 ?_ ?_ | exact qq | fail)
          refine xdone ?_
          rw [w64 (n := (q' : Int) - 1) (by omega) (by omega)]
          exact kloop_next (st' := ⟨[(2, vi count), (3, .vsl i 1 (tI x)), (12, slP (k + 1) 0), (13, vi ((q' : Int) - 1))], [vRow c1 1 (k + 1) (lF 0 l)]⟩) q' (can_rowsv [0] (k0_sel hk rfl) rfl (.cons rfl rqq .nil) tmq) (by omega) ⟨k + 1, l, hlk, hkc, hR, by omega, rfl⟩
        | false =>
          rw [if_neg (by rw [hx]; decide)] at hR
          repeat' (first | refine yo ?_ ?_ | refine yw ?_ ?_ | refine yk ?_ ?_ | exact trivial | with_reducible refine wA ?_ ?_ | refine ys ?_ ?_ | refine xs_done ?_ | refine yl ?_ ?_ | exact ⟨Nat.le_refl _, (by rw [hk]; exact Nat.le_of_ble_eq_true rfl), Nat.le_of_eq (Nat.zero_add _), (show (_ : Nat) * 8 ≤ 140737488355328 from by omega), (show (_ : Nat) ≤ 9223372036854775807 from by omega)⟩ | refine w8 ?_ | refine w9 ?_ | refine w1 ?_ | refine w2 ?_ | refine w3 ?_ | refine w4 ?_ | refine w5 ?_ | refine w6 ?_ | refine w7 ?_ | refine yo0 ?_ ?_ | refine yw0 ?_ ?_ | exact qq | fail)
          refine xdone ?_
          rw [w64 (n := (q' : Int) - 1) (by omega) (by omega)]
          exact kloop_next (st' := ⟨[(2, vi count), (3, .vsl i 1 (tI x)), (12, slP (k + 1 + 1) 0), (13, vi ((q' : Int) - 1))], [vRow c1 1 (k + 1 + 1) (lF 0 (l ++ [(q' : Int)]))]⟩) q' (can_rowsv [2] (k0_sel hk rfl) rfl (.cons rfl rqq .nil) tmq) (by omega) ⟨k + 1 + 1, l ++ [(q' : Int)], by rw [List.length_append, hlk]; rfl, by omega, by rw [← hR, List.append_assoc, show count.toNat - (k + 1 + 1) = count.toNat - (k + 1) - 1 by omega]; rfl, by omega, rfl⟩
    · intro hb2
      have hb2 := of_decide_eq_false hb2
      have hex : R = l := by
        rw [← hR]
        by_cases hq0 : 0 < q
        · rw [show count.toNat - (k + 1) = 0 by omega, refL_zero, List.append_nil]
        · rw [show q = 0 by omega, refL, List.append_nil]
      repeat' (first | refine yo ?_ ?_ | refine yw ?_ ?_ | refine yk ?_ ?_ | exact trivial | with_reducible refine wA ?_ ?_ | refine ys ?_ ?_ | refine xs_done ?_ | refine yl ?_ ?_ | refine w8 ?_ | refine w9 ?_ | refine w1 ?_ | refine w2 ?_ | refine w3 ?_ | refine w4 ?_ | refine w5 ?_ | refine w6 ?_ | refine w7 ?_ | refine yo0 ?_ ?_ | refine yw0 ?_ ?_ | exact qq | fail)
      refine xdone ?_
      exact kret [0] rfl ⟨trivial, trivial, trivial⟩ (qs := [.vsl (k + 1) 1 (tF c1 (lF 0 l)), vi 0]) ⟨arg_o (s := .own) c1_cl rfl trivial (List.Mem.head _), argVal, trivial⟩ (by rw [hex, ← hlk]; rfl)
theorem refR_c (k a n count : Int) (m : Nat) (x : Nat → Int) (hm : m ≤ 1024) : PureC G.P 20 [vC k a, vi n, vi count, .vsl m 1 (tI x)] (fun r => r = .tup 2 (nthP [vLi (refS k a n count m x).1, vi (refS k a n count m x).2])) := by
  have hs := span5_w k a n
  unfold refS
  rcases spE_02 k a n with h | h
  · rw [if_neg (by rw [h]; decide)]
    by_cases hc : count < 1 ∨ 120 < count
    · rw [if_pos hc]
      rw [h] at hs
      refine pure_of (G := G.toPg) (fn := Tryd.f20) Tryd.func20 rfl rfl rfl ?_; intro Γ hk
      repeat' (first | refine yo ?_ ?_ | refine yw ?_ ?_ | refine yk ?_ ?_ | exact trivial | with_reducible refine wA ?_ ?_ | refine ys ?_ ?_ | refine xs_done ?_ | refine yl ?_ ?_ | refine w8 ?_ | refine w9 ?_ | refine w1 ?_ | refine w2 ?_ | refine w3 ?_ | refine w4 ?_ | refine w5 ?_ | refine w6 ?_ | refine w7 ?_ | refine yo0 ?_ ?_ | refine yw0 ?_ ?_ | exact qq | fail)
      refine pop_call [] rfl rfl rfl rfl rfl hs (args_cl _ rfl) ?_
      rintro _ ⟨d1, d2, rfl⟩
      refine ⟨scB_spec _ rfl, ?_⟩
      repeat' (first | refine yo ?_ ?_ | refine yw ?_ ?_ | refine yk ?_ ?_ | exact trivial | with_reducible refine wA ?_ ?_ | refine ys ?_ ?_ | refine xs_done ?_ | refine yl ?_ ?_ | refine w8 ?_ | refine w9 ?_ | refine w1 ?_ | refine w2 ?_ | refine w3 ?_ | refine w4 ?_ | refine w5 ?_ | refine w6 ?_ | refine w7 ?_ | refine yo0 ?_ ?_ | refine yw0 ?_ ?_ | exact qq | fail)
      refine pcond_y rfl (by rw [Bool.eq_iff_iff]; simp; omega) ?_
      repeat' (first | refine yo ?_ ?_ | refine yw ?_ ?_ | refine yk ?_ ?_ | exact trivial | with_reducible refine wA ?_ ?_ | refine ys ?_ ?_ | refine xs_done ?_ | refine yl ?_ ?_ | refine w8 ?_ | refine w9 ?_ | refine w1 ?_ | refine w2 ?_ | refine w3 ?_ | refine w4 ?_ | refine w5 ?_ | refine w6 ?_ | refine w7 ?_ | refine yo0 ?_ ?_ | refine yw0 ?_ ?_ | exact qq | fail)
      refine xdone ?_
      exact kret [] rfl ⟨trivial, trivial, trivial⟩ (qs := [vLi [], vi 2]) ⟨argNil, argVal, trivial⟩ rfl
    · rw [if_neg hc]
      exact ref22_ok k a n count m x h (by omega) (by omega) hm
  · rw [if_pos (by rw [h]; decide)]
    rw [h] at hs
    refine pure_of (G := G.toPg) (fn := Tryd.f20) Tryd.func20 rfl rfl rfl ?_; intro Γ hk
    repeat' (first | refine yo ?_ ?_ | refine yw ?_ ?_ | refine yk ?_ ?_ | exact trivial | with_reducible refine wA ?_ ?_ | refine ys ?_ ?_ | refine xs_done ?_ | refine yl ?_ ?_ | refine w8 ?_ | refine w9 ?_ | refine w1 ?_ | refine w2 ?_ | refine w3 ?_ | refine w4 ?_ | refine w5 ?_ | refine w6 ?_ | refine w7 ?_ | refine yo0 ?_ ?_ | refine yw0 ?_ ?_ | exact qq | fail)
    refine pop_call [] rfl rfl rfl rfl rfl hs (args_cl _ rfl) ?_
    rintro _ ⟨d1, d2, rfl⟩
    refine ⟨scB_spec _ rfl, ?_⟩
    repeat' (first | refine yo ?_ ?_ | refine yw ?_ ?_ | refine yk ?_ ?_ | exact trivial | with_reducible refine wA ?_ ?_ | refine ys ?_ ?_ | refine xs_done ?_ | refine yl ?_ ?_ | refine w8 ?_ | refine w9 ?_ | refine w1 ?_ | refine w2 ?_ | refine w3 ?_ | refine w4 ?_ | refine w5 ?_ | refine w6 ?_ | refine w7 ?_ | refine yo0 ?_ ?_ | refine yw0 ?_ ?_ | exact qq | fail)
    refine xdone ?_
    exact kret [] rfl ⟨trivial, trivial, trivial⟩ (qs := [vLi [], vi 2]) ⟨argNil, argVal, trivial⟩ rfl
end Go.Proofs.YtcghpepighboaaaDoor
