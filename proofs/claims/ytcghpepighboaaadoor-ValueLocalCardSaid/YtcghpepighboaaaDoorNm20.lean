/- payrollref20.Names. -/
import Derived.Test.YtcghpepighboaaaDoorX9
set_option linter.unusedSimpArgs false
set_option linter.unusedVariables false
set_option maxRecDepth 100000
namespace Go.Proofs.YtcghpepighboaaaDoor
theorem lF_take1 {l : List Df} {i : Nat} (hi : i < l.length) : l.take (i + 1) = l.take i ++ [lF dD l i] := by
  rw [List.take_add_one, List.getElem?_eq_getElem hi]
  unfold lF; rw [List.getD_eq_getElem?_getD, List.getElem?_eq_getElem hi]; rfl
def fk (p : Df → Bool) (l : List Df) (i : Nat) : List Df := (l.take i).filter p
theorem fk_y {p : Df → Bool} {l : List Df} {i : Nat} (hi : i < l.length) (h : p (lF dD l i) = true) : fk p l (i + 1) = fk p l i ++ [lF dD l i] := by
  unfold fk; rw [lF_take1 hi, List.filter_append]; simp [h]
theorem fk_n {p : Df → Bool} {l : List Df} {i : Nat} (hi : i < l.length) (h : p (lF dD l i) = false) : fk p l (i + 1) = fk p l i := by
  unfold fk; rw [lF_take1 hi, List.filter_append]; simp [h]
theorem fk_le (p : Df → Bool) (l : List Df) (i : Nat) : (fk p l i).length ≤ i := by
  unfold fk; have := List.length_filter_le p (l.take i); have := List.length_take_le i l; omega
theorem fk_all (p : Df → Bool) (l : List Df) : fk p l l.length = l.filter p := by unfold fk; rw [List.take_length]
abbrev rAg18 (nm : ByteArray) (l : List Df) : Row := ⟨.own, true, 1, 2, fun _ => nthP [vs nm, vDs l]⟩
set_option maxHeartbeats 4000000 in
theorem names20_c (nm : ByteArray) (l : List Df) (hl : l.length ≤ 1000) : PureC G.P 45 [vA nm l] (fun r => r = .tup 3 (nthP [vDs (l.filter isNm), vDs (l.filter isSc), vDs (l.filter isPa)])) := by
  refine pure_of (G := G.toPg) (fn := Tryd.f45) Tryd.func45 rfl rfl rfl ?_; intro Γ hk
  repeat' (first | refine yo ?_ ?_ | refine yw ?_ ?_ | refine yk ?_ ?_ | exact trivial | with_reducible refine wA ?_ ?_ | refine ys ?_ ?_ | refine xs_done ?_ | refine yl ?_ ?_ | refine w8 ?_ | refine w9 ?_ | refine w1 ?_ | refine w2 ?_ | refine w3 ?_ | refine w4 ?_ | refine w5 ?_ | refine w6 ?_ | refine w7 ?_ | refine yo0 ?_ ?_ | refine yw0 ?_ ?_ | exact qq | fail)
  refine pcan (can_virt (vRow cD 21 0 (lF dD [])) rfl) ?_
  refine pcan (can_virt (vRow cD 21 0 (lF dD [])) rfl) ?_
  refine pcan (can_virt (vRow cD 21 0 (lF dD [])) rfl) ?_
  refine pcan (st' := ⟨[(1, .ptr 0 0 0), (2, slP 0 1), (3, slP 0 2), (4, slP 0 3), (5, vi ((0 : Nat) : Int))], [rAg18 nm l, vRow cD 21 0 (lF dD (fk isNm l 0)), vRow cD 21 0 (lF dD (fk isSc l 0)), vRow cD 21 0 (lF dD (fk isPa l 0))]⟩) (can_rowsv [0, 1, 2, 3] (k0_sel hk rfl) rfl (.cons rfl rqq (.cons rfl (RowEq.cl (v_cl cD_cl _ _ _)) (.cons rfl (RowEq.cl (v_cl cD_cl _ _ _)) (.cons rfl (RowEq.cl (v_cl cD_cl _ _ _)) .nil)))) tmq) ?_
  refine ploop (fun q st => ∃ i a b c : Nat, i ≤ l.length ∧ (fk isNm l i).length = a ∧ (fk isSc l i).length = b ∧ (fk isPa l i).length = c ∧ q = l.length - i ∧ st = ⟨[(1, .ptr 0 0 0), (2, slP a 1), (3, slP b 2), (4, slP c 3), (5, vi i)], [rAg18 nm l, vRow cD 21 a (lF dD (fk isNm l i)), vRow cD 21 b (lF dD (fk isSc l i)), vRow cD 21 c (lF dD (fk isPa l i))]⟩) l.length ⟨0, 0, 0, 0, by omega, rfl, rfl, rfl, by omega, rfl⟩ ?_
  rintro _ _ ⟨i, a, b, c, hi, ha, hb, hc, rfl, rfl⟩
  have la := fk_le isNm l i
  have lb := fk_le isSc l i
  have lc := fk_le isPa l i
  repeat' (first | refine yo ?_ ?_ | refine yw ?_ ?_ | refine yk ?_ ?_ | exact trivial | with_reducible refine wA ?_ ?_ | refine ys ?_ ?_ | refine xs_done ?_ | refine yl ?_ ?_ | refine w8 ?_ | refine w9 ?_ | refine w1 ?_ | refine w2 ?_ | refine w3 ?_ | refine w4 ?_ | refine w5 ?_ | refine w6 ?_ | refine w7 ?_ | refine yo0 ?_ ?_ | refine yw0 ?_ ?_ | exact qq | fail)
  refine pcond rfl ?_ ?_ <;> intro hlt <;> simp at hlt
  · have hw : IntKind.i64.wrap ((i : Int) + 1) = ((i + 1 : Nat) : Int) := w64 (by omega) (by omega)
    by_cases hk1 : (lF dD l i).kind = 1 ∨ (lF dD l i).kind = 3 ∨ (lF dD l i).kind = 4
    · have e1 := fk_y (p := isNm) hlt (decide_eq_true hk1)
      have e2 := fk_n (p := isSc) hlt (decide_eq_false (by omega))
      have e3 := fk_n (p := isPa) hlt (decide_eq_false (by omega))
      rcases hk1 with h | h | h
      all_goals
        rcases a with _ | a
        · repeat' (first | refine yo ?_ ?_ | refine yw ?_ ?_ | refine yk ?_ ?_ | exact trivial | with_reducible refine wA ?_ ?_ | refine ys ?_ ?_ | refine xs_done ?_ | refine yl ?_ ?_ | exact ⟨Nat.le_refl _, (by rw [hk]; exact Nat.le_of_ble_eq_true rfl), Nat.le_of_eq (Nat.zero_add _), (show (_ : Nat) * 216 ≤ 140737488355328 from by omega), (show (_ : Nat) ≤ 9223372036854775807 from by omega)⟩ | (refine pcond_y rfl (by show ((lF dD l i).kind == _) = true; rw [h]; rfl) ?_) | (refine pcond_n rfl (by show ((lF dD l i).kind == _) = false; rw [h]; rfl) ?_) | refine w8 ?_ | refine w9 ?_ | refine w1 ?_ | refine w2 ?_ | refine w3 ?_ | refine w4 ?_ | refine w5 ?_ | refine w6 ?_ | refine w7 ?_ | refine yo0 ?_ ?_ | refine yw0 ?_ ?_ | exact qq | fail)
          rw [hw]
          exact kloop_next (st' := ⟨[(1, .ptr 0 0 0), (2, slP (0 + 1) 1), (3, slP b 2), (4, slP c 3), (5, vi ((i + 1 : Nat) : Int))], [rAg18 nm l, vRow cD 21 (0 + 1) (lF dD (fk isNm l i ++ [lF dD l i])), vRow cD 21 b (lF dD (fk isSc l i)), vRow cD 21 c (lF dD (fk isPa l i))]⟩) (l.length - (i + 1)) (can_rowsv [0, 6, 2, 3] (k0_sel hk rfl) rfl (.cons rfl rqq (.cons rfl (app_l0 cD_cl ha rfl) (.cons rfl (RowEq.cl (v_cl cD_cl _ _ _)) (.cons rfl (RowEq.cl (v_cl cD_cl _ _ _)) .nil)))) tmq) (by omega) ⟨i + 1, (0 + 1), b, c, by omega, by rw [e1, List.length_append, ha]; rfl, by rw [e2]; exact hb, by rw [e3]; exact hc, rfl, by rw [e1, e2, e3]⟩
        · repeat' (first | refine yo ?_ ?_ | refine yw ?_ ?_ | refine yk ?_ ?_ | exact trivial | with_reducible refine wA ?_ ?_ | refine ys ?_ ?_ | refine xs_done ?_ | refine yl ?_ ?_ | exact ⟨Nat.le_refl _, (by rw [hk]; exact Nat.le_of_ble_eq_true rfl), Nat.le_of_eq (Nat.zero_add _), (show (_ : Nat) * 216 ≤ 140737488355328 from by omega), (show (_ : Nat) ≤ 9223372036854775807 from by omega)⟩ | (refine pcond_y rfl (by show ((lF dD l i).kind == _) = true; rw [h]; rfl) ?_) | (refine pcond_n rfl (by show ((lF dD l i).kind == _) = false; rw [h]; rfl) ?_) | refine w8 ?_ | refine w9 ?_ | refine w1 ?_ | refine w2 ?_ | refine w3 ?_ | refine w4 ?_ | refine w5 ?_ | refine w6 ?_ | refine w7 ?_ | refine yo0 ?_ ?_ | refine yw0 ?_ ?_ | exact qq | fail)
          rw [hw]
          exact kloop_next (st' := ⟨[(1, .ptr 0 0 0), (2, slP (a + 1 + 1) 1), (3, slP b 2), (4, slP c 3), (5, vi ((i + 1 : Nat) : Int))], [rAg18 nm l, vRow cD 21 (a + 1 + 1) (lF dD (fk isNm l i ++ [lF dD l i])), vRow cD 21 b (lF dD (fk isSc l i)), vRow cD 21 c (lF dD (fk isPa l i))]⟩) (l.length - (i + 1)) (can_rowsv [0, 6, 2, 3] (k0_sel hk rfl) rfl (.cons rfl rqq (.cons rfl (app_l cD_cl ha rfl rfl) (.cons rfl (RowEq.cl (v_cl cD_cl _ _ _)) (.cons rfl (RowEq.cl (v_cl cD_cl _ _ _)) .nil)))) tmq) (by omega) ⟨i + 1, (a + 1 + 1), b, c, by omega, by rw [e1, List.length_append, ha]; rfl, by rw [e2]; exact hb, by rw [e3]; exact hc, rfl, by rw [e1, e2, e3]⟩
    · by_cases h : (lF dD l i).kind = 2
      · have e1 := fk_n (p := isNm) hlt (decide_eq_false hk1)
        have e2 := fk_y (p := isSc) hlt (decide_eq_true h)
        have e3 := fk_n (p := isPa) hlt (decide_eq_false (by omega))
        rcases b with _ | b
        · repeat' (first | refine yo ?_ ?_ | refine yw ?_ ?_ | refine yk ?_ ?_ | exact trivial | with_reducible refine wA ?_ ?_ | refine ys ?_ ?_ | refine xs_done ?_ | refine yl ?_ ?_ | exact ⟨Nat.le_refl _, (by rw [hk]; exact Nat.le_of_ble_eq_true rfl), Nat.le_of_eq (Nat.zero_add _), (show (_ : Nat) * 216 ≤ 140737488355328 from by omega), (show (_ : Nat) ≤ 9223372036854775807 from by omega)⟩ | (refine pcond_y rfl (by show ((lF dD l i).kind == _) = true; rw [h]; rfl) ?_) | (refine pcond_n rfl (by show ((lF dD l i).kind == _) = false; rw [h]; rfl) ?_) | refine w8 ?_ | refine w9 ?_ | refine w1 ?_ | refine w2 ?_ | refine w3 ?_ | refine w4 ?_ | refine w5 ?_ | refine w6 ?_ | refine w7 ?_ | refine yo0 ?_ ?_ | refine yw0 ?_ ?_ | exact qq | fail)
          rw [hw]
          exact kloop_next (st' := ⟨[(1, .ptr 0 0 0), (2, slP a 1), (3, slP (0 + 1) 2), (4, slP c 3), (5, vi ((i + 1 : Nat) : Int))], [rAg18 nm l, vRow cD 21 a (lF dD (fk isNm l i)), vRow cD 21 (0 + 1) (lF dD (fk isSc l i ++ [lF dD l i])), vRow cD 21 c (lF dD (fk isPa l i))]⟩) (l.length - (i + 1)) (can_rowsv [0, 1, 6, 3] (k0_sel hk rfl) rfl (.cons rfl rqq (.cons rfl (RowEq.cl (v_cl cD_cl _ _ _)) (.cons rfl (app_l0 cD_cl hb rfl) (.cons rfl (RowEq.cl (v_cl cD_cl _ _ _)) .nil)))) tmq) (by omega) ⟨i + 1, a, (0 + 1), c, by omega, by rw [e1]; exact ha, by rw [e2, List.length_append, hb]; rfl, by rw [e3]; exact hc, rfl, by rw [e1, e2, e3]⟩
        · repeat' (first | refine yo ?_ ?_ | refine yw ?_ ?_ | refine yk ?_ ?_ | exact trivial | with_reducible refine wA ?_ ?_ | refine ys ?_ ?_ | refine xs_done ?_ | refine yl ?_ ?_ | exact ⟨Nat.le_refl _, (by rw [hk]; exact Nat.le_of_ble_eq_true rfl), Nat.le_of_eq (Nat.zero_add _), (show (_ : Nat) * 216 ≤ 140737488355328 from by omega), (show (_ : Nat) ≤ 9223372036854775807 from by omega)⟩ | (refine pcond_y rfl (by show ((lF dD l i).kind == _) = true; rw [h]; rfl) ?_) | (refine pcond_n rfl (by show ((lF dD l i).kind == _) = false; rw [h]; rfl) ?_) | refine w8 ?_ | refine w9 ?_ | refine w1 ?_ | refine w2 ?_ | refine w3 ?_ | refine w4 ?_ | refine w5 ?_ | refine w6 ?_ | refine w7 ?_ | refine yo0 ?_ ?_ | refine yw0 ?_ ?_ | exact qq | fail)
          rw [hw]
          exact kloop_next (st' := ⟨[(1, .ptr 0 0 0), (2, slP a 1), (3, slP (b + 1 + 1) 2), (4, slP c 3), (5, vi ((i + 1 : Nat) : Int))], [rAg18 nm l, vRow cD 21 a (lF dD (fk isNm l i)), vRow cD 21 (b + 1 + 1) (lF dD (fk isSc l i ++ [lF dD l i])), vRow cD 21 c (lF dD (fk isPa l i))]⟩) (l.length - (i + 1)) (can_rowsv [0, 1, 6, 3] (k0_sel hk rfl) rfl (.cons rfl rqq (.cons rfl (RowEq.cl (v_cl cD_cl _ _ _)) (.cons rfl (app_l cD_cl hb rfl rfl) (.cons rfl (RowEq.cl (v_cl cD_cl _ _ _)) .nil)))) tmq) (by omega) ⟨i + 1, a, (b + 1 + 1), c, by omega, by rw [e1]; exact ha, by rw [e2, List.length_append, hb]; rfl, by rw [e3]; exact hc, rfl, by rw [e1, e2, e3]⟩
      · by_cases h : (lF dD l i).kind = 5
        · have e1 := fk_n (p := isNm) hlt (decide_eq_false hk1)
          have e2 := fk_n (p := isSc) hlt (decide_eq_false (by omega))
          have e3 := fk_y (p := isPa) hlt (decide_eq_true h)
          rcases c with _ | c
          · repeat' (first | refine yo ?_ ?_ | refine yw ?_ ?_ | refine yk ?_ ?_ | exact trivial | with_reducible refine wA ?_ ?_ | refine ys ?_ ?_ | refine xs_done ?_ | refine yl ?_ ?_ | exact ⟨Nat.le_refl _, (by rw [hk]; exact Nat.le_of_ble_eq_true rfl), Nat.le_of_eq (Nat.zero_add _), (show (_ : Nat) * 216 ≤ 140737488355328 from by omega), (show (_ : Nat) ≤ 9223372036854775807 from by omega)⟩ | (refine pcond_y rfl (by show ((lF dD l i).kind == _) = true; rw [h]; rfl) ?_) | (refine pcond_n rfl (by show ((lF dD l i).kind == _) = false; rw [h]; rfl) ?_) | refine w8 ?_ | refine w9 ?_ | refine w1 ?_ | refine w2 ?_ | refine w3 ?_ | refine w4 ?_ | refine w5 ?_ | refine w6 ?_ | refine w7 ?_ | refine yo0 ?_ ?_ | refine yw0 ?_ ?_ | exact qq | fail)
            rw [hw]
            exact kloop_next (st' := ⟨[(1, .ptr 0 0 0), (2, slP a 1), (3, slP b 2), (4, slP (0 + 1) 3), (5, vi ((i + 1 : Nat) : Int))], [rAg18 nm l, vRow cD 21 a (lF dD (fk isNm l i)), vRow cD 21 b (lF dD (fk isSc l i)), vRow cD 21 (0 + 1) (lF dD (fk isPa l i ++ [lF dD l i]))]⟩) (l.length - (i + 1)) (can_rowsv [0, 1, 2, 6] (k0_sel hk rfl) rfl (.cons rfl rqq (.cons rfl (RowEq.cl (v_cl cD_cl _ _ _)) (.cons rfl (RowEq.cl (v_cl cD_cl _ _ _)) (.cons rfl (app_l0 cD_cl hc rfl) .nil)))) tmq) (by omega) ⟨i + 1, a, b, (0 + 1), by omega, by rw [e1]; exact ha, by rw [e2]; exact hb, by rw [e3, List.length_append, hc]; rfl, rfl, by rw [e1, e2, e3]⟩
          · repeat' (first | refine yo ?_ ?_ | refine yw ?_ ?_ | refine yk ?_ ?_ | exact trivial | with_reducible refine wA ?_ ?_ | refine ys ?_ ?_ | refine xs_done ?_ | refine yl ?_ ?_ | exact ⟨Nat.le_refl _, (by rw [hk]; exact Nat.le_of_ble_eq_true rfl), Nat.le_of_eq (Nat.zero_add _), (show (_ : Nat) * 216 ≤ 140737488355328 from by omega), (show (_ : Nat) ≤ 9223372036854775807 from by omega)⟩ | (refine pcond_y rfl (by show ((lF dD l i).kind == _) = true; rw [h]; rfl) ?_) | (refine pcond_n rfl (by show ((lF dD l i).kind == _) = false; rw [h]; rfl) ?_) | refine w8 ?_ | refine w9 ?_ | refine w1 ?_ | refine w2 ?_ | refine w3 ?_ | refine w4 ?_ | refine w5 ?_ | refine w6 ?_ | refine w7 ?_ | refine yo0 ?_ ?_ | refine yw0 ?_ ?_ | exact qq | fail)
            rw [hw]
            exact kloop_next (st' := ⟨[(1, .ptr 0 0 0), (2, slP a 1), (3, slP b 2), (4, slP (c + 1 + 1) 3), (5, vi ((i + 1 : Nat) : Int))], [rAg18 nm l, vRow cD 21 a (lF dD (fk isNm l i)), vRow cD 21 b (lF dD (fk isSc l i)), vRow cD 21 (c + 1 + 1) (lF dD (fk isPa l i ++ [lF dD l i]))]⟩) (l.length - (i + 1)) (can_rowsv [0, 1, 2, 6] (k0_sel hk rfl) rfl (.cons rfl rqq (.cons rfl (RowEq.cl (v_cl cD_cl _ _ _)) (.cons rfl (RowEq.cl (v_cl cD_cl _ _ _)) (.cons rfl (app_l cD_cl hc rfl rfl) .nil)))) tmq) (by omega) ⟨i + 1, a, b, (c + 1 + 1), by omega, by rw [e1]; exact ha, by rw [e2]; exact hb, by rw [e3, List.length_append, hc]; rfl, rfl, by rw [e1, e2, e3]⟩
        · have e1 := fk_n (p := isNm) hlt (decide_eq_false hk1)
          have e2 := fk_n (p := isSc) hlt (decide_eq_false (by omega))
          have e3 := fk_n (p := isPa) hlt (decide_eq_false (by omega))
          have g1 : ¬ (lF dD l i).kind = 1 := by omega
          have g3 : ¬ (lF dD l i).kind = 3 := by omega
          have g4 : ¬ (lF dD l i).kind = 4 := by omega
          have g2 : ¬ (lF dD l i).kind = 2 := by omega
          repeat' (first | refine yo ?_ ?_ | refine yw ?_ ?_ | refine yk ?_ ?_ | exact trivial | with_reducible refine wA ?_ ?_ | refine ys ?_ ?_ | refine xs_done ?_ | refine yl ?_ ?_ | (refine pcond_n rfl (by show ((lF dD l i).kind == _) = false; rw [bqd]; exact decide_eq_false (by assumption)) ?_) | refine w8 ?_ | refine w9 ?_ | refine w1 ?_ | refine w2 ?_ | refine w3 ?_ | refine w4 ?_ | refine w5 ?_ | refine w6 ?_ | refine w7 ?_ | refine yo0 ?_ ?_ | refine yw0 ?_ ?_ | exact qq | fail)
          rw [hw]
          exact kloop_next (st' := ⟨[(1, .ptr 0 0 0), (2, slP a 1), (3, slP b 2), (4, slP c 3), (5, vi ((i + 1 : Nat) : Int))], [rAg18 nm l, vRow cD 21 a (lF dD (fk isNm l i)), vRow cD 21 b (lF dD (fk isSc l i)), vRow cD 21 c (lF dD (fk isPa l i))]⟩) (l.length - (i + 1)) (can_rowsv [0, 1, 2, 3] (k0_sel hk rfl) rfl (.cons rfl rqq (.cons rfl (RowEq.cl (v_cl cD_cl _ _ _)) (.cons rfl (RowEq.cl (v_cl cD_cl _ _ _)) (.cons rfl (RowEq.cl (v_cl cD_cl _ _ _)) .nil)))) tmq) (by omega) ⟨i + 1, a, b, c, by omega, by rw [e1]; exact ha, by rw [e2]; exact hb, by rw [e3]; exact hc, rfl, by rw [e1, e2, e3]⟩
  · obtain rfl : i = l.length := by omega
    rw [fk_all] at ha hb hc
    rw [fk_all, fk_all, fk_all]
    refine pcan (can_frz [1, 2, 3] (by intro _ _; rw [hk]; exact Nat.zero_le _) rfl (tm := [(2, .vsl a 21 (tF cD (lF dD (l.filter isNm)))), (3, .vsl b 21 (tF cD (lF dD (l.filter isSc)))), (4, .vsl c 21 (tF cD (lF dD (l.filter isPa))))]) (by exact ⟨.inr (arg_v cD_cl rfl (by simp)), .inr (arg_v cD_cl rfl (by simp)), .inr (arg_v cD_cl rfl (by simp)), trivial⟩)) ?_
    repeat' (first | refine yo ?_ ?_ | refine yw ?_ ?_ | refine yk ?_ ?_ | exact trivial | with_reducible refine wA ?_ ?_ | refine ys ?_ ?_ | refine xs_done ?_ | refine yl ?_ ?_ | refine w8 ?_ | refine w9 ?_ | refine w1 ?_ | refine w2 ?_ | refine w3 ?_ | refine w4 ?_ | refine w5 ?_ | refine w6 ?_ | refine w7 ?_ | refine yo0 ?_ ?_ | refine yw0 ?_ ?_ | exact qq | fail)
    refine xdone ?_
    exact kretv rfl ⟨trivial, trivial, trivial, trivial⟩ rfl (by rw [← ha, ← hb, ← hc]; rfl)
end Go.Proofs.YtcghpepighboaaaDoor
