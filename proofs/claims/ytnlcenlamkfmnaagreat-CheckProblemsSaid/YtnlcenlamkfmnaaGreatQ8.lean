/- The reference's Check: names, collisions, types that differ. -/
import Derived.Test.YtnlcenlamkfmnaaGreatQ6
set_option linter.unusedSimpArgs false
set_option linter.unusedVariables false
set_option maxRecDepth 100000
namespace Go.Proofs.YtnlcenlamkfmnaaGreat
theorem type19_c (N S P : List Df) (hN : N.length ≤ 1000000) (hS : S.length ≤ 1000000) (hP : P.length ≤ 1000000) (e : Ex) (hb : Bd e) (hv : validS 32 e = true) : PureC G.P 52 [vX e, vDs N, vDs S, vDs P] (fun r => r = vTE (typeS N S P 32 e)) := by
  have c1 := validExpr18_c e hb
  rw [hv] at c1
  have c2 := of19_c N S P hN hS hP 32 e hv
  refine pure_of (G := G.toPg) (fn := Tryz.f52) Tryz.func52 rfl rfl rfl ?_; intro Γ hk
  repeat' (first | refine yo ?_ ?_ | refine yw ?_ ?_ | refine yk ?_ ?_ | exact trivial | with_reducible refine wA ?_ ?_ | refine ys ?_ ?_ | refine xs_done ?_ | refine yl ?_ ?_ | refine z1 c1 ?_ | refine z2 c1 ?_ | refine z3 c1 ?_ | refine z4 c1 ?_ | refine z5 c1 ?_ | refine z1 c2 ?_ | refine z2 c2 ?_ | refine z3 c2 ?_ | refine z4 c2 ?_ | refine z5 c2 ?_ | refine w8 ?_ | refine w9 ?_ | refine w1 ?_ | refine w2 ?_ | refine w3 ?_ | refine w4 ?_ | refine w5 ?_ | refine w6 ?_ | refine w7 ?_ | refine yo0 ?_ ?_ | refine yw0 ?_ ?_ | exact qq | fail)
  exact kretv rfl ⟨Nat.zero_lt_one, trivial, trivial⟩ rfl rfl
theorem typ20_c (d : Df) : PureC G.P 51 [vD d] (fun r => r = vT (tyD d)) := by
  refine pure_of (G := G.toPg) (fn := Tryz.f51) Tryz.func51 rfl rfl rfl ?_; intro Γ hk
  repeat' (first | refine yo ?_ ?_ | refine yw ?_ ?_ | refine yk ?_ ?_ | exact trivial | with_reducible refine wA ?_ ?_ | refine ys ?_ ?_ | refine xs_done ?_ | refine yl ?_ ?_ | refine w8 ?_ | refine w9 ?_ | refine w1 ?_ | refine w2 ?_ | refine w3 ?_ | refine w4 ?_ | refine w5 ?_ | refine w6 ?_ | refine w7 ?_ | refine yo0 ?_ ?_ | refine yw0 ?_ ?_ | exact qq | fail)
  refine pcond rfl ?_ ?_ <;> intro hc
  · have hc : d.kind = 4 := by have : (d.kind == 4) = true := hc; simpa using this
    repeat' (first | refine yo ?_ ?_ | refine yw ?_ ?_ | refine yk ?_ ?_ | exact trivial | with_reducible refine wA ?_ ?_ | refine ys ?_ ?_ | refine xs_done ?_ | refine yl ?_ ?_ | refine w8 ?_ | refine w9 ?_ | refine w1 ?_ | refine w2 ?_ | refine w3 ?_ | refine w4 ?_ | refine w5 ?_ | refine w6 ?_ | refine w7 ?_ | refine yo0 ?_ ?_ | refine yw0 ?_ ?_ | exact qq | fail)
    refine kretv rfl ⟨Nat.zero_lt_one, trivial⟩ rfl ?_
    unfold tyD; rw [if_pos hc]; rfl
  · have hc : ¬ d.kind = 4 := by have : (d.kind == 4) = false := hc; simpa using this
    repeat' (first | refine yo ?_ ?_ | refine yw ?_ ?_ | refine yk ?_ ?_ | exact trivial | with_reducible refine wA ?_ ?_ | refine ys ?_ ?_ | refine xs_done ?_ | refine yl ?_ ?_ | refine w8 ?_ | refine w9 ?_ | refine w1 ?_ | refine w2 ?_ | refine w3 ?_ | refine w4 ?_ | refine w5 ?_ | refine w6 ?_ | refine w7 ?_ | refine yo0 ?_ ?_ | refine yw0 ?_ ?_ | exact qq | fail)
    refine kretv rfl ⟨Nat.zero_lt_one, trivial⟩ rfl ?_
    unfold tyD; rw [if_neg hc]; rfl
theorem collide20_c (a b : Df) : PureC G.P 48 [vD a, vD b] (fun r => r = vb (collS a b)) := by
  have c1 := typ20_c a
  have c2 := typ20_c b
  refine pure_of (G := G.toPg) (fn := Tryz.f48) Tryz.func48 rfl rfl rfl ?_; intro Γ hk
  repeat' (first | refine yo ?_ ?_ | refine yw ?_ ?_ | refine yk ?_ ?_ | exact trivial | with_reducible refine wA ?_ ?_ | refine ys ?_ ?_ | refine xs_done ?_ | refine yl ?_ ?_ | refine w8 ?_ | refine w9 ?_ | refine w1 ?_ | refine w2 ?_ | refine w3 ?_ | refine w4 ?_ | refine w5 ?_ | refine w6 ?_ | refine w7 ?_ | refine yo0 ?_ ?_ | refine yw0 ?_ ?_ | exact qq | fail)
  refine pcond rfl ?_ ?_ <;> intro hc
  · have hc := nb_t hc
    repeat' (first | refine yo ?_ ?_ | refine yw ?_ ?_ | refine yk ?_ ?_ | exact trivial | with_reducible refine wA ?_ ?_ | refine ys ?_ ?_ | refine xs_done ?_ | refine yl ?_ ?_ | refine w8 ?_ | refine w9 ?_ | refine w1 ?_ | refine w2 ?_ | refine w3 ?_ | refine w4 ?_ | refine w5 ?_ | refine w6 ?_ | refine w7 ?_ | refine yo0 ?_ ?_ | refine yw0 ?_ ?_ | exact qq | fail)
    refine kretv rfl ⟨trivial, trivial⟩ rfl (eqB ?_)
    unfold collS; rw [hc]; rfl
  · have hc := nb_f hc
    repeat' (first | refine yo ?_ ?_ | refine yw ?_ ?_ | refine yk ?_ ?_ | exact trivial | with_reducible refine wA ?_ ?_ | refine ys ?_ ?_ | refine xs_done ?_ | refine yl ?_ ?_ | refine w8 ?_ | refine w9 ?_ | refine w1 ?_ | refine w2 ?_ | refine w3 ?_ | refine w4 ?_ | refine w5 ?_ | refine w6 ?_ | refine w7 ?_ | refine yo0 ?_ ?_ | refine yw0 ?_ ?_ | exact qq | fail)
    refine pcond (b := decide (a.kind = 5 ∨ b.kind = 5)) ?_ ?_ ?_
    · refine eqB ?_
      show (bif (a.kind == 5) then true else (b.kind == 5)) = _
      rw [bqd, bqd]
      by_cases h1 : a.kind = 5 <;> simp [h1]
    · intro h
      have h := of_decide_eq_true h
      repeat' (first | refine yo ?_ ?_ | refine yw ?_ ?_ | refine yk ?_ ?_ | exact trivial | with_reducible refine wA ?_ ?_ | refine ys ?_ ?_ | refine xs_done ?_ | refine yl ?_ ?_ | refine w8 ?_ | refine w9 ?_ | refine w1 ?_ | refine w2 ?_ | refine w3 ?_ | refine w4 ?_ | refine w5 ?_ | refine w6 ?_ | refine w7 ?_ | refine yo0 ?_ ?_ | refine yw0 ?_ ?_ | exact qq | fail)
      refine kretv rfl ⟨trivial, trivial⟩ rfl (eqB ?_)
      unfold collS; rw [hc, if_pos h, bqd]; rfl
    · intro h
      have h := of_decide_eq_false h
      repeat' (first | refine yo ?_ ?_ | refine yw ?_ ?_ | refine yk ?_ ?_ | exact trivial | with_reducible refine wA ?_ ?_ | refine ys ?_ ?_ | refine xs_done ?_ | refine yl ?_ ?_ | refine xs_start (id := 5) true [.take 0, .take 1, .take 2, .take 3, .take 4, .take 5, .take 6, .take 7, .take 8, .take 9, .take 10, .take 11, .take 13, .one 12, .one 14, .take 15, .take 16, .take 17, .take 18, .take 19, .take 20, .take 21, .take 22, .take 23, .take 24] 0 rfl rfl (by kernel_rfl) ?_ | refine z1 c1 ?_ | refine z2 c1 ?_ | refine z3 c1 ?_ | refine z4 c1 ?_ | refine z5 c1 ?_ | refine z1 c2 ?_ | refine z2 c2 ?_ | refine z3 c2 ?_ | refine z4 c2 ?_ | refine z5 c2 ?_ | refine w8 ?_ | refine w9 ?_ | refine w1 ?_ | refine w2 ?_ | refine w3 ?_ | refine w4 ?_ | refine w5 ?_ | refine w6 ?_ | refine w7 ?_ | refine yo0 ?_ ?_ | refine yw0 ?_ ?_ | exact qq | fail)
      refine kretv rfl ⟨trivial, trivial⟩ rfl (eqB ?_)
      unfold collS; rw [hc, if_neg h]
      rw [ty_eq, show (a.kind != b.kind) = decide (a.kind ≠ b.kind) from by rw [Bool.eq_iff_iff]; simp, bqd, bqd]
      cases decide (a.kind ≠ b.kind) <;> cases decide (a.kind = 1) <;> simp
/-- ErrType if only one is bool; ErrUnit if the units differ -/
def diffS (a b : Ty) : Int := if a.b ≠ b.b then 9 else if ¬ (a.m = b.m ∧ a.h = b.h ∧ a.d = b.d) then 10 else 0
theorem differ_c (a b : Ty) : PureC G.P 50 [vT a, vT b] (fun r => r = vi (diffS a b)) := by
  refine pure_of (G := G.toPg) (fn := Tryz.f50) Tryz.func50 rfl rfl rfl ?_; intro Γ hk
  repeat' (first | refine yo ?_ ?_ | refine yw ?_ ?_ | refine yk ?_ ?_ | exact trivial | with_reducible refine wA ?_ ?_ | refine ys ?_ ?_ | refine xs_done ?_ | refine yl ?_ ?_ | refine w8 ?_ | refine w9 ?_ | refine w1 ?_ | refine w2 ?_ | refine w3 ?_ | refine w4 ?_ | refine w5 ?_ | refine w6 ?_ | refine w7 ?_ | refine yo0 ?_ ?_ | refine yw0 ?_ ?_ | exact qq | fail)
  refine pcond (b := decide (a.b ≠ b.b)) ?_ ?_ ?_
  · refine eqB ?_
    cases a.b <;> cases b.b <;> rfl
  · intro h
    have h := of_decide_eq_true h
    repeat' (first | refine yo ?_ ?_ | refine yw ?_ ?_ | refine yk ?_ ?_ | exact trivial | with_reducible refine wA ?_ ?_ | refine ys ?_ ?_ | refine xs_done ?_ | refine yl ?_ ?_ | refine w8 ?_ | refine w9 ?_ | refine w1 ?_ | refine w2 ?_ | refine w3 ?_ | refine w4 ?_ | refine w5 ?_ | refine w6 ?_ | refine w7 ?_ | refine yo0 ?_ ?_ | refine yw0 ?_ ?_ | exact qq | fail)
    refine kretv rfl ⟨trivial, trivial⟩ rfl (eqI ?_)
    unfold diffS; rw [if_pos h]
  · intro h
    have h := of_decide_eq_false h
    repeat' (first | refine yo ?_ ?_ | refine yw ?_ ?_ | refine yk ?_ ?_ | exact trivial | with_reducible refine wA ?_ ?_ | refine ys ?_ ?_ | refine xs_done ?_ | refine yl ?_ ?_ | refine w8 ?_ | refine w9 ?_ | refine w1 ?_ | refine w2 ?_ | refine w3 ?_ | refine w4 ?_ | refine w5 ?_ | refine w6 ?_ | refine w7 ?_ | refine yo0 ?_ ?_ | refine yw0 ?_ ?_ | exact qq | fail)
    refine pcond (b := decide (¬ (a.m = b.m ∧ a.h = b.h ∧ a.d = b.d))) ?_ ?_ ?_
    · refine eqB ?_
      rw [Bool.eq_iff_iff]; simp
    · intro h2
      have h2 := of_decide_eq_true h2
      repeat' (first | refine yo ?_ ?_ | refine yw ?_ ?_ | refine yk ?_ ?_ | exact trivial | with_reducible refine wA ?_ ?_ | refine ys ?_ ?_ | refine xs_done ?_ | refine yl ?_ ?_ | refine w8 ?_ | refine w9 ?_ | refine w1 ?_ | refine w2 ?_ | refine w3 ?_ | refine w4 ?_ | refine w5 ?_ | refine w6 ?_ | refine w7 ?_ | refine yo0 ?_ ?_ | refine yw0 ?_ ?_ | exact qq | fail)
      refine kretv rfl ⟨trivial, trivial⟩ rfl (eqI ?_)
      unfold diffS; rw [if_neg h, if_pos h2]
    · intro h2
      have h2 := of_decide_eq_false h2
      repeat' (first | refine yo ?_ ?_ | refine yw ?_ ?_ | refine yk ?_ ?_ | exact trivial | with_reducible refine wA ?_ ?_ | refine ys ?_ ?_ | refine xs_done ?_ | refine yl ?_ ?_ | refine w8 ?_ | refine w9 ?_ | refine w1 ?_ | refine w2 ?_ | refine w3 ?_ | refine w4 ?_ | refine w5 ?_ | refine w6 ?_ | refine w7 ?_ | refine yo0 ?_ ?_ | refine yw0 ?_ ?_ | exact qq | fail)
      refine kretv rfl ⟨trivial, trivial⟩ rfl (eqI ?_)
      unfold diffS; rw [if_neg h, if_neg h2]
set_option maxHeartbeats 4000000 in
theorem names20_c (nm : ByteArray) (l : List Df) (hl : l.length ≤ 1000) : PureC G.P 49 [vA nm l] (fun r => r = .tup 3 (nthP [vDs (l.filter isNm), vDs (l.filter isSc), vDs (l.filter isPa)])) := by
  refine pure_of (G := G.toPg) (fn := Tryz.f49) Tryz.func49 rfl rfl rfl ?_; intro Γ hk
  repeat' (first | refine yo ?_ ?_ | refine yw ?_ ?_ | refine yk ?_ ?_ | exact trivial | with_reducible refine wA ?_ ?_ | refine ys ?_ ?_ | refine xs_done ?_ | refine yl ?_ ?_ | refine w8 ?_ | refine w9 ?_ | refine w1 ?_ | refine w2 ?_ | refine w3 ?_ | refine w4 ?_ | refine w5 ?_ | refine w6 ?_ | refine w7 ?_ | refine yo0 ?_ ?_ | refine yw0 ?_ ?_ | exact qq | fail)
  refine pcan (can_virt (vRow cD 21 0 (lF dD [])) rfl) ?_
  refine pcan (can_virt (vRow cD 21 0 (lF dD [])) rfl) ?_
  refine pcan (can_virt (vRow cD 21 0 (lF dD [])) rfl) ?_
  refine pcan (st' := ⟨[(1, .ptr 0 0 0), (2, slP 0 1), (3, slP 0 2), (4, slP 0 3), (5, vi ((0 : Nat) : Int))], [rAg18 nm l, vRow cD 21 0 (lF dD (fk isNm l 0)), vRow cD 21 0 (lF dD (fk isSc l 0)), vRow cD 21 0 (lF dD (fk isPa l 0))]⟩) (can_rowsv [0, 1, 2, 3] (k0_sel hk rfl) rfl (.cons rfl rqq (.cons rfl (RowEq.cl (v_cl cD_cl _ _ _)) (.cons rfl (RowEq.cl (v_cl cD_cl _ _ _)) (.cons rfl (RowEq.cl (v_cl cD_cl _ _ _)) .nil)))) tmq) ?_
  refine ploop (fun q st => ∃ i a b c : Nat, i ≤ l.length ∧ (fk isNm l i).length = a ∧ (fk isSc l i).length = b ∧ (fk isPa l i).length = c ∧ q = l.length - i ∧ st = ⟨[(1, .ptr 0 0 0), (2, slP a 1), (3, slP b 2), (4, slP c 3), (5, vi i)], [rAg18 nm l, vRow cD 21 a (lF dD (fk isNm l i)), vRow cD 21 b (lF dD (fk isSc l i)), vRow cD 21 c (lF dD (fk isPa l i))]⟩) l.length ⟨0, 0, 0, 0, by omega, rfl, rfl, rfl, by omega, rfl⟩ ?_
  rintro _ _ ⟨i, a, b, c, hi, ha, hb, hc, rfl, rfl⟩
  have la := fk_le isNm l i
  have lb := fk_le isSc l i
  have lc := fk_le isPa l i
  repeat' (first | refine yo ?_ ?_ | refine yw ?_ ?_ | refine yk ?_ ?_ | exact trivial | with_reducible refine wA ?_ ?_ | refine ys ?_ ?_ | refine xs_done ?_ | refine yl ?_ ?_ | refine w8 ?_ | refine w9 ?_ | refine w1 ?_ | refine w2 ?_ | refine w3 ?_ | refine w4 ?_ | refine w5 ?_ | refine w6 ?_ | refine w7 ?_ | refine yo0 ?_ ?_ | refine yw0 ?_ ?_ | exact qq | fail)
  refine pcond rfl ?_ ?_ <;> intro hlt <;> simp at hlt
  · have hw : IntKind.i64.wrap ((i : Int) + 1) = ((i + 1 : Nat) : Int) := w64 (by omega) (by omega)
    by_cases hk1 : (lF dD l i).kind = 1 ∨ (lF dD l i).kind = 3 ∨ (lF dD l i).kind = 4
    · have e1 := fk_y (p := isNm) hlt (decide_eq_true hk1)
      have e2 := fk_n (p := isSc) hlt (decide_eq_false (by omega))
      have e3 := fk_n (p := isPa) hlt (decide_eq_false (by omega))
      rcases hk1 with h | h | h
      all_goals
        rcases a with _ | a
        · repeat' (first | refine yo ?_ ?_ | refine yw ?_ ?_ | refine yk ?_ ?_ | exact trivial | with_reducible refine wA ?_ ?_ | refine ys ?_ ?_ | refine xs_done ?_ | refine yl ?_ ?_ | exact ⟨Nat.le_refl _, (by rw [hk]; exact Nat.le_of_ble_eq_true rfl), Nat.le_of_eq (Nat.zero_add _), (show (_ : Nat) * 216 ≤ 140737488355328 from by omega), (show (_ : Nat) ≤ 9223372036854775807 from by omega)⟩ | (refine pcond_y rfl (by show ((lF dD l i).kind == _) = true; rw [h]; rfl) ?_) | (refine pcond_n rfl (by show ((lF dD l i).kind == _) = false; rw [h]; rfl) ?_) | refine w8 ?_ | refine w9 ?_ | refine w1 ?_ | refine w2 ?_ | refine w3 ?_ | refine w4 ?_ | refine w5 ?_ | refine w6 ?_ | refine w7 ?_ | refine yo0 ?_ ?_ | refine yw0 ?_ ?_ | exact qq | fail)
          rw [hw]
          exact kloop_next (st' := ⟨[(1, .ptr 0 0 0), (2, slP (0 + 1) 1), (3, slP b 2), (4, slP c 3), (5, vi ((i + 1 : Nat) : Int))], [rAg18 nm l, vRow cD 21 (0 + 1) (lF dD (fk isNm l i ++ [lF dD l i])), vRow cD 21 b (lF dD (fk isSc l i)), vRow cD 21 c (lF dD (fk isPa l i))]⟩) (l.length - (i + 1)) (can_rowsv [0, 6, 2, 3] (k0_sel hk rfl) rfl (.cons rfl rqq (.cons rfl (app_l0 cD_cl ha rfl) (.cons rfl (RowEq.cl (v_cl cD_cl _ _ _)) (.cons rfl (RowEq.cl (v_cl cD_cl _ _ _)) .nil)))) tmq) (by omega) ⟨i + 1, (0 + 1), b, c, by omega, by rw [e1, List.length_append, ha]; rfl, by rw [e2]; exact hb, by rw [e3]; exact hc, rfl, by rw [e1, e2, e3]⟩
        · repeat' (first | refine yo ?_ ?_ | refine yw ?_ ?_ | refine yk ?_ ?_ | exact trivial | with_reducible refine wA ?_ ?_ | refine ys ?_ ?_ | refine xs_done ?_ | refine yl ?_ ?_ | exact ⟨Nat.le_refl _, (by rw [hk]; exact Nat.le_of_ble_eq_true rfl), Nat.le_of_eq (Nat.zero_add _), (show (_ : Nat) * 216 ≤ 140737488355328 from by omega), (show (_ : Nat) ≤ 9223372036854775807 from by omega)⟩ | (refine pcond_y rfl (by show ((lF dD l i).kind == _) = true; rw [h]; rfl) ?_) | (refine pcond_n rfl (by show ((lF dD l i).kind == _) = false; rw [h]; rfl) ?_) | refine w8 ?_ | refine w9 ?_ | refine w1 ?_ | refine w2 ?_ | refine w3 ?_ | refine w4 ?_ | refine w5 ?_ | refine w6 ?_ | refine w7 ?_ | refine yo0 ?_ ?_ | refine yw0 ?_ ?_ | exact qq | fail)
          rw [hw]
          exact kloop_next (st' := ⟨[(1, .ptr 0 0 0), (2, slP (a + 1 + 1) 1), (3, slP b 2), (4, slP c 3), (5, vi ((i + 1 : Nat) : Int))], [rAg18 nm l, vRow cD 21 (a + 1 + 1) (lF dD (fk isNm l i ++ [lF dD l i])), vRow cD 21 b (lF dD (fk isSc l i)), vRow cD 21 c (lF dD (fk isPa l i))]⟩) (l.length - (i + 1)) (can_rowsv [0, 6, 2, 3] (k0_sel hk rfl) rfl (.cons rfl rqq (.cons rfl (app_l cD_cl ha rfl rfl) (.cons rfl (RowEq.cl (v_cl cD_cl _ _ _)) (.cons rfl (RowEq.cl (v_cl cD_cl _ _ _)) .nil)))) tmq) (by omega) ⟨i + 1, (a + 1 + 1), b, c, by omega, by rw [e1, List.length_append, ha]; rfl, by rw [e2]; exact hb, by rw [e3]; exact hc, rfl, by rw [e1, e2, e3]⟩
    · by_cases h : (lF dD l i).kind = 2
      · have e1 := fk_n (p := isNm) hlt (decide_eq_false hk1)
        have e2 := fk_y (p := isSc) hlt (decide_eq_true h)
        have e3 := fk_n (p := isPa) hlt (decide_eq_false (by omega))
        rcases b with _ | b
        · repeat' (first | refine yo ?_ ?_ | refine yw ?_ ?_ | refine yk ?_ ?_ | exact trivial | with_reducible refine wA ?_ ?_ | refine ys ?_ ?_ | refine xs_done ?_ | refine yl ?_ ?_ | exact ⟨Nat.le_refl _, (by rw [hk]; exact Nat.le_of_ble_eq_true rfl), Nat.le_of_eq (Nat.zero_add _), (show (_ : Nat) * 216 ≤ 140737488355328 from by omega), (show (_ : Nat) ≤ 9223372036854775807 from by omega)⟩ | (refine pcond_y rfl (by show ((lF dD l i).kind == _) = true; rw [h]; rfl) ?_) | (refine pcond_n rfl (by show ((lF dD l i).kind == _) = false; rw [h]; rfl) ?_) | refine w8 ?_ | refine w9 ?_ | refine w1 ?_ | refine w2 ?_ | refine w3 ?_ | refine w4 ?_ | refine w5 ?_ | refine w6 ?_ | refine w7 ?_ | refine yo0 ?_ ?_ | refine yw0 ?_ ?_ | exact qq | fail)
          rw [hw]
          exact kloop_next (st' := ⟨[(1, .ptr 0 0 0), (2, slP a 1), (3, slP (0 + 1) 2), (4, slP c 3), (5, vi ((i + 1 : Nat) : Int))], [rAg18 nm l, vRow cD 21 a (lF dD (fk isNm l i)), vRow cD 21 (0 + 1) (lF dD (fk isSc l i ++ [lF dD l i])), vRow cD 21 c (lF dD (fk isPa l i))]⟩) (l.length - (i + 1)) (can_rowsv [0, 1, 6, 3] (k0_sel hk rfl) rfl (.cons rfl rqq (.cons rfl (RowEq.cl (v_cl cD_cl _ _ _)) (.cons rfl (app_l0 cD_cl hb rfl) (.cons rfl (RowEq.cl (v_cl cD_cl _ _ _)) .nil)))) tmq) (by omega) ⟨i + 1, a, (0 + 1), c, by omega, by rw [e1]; exact ha, by rw [e2, List.length_append, hb]; rfl, by rw [e3]; exact hc, rfl, by rw [e1, e2, e3]⟩
        · repeat' (first | refine yo ?_ ?_ | refine yw ?_ ?_ | refine yk ?_ ?_ | exact trivial | with_reducible refine wA ?_ ?_ | refine ys ?_ ?_ | refine xs_done ?_ | refine yl ?_ ?_ | exact ⟨Nat.le_refl _, (by rw [hk]; exact Nat.le_of_ble_eq_true rfl), Nat.le_of_eq (Nat.zero_add _), (show (_ : Nat) * 216 ≤ 140737488355328 from by omega), (show (_ : Nat) ≤ 9223372036854775807 from by omega)⟩ | (refine pcond_y rfl (by show ((lF dD l i).kind == _) = true; rw [h]; rfl) ?_) | (refine pcond_n rfl (by show ((lF dD l i).kind == _) = false; rw [h]; rfl) ?_) | refine w8 ?_ | refine w9 ?_ | refine w1 ?_ | refine w2 ?_ | refine w3 ?_ | refine w4 ?_ | refine w5 ?_ | refine w6 ?_ | refine w7 ?_ | refine yo0 ?_ ?_ | refine yw0 ?_ ?_ | exact qq | fail)
          rw [hw]
          exact kloop_next (st' := ⟨[(1, .ptr 0 0 0), (2, slP a 1), (3, slP (b + 1 + 1) 2), (4, slP c 3), (5, vi ((i + 1 : Nat) : Int))], [rAg18 nm l, vRow cD 21 a (lF dD (fk isNm l i)), vRow cD 21 (b + 1 + 1) (lF dD (fk isSc l i ++ [lF dD l i])), vRow cD 21 c (lF dD (fk isPa l i))]⟩) (l.length - (i + 1)) (can_rowsv [0, 1, 6, 3] (k0_sel hk rfl) rfl (.cons rfl rqq (.cons rfl (RowEq.cl (v_cl cD_cl _ _ _)) (.cons rfl (app_l cD_cl hb rfl rfl) (.cons rfl (RowEq.cl (v_cl cD_cl _ _ _)) .nil)))) tmq) (by omega) ⟨i + 1, a, (b + 1 + 1), c, by omega, by rw [e1]; exact ha, by rw [e2, List.length_append, hb]; rfl, by rw [e3]; exact hc, rfl, by rw [e1, e2, e3]⟩
      · by_cases h : (lF dD l i).kind = 5
        · have e1 := fk_n (p := isNm) hlt (decide_eq_false hk1)
          have e2 := fk_n (p := isSc) hlt (decide_eq_false (by omega))
          have e3 := fk_y (p := isPa) hlt (decide_eq_true h)
          rcases c with _ | c
          · repeat' (first | refine yo ?_ ?_ | refine yw ?_ ?_ | refine yk ?_ ?_ | exact trivial | with_reducible refine wA ?_ ?_ | refine ys ?_ ?_ | refine xs_done ?_ | refine yl ?_ ?_ | exact ⟨Nat.le_refl _, (by rw [hk]; exact Nat.le_of_ble_eq_true rfl), Nat.le_of_eq (Nat.zero_add _), (show (_ : Nat) * 216 ≤ 140737488355328 from by omega), (show (_ : Nat) ≤ 9223372036854775807 from by omega)⟩ | (refine pcond_y rfl (by show ((lF dD l i).kind == _) = true; rw [h]; rfl) ?_) | (refine pcond_n rfl (by show ((lF dD l i).kind == _) = false; rw [h]; rfl) ?_) | refine w8 ?_ | refine w9 ?_ | refine w1 ?_ | refine w2 ?_ | refine w3 ?_ | refine w4 ?_ | refine w5 ?_ | refine w6 ?_ | refine w7 ?_ | refine yo0 ?_ ?_ | refine yw0 ?_ ?_ | exact qq | fail)
            rw [hw]
            exact kloop_next (st' := ⟨[(1, .ptr 0 0 0), (2, slP a 1), (3, slP b 2), (4, slP (0 + 1) 3), (5, vi ((i + 1 : Nat) : Int))], [rAg18 nm l, vRow cD 21 a (lF dD (fk isNm l i)), vRow cD 21 b (lF dD (fk isSc l i)), vRow cD 21 (0 + 1) (lF dD (fk isPa l i ++ [lF dD l i]))]⟩) (l.length - (i + 1)) (can_rowsv [0, 1, 2, 6] (k0_sel hk rfl) rfl (.cons rfl rqq (.cons rfl (RowEq.cl (v_cl cD_cl _ _ _)) (.cons rfl (RowEq.cl (v_cl cD_cl _ _ _)) (.cons rfl (app_l0 cD_cl hc rfl) .nil)))) tmq) (by omega) ⟨i + 1, a, b, (0 + 1), by omega, by rw [e1]; exact ha, by rw [e2]; exact hb, by rw [e3, List.length_append, hc]; rfl, rfl, by rw [e1, e2, e3]⟩
          · repeat' (first | refine yo ?_ ?_ | refine yw ?_ ?_ | refine yk ?_ ?_ | exact trivial | with_reducible refine wA ?_ ?_ | refine ys ?_ ?_ | refine xs_done ?_ | refine yl ?_ ?_ | exact ⟨Nat.le_refl _, (by rw [hk]; exact Nat.le_of_ble_eq_true rfl), Nat.le_of_eq (Nat.zero_add _), (show (_ : Nat) * 216 ≤ 140737488355328 from by omega), (show (_ : Nat) ≤ 9223372036854775807 from by omega)⟩ | (refine pcond_y rfl (by show ((lF dD l i).kind == _) = true; rw [h]; rfl) ?_) | (refine pcond_n rfl (by show ((lF dD l i).kind == _) = false; rw [h]; rfl) ?_) | refine w8 ?_ | refine w9 ?_ | refine w1 ?_ | refine w2 ?_ | refine w3 ?_ | refine w4 ?_ | refine w5 ?_ | refine w6 ?_ | refine w7 ?_ | refine yo0 ?_ ?_ | refine yw0 ?_ ?_ | exact qq | fail)
            rw [hw]
            exact kloop_next (st' := ⟨[(1, .ptr 0 0 0), (2, slP a 1), (3, slP b 2), (4, slP (c + 1 + 1) 3), (5, vi ((i + 1 : Nat) : Int))], [rAg18 nm l, vRow cD 21 a (lF dD (fk isNm l i)), vRow cD 21 b (lF dD (fk isSc l i)), vRow cD 21 (c + 1 + 1) (lF dD (fk isPa l i ++ [lF dD l i]))]⟩) (l.length - (i + 1)) (can_rowsv [0, 1, 2, 6] (k0_sel hk rfl) rfl (.cons rfl rqq (.cons rfl (RowEq.cl (v_cl cD_cl _ _ _)) (.cons rfl (RowEq.cl (v_cl cD_cl _ _ _)) (.cons rfl (app_l cD_cl hc rfl rfl) .nil)))) tmq) (by omega) ⟨i + 1, a, b, (c + 1 + 1), by omega, by rw [e1]; exact ha, by rw [e2]; exact hb, by rw [e3, List.length_append, hc]; rfl, rfl, by rw [e1, e2, e3]⟩
        · have e1 := fk_n (p := isNm) hlt (decide_eq_false hk1)
          have e2 := fk_n (p := isSc) hlt (decide_eq_false (by omega))
          have e3 := fk_n (p := isPa) hlt (decide_eq_false (by omega))
          have g1 : ¬ (lF dD l i).kind = 1 := by omega
          have g3 : ¬ (lF dD l i).kind = 3 := by omega
          have g4 : ¬ (lF dD l i).kind = 4 := by omega
          have g2 : ¬ (lF dD l i).kind = 2 := by omega
          repeat' (first | refine yo ?_ ?_ | refine yw ?_ ?_ | refine yk ?_ ?_ | exact trivial | with_reducible refine wA ?_ ?_ | refine ys ?_ ?_ | refine xs_done ?_ | refine yl ?_ ?_ | (refine pcond_n rfl (by show ((lF dD l i).kind == _) = false; rw [bqd]; exact decide_eq_false (by assumption)) ?_) | refine w8 ?_ | refine w9 ?_ | refine w1 ?_ | refine w2 ?_ | refine w3 ?_ | refine w4 ?_ | refine w5 ?_ | refine w6 ?_ | refine w7 ?_ | refine yo0 ?_ ?_ | refine yw0 ?_ ?_ | exact qq | fail)
          rw [hw]
          exact kloop_next (st' := ⟨[(1, .ptr 0 0 0), (2, slP a 1), (3, slP b 2), (4, slP c 3), (5, vi ((i + 1 : Nat) : Int))], [rAg18 nm l, vRow cD 21 a (lF dD (fk isNm l i)), vRow cD 21 b (lF dD (fk isSc l i)), vRow cD 21 c (lF dD (fk isPa l i))]⟩) (l.length - (i + 1)) (can_rowsv [0, 1, 2, 3] (k0_sel hk rfl) rfl (.cons rfl rqq (.cons rfl (RowEq.cl (v_cl cD_cl _ _ _)) (.cons rfl (RowEq.cl (v_cl cD_cl _ _ _)) (.cons rfl (RowEq.cl (v_cl cD_cl _ _ _)) .nil)))) tmq) (by omega) ⟨i + 1, a, b, c, by omega, by rw [e1]; exact ha, by rw [e2]; exact hb, by rw [e3]; exact hc, rfl, by rw [e1, e2, e3]⟩
  · obtain rfl : i = l.length := by omega
    rw [fk_all] at ha hb hc
    rw [fk_all, fk_all, fk_all]
    refine pcan (can_frz [1, 2, 3] (by intro _ _; rw [hk]; exact Nat.zero_le _) rfl (tm := [(2, .vsl a 21 (tF cD (lF dD (l.filter isNm)))), (3, .vsl b 21 (tF cD (lF dD (l.filter isSc)))), (4, .vsl c 21 (tF cD (lF dD (l.filter isPa))))]) (by exact ⟨.inr (arg_v cD_cl rfl (by simp)), .inr (arg_v cD_cl rfl (by simp)), .inr (arg_v cD_cl rfl (by simp)), trivial⟩)) ?_
    repeat' (first | refine yo ?_ ?_ | refine yw ?_ ?_ | refine yk ?_ ?_ | exact trivial | with_reducible refine wA ?_ ?_ | refine ys ?_ ?_ | refine xs_done ?_ | refine yl ?_ ?_ | refine w8 ?_ | refine w9 ?_ | refine w1 ?_ | refine w2 ?_ | refine w3 ?_ | refine w4 ?_ | refine w5 ?_ | refine w6 ?_ | refine w7 ?_ | refine yo0 ?_ ?_ | refine yw0 ?_ ?_ | exact qq | fail)
    refine xdone ?_
    exact kretv rfl ⟨trivial, trivial, trivial, trivial⟩ rfl (by rw [← ha, ← hb, ← hc]; rfl)
def okT (t : Ty) : Prop := t.b = true → t.m = 0 ∧ t.h = 0 ∧ t.d = 0
theorem ok_t0 : okT t0 := fun h => by cases h
theorem ok_tB : okT tB := fun _ => ⟨rfl, rfl, rfl⟩
theorem ok_tM : okT tM := fun h => by cases h
theorem okT_num {m h d : Int} : okT ⟨false, m, h, d⟩ := fun h => by cases h
theorem ite_ok {c : Prop} [Decidable c] {x y : Ty × Int} (hx : okT x.1) (hy : okT y.1) : okT (if c then x else y).1 := by
  split
  · exact hx
  · exact hy
theorem findS_ok (s : ByteArray) : ∀ l : List Df, (∀ d, d ∈ l → okT d.ty) → okT (findS l s).1
  | [], _ => ok_t0
  | d :: l, h => by
    rw [findS]
    split
    · split
      · exact ok_tM
      · exact h d (List.mem_cons_self ..)
    · exact findS_ok s l fun d hd => h d (List.mem_cons_of_mem _ hd)
theorem mulT_ok (a b : Ty) (s : Int) : okT (mulT a b s).1 := by
  unfold mulT; split
  · exact fun h => by cases h
  · exact ok_t0
theorem resS_ok {t : Ty} (h : okT t) (e : Int) : okT (resS t e).1 := by
  unfold resS; split
  · exact h
  · exact ok_t0
theorem opS_ok {N S P : List Df} (hN : ∀ d, d ∈ N → okT d.ty) (hS : ∀ d, d ∈ S → okT d.ty) (hP : ∀ d, d ∈ P → okT d.ty) (e : Ex) {a b c : Ty} (ha : okT a) (hb : okT b) (hc : okT c) : okT (opS N S P e a b c).1 := by
  unfold opS
  repeat' (first
    | exact ok_t0
    | exact ok_tB
    | exact findS_ok _ _ hN
    | exact findS_ok _ _ hP
    | exact resS_ok (findS_ok _ _ hS) _
    | exact resS_ok ha _
    | exact resS_ok hb _
    | exact resS_ok ok_tB _
    | exact mulT_ok _ _ _
    | exact ha
    | exact hb
    | exact okT_num
    | refine ite_ok ?_ ?_)
theorem typeS_ok {N S P : List Df} (hN : ∀ d, d ∈ N → okT d.ty) (hS : ∀ d, d ∈ S → okT d.ty) (hP : ∀ d, d ∈ P → okT d.ty) : ∀ (n : Nat) (e : Ex), okT (typeS N S P n e).1
  | 0, _ => ok_t0
  | n + 1, e => by
    rw [typeS]
    split
    · exact ok_t0
    split
    · exact ok_t0
    split
    · exact ok_t0
    have hk : ∀ (b : Prop) [Decidable b] (i : Nat), okT (if b then (typeS N S P n (e.kf i)).1 else t0) := fun b _ i => by
      split
      · exact typeS_ok hN hS hP n (e.kf i)
      · exact ok_t0
    exact opS_ok hN hS hP e (hk _ 0) (hk _ 1) (hk _ 2)
theorem agree_diff {a b : Ty} (ha : okT a) (hb : okT b) : agreeS a b = diffS b a := by
  unfold agreeS diffS okT at *
  obtain ⟨x, xm, xh, xd⟩ := a
  obtain ⟨y, ym, yh, yd⟩ := b
  cases x <;> cases y <;> simp_all
  all_goals
    split <;> split <;> first | rfl | omega
theorem typS_ok {t : Ty} (h : typS t = true) : okT t := fun hb => by
  unfold typS at h
  rw [if_pos hb] at h
  exact of_decide_eq_true h
theorem defS_ok {d : Df} (h : defS d = true) : okT d.ty ∧ okT (tyD d) := by
  have h1 : okT d.ty := by
    unfold defS at h
    repeat' split at h
    all_goals first
      | cases h; done
      | (simp only [Bool.and_eq_true] at h; first | exact typS_ok h.1 | exact typS_ok h.1.1 | (have := of_decide_eq_true h.1; rw [this]; exact ok_t0))
  refine ⟨h1, ?_⟩
  unfold tyD; split
  · exact ok_tM
  · exact h1
theorem find_at (p : Df → Bool) {l : List Df} {j : Nat} (hj : j < l.length) (h : p (lF dD l j) = true) (hn : ∀ k, k < j → p (lF dD l k) = false) : l.find? p = some (lF dD l j) := by
  have at_ : ∀ i (h : i < l.length), lF dD l i = l[i] := fun i h => by
    unfold lF; rw [List.getD_eq_getElem?_getD, List.getElem?_eq_getElem h]; rfl
  rw [at_ j hj] at h ⊢
  exact List.find?_eq_some_iff_getElem.2 ⟨h, j, hj, rfl, fun k hk => by have := hn k hk; rw [at_ k (by omega)] at this; simpa using this⟩
theorem find_no (p : Df → Bool) {l : List Df} (hn : ∀ k, k < l.length → p (lF dD l k) = false) : l.find? p = none := by
  have at_ : ∀ i (h : i < l.length), lF dD l i = l[i] := fun i h => by
    unfold lF; rw [List.getD_eq_getElem?_getD, List.getElem?_eq_getElem h]; rfl
  rw [List.find?_eq_none]
  intro x hx
  obtain ⟨k, hk, e⟩ := List.getElem_of_mem hx
  have := hn k hk
  rw [at_ k hk, e] at this
  rw [this]; simp
abbrev rDf (d : Df) : Row := ⟨.own, true, 1, 21, fun _ => nthP (cD d)⟩
set_option maxHeartbeats 4000000 in
theorem first20_c (nm : ByteArray) (l : List Df) (hl : l.length ≤ 1000) (hb : ∀ d, d ∈ l → BdD d) (hv : ∀ d, d ∈ l → defS d = true) (i : Nat) (hi : i < l.length) : PureC G.P 36 [vA nm l, vi i] (fun r => r = vi (errD l (l.take i) (lF dD l i))) := by
  have at_ : ∀ i, i < l.length → lF dD l i ∈ l := fun i hi => by
    unfold lF; rw [List.getD_eq_getElem?_getD, List.getElem?_eq_getElem hi]; exact List.getElem_mem _
  obtain ⟨d, hd⟩ : ∃ d, d = lF dD l i := ⟨_, rfl⟩
  have hdl : d ∈ l := hd ▸ at_ i hi
  have hbd := hb d hdl
  have hvd := hv d hdl
  have c1 := names20_c nm l (by omega)
  have lN : (l.filter isNm).length ≤ 1000000 := by have := List.length_filter_le isNm l; omega
  have lS : (l.filter isSc).length ≤ 1000000 := by have := List.length_filter_le isSc l; omega
  have lP : (l.filter isPa).length ≤ 1000000 := by have := List.length_filter_le isPa l; omega
  have oN : ∀ x, x ∈ l.filter isNm → okT x.ty := fun x hx => (defS_ok (hv x (List.mem_filter.1 hx).1)).1
  have oN2 : ∀ x, x ∈ l.filter isNm → okT (tyD x) := fun x hx => (defS_ok (hv x (List.mem_filter.1 hx).1)).2
  have oS : ∀ x, x ∈ l.filter isSc → okT x.ty := fun x hx => (defS_ok (hv x (List.mem_filter.1 hx).1)).1
  have oP : ∀ x, x ∈ l.filter isPa → okT x.ty := fun x hx => (defS_ok (hv x (List.mem_filter.1 hx).1)).1
  have hE : errD l (l.take i) d = if (!allK i (fun j => !collS (lF dD l j) d)) = true then 8 else if d.kind = 5 then pastS (l.filter isNm) d else if d.kind = 3 ∨ d.kind = 4 then bodyS (l.filter isNm) (l.filter isSc) (l.filter isPa) d else 0 := by
    unfold errD; rw [anyTk l i (by omega)]
  rw [← hd]
  obtain ⟨Ns, hNs⟩ : ∃ x, x = l.filter isNm := ⟨_, rfl⟩
  obtain ⟨Ss, hSs⟩ : ∃ x, x = l.filter isSc := ⟨_, rfl⟩
  obtain ⟨Ps, hPs⟩ : ∃ x, x = l.filter isPa := ⟨_, rfl⟩
  rw [← hNs] at lN oN oN2
  rw [← hSs] at lS oS
  rw [← hPs] at lP oP
  rw [← hNs, ← hSs, ← hPs] at c1 hE
  refine pure_of (G := G.toPg) (fn := Tryz.f36) Tryz.func36 rfl rfl rfl ?_; intro Γ hk
  repeat' (first | refine yo ?_ ?_ | refine yw ?_ ?_ | refine yk ?_ ?_ | exact trivial | with_reducible refine wA ?_ ?_ | refine ys ?_ ?_ | refine xs_done ?_ | refine yl ?_ ?_ | refine w8 ?_ | refine w9 ?_ | refine w1 ?_ | refine w2 ?_ | refine w3 ?_ | refine w4 ?_ | refine w5 ?_ | refine w6 ?_ | refine w7 ?_ | refine yo0 ?_ ?_ | refine yw0 ?_ ?_ | exact qq | fail)
  have i0 : ((i : Int)).toNat = i := by omega
  refine pcan (st' := ⟨[(1, vi i), (2, .ptr 0 0 0), (5, .ptr 1 0 0), (6, vi ((0 : Nat) : Int))], [rAg18 nm l, rDf d]⟩) (can_rowsv [0, 1] (k0_sel hk rfl) rfl (.cons rfl rqq (.cons rfl (by rw [i0, ← hd]; exact rqq) .nil)) tmq) ?_
  refine ploop (fun q st => ∃ k : Nat, k ≤ i ∧ (∀ j, j < k → collS (lF dD l j) d = false) ∧ q = i - k ∧ st = ⟨[(1, vi i), (2, .ptr 0 0 0), (5, .ptr 1 0 0), (6, vi k)], [rAg18 nm l, rDf d]⟩) i ⟨0, by omega, fun j hj => by omega, by omega, rfl⟩ ?_
  rintro _ _ ⟨k, hki, hz, rfl, rfl⟩
  repeat' (first | refine yo ?_ ?_ | refine yw ?_ ?_ | refine yk ?_ ?_ | exact trivial | with_reducible refine wA ?_ ?_ | refine ys ?_ ?_ | refine xs_done ?_ | refine yl ?_ ?_ | refine w8 ?_ | refine w9 ?_ | refine w1 ?_ | refine w2 ?_ | refine w3 ?_ | refine w4 ?_ | refine w5 ?_ | refine w6 ?_ | refine w7 ?_ | refine yo0 ?_ ?_ | refine yw0 ?_ ?_ | exact qq | fail)
  refine pcond rfl ?_ ?_ <;> intro hc <;> simp at hc
  · have hkl : k < l.length := by omega
    have c2 := collide20_c (lF dD l k) d
    repeat' (first | refine yo ?_ ?_ | refine yw ?_ ?_ | refine yk ?_ ?_ | exact trivial | with_reducible refine wA ?_ ?_ | refine ys ?_ ?_ | refine xs_done ?_ | refine yl ?_ ?_ | refine xs_start (id := 5) true [.take 0, .take 1, .take 2, .take 3, .take 4, .take 5, .one 6] 0 rfl rfl (by kernel_rfl) ?_ | refine xs_start (id := 13) true [.take 0, .take 1, .take 2, .take 3, .take 4, .take 5, .take 6, .take 7] 0 rfl rfl (by kernel_rfl) ?_ | refine xs_start (id := 14) true [.take 0, .take 1, .take 2, .take 3, .take 4, .take 5, .one 6, .one 7, .take 8] 0 rfl rfl (by kernel_rfl) ?_ | refine xs_start (id := 20) true [.take 0, .take 2, .one 1, .one 3, .take 4] 0 rfl rfl (by kernel_rfl) ?_ | refine z1 c2 ?_ | refine z2 c2 ?_ | refine z3 c2 ?_ | refine z4 c2 ?_ | refine z5 c2 ?_ | refine w8 ?_ | refine w9 ?_ | refine w1 ?_ | refine w2 ?_ | refine w3 ?_ | refine w4 ?_ | refine w5 ?_ | refine w6 ?_ | refine w7 ?_ | refine yo0 ?_ ?_ | refine yw0 ?_ ?_ | exact qq | fail)
    refine pcond rfl ?_ ?_ <;> intro h1
    · repeat' (first | refine yo ?_ ?_ | refine yw ?_ ?_ | refine yk ?_ ?_ | exact trivial | with_reducible refine wA ?_ ?_ | refine ys ?_ ?_ | refine xs_done ?_ | refine yl ?_ ?_ | refine w8 ?_ | refine w9 ?_ | refine w1 ?_ | refine w2 ?_ | refine w3 ?_ | refine w4 ?_ | refine w5 ?_ | refine w6 ?_ | refine w7 ?_ | refine yo0 ?_ ?_ | refine yw0 ?_ ?_ | exact qq | fail)
      refine kretv rfl ⟨trivial, trivial⟩ rfl (eqI ?_)
      rw [hE, if_pos (by rw [allK_no hc (by rw [h1]; rfl)]; rfl)]
    · repeat' (first | refine yo ?_ ?_ | refine yw ?_ ?_ | refine yk ?_ ?_ | exact trivial | with_reducible refine wA ?_ ?_ | refine ys ?_ ?_ | refine xs_done ?_ | refine yl ?_ ?_ | refine w8 ?_ | refine w9 ?_ | refine w1 ?_ | refine w2 ?_ | refine w3 ?_ | refine w4 ?_ | refine w5 ?_ | refine w6 ?_ | refine w7 ?_ | refine yo0 ?_ ?_ | refine yw0 ?_ ?_ | exact qq | fail)
      rw [show IntKind.i64.wrap ((k : Int) + 1) = ((k + 1 : Nat) : Int) from w64 (by omega) (by omega)]
      exact kloop_next (st' := ⟨[(1, vi i), (2, .ptr 0 0 0), (5, .ptr 1 0 0), (6, vi ((k + 1 : Nat) : Int))], [rAg18 nm l, rDf d]⟩) (i - (k + 1)) (can_rowsv [0,1] (k0_sel hk rfl) rfl (by (repeat (refine SelV.cons rfl rqq ?_)); exact SelV.nil) tmq) (by omega) ⟨k + 1, by omega, fun j hj => by
        by_cases e : j = k
        · subst e; exact h1
        · exact hz j (by omega), rfl, rfl⟩
  · obtain rfl : k = i := by omega
    have hE : errD l (l.take k) d = if d.kind = 5 then pastS Ns d else if d.kind = 3 ∨ d.kind = 4 then bodyS Ns Ss Ps d else 0 := by
      rw [hE, if_neg (by rw [allK_iff.2 fun j hj => by rw [hz j hj]; rfl]; simp)]
    repeat' (first | refine yo ?_ ?_ | refine yw ?_ ?_ | refine yk ?_ ?_ | exact trivial | with_reducible refine wA ?_ ?_ | refine ys ?_ ?_ | refine xs_done ?_ | refine yl ?_ ?_ | (refine pop_callc [] rfl rfl rfl rfl rfl rfl (fun _ h => by cases h) (c1) (args_cl _ rfl) ?_; rintro _ rfl) | refine w8 ?_ | refine w9 ?_ | refine w1 ?_ | refine w2 ?_ | refine w3 ?_ | refine w4 ?_ | refine w5 ?_ | refine w6 ?_ | refine w7 ?_ | refine yo0 ?_ ?_ | refine yw0 ?_ ?_ | exact qq | fail)
    by_cases h5 : d.kind = 5
    · rw [if_pos h5] at hE
      repeat' (first | refine yo ?_ ?_ | refine yw ?_ ?_ | refine yk ?_ ?_ | exact trivial | with_reducible refine wA ?_ ?_ | refine ys ?_ ?_ | refine xs_done ?_ | refine yl ?_ ?_ | (refine pcond_y rfl (by show (d.kind == _) = true; rw [h5]; rfl) ?_) | refine w8 ?_ | refine w9 ?_ | refine w1 ?_ | refine w2 ?_ | refine w3 ?_ | refine w4 ?_ | refine w5 ?_ | refine w6 ?_ | refine w7 ?_ | refine yo0 ?_ ?_ | refine yw0 ?_ ?_ | exact qq | fail)
      refine pcan (st' := ⟨[(5, .ptr 0 0 0), (7, vDs Ns), (10, vi ((0 : Nat) : Int))], [rDf d]⟩) (can_rowsv [1] (k0_sel hk rfl) rfl (by (repeat (refine SelV.cons rfl rqq ?_)); exact SelV.nil) tmq) ?_
      refine ploop (fun q st => ∃ j : Nat, j ≤ Ns.length ∧ (∀ x, x < j → ((lF dD Ns x).nm.toList == d.nm.toList) = false) ∧ q = Ns.length - j ∧ st = ⟨[(5, .ptr 0 0 0), (7, vDs Ns), (10, vi j)], [rDf d]⟩) Ns.length ⟨0, by omega, fun j hj => by omega, by omega, rfl⟩ ?_
      rintro _ _ ⟨j, hj, hx, rfl, rfl⟩
      repeat' (first | refine yo ?_ ?_ | refine yw ?_ ?_ | refine yk ?_ ?_ | exact trivial | with_reducible refine wA ?_ ?_ | refine ys ?_ ?_ | refine xs_done ?_ | refine yl ?_ ?_ | refine w8 ?_ | refine w9 ?_ | refine w1 ?_ | refine w2 ?_ | refine w3 ?_ | refine w4 ?_ | refine w5 ?_ | refine w6 ?_ | refine w7 ?_ | refine yo0 ?_ ?_ | refine yw0 ?_ ?_ | exact qq | fail)
      refine pcond rfl ?_ ?_ <;> intro hc <;> simp at hc
      · have c3 := typ20_c (lF dD Ns j)
        have c4 := differ_c d.ty (tyD (lF dD Ns j))
        repeat' (first | refine yo ?_ ?_ | refine yw ?_ ?_ | refine yk ?_ ?_ | exact trivial | with_reducible refine wA ?_ ?_ | refine ys ?_ ?_ | refine xs_done ?_ | refine yl ?_ ?_ | refine xs_start (id := 5) true [.take 0, .take 1, .take 2, .take 3, .take 4, .take 5, .one 6] 0 rfl rfl (by kernel_rfl) ?_ | refine xs_start (id := 13) true [.take 0, .take 1, .take 2, .take 3, .take 4, .take 5, .take 6, .take 7] 0 rfl rfl (by kernel_rfl) ?_ | refine xs_start (id := 14) true [.take 0, .take 1, .take 2, .take 3, .take 4, .take 5, .one 6, .one 7, .take 8] 0 rfl rfl (by kernel_rfl) ?_ | refine xs_start (id := 20) true [.take 0, .take 2, .one 1, .one 3, .take 4] 0 rfl rfl (by kernel_rfl) ?_ | refine w8 ?_ | refine w9 ?_ | refine w1 ?_ | refine w2 ?_ | refine w3 ?_ | refine w4 ?_ | refine w5 ?_ | refine w6 ?_ | refine w7 ?_ | refine yo0 ?_ ?_ | refine yw0 ?_ ?_ | exact qq | fail)
        refine pcond rfl ?_ ?_ <;> intro h1
        · repeat' (first | refine yo ?_ ?_ | refine yw ?_ ?_ | refine yk ?_ ?_ | exact trivial | with_reducible refine wA ?_ ?_ | refine ys ?_ ?_ | refine xs_done ?_ | refine yl ?_ ?_ | refine xs_start (id := 5) true [.take 0, .take 1, .take 2, .take 3, .take 4, .take 5, .one 6] 0 rfl rfl (by kernel_rfl) ?_ | refine xs_start (id := 13) true [.take 0, .take 1, .take 2, .take 3, .take 4, .take 5, .take 6, .take 7] 0 rfl rfl (by kernel_rfl) ?_ | refine xs_start (id := 14) true [.take 0, .take 1, .take 2, .take 3, .take 4, .take 5, .one 6, .one 7, .take 8] 0 rfl rfl (by kernel_rfl) ?_ | refine xs_start (id := 20) true [.take 0, .take 2, .one 1, .one 3, .take 4] 0 rfl rfl (by kernel_rfl) ?_ | refine z1 c3 ?_ | refine z2 c3 ?_ | refine z3 c3 ?_ | refine z4 c3 ?_ | refine z5 c3 ?_ | refine z1 c4 ?_ | refine z2 c4 ?_ | refine z3 c4 ?_ | refine z4 c4 ?_ | refine z5 c4 ?_ | refine w8 ?_ | refine w9 ?_ | refine w1 ?_ | refine w2 ?_ | refine w3 ?_ | refine w4 ?_ | refine w5 ?_ | refine w6 ?_ | refine w7 ?_ | refine yo0 ?_ ?_ | refine yw0 ?_ ?_ | exact qq | fail)
          refine kretv rfl ⟨trivial, trivial⟩ rfl (eqI ?_)
          rw [hE]; unfold pastS
          rw [find_at (fun n => n.nm.toList == d.nm.toList) hc h1 hx]
          have hm : lF dD Ns j ∈ Ns := by
            unfold lF; rw [List.getD_eq_getElem?_getD, List.getElem?_eq_getElem hc]; exact List.getElem_mem _
          exact (agree_diff (oN2 _ hm) (defS_ok hvd).1).symm
        · repeat' (first | refine yo ?_ ?_ | refine yw ?_ ?_ | refine yk ?_ ?_ | exact trivial | with_reducible refine wA ?_ ?_ | refine ys ?_ ?_ | refine xs_done ?_ | refine yl ?_ ?_ | refine w8 ?_ | refine w9 ?_ | refine w1 ?_ | refine w2 ?_ | refine w3 ?_ | refine w4 ?_ | refine w5 ?_ | refine w6 ?_ | refine w7 ?_ | refine yo0 ?_ ?_ | refine yw0 ?_ ?_ | exact qq | fail)
          rw [show IntKind.i64.wrap ((j : Int) + 1) = ((j + 1 : Nat) : Int) from w64 (by omega) (by omega)]
          exact kloop_next (st' := ⟨[(5, .ptr 0 0 0), (7, vDs Ns), (10, vi ((j + 1 : Nat) : Int))], [rDf d]⟩) (Ns.length - (j + 1)) (can_rowsv [0] (k0_sel hk rfl) rfl (by (repeat (refine SelV.cons rfl rqq ?_)); exact SelV.nil) tmq) (by omega) ⟨j + 1, by omega, fun x hx2 => by
            by_cases e : x = j
            · subst e; exact h1
            · exact hx x (by omega), rfl, rfl⟩
      · repeat' (first | refine yo ?_ ?_ | refine yw ?_ ?_ | refine yk ?_ ?_ | exact trivial | with_reducible refine wA ?_ ?_ | refine ys ?_ ?_ | refine xs_done ?_ | refine yl ?_ ?_ | refine w8 ?_ | refine w9 ?_ | refine w1 ?_ | refine w2 ?_ | refine w3 ?_ | refine w4 ?_ | refine w5 ?_ | refine w6 ?_ | refine w7 ?_ | refine yo0 ?_ ?_ | refine yw0 ?_ ?_ | exact qq | fail)
        refine kretv rfl ⟨trivial, trivial⟩ rfl (eqI ?_)
        rw [hE]; unfold pastS
        rw [find_no (fun n => n.nm.toList == d.nm.toList) (fun x hx2 => hx x (by omega))]
    · rw [if_neg h5] at hE
      by_cases h6 : d.kind = 3 ∨ d.kind = 4
      · rw [if_pos h6] at hE
        have hbv : validS 32 d.body = true := by
          unfold defS at hvd
          rcases h6 with h6 | h6 <;> (rw [h6] at hvd; simp at hvd; exact hvd.2.2.2.1)
        have c2 := type19_c Ns Ss Ps lN lS lP d.body hbd.body hbv
        have c3 := typ20_c d
        have hok : okT (typeS Ns Ss Ps 32 d.body).1 := typeS_ok oN oS oP 32 d.body
        unfold bodyS at hE
        generalize typeS Ns Ss Ps 32 d.body = X at *
        have c4 := differ_c (tyD d) X.1
        rcases h6 with h6 | h6
        all_goals
          repeat' (first | refine yo ?_ ?_ | refine yw ?_ ?_ | refine yk ?_ ?_ | exact trivial | with_reducible refine wA ?_ ?_ | refine ys ?_ ?_ | refine xs_done ?_ | refine yl ?_ ?_ | (refine pcond_y rfl (by show (d.kind == _) = true; rw [h6]; rfl) ?_) | (refine pcond_n rfl (by show (d.kind == _) = false; rw [h6]; rfl) ?_) | refine z1 c2 ?_ | refine z2 c2 ?_ | refine z3 c2 ?_ | refine z4 c2 ?_ | refine z5 c2 ?_ | refine w8 ?_ | refine w9 ?_ | refine w1 ?_ | refine w2 ?_ | refine w3 ?_ | refine w4 ?_ | refine w5 ?_ | refine w6 ?_ | refine w7 ?_ | refine yo0 ?_ ?_ | refine yw0 ?_ ?_ | exact qq | fail)
          refine pcond rfl ?_ ?_ <;> intro h2
          · have h2 : X.2 ≠ 0 := by simpa using h2
            repeat' (first | refine yo ?_ ?_ | refine yw ?_ ?_ | refine yk ?_ ?_ | exact trivial | with_reducible refine wA ?_ ?_ | refine ys ?_ ?_ | refine xs_done ?_ | refine yl ?_ ?_ | refine w8 ?_ | refine w9 ?_ | refine w1 ?_ | refine w2 ?_ | refine w3 ?_ | refine w4 ?_ | refine w5 ?_ | refine w6 ?_ | refine w7 ?_ | refine yo0 ?_ ?_ | refine yw0 ?_ ?_ | exact qq | fail)
            refine kretv rfl ⟨trivial, trivial⟩ rfl (eqI ?_)
            rw [hE, if_pos h2]
          · have h2 : ¬ X.2 ≠ 0 := by simpa using h2
            repeat' (first | refine yo ?_ ?_ | refine yw ?_ ?_ | refine yk ?_ ?_ | exact trivial | with_reducible refine wA ?_ ?_ | refine ys ?_ ?_ | refine xs_done ?_ | refine yl ?_ ?_ | refine xs_start (id := 5) true [.take 0, .take 1, .take 2, .take 3, .take 4, .take 5, .one 6] 0 rfl rfl (by kernel_rfl) ?_ | refine xs_start (id := 13) true [.take 0, .take 1, .take 2, .take 3, .take 4, .take 5, .take 6, .take 7] 0 rfl rfl (by kernel_rfl) ?_ | refine xs_start (id := 14) true [.take 0, .take 1, .take 2, .take 3, .take 4, .take 5, .one 6, .one 7, .take 8] 0 rfl rfl (by kernel_rfl) ?_ | refine xs_start (id := 20) true [.take 0, .take 2, .one 1, .one 3, .take 4] 0 rfl rfl (by kernel_rfl) ?_ | refine z1 c3 ?_ | refine z2 c3 ?_ | refine z3 c3 ?_ | refine z4 c3 ?_ | refine z5 c3 ?_ | refine z1 c4 ?_ | refine z2 c4 ?_ | refine z3 c4 ?_ | refine z4 c4 ?_ | refine z5 c4 ?_ | refine w8 ?_ | refine w9 ?_ | refine w1 ?_ | refine w2 ?_ | refine w3 ?_ | refine w4 ?_ | refine w5 ?_ | refine w6 ?_ | refine w7 ?_ | refine yo0 ?_ ?_ | refine yw0 ?_ ?_ | exact qq | fail)
            refine kretv rfl ⟨trivial, trivial⟩ rfl (eqI ?_)
            rw [hE, if_neg h2]
            exact (agree_diff hok (defS_ok hvd).2).symm
      · rw [if_neg h6] at hE
        have g3 : ¬ d.kind = 3 := by omega
        have g4 : ¬ d.kind = 4 := by omega
        repeat' (first | refine yo ?_ ?_ | refine yw ?_ ?_ | refine yk ?_ ?_ | exact trivial | with_reducible refine wA ?_ ?_ | refine ys ?_ ?_ | refine xs_done ?_ | refine yl ?_ ?_ | (refine pcond_n rfl (by show (d.kind == _) = false; rw [bqd]; exact decide_eq_false (by assumption)) ?_) | refine w8 ?_ | refine w9 ?_ | refine w1 ?_ | refine w2 ?_ | refine w3 ?_ | refine w4 ?_ | refine w5 ?_ | refine w6 ?_ | refine w7 ?_ | refine yo0 ?_ ?_ | refine yw0 ?_ ?_ | exact qq | fail)
        exact kretv rfl ⟨trivial, trivial⟩ rfl (eqI hE.symm)
set_option maxHeartbeats 4000000 in
theorem check20_c (nm : ByteArray) (l : List Df) (hs : nm.size ≤ 9223372036854775807) (hb : ∀ d, d ∈ l → BdD d) : PureC G.P 22 [vA nm l] (fun r => r = .tup 2 (nthP [vPr (chkL nm l).1, vi (chkL nm l).2])) := by
  have c1 := valid18_c nm l hs hb
  refine pure_of (G := G.toPg) (fn := Tryz.f22) Tryz.func22 rfl rfl rfl ?_; intro Γ hk
  repeat' (first | refine yo ?_ ?_ | refine yw ?_ ?_ | refine yk ?_ ?_ | exact trivial | with_reducible refine wA ?_ ?_ | refine ys ?_ ?_ | refine xs_done ?_ | refine yl ?_ ?_ | refine z1 c1 ?_ | refine z2 c1 ?_ | refine z3 c1 ?_ | refine z4 c1 ?_ | refine z5 c1 ?_ | refine w8 ?_ | refine w9 ?_ | refine w1 ?_ | refine w2 ?_ | refine w3 ?_ | refine w4 ?_ | refine w5 ?_ | refine w6 ?_ | refine w7 ?_ | refine yo0 ?_ ?_ | refine yw0 ?_ ?_ | exact qq | fail)
  refine pcond rfl ?_ ?_ <;> intro hc
  · have hc := nb_t hc
    repeat' (first | refine yo ?_ ?_ | refine yw ?_ ?_ | refine yk ?_ ?_ | exact trivial | with_reducible refine wA ?_ ?_ | refine ys ?_ ?_ | refine xs_done ?_ | refine yl ?_ ?_ | refine w8 ?_ | refine w9 ?_ | refine w1 ?_ | refine w2 ?_ | refine w3 ?_ | refine w4 ?_ | refine w5 ?_ | refine w6 ?_ | refine w7 ?_ | refine yo0 ?_ ?_ | refine yw0 ?_ ?_ | exact qq | fail)
    refine xdone ?_
    refine kret [] rfl ⟨trivial, trivial, trivial⟩ (qs := [vPr [], vi 1]) ⟨argNil, argVal, trivial⟩ ?_
    unfold chkL; rw [if_neg (by rw [hc]; simp)]; rfl
  · have hc := nb_f hc
    have hv : l.length ≤ 128 ∧ ∀ d, d ∈ l → defS d = true := by
      unfold agrS at hc
      simp only [Bool.and_eq_true, decide_eq_true_eq, List.all_eq_true] at hc
      exact ⟨hc.2.1, fun d hd => (hc.2.2 d hd).2⟩
    unfold chkL
    rw [if_pos hc]
    repeat' (first | refine yo ?_ ?_ | refine yw ?_ ?_ | refine yk ?_ ?_ | exact trivial | with_reducible refine wA ?_ ?_ | refine ys ?_ ?_ | refine xs_done ?_ | refine yl ?_ ?_ | refine w8 ?_ | refine w9 ?_ | refine w1 ?_ | refine w2 ?_ | refine w3 ?_ | refine w4 ?_ | refine w5 ?_ | refine w6 ?_ | refine w7 ?_ | refine yo0 ?_ ?_ | refine yw0 ?_ ?_ | exact qq | fail)
    refine pcan (can_virt (vRow cPr 2 0 (lF dPr (probS l 0))) rfl) ?_
    refine pcan (st' := ⟨[(1, .ptr 0 0 0), (4, slP 0 1), (5, vi ((0 : Nat) : Int))], [rAg18 nm l, vRow cPr 2 0 (lF dPr (probS l 0))]⟩) (can_rowsv [0, 1] (k0_sel hk rfl) rfl (.cons rfl rqq (.cons rfl (RowEq.cl (v_cl cPr_cl _ _ _)) .nil)) tmq) ?_
    refine ploop (fun q st => ∃ i k : Nat, i ≤ l.length ∧ (probS l i).length = k ∧ q = l.length - i ∧ st = ⟨[(1, .ptr 0 0 0), (4, slP k 1), (5, vi i)], [rAg18 nm l, vRow cPr 2 k (lF dPr (probS l i))]⟩) l.length ⟨0, 0, by omega, rfl, by omega, rfl⟩ ?_
    rintro _ _ ⟨i, k, hi, hkl, rfl, rfl⟩
    have hpl := probS_len l i
    repeat' (first | refine yo ?_ ?_ | refine yw ?_ ?_ | refine yk ?_ ?_ | exact trivial | with_reducible refine wA ?_ ?_ | refine ys ?_ ?_ | refine xs_done ?_ | refine yl ?_ ?_ | refine w8 ?_ | refine w9 ?_ | refine w1 ?_ | refine w2 ?_ | refine w3 ?_ | refine w4 ?_ | refine w5 ?_ | refine w6 ?_ | refine w7 ?_ | refine yo0 ?_ ?_ | refine yw0 ?_ ?_ | exact qq | fail)
    refine pcond rfl ?_ ?_ <;> intro hlt <;> simp at hlt
    · have c2 := first20_c nm l (by omega) hb hv.2 i hlt
      have hw : IntKind.i64.wrap ((i : Int) + 1) = ((i + 1 : Nat) : Int) := w64 (by omega) (by omega)
      have hp1 : probS l (i + 1) = if errD l (l.take i) (lF dD l i) = 0 then probS l i else probS l i ++ [((i : Int), errD l (l.take i) (lF dD l i))] := by rw [probS]
      generalize errD l (l.take i) (lF dD l i) = er at *
      rcases k with _ | k
      · repeat' (first | refine yo ?_ ?_ | refine yw ?_ ?_ | refine yk ?_ ?_ | exact trivial | with_reducible refine wA ?_ ?_ | refine ys ?_ ?_ | refine xs_done ?_ | refine yl ?_ ?_ | refine z1 c2 ?_ | refine z2 c2 ?_ | refine z3 c2 ?_ | refine z4 c2 ?_ | refine z5 c2 ?_ | refine w8 ?_ | refine w9 ?_ | refine w1 ?_ | refine w2 ?_ | refine w3 ?_ | refine w4 ?_ | refine w5 ?_ | refine w6 ?_ | refine w7 ?_ | refine yo0 ?_ ?_ | refine yw0 ?_ ?_ | exact qq | fail)
        refine pcond rfl ?_ ?_ <;> intro he
        · have he : ¬ er = 0 := by simpa using he
          rw [if_neg he] at hp1
          repeat' (first | refine yo ?_ ?_ | refine yw ?_ ?_ | refine yk ?_ ?_ | exact trivial | with_reducible refine wA ?_ ?_ | refine ys ?_ ?_ | refine xs_done ?_ | refine yl ?_ ?_ | refine w8 ?_ | refine w9 ?_ | refine w1 ?_ | refine w2 ?_ | refine w3 ?_ | refine w4 ?_ | refine w5 ?_ | refine w6 ?_ | refine w7 ?_ | refine yo0 ?_ ?_ | refine yw0 ?_ ?_ | exact qq | fail)
          rw [hw]
          exact kloop_next (st' := ⟨[(1, .ptr 0 0 0), (4, slP (0 + 1) 1), (5, vi ((i + 1 : Nat) : Int))], [rAg18 nm l, vRow cPr 2 (0 + 1) (lF dPr (probS l i ++ [((i : Int), er)]))]⟩) (l.length - (i + 1)) (can_rowsv [0, 3] (k0_sel hk rfl) rfl (.cons rfl rqq (.cons rfl (app_l0 cPr_cl hkl rfl) .nil)) tmq) (by omega) ⟨i + 1, 0 + 1, by omega, by rw [hp1, List.length_append, hkl]; rfl, rfl, by rw [hp1]⟩
        · have he : er = 0 := by simpa using he
          rw [if_pos he] at hp1
          repeat' (first | refine yo ?_ ?_ | refine yw ?_ ?_ | refine yk ?_ ?_ | exact trivial | with_reducible refine wA ?_ ?_ | refine ys ?_ ?_ | refine xs_done ?_ | refine yl ?_ ?_ | refine w8 ?_ | refine w9 ?_ | refine w1 ?_ | refine w2 ?_ | refine w3 ?_ | refine w4 ?_ | refine w5 ?_ | refine w6 ?_ | refine w7 ?_ | refine yo0 ?_ ?_ | refine yw0 ?_ ?_ | exact qq | fail)
          rw [hw]
          exact kloop_next (st' := ⟨[(1, .ptr 0 0 0), (4, slP 0 1), (5, vi ((i + 1 : Nat) : Int))], [rAg18 nm l, vRow cPr 2 0 (lF dPr (probS l i))]⟩) (l.length - (i + 1)) (can_rowsv [0, 1] (k0_sel hk rfl) rfl (.cons rfl rqq (.cons rfl (RowEq.cl (v_cl cPr_cl _ _ _)) .nil)) tmq) (by omega) ⟨i + 1, 0, by omega, by rw [hp1]; exact hkl, rfl, by rw [hp1]⟩
      · repeat' (first | refine yo ?_ ?_ | refine yw ?_ ?_ | refine yk ?_ ?_ | exact trivial | with_reducible refine wA ?_ ?_ | refine ys ?_ ?_ | refine xs_done ?_ | refine yl ?_ ?_ | refine z1 c2 ?_ | refine z2 c2 ?_ | refine z3 c2 ?_ | refine z4 c2 ?_ | refine z5 c2 ?_ | refine w8 ?_ | refine w9 ?_ | refine w1 ?_ | refine w2 ?_ | refine w3 ?_ | refine w4 ?_ | refine w5 ?_ | refine w6 ?_ | refine w7 ?_ | refine yo0 ?_ ?_ | refine yw0 ?_ ?_ | exact qq | fail)
        refine pcond rfl ?_ ?_ <;> intro he
        · have he : ¬ er = 0 := by simpa using he
          rw [if_neg he] at hp1
          repeat' (first | refine yo ?_ ?_ | refine yw ?_ ?_ | refine yk ?_ ?_ | exact trivial | with_reducible refine wA ?_ ?_ | refine ys ?_ ?_ | refine xs_done ?_ | refine yl ?_ ?_ | refine w8 ?_ | refine w9 ?_ | refine w1 ?_ | refine w2 ?_ | refine w3 ?_ | refine w4 ?_ | refine w5 ?_ | refine w6 ?_ | refine w7 ?_ | refine yo0 ?_ ?_ | refine yw0 ?_ ?_ | exact qq | fail)
          rw [hw]
          exact kloop_next (st' := ⟨[(1, .ptr 0 0 0), (4, slP (k + 1 + 1) 1), (5, vi ((i + 1 : Nat) : Int))], [rAg18 nm l, vRow cPr 2 (k + 1 + 1) (lF dPr (probS l i ++ [((i : Int), er)]))]⟩) (l.length - (i + 1)) (can_rowsv [0, 3] (k0_sel hk rfl) rfl (.cons rfl rqq (.cons rfl (app_l cPr_cl hkl rfl rfl) .nil)) tmq) (by omega) ⟨i + 1, k + 1 + 1, by omega, by rw [hp1, List.length_append, hkl]; rfl, rfl, by rw [hp1]⟩
        · have he : er = 0 := by simpa using he
          rw [if_pos he] at hp1
          repeat' (first | refine yo ?_ ?_ | refine yw ?_ ?_ | refine yk ?_ ?_ | exact trivial | with_reducible refine wA ?_ ?_ | refine ys ?_ ?_ | refine xs_done ?_ | refine yl ?_ ?_ | refine w8 ?_ | refine w9 ?_ | refine w1 ?_ | refine w2 ?_ | refine w3 ?_ | refine w4 ?_ | refine w5 ?_ | refine w6 ?_ | refine w7 ?_ | refine yo0 ?_ ?_ | refine yw0 ?_ ?_ | exact qq | fail)
          rw [hw]
          exact kloop_next (st' := ⟨[(1, .ptr 0 0 0), (4, slP (k + 1) 1), (5, vi ((i + 1 : Nat) : Int))], [rAg18 nm l, vRow cPr 2 (k + 1) (lF dPr (probS l i))]⟩) (l.length - (i + 1)) (can_rowsv [0, 1] (k0_sel hk rfl) rfl (.cons rfl rqq (.cons rfl (RowEq.cl (v_cl cPr_cl _ _ _)) .nil)) tmq) (by omega) ⟨i + 1, k + 1, by omega, by rw [hp1]; exact hkl, rfl, by rw [hp1]⟩
    · obtain rfl : i = l.length := by omega
      rcases k with _ | k
      · repeat' (first | refine yo ?_ ?_ | refine yw ?_ ?_ | refine yk ?_ ?_ | exact trivial | with_reducible refine wA ?_ ?_ | refine ys ?_ ?_ | refine xs_done ?_ | refine yl ?_ ?_ | refine w8 ?_ | refine w9 ?_ | refine w1 ?_ | refine w2 ?_ | refine w3 ?_ | refine w4 ?_ | refine w5 ?_ | refine w6 ?_ | refine w7 ?_ | refine yo0 ?_ ?_ | refine yw0 ?_ ?_ | exact qq | fail)
        refine xdone ?_
        refine kret [] rfl ⟨trivial, trivial, trivial⟩ (qs := [.vsl 0 2 (tF cPr (lF dPr (probS l l.length))), vi 0]) ⟨argNil, argVal, trivial⟩ ?_
        show _ = PV.tup 2 (nthP [.vsl (probS l l.length).length 2 _, _])
        rw [hkl]; rfl
      · repeat' (first | refine yo ?_ ?_ | refine yw ?_ ?_ | refine yk ?_ ?_ | exact trivial | with_reducible refine wA ?_ ?_ | refine ys ?_ ?_ | refine xs_done ?_ | refine yl ?_ ?_ | refine w8 ?_ | refine w9 ?_ | refine w1 ?_ | refine w2 ?_ | refine w3 ?_ | refine w4 ?_ | refine w5 ?_ | refine w6 ?_ | refine w7 ?_ | refine yo0 ?_ ?_ | refine yw0 ?_ ?_ | exact qq | fail)
        refine xdone ?_
        refine kret [1] rfl ⟨trivial, trivial, trivial⟩ (qs := [.vsl (k + 1) 2 (tF cPr (lF dPr (probS l l.length))), vi 0]) ⟨arg_o cPr_cl rfl trivial (List.Mem.head _), argVal, trivial⟩ ?_
        show _ = PV.tup 2 (nthP [.vsl (probS l l.length).length 2 _, _])
        rw [hkl]; rfl
end Go.Proofs.YtnlcenlamkfmnaaGreat
