/- value.Eval. -/
import Derived.Test.YtcghpepighboaaaDoorVal4
import Derived.Test.YtcghpepighboaaaDoorX2
import Derived.Test.YtcghpepighboaaaDoorRr
set_option linter.unusedSimpArgs false
set_option linter.unusedVariables false
set_option maxRecDepth 100000
namespace Go.Proofs.YtcghpepighboaaaDoor
structure BdV (N : List In) (S : List Df) (P : List Pa) : Prop where
  n : N.length ≤ 1000000000
  s : S.length ≤ 1000000000
  p : P.length ≤ 1000000000
  bn : ∀ x, x ∈ N → -9223372036854775808 ≤ x.n ∧ x.n ≤ 9223372036854775807
  bs : ∀ d, d ∈ S → BdS d
  bp : ∀ p, p ∈ P → BdP p
theorem ok_bd {r : RE} (h : OkE r) (he : r.2 = 0) : -9223372036854775808 ≤ r.1.1 ∧ r.1.1 ≤ 9223372036854775807 := by
  have := okR_bd (h he); omega
abbrev rVS (N : List In) (S : List Df) (P : List Pa) : Row := ⟨.own, true, 1, 3, fun _ => nthP [vIns N, vDs S, vPas P]⟩
set_option maxHeartbeats 4000000 in
theorem eval_c (N : List In) (S : List Df) (P : List Pa) (hB : BdV N S P) : ∀ (n : Nat) (e : Ex), Bd e → validS n e = true → PureC G.P 56 [vEv N S P, vX e] (fun r => r = vRE (evS N S P n e))
  | 0, e, hb, hv => by cases hv
  | n + 1, e, hb, hv => by
    have hnk := validS_nk hv
    have hfl := validS_f hv
    have hks : ∀ i, i < e.nk → validS n (e.kf i) = true := fun i hi => validS_k hv hi
    have ih : ∀ i, i < e.nk → PureC G.P 56 [vEv N S P, vX (e.kf i)] (fun r => r = vRE (evS N S P n (e.kf i))) := fun i hi => eval_c N S P hB n (e.kf i) (hb.k hi) (hks i hi)
    have iho : ∀ i, i < e.nk → OkE (evS N S P n (e.kf i)) := fun i hi => evS_ok N S P n (e.kf i) (hks i hi)
    obtain ⟨V, hV⟩ : ∃ V : Nat → RE, ∀ i, evS N S P n (e.kf i) = V i := ⟨_, fun _ => rfl⟩
    simp only [hV] at ih iho
    have hbv := hb.v
    have c1 := integer_c e.cnt
    have c2 := name_c N S P e.nm hB.n hB.bn
    have c3 := average_c P e.nm e.cnt hB.p hB.bp
    have c4 := last_c' P e.nm e.cnt hB.p hB.bp
    have hop : e.op = 1 ∨ e.op = 2 ∨ e.op = 3 ∨ e.op = 20 ∨ e.op = 21 ∨ (e.op = 4 ∨ e.op = 16 ∨ e.op = 17 ∨ e.op = 19 ∨ e.op = 18 ∨ e.op = 12 ∨ e.op = 13 ∨ (5 ≤ e.op ∧ e.op ≤ 11 ∨ e.op = 14 ∨ e.op = 15)) := by
      by_cases h : 1 ≤ e.op ∧ e.op ≤ 21
      · omega
      · exfalso
        unfold kidsN at hnk
        rw [if_neg (by omega), if_neg (by omega), if_neg (by omega), if_neg (by omega)] at hnk
        omega
    rcases hop with h | h | h | h | h | hop
    · rw [evS, if_pos h]
      refine pure_of (G := G.toPg) (fn := Tryd.f56) Tryd.func56 rfl rfl rfl ?_; intro Γ hk
      repeat' (first | refine yo ?_ ?_ | refine yw ?_ ?_ | refine yk ?_ ?_ | exact trivial | with_reducible refine wA ?_ ?_ | refine ys ?_ ?_ | refine xs_done ?_ | refine yl ?_ ?_ | (refine pcond_y rfl (by rw [h]; rfl) ?_) | (refine pcond_n rfl (by rw [h]; rfl) ?_) | refine z1 c1 ?_ | refine z2 c1 ?_ | refine z3 c1 ?_ | refine z4 c1 ?_ | refine z5 c1 ?_ | refine z1 c2 ?_ | refine z2 c2 ?_ | refine z3 c2 ?_ | refine z4 c2 ?_ | refine z5 c2 ?_ | refine z1 c3 ?_ | refine z2 c3 ?_ | refine z3 c3 ?_ | refine z4 c3 ?_ | refine z5 c3 ?_ | refine z1 c4 ?_ | refine z2 c4 ?_ | refine z3 c4 ?_ | refine z4 c4 ?_ | refine z5 c4 ?_ | refine w8 ?_ | refine w9 ?_ | refine w1 ?_ | refine w2 ?_ | refine w3 ?_ | refine w4 ?_ | refine w5 ?_ | refine w6 ?_ | refine w7 ?_ | refine yo0 ?_ ?_ | refine yw0 ?_ ?_ | exact qq | fail)
      exact kretv rfl ⟨Nat.zero_lt_one, trivial, trivial⟩ rfl rfl
    · rw [evS, if_neg (by omega), if_pos h]
      refine pure_of (G := G.toPg) (fn := Tryd.f56) Tryd.func56 rfl rfl rfl ?_; intro Γ hk
      repeat' (first | refine yo ?_ ?_ | refine yw ?_ ?_ | refine yk ?_ ?_ | exact trivial | with_reducible refine wA ?_ ?_ | refine ys ?_ ?_ | refine xs_done ?_ | refine yl ?_ ?_ | (refine pcond_y rfl (by rw [h]; rfl) ?_) | (refine pcond_n rfl (by rw [h]; rfl) ?_) | refine z1 c1 ?_ | refine z2 c1 ?_ | refine z3 c1 ?_ | refine z4 c1 ?_ | refine z5 c1 ?_ | refine z1 c2 ?_ | refine z2 c2 ?_ | refine z3 c2 ?_ | refine z4 c2 ?_ | refine z5 c2 ?_ | refine z1 c3 ?_ | refine z2 c3 ?_ | refine z3 c3 ?_ | refine z4 c3 ?_ | refine z5 c3 ?_ | refine z1 c4 ?_ | refine z2 c4 ?_ | refine z3 c4 ?_ | refine z4 c4 ?_ | refine z5 c4 ?_ | refine w8 ?_ | refine w9 ?_ | refine w1 ?_ | refine w2 ?_ | refine w3 ?_ | refine w4 ?_ | refine w5 ?_ | refine w6 ?_ | refine w7 ?_ | refine yo0 ?_ ?_ | refine yw0 ?_ ?_ | exact qq | fail)
      exact kretv rfl ⟨Nat.zero_lt_one, trivial, trivial⟩ rfl rfl
    · rw [evS, if_neg (by omega), if_neg (by omega), if_pos h]
      refine pure_of (G := G.toPg) (fn := Tryd.f56) Tryd.func56 rfl rfl rfl ?_; intro Γ hk
      repeat' (first | refine yo ?_ ?_ | refine yw ?_ ?_ | refine yk ?_ ?_ | exact trivial | with_reducible refine wA ?_ ?_ | refine ys ?_ ?_ | refine xs_done ?_ | refine yl ?_ ?_ | (refine pcond_y rfl (by rw [h]; rfl) ?_) | (refine pcond_n rfl (by rw [h]; rfl) ?_) | refine z1 c1 ?_ | refine z2 c1 ?_ | refine z3 c1 ?_ | refine z4 c1 ?_ | refine z5 c1 ?_ | refine z1 c2 ?_ | refine z2 c2 ?_ | refine z3 c2 ?_ | refine z4 c2 ?_ | refine z5 c2 ?_ | refine z1 c3 ?_ | refine z2 c3 ?_ | refine z3 c3 ?_ | refine z4 c3 ?_ | refine z5 c3 ?_ | refine z1 c4 ?_ | refine z2 c4 ?_ | refine z3 c4 ?_ | refine z4 c4 ?_ | refine z5 c4 ?_ | refine w8 ?_ | refine w9 ?_ | refine w1 ?_ | refine w2 ?_ | refine w3 ?_ | refine w4 ?_ | refine w5 ?_ | refine w6 ?_ | refine w7 ?_ | refine yo0 ?_ ?_ | refine yw0 ?_ ?_ | exact qq | fail)
      exact kretv rfl ⟨Nat.zero_lt_one, trivial, trivial⟩ rfl rfl
    · rw [evS, if_neg (by omega), if_neg (by omega), if_neg (by omega), if_pos h]
      refine pure_of (G := G.toPg) (fn := Tryd.f56) Tryd.func56 rfl rfl rfl ?_; intro Γ hk
      repeat' (first | refine yo ?_ ?_ | refine yw ?_ ?_ | refine yk ?_ ?_ | exact trivial | with_reducible refine wA ?_ ?_ | refine ys ?_ ?_ | refine xs_done ?_ | refine yl ?_ ?_ | (refine pcond_y rfl (by rw [h]; rfl) ?_) | (refine pcond_n rfl (by rw [h]; rfl) ?_) | refine z1 c1 ?_ | refine z2 c1 ?_ | refine z3 c1 ?_ | refine z4 c1 ?_ | refine z5 c1 ?_ | refine z1 c2 ?_ | refine z2 c2 ?_ | refine z3 c2 ?_ | refine z4 c2 ?_ | refine z5 c2 ?_ | refine z1 c3 ?_ | refine z2 c3 ?_ | refine z3 c3 ?_ | refine z4 c3 ?_ | refine z5 c3 ?_ | refine z1 c4 ?_ | refine z2 c4 ?_ | refine z3 c4 ?_ | refine z4 c4 ?_ | refine z5 c4 ?_ | refine w8 ?_ | refine w9 ?_ | refine w1 ?_ | refine w2 ?_ | refine w3 ?_ | refine w4 ?_ | refine w5 ?_ | refine w6 ?_ | refine w7 ?_ | refine yo0 ?_ ?_ | refine yw0 ?_ ?_ | exact qq | fail)
      exact kretv rfl ⟨Nat.zero_lt_one, trivial, trivial⟩ rfl rfl
    · rw [evS, if_neg (by omega), if_neg (by omega), if_neg (by omega), if_neg (by omega), if_pos h]
      refine pure_of (G := G.toPg) (fn := Tryd.f56) Tryd.func56 rfl rfl rfl ?_; intro Γ hk
      repeat' (first | refine yo ?_ ?_ | refine yw ?_ ?_ | refine yk ?_ ?_ | exact trivial | with_reducible refine wA ?_ ?_ | refine ys ?_ ?_ | refine xs_done ?_ | refine yl ?_ ?_ | (refine pcond_y rfl (by rw [h]; rfl) ?_) | (refine pcond_n rfl (by rw [h]; rfl) ?_) | refine z1 c1 ?_ | refine z2 c1 ?_ | refine z3 c1 ?_ | refine z4 c1 ?_ | refine z5 c1 ?_ | refine z1 c2 ?_ | refine z2 c2 ?_ | refine z3 c2 ?_ | refine z4 c2 ?_ | refine z5 c2 ?_ | refine z1 c3 ?_ | refine z2 c3 ?_ | refine z3 c3 ?_ | refine z4 c3 ?_ | refine z5 c3 ?_ | refine z1 c4 ?_ | refine z2 c4 ?_ | refine z3 c4 ?_ | refine z4 c4 ?_ | refine z5 c4 ?_ | refine w8 ?_ | refine w9 ?_ | refine w1 ?_ | refine w2 ?_ | refine w3 ?_ | refine w4 ?_ | refine w5 ?_ | refine w6 ?_ | refine w7 ?_ | refine yo0 ?_ ?_ | refine yw0 ?_ ?_ | exact qq | fail)
      exact kretv rfl ⟨Nat.zero_lt_one, trivial, trivial⟩ rfl rfl
    · have g1 : ¬ e.op = 1 := by omega
      have g2 : ¬ e.op = 2 := by omega
      have g3 : ¬ e.op = 3 := by omega
      have g4 : ¬ e.op = 20 := by omega
      have g5 : ¬ e.op = 21 := by omega
      have nk1 : 0 < e.nk := by
        unfold kidsN at hnk
        rw [if_neg (by omega)] at hnk
        split at hnk
        · omega
        split at hnk
        · omega
        split at hnk
        · omega
        · omega
      have i0 := ih 0 nk1
      have o0 := iho 0 nk1
      obtain ⟨R, hR⟩ : ∃ R, R = evS N S P (n + 1) e := ⟨_, rfl⟩
      rw [← hR]
      rw [evS, if_neg g1, if_neg g2, if_neg g3, if_neg g4, if_neg g5] at hR
      simp only [hV] at hR
      clear c1 c2 c3 c4
      have hkc := kc_eq nk1
      show PureC G.P 56 [vEv N S P, .agg 10 (nthP [vi e.op, vi e.vn, vi e.vd, vi e.um, vi e.uh, vi e.ud, vs e.nm, vi e.cnt, vi e.mode, .vsl e.nk 10 e.kc])] (fun r => r = vRE R)
      rw [hkc]
      refine pure_of (G := G.toPg) (fn := Tryd.f56) Tryd.func56 rfl rfl rfl ?_; intro Γ hk
      repeat' (first | refine yo ?_ ?_ | refine yw ?_ ?_ | refine yk ?_ ?_ | exact trivial | with_reducible refine wA ?_ ?_ | refine ys ?_ ?_ | refine xs_done ?_ | refine yl ?_ ?_ | refine xs_start (id := 12) true [.take 0, .take 1, .take 2, .take 3, .take 4, .take 5, .take 6, .take 7, .take 8, .one 9, .one 10, .take 11] 0 rfl rfl (by kernel_rfl) ?_ | refine xs_start (id := 26) true [.take 0, .take 1, .take 2, .take 3, .take 4, .one 5, .take 6, .take 7, .one 8, .take 9] 0 rfl rfl (by kernel_rfl) ?_ | refine xs_start (id := 27) true [.take 0, .take 1, .take 2, .take 3, .take 4, .one 5, .take 6, .take 7, .one 8, .take 9] 0 rfl rfl (by kernel_rfl) ?_ | refine xs_start (id := 31) true [.take 0, .take 1, .take 2, .take 3, .take 4, .one 5, .take 6, .take 7, .one 8, .take 9] 0 rfl rfl (by kernel_rfl) ?_ | refine xs_start (id := 35) true [.take 0, .take 1, .take 2, .take 3, .take 4, .one 5, .take 6, .take 7, .one 8, .take 9] 0 rfl rfl (by kernel_rfl) ?_ | refine xs_start (id := 36) true [.take 0, .take 1, .take 2, .take 3, .take 4, .take 5, .take 6, .take 7, .take 8, .one 9, .one 10, .take 11] 0 rfl rfl (by kernel_rfl) ?_ | (refine pcond_n rfl (by rw [bqd]; exact decide_eq_false (by assumption)) ?_) | refine z1 i0 ?_ | refine z2 i0 ?_ | refine z3 i0 ?_ | refine z4 i0 ?_ | refine z5 i0 ?_ | refine w8 ?_ | refine w9 ?_ | refine w1 ?_ | refine w2 ?_ | refine w3 ?_ | refine w4 ?_ | refine w5 ?_ | refine w6 ?_ | refine w7 ?_ | refine yo0 ?_ ?_ | refine yw0 ?_ ?_ | exact qq | fail)
      refine pcond (b := decide ((V 0).2 ≠ 0)) ?_ ?_ ?_
      · refine eqB ?_
        rw [Bool.eq_iff_iff]; simp
      · intro h
        have h := of_decide_eq_true h
        repeat' (first | refine yo ?_ ?_ | refine yw ?_ ?_ | refine yk ?_ ?_ | exact trivial | with_reducible refine wA ?_ ?_ | refine ys ?_ ?_ | refine xs_done ?_ | refine yl ?_ ?_ | refine w8 ?_ | refine w9 ?_ | refine w1 ?_ | refine w2 ?_ | refine w3 ?_ | refine w4 ?_ | refine w5 ?_ | refine w6 ?_ | refine w7 ?_ | refine yo0 ?_ ?_ | refine yw0 ?_ ?_ | exact qq | fail)
        refine kretv rfl ⟨Nat.zero_lt_one, trivial, trivial⟩ rfl ?_
        rw [hR, if_pos h]; rfl
      · intro h
        have h0 : (V 0).2 = 0 := Decidable.not_not.1 (of_decide_eq_false h)
        rw [if_neg (by rw [h0]; decide)] at hR
        have b0 := ok_bd o0 h0
        rcases hop with h | h | h | h | h | h | h | hop
        · rw [if_pos h] at hR
          have c1 := scale_c N S P e.nm (V 0).1.1 (V 0).1.2 hB.s hB.bs b0
          repeat' (first | refine yo ?_ ?_ | refine yw ?_ ?_ | refine yk ?_ ?_ | exact trivial | with_reducible refine wA ?_ ?_ | refine ys ?_ ?_ | refine xs_done ?_ | refine yl ?_ ?_ | (refine pcond_y rfl (by rw [h]; rfl) ?_) | (refine pcond_n rfl (by rw [h]; rfl) ?_) | refine z1 c1 ?_ | refine z2 c1 ?_ | refine z3 c1 ?_ | refine z4 c1 ?_ | refine z5 c1 ?_ | refine w8 ?_ | refine w9 ?_ | refine w1 ?_ | refine w2 ?_ | refine w3 ?_ | refine w4 ?_ | refine w5 ?_ | refine w6 ?_ | refine w7 ?_ | refine yo0 ?_ ?_ | refine yw0 ?_ ?_ | exact qq | fail)
          refine kretv rfl ⟨Nat.zero_lt_one, trivial, trivial⟩ rfl ?_
          rw [hR]; rfl
        · rw [if_neg (by omega), if_pos h] at hR
          have c1 := ratioNeg_c (V 0).1.1 (V 0).1.2 b0.1 b0.2
          repeat' (first | refine yo ?_ ?_ | refine yw ?_ ?_ | refine yk ?_ ?_ | exact trivial | with_reducible refine wA ?_ ?_ | refine ys ?_ ?_ | refine xs_done ?_ | refine yl ?_ ?_ | (refine pcond_y rfl (by rw [h]; rfl) ?_) | (refine pcond_n rfl (by rw [h]; rfl) ?_) | refine z1 c1 ?_ | refine z2 c1 ?_ | refine z3 c1 ?_ | refine z4 c1 ?_ | refine z5 c1 ?_ | refine w8 ?_ | refine w9 ?_ | refine w1 ?_ | refine w2 ?_ | refine w3 ?_ | refine w4 ?_ | refine w5 ?_ | refine w6 ?_ | refine w7 ?_ | refine yo0 ?_ ?_ | refine yw0 ?_ ?_ | exact qq | fail)
          refine kretv rfl ⟨Nat.zero_lt_one, trivial, trivial⟩ rfl ?_
          rw [hR]; rfl
        · rw [if_neg (by omega), if_neg (by omega), if_pos h] at hR
          have c1 := truth_c' ((V 0).1.1 == 0)
          repeat' (first | refine yo ?_ ?_ | refine yw ?_ ?_ | refine yk ?_ ?_ | exact trivial | with_reducible refine wA ?_ ?_ | refine ys ?_ ?_ | refine xs_done ?_ | refine yl ?_ ?_ | (refine pcond_y rfl (by rw [h]; rfl) ?_) | (refine pcond_n rfl (by rw [h]; rfl) ?_) | refine z1 c1 ?_ | refine z2 c1 ?_ | refine z3 c1 ?_ | refine z4 c1 ?_ | refine z5 c1 ?_ | refine w8 ?_ | refine w9 ?_ | refine w1 ?_ | refine w2 ?_ | refine w3 ?_ | refine w4 ?_ | refine w5 ?_ | refine w6 ?_ | refine w7 ?_ | refine yo0 ?_ ?_ | refine yw0 ?_ ?_ | exact qq | fail)
          refine kretv rfl ⟨Nat.zero_lt_one, trivial, trivial⟩ rfl ?_
          rw [hR, bqd]; rfl
        · rw [if_neg (by omega), if_neg (by omega), if_neg (by omega), if_pos h] at hR
          have c1 := roundingRound_c (V 0).1.1 (V 0).1.2 e.vn e.vd e.mode b0.1 b0.2 hbv.1 hbv.2
          repeat' (first | refine yo ?_ ?_ | refine yw ?_ ?_ | refine yk ?_ ?_ | exact trivial | with_reducible refine wA ?_ ?_ | refine ys ?_ ?_ | refine xs_done ?_ | refine yl ?_ ?_ | (refine pcond_y rfl (by rw [h]; rfl) ?_) | (refine pcond_n rfl (by rw [h]; rfl) ?_) | refine z1 c1 ?_ | refine z2 c1 ?_ | refine z3 c1 ?_ | refine z4 c1 ?_ | refine z5 c1 ?_ | refine w8 ?_ | refine w9 ?_ | refine w1 ?_ | refine w2 ?_ | refine w3 ?_ | refine w4 ?_ | refine w5 ?_ | refine w6 ?_ | refine w7 ?_ | refine yo0 ?_ ?_ | refine yw0 ?_ ?_ | exact qq | fail)
          refine kretv rfl ⟨Nat.zero_lt_one, trivial, trivial⟩ rfl ?_
          rw [hR]; rfl
        · rw [if_neg (by omega), if_neg (by omega), if_neg (by omega), if_neg (by omega), if_pos h] at hR
          have nk3 : e.nk = 3 := by
            have : kidsN e.op = 3 := by rw [h]; rfl
            omega
          have i1 := ih 1 (by omega)
          have i2 := ih 2 (by omega)
          repeat' (first | refine yo ?_ ?_ | refine yw ?_ ?_ | refine yk ?_ ?_ | exact trivial | with_reducible refine wA ?_ ?_ | refine ys ?_ ?_ | refine xs_done ?_ | refine yl ?_ ?_ | (refine pcond_y rfl (by rw [h]; rfl) ?_) | (refine pcond_n rfl (by rw [h]; rfl) ?_) | refine w8 ?_ | refine w9 ?_ | refine w1 ?_ | refine w2 ?_ | refine w3 ?_ | refine w4 ?_ | refine w5 ?_ | refine w6 ?_ | refine w7 ?_ | refine yo0 ?_ ?_ | refine yw0 ?_ ?_ | exact qq | fail)
          refine pcond (b := decide ((V 0).1.1 ≠ 0)) ?_ ?_ ?_
          · refine eqB ?_
            rw [Bool.eq_iff_iff]; simp
          · intro hc
            have hc := of_decide_eq_true hc
            repeat' (first | refine yo ?_ ?_ | refine yw ?_ ?_ | refine yk ?_ ?_ | exact trivial | with_reducible refine wA ?_ ?_ | refine ys ?_ ?_ | refine xs_done ?_ | refine yl ?_ ?_ | refine xs_start (id := 12) true [.take 0, .take 1, .take 2, .take 3, .take 4, .take 5, .take 6, .take 7, .take 8, .one 9, .one 10, .take 11] 0 rfl rfl (by kernel_rfl) ?_ | refine xs_start (id := 26) true [.take 0, .take 1, .take 2, .take 3, .take 4, .one 5, .take 6, .take 7, .one 8, .take 9] 0 rfl rfl (by kernel_rfl) ?_ | refine xs_start (id := 27) true [.take 0, .take 1, .take 2, .take 3, .take 4, .one 5, .take 6, .take 7, .one 8, .take 9] 0 rfl rfl (by kernel_rfl) ?_ | refine xs_start (id := 31) true [.take 0, .take 1, .take 2, .take 3, .take 4, .one 5, .take 6, .take 7, .one 8, .take 9] 0 rfl rfl (by kernel_rfl) ?_ | refine xs_start (id := 35) true [.take 0, .take 1, .take 2, .take 3, .take 4, .one 5, .take 6, .take 7, .one 8, .take 9] 0 rfl rfl (by kernel_rfl) ?_ | refine xs_start (id := 36) true [.take 0, .take 1, .take 2, .take 3, .take 4, .take 5, .take 6, .take 7, .take 8, .one 9, .one 10, .take 11] 0 rfl rfl (by kernel_rfl) ?_ | refine z1 i1 ?_ | refine z2 i1 ?_ | refine z3 i1 ?_ | refine z4 i1 ?_ | refine z5 i1 ?_ | refine w8 ?_ | refine w9 ?_ | refine w1 ?_ | refine w2 ?_ | refine w3 ?_ | refine w4 ?_ | refine w5 ?_ | refine w6 ?_ | refine w7 ?_ | refine yo0 ?_ ?_ | refine yw0 ?_ ?_ | exact qq | fail)
            refine kretv rfl ⟨Nat.zero_lt_one, trivial, trivial⟩ rfl ?_
            rw [hR, if_pos hc]; rfl
          · intro hc
            have hc := of_decide_eq_false hc
            repeat' (first | refine yo ?_ ?_ | refine yw ?_ ?_ | refine yk ?_ ?_ | exact trivial | with_reducible refine wA ?_ ?_ | refine ys ?_ ?_ | refine xs_done ?_ | refine yl ?_ ?_ | refine xs_start (id := 12) true [.take 0, .take 1, .take 2, .take 3, .take 4, .take 5, .take 6, .take 7, .take 8, .one 9, .one 10, .take 11] 0 rfl rfl (by kernel_rfl) ?_ | refine xs_start (id := 26) true [.take 0, .take 1, .take 2, .take 3, .take 4, .one 5, .take 6, .take 7, .one 8, .take 9] 0 rfl rfl (by kernel_rfl) ?_ | refine xs_start (id := 27) true [.take 0, .take 1, .take 2, .take 3, .take 4, .one 5, .take 6, .take 7, .one 8, .take 9] 0 rfl rfl (by kernel_rfl) ?_ | refine xs_start (id := 31) true [.take 0, .take 1, .take 2, .take 3, .take 4, .one 5, .take 6, .take 7, .one 8, .take 9] 0 rfl rfl (by kernel_rfl) ?_ | refine xs_start (id := 35) true [.take 0, .take 1, .take 2, .take 3, .take 4, .one 5, .take 6, .take 7, .one 8, .take 9] 0 rfl rfl (by kernel_rfl) ?_ | refine xs_start (id := 36) true [.take 0, .take 1, .take 2, .take 3, .take 4, .take 5, .take 6, .take 7, .take 8, .one 9, .one 10, .take 11] 0 rfl rfl (by kernel_rfl) ?_ | refine z1 i2 ?_ | refine z2 i2 ?_ | refine z3 i2 ?_ | refine z4 i2 ?_ | refine z5 i2 ?_ | refine w8 ?_ | refine w9 ?_ | refine w1 ?_ | refine w2 ?_ | refine w3 ?_ | refine w4 ?_ | refine w5 ?_ | refine w6 ?_ | refine w7 ?_ | refine yo0 ?_ ?_ | refine yw0 ?_ ?_ | exact qq | fail)
            refine kretv rfl ⟨Nat.zero_lt_one, trivial, trivial⟩ rfl ?_
            rw [hR, if_neg hc]; rfl
        · rw [if_neg (by omega), if_neg (by omega), if_neg (by omega), if_neg (by omega), if_neg (by omega), if_pos h] at hR
          have nk2 : e.nk = 2 := by
            have : kidsN e.op = 2 := by rw [h]; rfl
            omega
          have i1 := ih 1 (by omega)
          have c1 := integer_c 0
          repeat' (first | refine yo ?_ ?_ | refine yw ?_ ?_ | refine yk ?_ ?_ | exact trivial | with_reducible refine wA ?_ ?_ | refine ys ?_ ?_ | refine xs_done ?_ | refine yl ?_ ?_ | (refine pcond_y rfl (by rw [h]; rfl) ?_) | (refine pcond_n rfl (by rw [h]; rfl) ?_) | refine w8 ?_ | refine w9 ?_ | refine w1 ?_ | refine w2 ?_ | refine w3 ?_ | refine w4 ?_ | refine w5 ?_ | refine w6 ?_ | refine w7 ?_ | refine yo0 ?_ ?_ | refine yw0 ?_ ?_ | exact qq | fail)
          refine pcond (b := decide ((V 0).1.1 = 0)) ?_ ?_ ?_
          · exact eqB (bqd _ _)
          · intro hc
            have hc := of_decide_eq_true hc
            repeat' (first | refine yo ?_ ?_ | refine yw ?_ ?_ | refine yk ?_ ?_ | exact trivial | with_reducible refine wA ?_ ?_ | refine ys ?_ ?_ | refine xs_done ?_ | refine yl ?_ ?_ | refine z1 c1 ?_ | refine z2 c1 ?_ | refine z3 c1 ?_ | refine z4 c1 ?_ | refine z5 c1 ?_ | refine w8 ?_ | refine w9 ?_ | refine w1 ?_ | refine w2 ?_ | refine w3 ?_ | refine w4 ?_ | refine w5 ?_ | refine w6 ?_ | refine w7 ?_ | refine yo0 ?_ ?_ | refine yw0 ?_ ?_ | exact qq | fail)
            refine kretv rfl ⟨Nat.zero_lt_one, trivial, trivial⟩ rfl ?_
            rw [hR, if_pos hc]; rfl
          · intro hc
            have hc := of_decide_eq_false hc
            repeat' (first | refine yo ?_ ?_ | refine yw ?_ ?_ | refine yk ?_ ?_ | exact trivial | with_reducible refine wA ?_ ?_ | refine ys ?_ ?_ | refine xs_done ?_ | refine yl ?_ ?_ | refine xs_start (id := 12) true [.take 0, .take 1, .take 2, .take 3, .take 4, .take 5, .take 6, .take 7, .take 8, .one 9, .one 10, .take 11] 0 rfl rfl (by kernel_rfl) ?_ | refine xs_start (id := 26) true [.take 0, .take 1, .take 2, .take 3, .take 4, .one 5, .take 6, .take 7, .one 8, .take 9] 0 rfl rfl (by kernel_rfl) ?_ | refine xs_start (id := 27) true [.take 0, .take 1, .take 2, .take 3, .take 4, .one 5, .take 6, .take 7, .one 8, .take 9] 0 rfl rfl (by kernel_rfl) ?_ | refine xs_start (id := 31) true [.take 0, .take 1, .take 2, .take 3, .take 4, .one 5, .take 6, .take 7, .one 8, .take 9] 0 rfl rfl (by kernel_rfl) ?_ | refine xs_start (id := 35) true [.take 0, .take 1, .take 2, .take 3, .take 4, .one 5, .take 6, .take 7, .one 8, .take 9] 0 rfl rfl (by kernel_rfl) ?_ | refine xs_start (id := 36) true [.take 0, .take 1, .take 2, .take 3, .take 4, .take 5, .take 6, .take 7, .take 8, .one 9, .one 10, .take 11] 0 rfl rfl (by kernel_rfl) ?_ | refine z1 i1 ?_ | refine z2 i1 ?_ | refine z3 i1 ?_ | refine z4 i1 ?_ | refine z5 i1 ?_ | refine w8 ?_ | refine w9 ?_ | refine w1 ?_ | refine w2 ?_ | refine w3 ?_ | refine w4 ?_ | refine w5 ?_ | refine w6 ?_ | refine w7 ?_ | refine yo0 ?_ ?_ | refine yw0 ?_ ?_ | exact qq | fail)
            refine kretv rfl ⟨Nat.zero_lt_one, trivial, trivial⟩ rfl ?_
            rw [hR, if_neg hc]; rfl
        · rw [if_neg (by omega), if_neg (by omega), if_neg (by omega), if_neg (by omega), if_neg (by omega), if_neg (by omega), if_pos h] at hR
          have nk2 : e.nk = 2 := by
            have : kidsN e.op = 2 := by rw [h]; rfl
            omega
          have i1 := ih 1 (by omega)
          have c1 := integer_c 1
          repeat' (first | refine yo ?_ ?_ | refine yw ?_ ?_ | refine yk ?_ ?_ | exact trivial | with_reducible refine wA ?_ ?_ | refine ys ?_ ?_ | refine xs_done ?_ | refine yl ?_ ?_ | (refine pcond_y rfl (by rw [h]; rfl) ?_) | (refine pcond_n rfl (by rw [h]; rfl) ?_) | refine w8 ?_ | refine w9 ?_ | refine w1 ?_ | refine w2 ?_ | refine w3 ?_ | refine w4 ?_ | refine w5 ?_ | refine w6 ?_ | refine w7 ?_ | refine yo0 ?_ ?_ | refine yw0 ?_ ?_ | exact qq | fail)
          refine pcond (b := decide ((V 0).1.1 ≠ 0)) ?_ ?_ ?_
          · refine eqB ?_
            rw [Bool.eq_iff_iff]; simp
          · intro hc
            have hc := of_decide_eq_true hc
            repeat' (first | refine yo ?_ ?_ | refine yw ?_ ?_ | refine yk ?_ ?_ | exact trivial | with_reducible refine wA ?_ ?_ | refine ys ?_ ?_ | refine xs_done ?_ | refine yl ?_ ?_ | refine z1 c1 ?_ | refine z2 c1 ?_ | refine z3 c1 ?_ | refine z4 c1 ?_ | refine z5 c1 ?_ | refine w8 ?_ | refine w9 ?_ | refine w1 ?_ | refine w2 ?_ | refine w3 ?_ | refine w4 ?_ | refine w5 ?_ | refine w6 ?_ | refine w7 ?_ | refine yo0 ?_ ?_ | refine yw0 ?_ ?_ | exact qq | fail)
            refine kretv rfl ⟨Nat.zero_lt_one, trivial, trivial⟩ rfl ?_
            rw [hR, if_pos hc]; rfl
          · intro hc
            have hc := of_decide_eq_false hc
            repeat' (first | refine yo ?_ ?_ | refine yw ?_ ?_ | refine yk ?_ ?_ | exact trivial | with_reducible refine wA ?_ ?_ | refine ys ?_ ?_ | refine xs_done ?_ | refine yl ?_ ?_ | refine xs_start (id := 12) true [.take 0, .take 1, .take 2, .take 3, .take 4, .take 5, .take 6, .take 7, .take 8, .one 9, .one 10, .take 11] 0 rfl rfl (by kernel_rfl) ?_ | refine xs_start (id := 26) true [.take 0, .take 1, .take 2, .take 3, .take 4, .one 5, .take 6, .take 7, .one 8, .take 9] 0 rfl rfl (by kernel_rfl) ?_ | refine xs_start (id := 27) true [.take 0, .take 1, .take 2, .take 3, .take 4, .one 5, .take 6, .take 7, .one 8, .take 9] 0 rfl rfl (by kernel_rfl) ?_ | refine xs_start (id := 31) true [.take 0, .take 1, .take 2, .take 3, .take 4, .one 5, .take 6, .take 7, .one 8, .take 9] 0 rfl rfl (by kernel_rfl) ?_ | refine xs_start (id := 35) true [.take 0, .take 1, .take 2, .take 3, .take 4, .one 5, .take 6, .take 7, .one 8, .take 9] 0 rfl rfl (by kernel_rfl) ?_ | refine xs_start (id := 36) true [.take 0, .take 1, .take 2, .take 3, .take 4, .take 5, .take 6, .take 7, .take 8, .one 9, .one 10, .take 11] 0 rfl rfl (by kernel_rfl) ?_ | refine z1 i1 ?_ | refine z2 i1 ?_ | refine z3 i1 ?_ | refine z4 i1 ?_ | refine z5 i1 ?_ | refine w8 ?_ | refine w9 ?_ | refine w1 ?_ | refine w2 ?_ | refine w3 ?_ | refine w4 ?_ | refine w5 ?_ | refine w6 ?_ | refine w7 ?_ | refine yo0 ?_ ?_ | refine yw0 ?_ ?_ | exact qq | fail)
            refine kretv rfl ⟨Nat.zero_lt_one, trivial, trivial⟩ rfl ?_
            rw [hR, if_neg hc]; rfl
        · have k4 : ¬ e.op = 4 := by omega
          have k16 : ¬ e.op = 16 := by omega
          have k17 : ¬ e.op = 17 := by omega
          have k19 : ¬ e.op = 19 := by omega
          have k18 : ¬ e.op = 18 := by omega
          have k12 : ¬ e.op = 12 := by omega
          have k13 : ¬ e.op = 13 := by omega
          rw [if_neg k4, if_neg k16, if_neg k17, if_neg k19, if_neg k18, if_neg k12, if_neg k13] at hR
          have nk2 : e.nk = 2 := by
            unfold kidsN at hnk
            rw [if_neg (by omega), if_neg (by omega), if_pos (by omega)] at hnk
            omega
          have i1 := ih 1 (by omega)
          have o1 := iho 1 (by omega)
          repeat' (first | refine yo ?_ ?_ | refine yw ?_ ?_ | refine yk ?_ ?_ | exact trivial | with_reducible refine wA ?_ ?_ | refine ys ?_ ?_ | refine xs_done ?_ | refine yl ?_ ?_ | refine xs_start (id := 12) true [.take 0, .take 1, .take 2, .take 3, .take 4, .take 5, .take 6, .take 7, .take 8, .one 9, .one 10, .take 11] 0 rfl rfl (by kernel_rfl) ?_ | refine xs_start (id := 26) true [.take 0, .take 1, .take 2, .take 3, .take 4, .one 5, .take 6, .take 7, .one 8, .take 9] 0 rfl rfl (by kernel_rfl) ?_ | refine xs_start (id := 27) true [.take 0, .take 1, .take 2, .take 3, .take 4, .one 5, .take 6, .take 7, .one 8, .take 9] 0 rfl rfl (by kernel_rfl) ?_ | refine xs_start (id := 31) true [.take 0, .take 1, .take 2, .take 3, .take 4, .one 5, .take 6, .take 7, .one 8, .take 9] 0 rfl rfl (by kernel_rfl) ?_ | refine xs_start (id := 35) true [.take 0, .take 1, .take 2, .take 3, .take 4, .one 5, .take 6, .take 7, .one 8, .take 9] 0 rfl rfl (by kernel_rfl) ?_ | refine xs_start (id := 36) true [.take 0, .take 1, .take 2, .take 3, .take 4, .take 5, .take 6, .take 7, .take 8, .one 9, .one 10, .take 11] 0 rfl rfl (by kernel_rfl) ?_ | (refine pcond_n rfl (by rw [bqd]; exact decide_eq_false (by assumption)) ?_) | refine z1 i1 ?_ | refine z2 i1 ?_ | refine z3 i1 ?_ | refine z4 i1 ?_ | refine z5 i1 ?_ | refine w8 ?_ | refine w9 ?_ | refine w1 ?_ | refine w2 ?_ | refine w3 ?_ | refine w4 ?_ | refine w5 ?_ | refine w6 ?_ | refine w7 ?_ | refine yo0 ?_ ?_ | refine yw0 ?_ ?_ | exact qq | fail)
          refine pcond (b := decide ((V 1).2 ≠ 0)) ?_ ?_ ?_
          · refine eqB ?_
            rw [Bool.eq_iff_iff]; simp
          · intro h
            have h := of_decide_eq_true h
            repeat' (first | refine yo ?_ ?_ | refine yw ?_ ?_ | refine yk ?_ ?_ | exact trivial | with_reducible refine wA ?_ ?_ | refine ys ?_ ?_ | refine xs_done ?_ | refine yl ?_ ?_ | refine w8 ?_ | refine w9 ?_ | refine w1 ?_ | refine w2 ?_ | refine w3 ?_ | refine w4 ?_ | refine w5 ?_ | refine w6 ?_ | refine w7 ?_ | refine yo0 ?_ ?_ | refine yw0 ?_ ?_ | exact qq | fail)
            refine kretv rfl ⟨Nat.zero_lt_one, trivial, trivial⟩ rfl ?_
            rw [hR, if_pos h]; rfl
          · intro h
            have h1 : (V 1).2 = 0 := Decidable.not_not.1 (of_decide_eq_false h)
            rw [if_neg (by rw [h1]; decide)] at hR
            have c1 := combine_c e.op (V 0).1 (V 1).1 hop b0 (ok_bd o1 h1)
            repeat' (first | refine yo ?_ ?_ | refine yw ?_ ?_ | refine yk ?_ ?_ | exact trivial | with_reducible refine wA ?_ ?_ | refine ys ?_ ?_ | refine xs_done ?_ | refine yl ?_ ?_ | refine z1 c1 ?_ | refine z2 c1 ?_ | refine z3 c1 ?_ | refine z4 c1 ?_ | refine z5 c1 ?_ | refine w8 ?_ | refine w9 ?_ | refine w1 ?_ | refine w2 ?_ | refine w3 ?_ | refine w4 ?_ | refine w5 ?_ | refine w6 ?_ | refine w7 ?_ | refine yo0 ?_ ?_ | refine yw0 ?_ ?_ | exact qq | fail)
            refine kretv rfl ⟨Nat.zero_lt_one, trivial, trivial⟩ rfl ?_
            rw [hR]; rfl
theorem validExprV_c (e : Ex) (hb : Bd e) : PureC G.P 55 [vX e] (fun r => r = vb (validS 32 e)) := by
  have c1 := validExpr_c 32 e (by omega) hb
  refine pure_of (G := G.toPg) (fn := Tryd.f55) Tryd.func55 rfl rfl rfl ?_; intro Γ hk
  repeat' (first | refine yo ?_ ?_ | refine yw ?_ ?_ | refine yk ?_ ?_ | exact trivial | with_reducible refine wA ?_ ?_ | refine ys ?_ ?_ | refine xs_done ?_ | refine yl ?_ ?_ | refine z1 c1 ?_ | refine z2 c1 ?_ | refine z3 c1 ?_ | refine z4 c1 ?_ | refine z5 c1 ?_ | refine w8 ?_ | refine w9 ?_ | refine w1 ?_ | refine w2 ?_ | refine w3 ?_ | refine w4 ?_ | refine w5 ?_ | refine w6 ?_ | refine w7 ?_ | refine yo0 ?_ ?_ | refine yw0 ?_ ?_ | exact qq | fail)
  exact kretv rfl ⟨trivial, trivial⟩ rfl rfl
theorem valEval_c (N : List In) (S : List Df) (P : List Pa) (hB : BdV N S P) (e : Ex) (hb : Bd e) : PureC G.P 25 [vX e, vIns N, vDs S, vPas P] (fun r => r = vRE (evalS N S P e)) := by
  have c1 := validExprV_c e hb
  cases hv : validS 32 e with
  | false =>
    rw [hv] at c1
    refine pure_of (G := G.toPg) (fn := Tryd.f25) Tryd.func25 rfl rfl rfl ?_; intro Γ hk
    repeat' (first | refine yo ?_ ?_ | refine yw ?_ ?_ | refine yk ?_ ?_ | exact trivial | with_reducible refine wA ?_ ?_ | refine ys ?_ ?_ | refine xs_done ?_ | refine yl ?_ ?_ | refine z1 c1 ?_ | refine z2 c1 ?_ | refine z3 c1 ?_ | refine z4 c1 ?_ | refine z5 c1 ?_ | refine w8 ?_ | refine w9 ?_ | refine w1 ?_ | refine w2 ?_ | refine w3 ?_ | refine w4 ?_ | refine w5 ?_ | refine w6 ?_ | refine w7 ?_ | refine yo0 ?_ ?_ | refine yw0 ?_ ?_ | exact qq | fail)
    refine kretv rfl ⟨Nat.zero_lt_one, trivial, trivial⟩ rfl ?_
    unfold evalS; rw [if_neg (by rw [hv]; decide)]; rfl
  | true =>
    rw [hv] at c1
    have c2 := eval_c N S P hB 32 e hb hv
    refine pure_of (G := G.toPg) (fn := Tryd.f25) Tryd.func25 rfl rfl rfl ?_; intro Γ hk
    repeat' (first | refine yo ?_ ?_ | refine yw ?_ ?_ | refine yk ?_ ?_ | exact trivial | with_reducible refine wA ?_ ?_ | refine ys ?_ ?_ | refine xs_done ?_ | refine yl ?_ ?_ | refine z1 c1 ?_ | refine z2 c1 ?_ | refine z3 c1 ?_ | refine z4 c1 ?_ | refine z5 c1 ?_ | refine z1 c2 ?_ | refine z2 c2 ?_ | refine z3 c2 ?_ | refine z4 c2 ?_ | refine z5 c2 ?_ | refine w8 ?_ | refine w9 ?_ | refine w1 ?_ | refine w2 ?_ | refine w3 ?_ | refine w4 ?_ | refine w5 ?_ | refine w6 ?_ | refine w7 ?_ | refine yo0 ?_ ?_ | refine yw0 ?_ ?_ | exact qq | fail)
    refine kretv rfl ⟨Nat.zero_lt_one, trivial, trivial⟩ rfl ?_
    unfold evalS; rw [if_pos hv]; rfl
end Go.Proofs.YtcghpepighboaaaDoor
