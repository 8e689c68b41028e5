/- payrollref22.Value: the value of an expression and what was looked up. -/
import Derived.Test.YtdifpajpheemaaaGreatDoorA10
import Derived.Test.YtdifpajpheemaaaGreatDoorA11
import Derived.Test.YtdifpajpheemaaaGreatDoorA08
set_option linter.unusedSimpArgs false
set_option linter.unusedVariables false
set_option maxRecDepth 100000
namespace Go.Proofs.YtdifpajpheemaaaGreatDoor
def ZE (r : RE) : Prop := r.2 ≠ 0 → r = ((0, 0), r.2)
theorem ze_err (e : Int) : ZE ((0, 0), e) := fun _ => rfl
theorem ze_ok (a : Int × Int) : ZE (a, 0) := fun h => absurd rfl h
theorem ze_newS (n d : Int) : ZE (newS n d) := by
  unfold newS
  split
  · exact ze_err _
  · unfold fitS fitG
    split
    · exact ze_err _
    · exact ze_ok _
theorem ze_divR (a b c d : Int) : ZE (divR a b c d) := by
  unfold divR
  split
  · split
    · exact ze_err _
    · exact ze_newS _ _
  · exact ze_err _
theorem ze_meanS (k : Nat) (f : Nat → Int × Int) : ZE (meanS k f) := by
  unfold meanS
  repeat' split
  · exact ze_err _
  · exact ze_err _
  · exact ze_err _
  · exact ze_divR _ _ _ _
  · exact ze_err _
theorem ze_lookS (n : Nat) (ef : Nat → En) (a b : Int) : ZE (lookS n ef a b) := by
  unfold lookS
  repeat' split
  · exact ze_err _
  · exact ze_err _
  · exact ze_err _
  · exact ze_ok _
theorem ze_lkS (N : List In) (S : List Df) (P : List Pa) (e : Ex) (a b : Int) : ZE (lkS N S P e a b) := by
  unfold lkS
  split
  · unfold inS
    split
    · exact ze_err _
    · split
      · exact ze_ok _
      · exact ze_err _
  split
  · unfold scaS
    split
    · exact ze_err _
    · exact ze_lookS _ _ _ _
  split
  · unfold avgS
    split
    · exact ze_err _
    · split
      · exact ze_err _
      · exact ze_meanS _ _
  · unfold lastS'
    split
    · exact ze_err _
    · split
      · exact ze_err _
      · split
        · exact ze_err _
        · split
          · exact ze_ok _
          · exact ze_err _
theorem zero_den {r : Int × Int} (h : okR r.1 r.2 = true) : (r.1 == 0 && (r.2 == 1 && true)) = decide (r.1 = 0) := by
  obtain ⟨n, d⟩ := r
  simp only [okR, decide_eq_true_eq] at h
  obtain ⟨h1, h2, h3, h4, h5⟩ := h
  by_cases e : n = 0
  · subst e
    have : d.natAbs = 1 := by simpa using h5
    have : d = 1 := by omega
    subst this; rfl
  · simp [e]
abbrev vUR (r : RE) (k : Nat) (U : Nat → Us) : PV := .tup 3 (nthP [vr r.1.1 r.1.2, .vsl k 7 (tF cU U), vi r.2])
abbrev ValC (N : List In) (S : List Df) (P : List Pa) (n : Nat) (e : Ex) : Prop := ∀ (k : Nat) (U : Nat → Us), k + e.w ≤ 100000 → PureC G.P 29 [vEv N S P, vX e, .vsl k 7 (tF cU U)] (fun r => ∃ k' U', k' ≤ k + e.w ∧ r = vUR (evS N S P n e) k' U')
set_option maxHeartbeats 8000000 in
theorem val_0 (N : List In) (S : List Df) (P : List Pa) (hB : BdV N S P) (n : Nat) (op vn vd um uh ud : Int) (nm : ByteArray) (cnt mode : Int) (kf : Nat → Ex) (hop : op = 3 ∨ op = 20 ∨ op = 21) : ValC N S P (n + 1) (.mk op vn vd um uh ud nm cnt mode 0 kf) := by
  intro k U hkw
  have hw : (Ex.mk op vn vd um uh ud nm cnt mode 0 kf).w = 1 := rfl
  rw [hw] at hkw ⊢
  clear hw
  have lk := lookE_c N S P hB (.mk op vn vd um uh ud nm cnt mode 0 kf) 0 0 (by decide)
  have hz := ze_lkS N S P (.mk op vn vd um uh ud nm cnt mode 0 kf) 0 0
  have hX : evS N S P (n + 1) (.mk op vn vd um uh ud nm cnt mode 0 kf) = lkS N S P (.mk op vn vd um uh ud nm cnt mode 0 kf) 0 0 := by
    rcases hop with rfl | rfl | rfl <;> rfl
  rw [hX]
  clear hX
  generalize lkS N S P (.mk op vn vd um uh ud nm cnt mode 0 kf) 0 0 = R at *
  have nt := note_c k U ⟨op, nm, cnt, (0, 0), R.1⟩ (by omega)
  rcases hop with rfl | rfl | rfl
  all_goals
    refine pure_of (G := G.toPg) (fn := Tryz.f29) Tryz.func29 rfl rfl rfl ?_; intro Γ hk
    repeat' (first | refine yo ?_ ?_ | refine yw ?_ ?_ | refine yk ?_ ?_ | exact trivial | with_reducible refine wA ?_ ?_ | refine ys ?_ ?_ | refine xs_done ?_ | refine yl ?_ ?_ | refine w8 ?_ | refine w9 ?_ | refine w1 ?_ | refine w2 ?_ | refine w3 ?_ | refine w4 ?_ | refine w5 ?_ | refine w6 ?_ | refine w7 ?_ | refine yo0 ?_ ?_ | refine yw0 ?_ ?_ | exact qq | fail)
    refine ploopN 1 ?_
    repeat' (first | refine yo ?_ ?_ | refine yw ?_ ?_ | refine yk ?_ ?_ | exact trivial | with_reducible refine wA ?_ ?_ | refine ys ?_ ?_ | refine xs_done ?_ | refine yl ?_ ?_ | refine z1 lk ?_ | refine z2 lk ?_ | refine z3 lk ?_ | refine z4 lk ?_ | refine z5 lk ?_ | refine w8 ?_ | refine w9 ?_ | refine w1 ?_ | refine w2 ?_ | refine w3 ?_ | refine w4 ?_ | refine w5 ?_ | refine w6 ?_ | refine w7 ?_ | refine yo0 ?_ ?_ | refine yw0 ?_ ?_ | exact qq | fail)
    refine pcond (b := decide (R.2 ≠ 0)) ?_ ?_ ?_
    · refine eqB ?_
      rw [Bool.eq_iff_iff]; simp
    · intro h
      have h := of_decide_eq_true h
      repeat' (first | refine yo ?_ ?_ | refine yw ?_ ?_ | refine yk ?_ ?_ | exact trivial | with_reducible refine wA ?_ ?_ | refine ys ?_ ?_ | refine xs_done ?_ | refine yl ?_ ?_ | refine w8 ?_ | refine w9 ?_ | refine w1 ?_ | refine w2 ?_ | refine w3 ?_ | refine w4 ?_ | refine w5 ?_ | refine w6 ?_ | refine w7 ?_ | refine yo0 ?_ ?_ | refine yw0 ?_ ?_ | exact qq | fail)
      refine kretv rfl ⟨Nat.zero_lt_one, trivial, trivial, trivial⟩ rfl ⟨k, U, by omega, ?_⟩
      rw [hz h]; rfl
    · intro h
      have h0 : R.2 = 0 := Decidable.not_not.1 (of_decide_eq_false h)
      repeat' (first | refine yo ?_ ?_ | refine yw ?_ ?_ | refine yk ?_ ?_ | exact trivial | with_reducible refine wA ?_ ?_ | refine ys ?_ ?_ | refine xs_done ?_ | refine yl ?_ ?_ | refine xs_start (id := 44) true [.take 0, .take 1, .take 2, .take 3, .take 4, .take 5, .take 6, .take 7, .take 8, .take 9, .take 10, .take 11, .one 12, .one 13, .take 14, .take 15] 0 rfl rfl (by kernel_rfl) ?_ | (refine xs_one (ch := []) rfl rfl rfl (pst_rowsc [] rfl rfl rfl rfl rfl rfl .nil (pure_rows nt) (by exact ⟨PEq.cl _ (clB_spec _ rfl), PEq.cl _ (clB_spec _ rfl), trivial⟩) ?_); rintro r rows ⟨⟨k1, U1, hk1, rfl⟩, rfl⟩; refine ⟨_, _, rfl, trivial, rfl, ?_⟩) | refine w8 ?_ | refine w9 ?_ | refine w1 ?_ | refine w2 ?_ | refine w3 ?_ | refine w4 ?_ | refine w5 ?_ | refine w6 ?_ | refine w7 ?_ | refine yo0 ?_ ?_ | refine yw0 ?_ ?_ | exact qq | fail)
      refine xdone ?_
      refine kretv rfl ⟨Nat.zero_lt_one, trivial, trivial, trivial⟩ rfl ⟨k1, U1, hk1, ?_⟩
      show _ = PV.tup 3 (nthP [_, _, vi R.2])
      rw [h0]; rfl
/-! walks by operator -/
theorem ql {P : Prop} (h : P := by first | exact (by decide : (0 : Nat) < 1) | exact (by decide : (0 : Nat) < 2) | exact (by decide : (0 : Nat) < 3) | exact (by decide : (1 : Nat) < 2) | exact (by decide : (1 : Nat) < 3) | exact (by decide : (2 : Nat) < 3) | exact ⟨(by decide : (0 : Int) ≤ 0), (by decide : (0 : Int) < ((1 : Nat) : Int))⟩ | exact ⟨(by decide : (0 : Int) ≤ 0), (by decide : (0 : Int) < ((2 : Nat) : Int))⟩ | exact ⟨(by decide : (0 : Int) ≤ 0), (by decide : (0 : Int) < ((3 : Nat) : Int))⟩ | exact ⟨(by decide : (0 : Int) ≤ 1), (by decide : (1 : Int) < ((2 : Nat) : Int))⟩ | exact ⟨(by decide : (0 : Int) ≤ 1), (by decide : (1 : Int) < ((3 : Nat) : Int))⟩ | exact ⟨(by decide : (0 : Int) ≤ 2), (by decide : (2 : Int) < ((3 : Nat) : Int))⟩) : P := h
def oneS (S : List Df) (op : Int) (nm : ByteArray) (vn vd mode : Int) (V : Int × Int) : RE := if op = 4 then scaS S nm V.1 V.2 else if op = 16 then negR V.1 V.2 else if op = 17 then (truS (decide (V.1 = 0)), 0) else roundR V.1 V.2 vn vd mode
set_option maxHeartbeats 8000000 in
theorem val_one (N : List In) (S : List Df) (P : List Pa) (hB : BdV N S P) (n : Nat) (op vn vd um uh ud : Int) (nm : ByteArray) (cnt mode : Int) (kf : Nat → Ex) (hop : op = 4 ∨ op = 16 ∨ op = 17 ∨ op = 19) (hb : -9223372036854775808 ≤ vn ∧ vn ≤ 9223372036854775807) (ho : OkE (evS N S P n (kf 0))) (ih : ValC N S P n (kf 0)) : ValC N S P (n + 1) (Ex.mk op vn vd um uh ud nm cnt mode 1 kf) := by
  intro k U hkw
  have hw : (Ex.mk op vn vd um uh ud nm cnt mode 1 kf).w = 1 + (kf 0).w := by show 1 + (0 + (kf 0).w) = _; omega
  rw [hw] at hkw ⊢
  clear hw
  have i0 := ih k U (by omega)
  have hX : evS N S P (n + 1) (Ex.mk op vn vd um uh ud nm cnt mode 1 kf) = if (evS N S P n (kf 0)).2 ≠ 0 then ((0, 0), (evS N S P n (kf 0)).2) else oneS S op nm vn vd mode (evS N S P n (kf 0)).1 := by rcases hop with rfl | rfl | rfl | rfl <;> rfl
  rw [hX]
  clear hX ih
  generalize evS N S P n (kf 0) = V at *
  rcases hop with rfl | rfl | rfl | rfl
  all_goals
    refine pure_of (G := G.toPg) (fn := Tryz.f29) Tryz.func29 rfl rfl rfl ?_; intro Γ hk
    repeat' (first | refine yo ?_ ?_ | refine yw ?_ ?_ | refine yk ?_ ?_ | exact trivial | with_reducible refine wA ?_ ?_ | refine ys ?_ ?_ | refine xs_done ?_ | refine yl ?_ ?_ | refine w8 ?_ | refine w9 ?_ | refine w1 ?_ | refine w2 ?_ | refine w3 ?_ | refine w4 ?_ | refine w5 ?_ | refine w6 ?_ | refine w7 ?_ | refine yo0 ?_ ?_ | refine yw0 ?_ ?_ | exact qq | fail)
    refine ploopN 2 ?_
    repeat' (first | refine yo ?_ ?_ | refine yw ?_ ?_ | refine yk ?_ ?_ | exact trivial | with_reducible refine wA ?_ ?_ | refine ys ?_ ?_ | refine xs_done ?_ | refine yl ?_ ?_ | refine xs_start (id := 25) true [.take 0, .take 1, .take 2, .take 3, .take 4, .take 5, .take 6, .take 7, .one 8, .take 9, .take 10, .take 11, .take 12, .take 13, .one 14, .take 15, .take 16] 0 rfl rfl (by kernel_rfl) ?_ | exact ql | (refine xs_one (ch := []) rfl rfl rfl (pst_rowsc [] rfl rfl rfl rfl rfl rfl .nil (pure_rows i0) (by exact ⟨PEq.cl _ (clB_spec _ rfl), PEq.cl _ (clB_spec _ rfl), PEq.cl _ (clB_spec _ rfl), trivial⟩) ?_); rintro r rows ⟨⟨k1, U1, hk1, rfl⟩, rfl⟩; refine ⟨_, _, rfl, trivial, rfl, ?_⟩) | refine w8 ?_ | refine w9 ?_ | refine w1 ?_ | refine w2 ?_ | refine w3 ?_ | refine w4 ?_ | refine w5 ?_ | refine w6 ?_ | refine w7 ?_ | refine yo0 ?_ ?_ | refine yw0 ?_ ?_ | exact qq | fail)
    refine pcond (b := decide (V.2 ≠ 0)) ?_ ?_ ?_
    · refine eqB ?_
      rw [Bool.eq_iff_iff]; simp
    · intro h
      have h := of_decide_eq_true h
      repeat' (first | refine yo ?_ ?_ | refine yw ?_ ?_ | refine yk ?_ ?_ | exact trivial | with_reducible refine wA ?_ ?_ | refine ys ?_ ?_ | refine xs_done ?_ | refine yl ?_ ?_ | refine w8 ?_ | refine w9 ?_ | refine w1 ?_ | refine w2 ?_ | refine w3 ?_ | refine w4 ?_ | refine w5 ?_ | refine w6 ?_ | refine w7 ?_ | refine yo0 ?_ ?_ | refine yw0 ?_ ?_ | exact qq | fail)
      refine kretv rfl ⟨Nat.zero_lt_one, trivial, trivial, trivial⟩ rfl ⟨k1, U1, by omega, ?_⟩
      rw [if_pos h]; rfl
    intro h
    have h0 : V.2 = 0 := Decidable.not_not.1 (of_decide_eq_false h)
    have b0 := ok_bd ho h0
    rw [if_neg (by rw [h0]; decide)]
  · have lk := lookE_c N S P hB (Ex.mk 4 vn vd um uh ud nm cnt mode 1 kf) V.1.1 V.1.2 b0
    have hz := ze_lkS N S P (Ex.mk 4 vn vd um uh ud nm cnt mode 1 kf) V.1.1 V.1.2
    have hX : lkS N S P (Ex.mk 4 vn vd um uh ud nm cnt mode 1 kf) V.1.1 V.1.2 = scaS S nm V.1.1 V.1.2 := rfl
    have hY : oneS S 4 nm vn vd mode V.1 = scaS S nm V.1.1 V.1.2 := rfl
    rw [hX] at lk hz
    rw [hY]
    clear hX hY
    generalize scaS S nm V.1.1 V.1.2 = R at *
    repeat' (first | refine yo ?_ ?_ | refine yw ?_ ?_ | refine yk ?_ ?_ | exact trivial | with_reducible refine wA ?_ ?_ | refine ys ?_ ?_ | refine xs_done ?_ | refine yl ?_ ?_ | refine z1 lk ?_ | refine z2 lk ?_ | refine z3 lk ?_ | refine z4 lk ?_ | refine z5 lk ?_ | refine w8 ?_ | refine w9 ?_ | refine w1 ?_ | refine w2 ?_ | refine w3 ?_ | refine w4 ?_ | refine w5 ?_ | refine w6 ?_ | refine w7 ?_ | refine yo0 ?_ ?_ | refine yw0 ?_ ?_ | exact qq | fail)
    refine pcond (b := decide (R.2 ≠ 0)) ?_ ?_ ?_
    · refine eqB ?_
      rw [Bool.eq_iff_iff]; simp
    · intro h
      have h := of_decide_eq_true h
      repeat' (first | refine yo ?_ ?_ | refine yw ?_ ?_ | refine yk ?_ ?_ | exact trivial | with_reducible refine wA ?_ ?_ | refine ys ?_ ?_ | refine xs_done ?_ | refine yl ?_ ?_ | refine w8 ?_ | refine w9 ?_ | refine w1 ?_ | refine w2 ?_ | refine w3 ?_ | refine w4 ?_ | refine w5 ?_ | refine w6 ?_ | refine w7 ?_ | refine yo0 ?_ ?_ | refine yw0 ?_ ?_ | exact qq | fail)
      refine kretv rfl ⟨Nat.zero_lt_one, trivial, trivial, trivial⟩ rfl ⟨k1, U1, by omega, ?_⟩
      rw [hz h]; rfl
    · intro h
      have h1 : R.2 = 0 := Decidable.not_not.1 (of_decide_eq_false h)
      have nt := note_c k1 U1 ⟨4, nm, cnt, V.1, R.1⟩ (by omega)
      repeat' (first | refine yo ?_ ?_ | refine yw ?_ ?_ | refine yk ?_ ?_ | exact trivial | with_reducible refine wA ?_ ?_ | refine ys ?_ ?_ | refine xs_done ?_ | refine yl ?_ ?_ | refine xs_start (id := 44) true [.take 0, .take 1, .take 2, .take 3, .take 4, .take 5, .take 6, .take 7, .take 8, .take 9, .take 10, .take 11, .one 12, .one 13, .take 14, .take 15] 0 rfl rfl (by kernel_rfl) ?_ | (refine xs_one (ch := []) rfl rfl rfl (pst_rowsc [] rfl rfl rfl rfl rfl rfl .nil (pure_rows nt) (by exact ⟨PEq.cl _ (clB_spec _ rfl), PEq.cl _ (clB_spec _ rfl), trivial⟩) ?_); rintro r rows ⟨⟨k2, U2, hk2, rfl⟩, rfl⟩; refine ⟨_, _, rfl, trivial, rfl, ?_⟩) | refine w8 ?_ | refine w9 ?_ | refine w1 ?_ | refine w2 ?_ | refine w3 ?_ | refine w4 ?_ | refine w5 ?_ | refine w6 ?_ | refine w7 ?_ | refine yo0 ?_ ?_ | refine yw0 ?_ ?_ | exact qq | fail)
      refine xdone ?_
      refine kretv rfl ⟨Nat.zero_lt_one, trivial, trivial, trivial⟩ rfl ⟨k2, U2, by omega, ?_⟩
      show _ = PV.tup 3 (nthP [_, _, vi R.2])
      rw [h1]; rfl
  · have c1 := ref1Neg_c V.1.1 V.1.2 b0.1 b0.2
    repeat' (first | refine yo ?_ ?_ | refine yw ?_ ?_ | refine yk ?_ ?_ | exact trivial | with_reducible refine wA ?_ ?_ | refine ys ?_ ?_ | refine xs_done ?_ | refine yl ?_ ?_ | refine z1 c1 ?_ | refine z2 c1 ?_ | refine z3 c1 ?_ | refine z4 c1 ?_ | refine z5 c1 ?_ | refine w8 ?_ | refine w9 ?_ | refine w1 ?_ | refine w2 ?_ | refine w3 ?_ | refine w4 ?_ | refine w5 ?_ | refine w6 ?_ | refine w7 ?_ | refine yo0 ?_ ?_ | refine yw0 ?_ ?_ | exact qq | fail)
    exact kretv rfl ⟨Nat.zero_lt_one, trivial, trivial, trivial⟩ rfl ⟨k1, U1, by omega, rfl⟩
  · have c1 := truth22_c (V.1.1 == 0 && (V.1.2 == 1 && true))
    repeat' (first | refine yo ?_ ?_ | refine yw ?_ ?_ | refine yk ?_ ?_ | exact trivial | with_reducible refine wA ?_ ?_ | refine ys ?_ ?_ | refine xs_done ?_ | refine yl ?_ ?_ | refine z1 c1 ?_ | refine z2 c1 ?_ | refine z3 c1 ?_ | refine z4 c1 ?_ | refine z5 c1 ?_ | refine w8 ?_ | refine w9 ?_ | refine w1 ?_ | refine w2 ?_ | refine w3 ?_ | refine w4 ?_ | refine w5 ?_ | refine w6 ?_ | refine w7 ?_ | refine yo0 ?_ ?_ | refine yw0 ?_ ?_ | exact qq | fail)
    refine kretv rfl ⟨Nat.zero_lt_one, trivial, trivial, trivial⟩ rfl ⟨k1, U1, by omega, ?_⟩
    show _ = vUR (truS (decide (V.1.1 = 0)), 0) k1 U1
    rw [← zero_den (ho h0)]; rfl
  · have c1 := ref2Round_c V.1.1 V.1.2 vn vd mode b0.1 b0.2 hb.1 hb.2
    repeat' (first | refine yo ?_ ?_ | refine yw ?_ ?_ | refine yk ?_ ?_ | exact trivial | with_reducible refine wA ?_ ?_ | refine ys ?_ ?_ | refine xs_done ?_ | refine yl ?_ ?_ | refine z1 c1 ?_ | refine z2 c1 ?_ | refine z3 c1 ?_ | refine z4 c1 ?_ | refine z5 c1 ?_ | refine w8 ?_ | refine w9 ?_ | refine w1 ?_ | refine w2 ?_ | refine w3 ?_ | refine w4 ?_ | refine w5 ?_ | refine w6 ?_ | refine w7 ?_ | refine yo0 ?_ ?_ | refine yw0 ?_ ?_ | exact qq | fail)
    exact kretv rfl ⟨Nat.zero_lt_one, trivial, trivial, trivial⟩ rfl ⟨k1, U1, by omega, rfl⟩
set_option maxHeartbeats 8000000 in
theorem val_18 (N : List In) (S : List Df) (P : List Pa) (hB : BdV N S P) (n : Nat) (vn vd um uh ud : Int) (nm : ByteArray) (cnt mode : Int) (kf : Nat → Ex) (ho : OkE (evS N S P n (kf 0))) (ih : ∀ i, i < 3 → ValC N S P n (kf i)) : ValC N S P (n + 1) (Ex.mk 18 vn vd um uh ud nm cnt mode 3 kf) := by
  intro k U hkw
  have hw : (Ex.mk 18 vn vd um uh ud nm cnt mode 3 kf).w = 1 + ((kf 0).w + (kf 1).w + (kf 2).w) := by show 1 + (0 + (kf 0).w + (kf 1).w + (kf 2).w) = _; omega
  rw [hw] at hkw ⊢
  clear hw
  have i0 := ih 0 (by omega) k U (by omega)
  have i1 := ih 1 (by omega)
  have i2 := ih 2 (by omega)
  have hX : evS N S P (n + 1) (Ex.mk 18 vn vd um uh ud nm cnt mode 3 kf) = if (evS N S P n (kf 0)).2 ≠ 0 then ((0, 0), (evS N S P n (kf 0)).2) else if (evS N S P n (kf 0)).1.1 ≠ 0 then evS N S P n (kf 1) else evS N S P n (kf 2) := rfl
  rw [hX]
  clear hX ih
  unfold ValC at i1 i2
  generalize evS N S P n (kf 0) = V at *
  generalize evS N S P n (kf 1) = W at *
  generalize evS N S P n (kf 2) = X at *
  refine pure_of (G := G.toPg) (fn := Tryz.f29) Tryz.func29 rfl rfl rfl ?_; intro Γ hk
  repeat' (first | refine yo ?_ ?_ | refine yw ?_ ?_ | refine yk ?_ ?_ | exact trivial | with_reducible refine wA ?_ ?_ | refine ys ?_ ?_ | refine xs_done ?_ | refine yl ?_ ?_ | refine xs_start (id := 12) true [.take 0, .take 1, .take 2, .take 3, .take 4, .take 5, .one 6, .take 7, .take 8, .take 9, .take 10, .take 11, .one 12, .take 13, .take 14] 0 rfl rfl (by kernel_rfl) ?_ | exact ql | (refine xs_one (ch := []) rfl rfl rfl (pst_rowsc [] rfl rfl rfl rfl rfl rfl .nil (pure_rows i0) (by exact ⟨PEq.cl _ (clB_spec _ rfl), PEq.cl _ (clB_spec _ rfl), PEq.cl _ (clB_spec _ rfl), trivial⟩) ?_); rintro r rows ⟨⟨k1, U1, hk1, rfl⟩, rfl⟩; refine ⟨_, _, rfl, trivial, rfl, ?_⟩) | refine w8 ?_ | refine w9 ?_ | refine w1 ?_ | refine w2 ?_ | refine w3 ?_ | refine w4 ?_ | refine w5 ?_ | refine w6 ?_ | refine w7 ?_ | refine yo0 ?_ ?_ | refine yw0 ?_ ?_ | exact qq | fail)
  refine pcond (b := decide (V.2 ≠ 0)) ?_ ?_ ?_
  · refine eqB ?_
    rw [Bool.eq_iff_iff]; simp
  · intro h
    have h := of_decide_eq_true h
    repeat' (first | refine yo ?_ ?_ | refine yw ?_ ?_ | refine yk ?_ ?_ | exact trivial | with_reducible refine wA ?_ ?_ | refine ys ?_ ?_ | refine xs_done ?_ | refine yl ?_ ?_ | refine w8 ?_ | refine w9 ?_ | refine w1 ?_ | refine w2 ?_ | refine w3 ?_ | refine w4 ?_ | refine w5 ?_ | refine w6 ?_ | refine w7 ?_ | refine yo0 ?_ ?_ | refine yw0 ?_ ?_ | exact qq | fail)
    refine kretv rfl ⟨Nat.zero_lt_one, trivial, trivial, trivial⟩ rfl ⟨k1, U1, by omega, ?_⟩
    rw [if_pos h]; rfl
  · intro h
    have h0 : V.2 = 0 := Decidable.not_not.1 (of_decide_eq_false h)
    have hz := zero_den (ho h0)
    rw [if_neg (by rw [h0]; decide)]
    repeat' (first | refine yo ?_ ?_ | refine yw ?_ ?_ | refine yk ?_ ?_ | exact trivial | with_reducible refine wA ?_ ?_ | refine ys ?_ ?_ | refine xs_done ?_ | refine yl ?_ ?_ | (refine pop_guard2 rfl rfl rfl rfl rfl ?_ ?_; (exact fun h => ⟨h, h, trivial⟩)) | refine w8 ?_ | refine w9 ?_ | refine w1 ?_ | refine w2 ?_ | refine w3 ?_ | refine w4 ?_ | refine w5 ?_ | refine w6 ?_ | refine w7 ?_ | refine yo0 ?_ ?_ | refine yw0 ?_ ?_ | exact qq | fail)
    refine pcond (b := decide (V.1.1 = 0)) (eqB hz) ?_ ?_ <;> intro h1
    · have h1 := of_decide_eq_true h1
      have j2 := i2 k1 U1 (by omega)
      rw [if_neg (by simp [h1])]
      repeat' (first | refine yo ?_ ?_ | refine yw ?_ ?_ | refine yk ?_ ?_ | exact trivial | with_reducible refine wA ?_ ?_ | refine ys ?_ ?_ | refine xs_done ?_ | refine yl ?_ ?_ | refine xs_start (id := 20) true [.take 0, .take 1, .take 2, .take 3, .take 4, .take 5, .one 6, .take 7, .take 8, .take 9, .one 10, .take 11, .take 12] 0 rfl rfl (by kernel_rfl) ?_ | exact ql | (refine xs_one (ch := []) rfl rfl rfl (pst_rowsc [] rfl rfl rfl rfl rfl rfl .nil (pure_rows j2) (by exact ⟨PEq.cl _ (clB_spec _ rfl), PEq.cl _ (clB_spec _ rfl), PEq.cl _ (clB_spec _ rfl), trivial⟩) ?_); rintro r rows ⟨⟨k2, U2, hk2, rfl⟩, rfl⟩; refine ⟨_, _, rfl, trivial, rfl, ?_⟩) | refine w8 ?_ | refine w9 ?_ | refine w1 ?_ | refine w2 ?_ | refine w3 ?_ | refine w4 ?_ | refine w5 ?_ | refine w6 ?_ | refine w7 ?_ | refine yo0 ?_ ?_ | refine yw0 ?_ ?_ | exact qq | fail)
      refine xdone ?_
      exact kretv rfl ⟨Nat.zero_lt_one, trivial, trivial, trivial⟩ rfl ⟨k2, U2, by omega, rfl⟩
    · have h1 := of_decide_eq_false h1
      have j1 := i1 k1 U1 (by omega)
      rw [if_pos h1]
      repeat' (first | refine yo ?_ ?_ | refine yw ?_ ?_ | refine yk ?_ ?_ | exact trivial | with_reducible refine wA ?_ ?_ | refine ys ?_ ?_ | refine xs_done ?_ | refine yl ?_ ?_ | refine xs_start (id := 21) true [.take 0, .take 1, .take 2, .take 3, .take 4, .take 5, .one 6, .take 7, .take 8, .take 9, .one 10, .take 11, .take 12] 0 rfl rfl (by kernel_rfl) ?_ | exact ql | (refine xs_one (ch := []) rfl rfl rfl (pst_rowsc [] rfl rfl rfl rfl rfl rfl .nil (pure_rows j1) (by exact ⟨PEq.cl _ (clB_spec _ rfl), PEq.cl _ (clB_spec _ rfl), PEq.cl _ (clB_spec _ rfl), trivial⟩) ?_); rintro r rows ⟨⟨k2, U2, hk2, rfl⟩, rfl⟩; refine ⟨_, _, rfl, trivial, rfl, ?_⟩) | refine w8 ?_ | refine w9 ?_ | refine w1 ?_ | refine w2 ?_ | refine w3 ?_ | refine w4 ?_ | refine w5 ?_ | refine w6 ?_ | refine w7 ?_ | refine yo0 ?_ ?_ | refine yw0 ?_ ?_ | exact qq | fail)
      refine xdone ?_
      exact kretv rfl ⟨Nat.zero_lt_one, trivial, trivial, trivial⟩ rfl ⟨k2, U2, by omega, rfl⟩
set_option maxHeartbeats 8000000 in
theorem val_12 (N : List In) (S : List Df) (P : List Pa) (hB : BdV N S P) (n : Nat) (vn vd um uh ud : Int) (nm : ByteArray) (cnt mode : Int) (kf : Nat → Ex) (ho : OkE (evS N S P n (kf 0))) (ih : ∀ i, i < 2 → ValC N S P n (kf i)) : ValC N S P (n + 1) (Ex.mk 12 vn vd um uh ud nm cnt mode 2 kf) := by
  intro k U hkw
  have hw : (Ex.mk 12 vn vd um uh ud nm cnt mode 2 kf).w = 1 + ((kf 0).w + (kf 1).w) := by show 1 + (0 + (kf 0).w + (kf 1).w) = _; omega
  rw [hw] at hkw ⊢
  clear hw
  have i0 := ih 0 (by omega) k U (by omega)
  have i1 := ih 1 (by omega)
  have hX : evS N S P (n + 1) (Ex.mk 12 vn vd um uh ud nm cnt mode 2 kf) = if (evS N S P n (kf 0)).2 ≠ 0 then ((0, 0), (evS N S P n (kf 0)).2) else if (evS N S P n (kf 0)).1.1 = 0 then ((0, 1), 0) else evS N S P n (kf 1) := rfl
  rw [hX]
  clear hX ih
  unfold ValC at i1
  generalize evS N S P n (kf 0) = V at *
  generalize evS N S P n (kf 1) = W at *
  refine pure_of (G := G.toPg) (fn := Tryz.f29) Tryz.func29 rfl rfl rfl ?_; intro Γ hk
  repeat' (first | refine yo ?_ ?_ | refine yw ?_ ?_ | refine yk ?_ ?_ | exact trivial | with_reducible refine wA ?_ ?_ | refine ys ?_ ?_ | refine xs_done ?_ | refine yl ?_ ?_ | refine xs_start (id := 12) true [.take 0, .take 1, .take 2, .take 3, .take 4, .take 5, .one 6, .take 7, .take 8, .take 9, .take 10, .take 11, .one 12, .take 13, .take 14] 0 rfl rfl (by kernel_rfl) ?_ | exact ql | (refine xs_one (ch := []) rfl rfl rfl (pst_rowsc [] rfl rfl rfl rfl rfl rfl .nil (pure_rows i0) (by exact ⟨PEq.cl _ (clB_spec _ rfl), PEq.cl _ (clB_spec _ rfl), PEq.cl _ (clB_spec _ rfl), trivial⟩) ?_); rintro r rows ⟨⟨k1, U1, hk1, rfl⟩, rfl⟩; refine ⟨_, _, rfl, trivial, rfl, ?_⟩) | refine w8 ?_ | refine w9 ?_ | refine w1 ?_ | refine w2 ?_ | refine w3 ?_ | refine w4 ?_ | refine w5 ?_ | refine w6 ?_ | refine w7 ?_ | refine yo0 ?_ ?_ | refine yw0 ?_ ?_ | exact qq | fail)
  refine pcond (b := decide (V.2 ≠ 0)) ?_ ?_ ?_
  · refine eqB ?_
    rw [Bool.eq_iff_iff]; simp
  · intro h
    have h := of_decide_eq_true h
    repeat' (first | refine yo ?_ ?_ | refine yw ?_ ?_ | refine yk ?_ ?_ | exact trivial | with_reducible refine wA ?_ ?_ | refine ys ?_ ?_ | refine xs_done ?_ | refine yl ?_ ?_ | refine w8 ?_ | refine w9 ?_ | refine w1 ?_ | refine w2 ?_ | refine w3 ?_ | refine w4 ?_ | refine w5 ?_ | refine w6 ?_ | refine w7 ?_ | refine yo0 ?_ ?_ | refine yw0 ?_ ?_ | exact qq | fail)
    refine kretv rfl ⟨Nat.zero_lt_one, trivial, trivial, trivial⟩ rfl ⟨k1, U1, by omega, ?_⟩
    rw [if_pos h]; rfl
  · intro h
    have h0 : V.2 = 0 := Decidable.not_not.1 (of_decide_eq_false h)
    have hz := zero_den (ho h0)
    rw [if_neg (by rw [h0]; decide)]
    repeat' (first | refine yo ?_ ?_ | refine yw ?_ ?_ | refine yk ?_ ?_ | exact trivial | with_reducible refine wA ?_ ?_ | refine ys ?_ ?_ | refine xs_done ?_ | refine yl ?_ ?_ | (refine pop_guard2 rfl rfl rfl rfl rfl ?_ ?_; (exact fun h => ⟨h, h, trivial⟩)) | refine w8 ?_ | refine w9 ?_ | refine w1 ?_ | refine w2 ?_ | refine w3 ?_ | refine w4 ?_ | refine w5 ?_ | refine w6 ?_ | refine w7 ?_ | refine yo0 ?_ ?_ | refine yw0 ?_ ?_ | exact qq | fail)
    refine pcond (b := decide (V.1.1 = 0)) (eqB hz) ?_ ?_ <;> intro h1
    · have h1 := of_decide_eq_true h1
      rw [if_pos h1]
      repeat' (first | refine yo ?_ ?_ | refine yw ?_ ?_ | refine yk ?_ ?_ | exact trivial | with_reducible refine wA ?_ ?_ | refine ys ?_ ?_ | refine xs_done ?_ | refine yl ?_ ?_ | refine w8 ?_ | refine w9 ?_ | refine w1 ?_ | refine w2 ?_ | refine w3 ?_ | refine w4 ?_ | refine w5 ?_ | refine w6 ?_ | refine w7 ?_ | refine yo0 ?_ ?_ | refine yw0 ?_ ?_ | exact qq | fail)
      exact kretv rfl ⟨Nat.zero_lt_one, trivial, trivial, trivial⟩ rfl ⟨k1, U1, by omega, rfl⟩
    · have h1 := of_decide_eq_false h1
      have j1 := i1 k1 U1 (by omega)
      rw [if_neg h1]
      repeat' (first | refine yo ?_ ?_ | refine yw ?_ ?_ | refine yk ?_ ?_ | exact trivial | with_reducible refine wA ?_ ?_ | refine ys ?_ ?_ | refine xs_done ?_ | refine yl ?_ ?_ | refine xs_start (id := 21) true [.take 0, .take 1, .take 2, .take 3, .take 4, .take 5, .one 6, .take 7, .take 8, .take 9, .one 10, .take 11, .take 12] 0 rfl rfl (by kernel_rfl) ?_ | exact ql | (refine xs_one (ch := []) rfl rfl rfl (pst_rowsc [] rfl rfl rfl rfl rfl rfl .nil (pure_rows j1) (by exact ⟨PEq.cl _ (clB_spec _ rfl), PEq.cl _ (clB_spec _ rfl), PEq.cl _ (clB_spec _ rfl), trivial⟩) ?_); rintro r rows ⟨⟨k2, U2, hk2, rfl⟩, rfl⟩; refine ⟨_, _, rfl, trivial, rfl, ?_⟩) | refine w8 ?_ | refine w9 ?_ | refine w1 ?_ | refine w2 ?_ | refine w3 ?_ | refine w4 ?_ | refine w5 ?_ | refine w6 ?_ | refine w7 ?_ | refine yo0 ?_ ?_ | refine yw0 ?_ ?_ | exact qq | fail)
      refine xdone ?_
      exact kretv rfl ⟨Nat.zero_lt_one, trivial, trivial, trivial⟩ rfl ⟨k2, U2, by omega, rfl⟩
set_option maxHeartbeats 8000000 in
theorem val_13 (N : List In) (S : List Df) (P : List Pa) (hB : BdV N S P) (n : Nat) (vn vd um uh ud : Int) (nm : ByteArray) (cnt mode : Int) (kf : Nat → Ex) (ho : OkE (evS N S P n (kf 0))) (ih : ∀ i, i < 2 → ValC N S P n (kf i)) : ValC N S P (n + 1) (Ex.mk 13 vn vd um uh ud nm cnt mode 2 kf) := by
  intro k U hkw
  have hw : (Ex.mk 13 vn vd um uh ud nm cnt mode 2 kf).w = 1 + ((kf 0).w + (kf 1).w) := by show 1 + (0 + (kf 0).w + (kf 1).w) = _; omega
  rw [hw] at hkw ⊢
  clear hw
  have i0 := ih 0 (by omega) k U (by omega)
  have i1 := ih 1 (by omega)
  have hX : evS N S P (n + 1) (Ex.mk 13 vn vd um uh ud nm cnt mode 2 kf) = if (evS N S P n (kf 0)).2 ≠ 0 then ((0, 0), (evS N S P n (kf 0)).2) else if (evS N S P n (kf 0)).1.1 ≠ 0 then ((1, 1), 0) else evS N S P n (kf 1) := rfl
  rw [hX]
  clear hX ih
  unfold ValC at i1
  generalize evS N S P n (kf 0) = V at *
  generalize evS N S P n (kf 1) = W at *
  refine pure_of (G := G.toPg) (fn := Tryz.f29) Tryz.func29 rfl rfl rfl ?_; intro Γ hk
  repeat' (first | refine yo ?_ ?_ | refine yw ?_ ?_ | refine yk ?_ ?_ | exact trivial | with_reducible refine wA ?_ ?_ | refine ys ?_ ?_ | refine xs_done ?_ | refine yl ?_ ?_ | refine xs_start (id := 12) true [.take 0, .take 1, .take 2, .take 3, .take 4, .take 5, .one 6, .take 7, .take 8, .take 9, .take 10, .take 11, .one 12, .take 13, .take 14] 0 rfl rfl (by kernel_rfl) ?_ | exact ql | (refine xs_one (ch := []) rfl rfl rfl (pst_rowsc [] rfl rfl rfl rfl rfl rfl .nil (pure_rows i0) (by exact ⟨PEq.cl _ (clB_spec _ rfl), PEq.cl _ (clB_spec _ rfl), PEq.cl _ (clB_spec _ rfl), trivial⟩) ?_); rintro r rows ⟨⟨k1, U1, hk1, rfl⟩, rfl⟩; refine ⟨_, _, rfl, trivial, rfl, ?_⟩) | refine w8 ?_ | refine w9 ?_ | refine w1 ?_ | refine w2 ?_ | refine w3 ?_ | refine w4 ?_ | refine w5 ?_ | refine w6 ?_ | refine w7 ?_ | refine yo0 ?_ ?_ | refine yw0 ?_ ?_ | exact qq | fail)
  refine pcond (b := decide (V.2 ≠ 0)) ?_ ?_ ?_
  · refine eqB ?_
    rw [Bool.eq_iff_iff]; simp
  · intro h
    have h := of_decide_eq_true h
    repeat' (first | refine yo ?_ ?_ | refine yw ?_ ?_ | refine yk ?_ ?_ | exact trivial | with_reducible refine wA ?_ ?_ | refine ys ?_ ?_ | refine xs_done ?_ | refine yl ?_ ?_ | refine w8 ?_ | refine w9 ?_ | refine w1 ?_ | refine w2 ?_ | refine w3 ?_ | refine w4 ?_ | refine w5 ?_ | refine w6 ?_ | refine w7 ?_ | refine yo0 ?_ ?_ | refine yw0 ?_ ?_ | exact qq | fail)
    refine kretv rfl ⟨Nat.zero_lt_one, trivial, trivial, trivial⟩ rfl ⟨k1, U1, by omega, ?_⟩
    rw [if_pos h]; rfl
  · intro h
    have h0 : V.2 = 0 := Decidable.not_not.1 (of_decide_eq_false h)
    have hz := zero_den (ho h0)
    rw [if_neg (by rw [h0]; decide)]
    repeat' (first | refine yo ?_ ?_ | refine yw ?_ ?_ | refine yk ?_ ?_ | exact trivial | with_reducible refine wA ?_ ?_ | refine ys ?_ ?_ | refine xs_done ?_ | refine yl ?_ ?_ | (refine pop_guard2 rfl rfl rfl rfl rfl ?_ ?_; (exact fun h => ⟨h, h, trivial⟩)) | refine w8 ?_ | refine w9 ?_ | refine w1 ?_ | refine w2 ?_ | refine w3 ?_ | refine w4 ?_ | refine w5 ?_ | refine w6 ?_ | refine w7 ?_ | refine yo0 ?_ ?_ | refine yw0 ?_ ?_ | exact qq | fail)
    have c1 := truth22_c true
    refine pcond (b := !decide (V.1.1 = 0)) (eqB (by rw [← hz]; rfl)) ?_ ?_ <;> intro h1
    · have h1 := of_decide_eq_false (nv_t h1)
      rw [if_pos h1]
      repeat' (first | refine yo ?_ ?_ | refine yw ?_ ?_ | refine yk ?_ ?_ | exact trivial | with_reducible refine wA ?_ ?_ | refine ys ?_ ?_ | refine xs_done ?_ | refine yl ?_ ?_ | refine z1 c1 ?_ | refine z2 c1 ?_ | refine z3 c1 ?_ | refine z4 c1 ?_ | refine z5 c1 ?_ | refine w8 ?_ | refine w9 ?_ | refine w1 ?_ | refine w2 ?_ | refine w3 ?_ | refine w4 ?_ | refine w5 ?_ | refine w6 ?_ | refine w7 ?_ | refine yo0 ?_ ?_ | refine yw0 ?_ ?_ | exact qq | fail)
      exact kretv rfl ⟨Nat.zero_lt_one, trivial, trivial, trivial⟩ rfl ⟨k1, U1, by omega, rfl⟩
    · have h1 := of_decide_eq_true (nv_f h1)
      have j1 := i1 k1 U1 (by omega)
      rw [if_neg (by simp [h1])]
      repeat' (first | refine yo ?_ ?_ | refine yw ?_ ?_ | refine yk ?_ ?_ | exact trivial | with_reducible refine wA ?_ ?_ | refine ys ?_ ?_ | refine xs_done ?_ | refine yl ?_ ?_ | refine xs_start (id := 21) true [.take 0, .take 1, .take 2, .take 3, .take 4, .take 5, .one 6, .take 7, .take 8, .take 9, .one 10, .take 11, .take 12] 0 rfl rfl (by kernel_rfl) ?_ | exact ql | (refine xs_one (ch := []) rfl rfl rfl (pst_rowsc [] rfl rfl rfl rfl rfl rfl .nil (pure_rows j1) (by exact ⟨PEq.cl _ (clB_spec _ rfl), PEq.cl _ (clB_spec _ rfl), PEq.cl _ (clB_spec _ rfl), trivial⟩) ?_); rintro r rows ⟨⟨k2, U2, hk2, rfl⟩, rfl⟩; refine ⟨_, _, rfl, trivial, rfl, ?_⟩) | refine w8 ?_ | refine w9 ?_ | refine w1 ?_ | refine w2 ?_ | refine w3 ?_ | refine w4 ?_ | refine w5 ?_ | refine w6 ?_ | refine w7 ?_ | refine yo0 ?_ ?_ | refine yw0 ?_ ?_ | exact qq | fail)
      refine xdone ?_
      exact kretv rfl ⟨Nat.zero_lt_one, trivial, trivial, trivial⟩ rfl ⟨k2, U2, by omega, rfl⟩
set_option maxHeartbeats 8000000 in
theorem val_1 (N : List In) (S : List Df) (P : List Pa) (hB : BdV N S P) (n : Nat) (vn vd um uh ud : Int) (nm : ByteArray) (cnt mode : Int) (kf : Nat → Ex)  : ValC N S P (n + 1) (Ex.mk 1 vn vd um uh ud nm cnt mode 0 kf) := by
  intro k U hkw
  refine pure_of (G := G.toPg) (fn := Tryz.f29) Tryz.func29 rfl rfl rfl ?_; intro Γ hk
  repeat' (first | refine yo ?_ ?_ | refine yw ?_ ?_ | refine yk ?_ ?_ | exact trivial | with_reducible refine wA ?_ ?_ | refine ys ?_ ?_ | refine xs_done ?_ | refine yl ?_ ?_ | refine w8 ?_ | refine w9 ?_ | refine w1 ?_ | refine w2 ?_ | refine w3 ?_ | refine w4 ?_ | refine w5 ?_ | refine w6 ?_ | refine w7 ?_ | refine yo0 ?_ ?_ | refine yw0 ?_ ?_ | exact qq | fail)
  exact kretv rfl ⟨Nat.zero_lt_one, trivial, trivial, trivial⟩ rfl ⟨k, U, Nat.le_add_right _ _, rfl⟩
set_option maxHeartbeats 8000000 in
theorem val_2 (N : List In) (S : List Df) (P : List Pa) (hB : BdV N S P) (n : Nat) (vn vd um uh ud : Int) (nm : ByteArray) (cnt mode : Int) (kf : Nat → Ex) (hc : cnt = 0 ∨ cnt = 1) : ValC N S P (n + 1) (Ex.mk 2 vn vd um uh ud nm cnt mode 0 kf) := by
  intro k U hkw
  have c0 := truth22_c false
  have c1 := truth22_c true
  rcases hc with rfl | rfl
  all_goals
    refine pure_of (G := G.toPg) (fn := Tryz.f29) Tryz.func29 rfl rfl rfl ?_; intro Γ hk
    repeat' (first | refine yo ?_ ?_ | refine yw ?_ ?_ | refine yk ?_ ?_ | exact trivial | with_reducible refine wA ?_ ?_ | refine ys ?_ ?_ | refine xs_done ?_ | refine yl ?_ ?_ | refine z1 c0 ?_ | refine z2 c0 ?_ | refine z3 c0 ?_ | refine z4 c0 ?_ | refine z5 c0 ?_ | refine z1 c1 ?_ | refine z2 c1 ?_ | refine z3 c1 ?_ | refine z4 c1 ?_ | refine z5 c1 ?_ | refine w8 ?_ | refine w9 ?_ | refine w1 ?_ | refine w2 ?_ | refine w3 ?_ | refine w4 ?_ | refine w5 ?_ | refine w6 ?_ | refine w7 ?_ | refine yo0 ?_ ?_ | refine yw0 ?_ ?_ | exact qq | fail)
    exact kretv rfl ⟨Nat.zero_lt_one, trivial, trivial, trivial⟩ rfl ⟨k, U, Nat.le_add_right _ _, rfl⟩
set_option maxHeartbeats 16000000 in
theorem val_two (N : List In) (S : List Df) (P : List Pa) (hB : BdV N S P) (n : Nat) (op vn vd um uh ud : Int) (nm : ByteArray) (cnt mode : Int) (kf : Nat → Ex) (hop : 5 ≤ op ∧ op ≤ 11 ∨ op = 14 ∨ op = 15) (ho : ∀ i, i < 2 → OkE (evS N S P n (kf i))) (ih : ∀ i, i < 2 → ValC N S P n (kf i)) : ValC N S P (n + 1) (Ex.mk op vn vd um uh ud nm cnt mode 2 kf) := by
  intro k U hkw
  have hw : (Ex.mk op vn vd um uh ud nm cnt mode 2 kf).w = 1 + ((kf 0).w + (kf 1).w) := by show 1 + (0 + (kf 0).w + (kf 1).w) = _; omega
  rw [hw] at hkw ⊢
  clear hw
  have i0 := ih 0 (by omega) k U (by omega)
  have i1 := ih 1 (by omega)
  have o0 := ho 0 (by omega)
  have o1 := ho 1 (by omega)
  have cb := fun x y => binary22_c op x y hop
  have hX : evS N S P (n + 1) (Ex.mk op vn vd um uh ud nm cnt mode 2 kf) = if (evS N S P n (kf 0)).2 ≠ 0 then ((0, 0), (evS N S P n (kf 0)).2) else if (evS N S P n (kf 1)).2 ≠ 0 then ((0, 0), (evS N S P n (kf 1)).2) else combS op (evS N S P n (kf 0)).1 (evS N S P n (kf 1)).1 := by
    rcases (by omega : op = 5 ∨ op = 6 ∨ op = 7 ∨ op = 8 ∨ op = 9 ∨ op = 10 ∨ op = 11 ∨ op = 14 ∨ op = 15) with rfl | rfl | rfl | rfl | rfl | rfl | rfl | rfl | rfl <;> rfl
  rw [hX]
  clear hX ih ho
  unfold ValC at i1
  generalize evS N S P n (kf 0) = V at *
  generalize evS N S P n (kf 1) = W at *
  rcases (by omega : op = 5 ∨ op = 6 ∨ op = 7 ∨ op = 8 ∨ op = 9 ∨ op = 10 ∨ op = 11 ∨ op = 14 ∨ op = 15) with rfl | rfl | rfl | rfl | rfl | rfl | rfl | rfl | rfl
  all_goals
    refine pure_of (G := G.toPg) (fn := Tryz.f29) Tryz.func29 rfl rfl rfl ?_; intro Γ hk
    repeat' (first | refine yo ?_ ?_ | refine yw ?_ ?_ | refine yk ?_ ?_ | exact trivial | with_reducible refine wA ?_ ?_ | refine ys ?_ ?_ | refine xs_done ?_ | refine yl ?_ ?_ | refine w8 ?_ | refine w9 ?_ | refine w1 ?_ | refine w2 ?_ | refine w3 ?_ | refine w4 ?_ | refine w5 ?_ | refine w6 ?_ | refine w7 ?_ | refine yo0 ?_ ?_ | refine yw0 ?_ ?_ | exact qq | fail)
    refine ploopN 3 ?_
    repeat' (first | refine yo ?_ ?_ | refine yw ?_ ?_ | refine yk ?_ ?_ | exact trivial | with_reducible refine wA ?_ ?_ | refine ys ?_ ?_ | refine xs_done ?_ | refine yl ?_ ?_ | refine xs_start (id := 25) true [.take 0, .take 1, .take 2, .take 3, .take 4, .take 5, .take 6, .take 7, .one 8, .take 9, .take 10, .take 11, .take 12, .take 13, .one 14, .take 15, .take 16] 0 rfl rfl (by kernel_rfl) ?_ | exact ql | (refine xs_one (ch := []) rfl rfl rfl (pst_rowsc [] rfl rfl rfl rfl rfl rfl .nil (pure_rows i0) (by exact ⟨PEq.cl _ (clB_spec _ rfl), PEq.cl _ (clB_spec _ rfl), PEq.cl _ (clB_spec _ rfl), trivial⟩) ?_); rintro r rows ⟨⟨k1, U1, hk1, rfl⟩, rfl⟩; refine ⟨_, _, rfl, trivial, rfl, ?_⟩) | refine w8 ?_ | refine w9 ?_ | refine w1 ?_ | refine w2 ?_ | refine w3 ?_ | refine w4 ?_ | refine w5 ?_ | refine w6 ?_ | refine w7 ?_ | refine yo0 ?_ ?_ | refine yw0 ?_ ?_ | exact qq | fail)
    refine pcond (b := decide (V.2 ≠ 0)) ?_ ?_ ?_
    · refine eqB ?_
      rw [Bool.eq_iff_iff]; simp
    · intro h
      have h := of_decide_eq_true h
      repeat' (first | refine yo ?_ ?_ | refine yw ?_ ?_ | refine yk ?_ ?_ | exact trivial | with_reducible refine wA ?_ ?_ | refine ys ?_ ?_ | refine xs_done ?_ | refine yl ?_ ?_ | refine w8 ?_ | refine w9 ?_ | refine w1 ?_ | refine w2 ?_ | refine w3 ?_ | refine w4 ?_ | refine w5 ?_ | refine w6 ?_ | refine w7 ?_ | refine yo0 ?_ ?_ | refine yw0 ?_ ?_ | exact qq | fail)
      refine kretv rfl ⟨Nat.zero_lt_one, trivial, trivial, trivial⟩ rfl ⟨k1, U1, by omega, ?_⟩
      rw [if_pos h]; rfl
    · intro h
      have h0 : V.2 = 0 := Decidable.not_not.1 (of_decide_eq_false h)
      have b0 := ok_bd o0 h0
      rw [if_neg (by rw [h0]; decide)]
      have j1 := i1 k1 U1 (by omega)
      repeat' (first | refine yo ?_ ?_ | refine yw ?_ ?_ | refine yk ?_ ?_ | exact trivial | with_reducible refine wA ?_ ?_ | refine ys ?_ ?_ | refine xs_done ?_ | refine yl ?_ ?_ | refine xs_start (id := 25) true [.take 0, .take 1, .take 2, .take 3, .take 4, .take 5, .take 6, .take 7, .one 8, .take 9, .take 10, .take 11, .take 12, .take 13, .one 14, .take 15, .take 16] 0 rfl rfl (by kernel_rfl) ?_ | exact ql | (refine xs_one (ch := []) rfl rfl rfl (pst_rowsc [] rfl rfl rfl rfl rfl rfl .nil (pure_rows j1) (by exact ⟨PEq.cl _ (clB_spec _ rfl), PEq.cl _ (clB_spec _ rfl), PEq.cl _ (clB_spec _ rfl), trivial⟩) ?_); rintro r rows ⟨⟨k2, U2, hk2, rfl⟩, rfl⟩; refine ⟨_, _, rfl, trivial, rfl, ?_⟩) | refine w8 ?_ | refine w9 ?_ | refine w1 ?_ | refine w2 ?_ | refine w3 ?_ | refine w4 ?_ | refine w5 ?_ | refine w6 ?_ | refine w7 ?_ | refine yo0 ?_ ?_ | refine yw0 ?_ ?_ | exact qq | fail)
      refine pcond (b := decide (W.2 ≠ 0)) ?_ ?_ ?_
      · refine eqB ?_
        rw [Bool.eq_iff_iff]; simp
      · intro h
        have h := of_decide_eq_true h
        repeat' (first | refine yo ?_ ?_ | refine yw ?_ ?_ | refine yk ?_ ?_ | exact trivial | with_reducible refine wA ?_ ?_ | refine ys ?_ ?_ | refine xs_done ?_ | refine yl ?_ ?_ | refine w8 ?_ | refine w9 ?_ | refine w1 ?_ | refine w2 ?_ | refine w3 ?_ | refine w4 ?_ | refine w5 ?_ | refine w6 ?_ | refine w7 ?_ | refine yo0 ?_ ?_ | refine yw0 ?_ ?_ | exact qq | fail)
        refine kretv rfl ⟨Nat.zero_lt_one, trivial, trivial, trivial⟩ rfl ⟨k2, U2, by omega, ?_⟩
        rw [if_pos h]; rfl
      · intro h
        have h1 : W.2 = 0 := Decidable.not_not.1 (of_decide_eq_false h)
        have c1 := cb V.1 W.1 b0 (ok_bd o1 h1)
        rw [if_neg (by rw [h1]; decide)]
        repeat' (first | refine yo ?_ ?_ | refine yw ?_ ?_ | refine yk ?_ ?_ | exact trivial | with_reducible refine wA ?_ ?_ | refine ys ?_ ?_ | refine xs_done ?_ | refine yl ?_ ?_ | refine z1 c1 ?_ | refine z2 c1 ?_ | refine z3 c1 ?_ | refine z4 c1 ?_ | refine z5 c1 ?_ | refine w8 ?_ | refine w9 ?_ | refine w1 ?_ | refine w2 ?_ | refine w3 ?_ | refine w4 ?_ | refine w5 ?_ | refine w6 ?_ | refine w7 ?_ | refine yo0 ?_ ?_ | refine yw0 ?_ ?_ | exact qq | fail)
        exact kretv rfl ⟨Nat.zero_lt_one, trivial, trivial, trivial⟩ rfl ⟨k2, U2, by omega, rfl⟩
end Go.Proofs.YtdifpajpheemaaaGreatDoor
