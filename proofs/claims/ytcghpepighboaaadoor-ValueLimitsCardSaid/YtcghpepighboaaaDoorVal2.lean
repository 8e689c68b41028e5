/- Lookups: package value and its reference. -/
import Derived.Test.YtcghpepighboaaaDoorVal1
set_option linter.unusedSimpArgs false
set_option linter.unusedVariables false
set_option maxRecDepth 100000
namespace Go.Proofs.YtcghpepighboaaaDoor
theorem allK_cut {n i : Nat} {p : Nat → Bool} (h : allK n p = true) (hi : i < n) : p i = true := allK_iff.1 h i hi
theorem entB_bd {x : En} (h : entB x = true) : okR x.2.1 x.2.2 = true ∧ -1000000000000 ≤ x.1 ∧ x.1 ≤ 1000000000000 := by
  simp only [entB, Bool.and_eq_true, decide_eq_true_eq] at h
  exact ⟨h.1, h.2⟩
theorem entB_eq (x : En) : (!(okR x.2.1 x.2.2) || (decide (x.1 < -1000000000000) || decide (1000000000000 < x.1))) = !entB x := by
  rw [Bool.eq_iff_iff]
  simp [entB]
set_option maxHeartbeats 4000000 in
theorem lookup_c (n : Nat) (ef : Nat → En) (a b : Int) (hn : n ≤ 1000000000) (hb : ∀ i, i < n → -9223372036854775808 ≤ (ef i).2.1 ∧ (ef i).2.1 ≤ 9223372036854775807) (ha : -9223372036854775808 ≤ a ∧ a ≤ 9223372036854775807) : PureC G.P 11 [.vsl n 3 (tF cN3 ef), vr a b] (fun r => r = vRE (lookS n ef a b)) := by
  have c0 := ratioValid_c a b ha.1 ha.2
  refine pure_of (G := G.toPg) (fn := Tryd.f11) Tryd.func11 rfl rfl rfl ?_; intro Γ hk
  repeat' (first | refine yo ?_ ?_ | refine yw ?_ ?_ | refine yk ?_ ?_ | exact trivial | with_reducible refine wA ?_ ?_ | refine ys ?_ ?_ | refine xs_done ?_ | refine yl ?_ ?_ | refine w8 ?_ | refine w9 ?_ | refine w1 ?_ | refine w2 ?_ | refine w3 ?_ | refine w4 ?_ | refine w5 ?_ | refine w6 ?_ | refine w7 ?_ | refine yo0 ?_ ?_ | refine yw0 ?_ ?_ | exact qq | fail)
  refine pcond rfl ?_ ?_ <;> intro hc <;> simp at hc
  · repeat' (first | refine yo ?_ ?_ | refine yw ?_ ?_ | refine yk ?_ ?_ | exact trivial | with_reducible refine wA ?_ ?_ | refine ys ?_ ?_ | refine xs_done ?_ | refine yl ?_ ?_ | refine w8 ?_ | refine w9 ?_ | refine w1 ?_ | refine w2 ?_ | refine w3 ?_ | refine w4 ?_ | refine w5 ?_ | refine w6 ?_ | refine w7 ?_ | refine yo0 ?_ ?_ | refine yw0 ?_ ?_ | exact qq | fail)
    refine kretv rfl ⟨Nat.zero_lt_one, trivial, trivial⟩ rfl ?_
    rw [lookS, if_pos (by omega)]; rfl
  · repeat' (first | refine yo ?_ ?_ | refine yw ?_ ?_ | refine yk ?_ ?_ | exact trivial | with_reducible refine wA ?_ ?_ | refine ys ?_ ?_ | refine xs_done ?_ | refine yl ?_ ?_ | refine z1 c0 ?_ | refine z2 c0 ?_ | refine z3 c0 ?_ | refine z4 c0 ?_ | refine z5 c0 ?_ | refine w8 ?_ | refine w9 ?_ | refine w1 ?_ | refine w2 ?_ | refine w3 ?_ | refine w4 ?_ | refine w5 ?_ | refine w6 ?_ | refine w7 ?_ | refine yo0 ?_ ?_ | refine yw0 ?_ ?_ | exact qq | fail)
    refine pcond rfl ?_ ?_ <;> intro h0
    · have h0 := nv_t h0
      repeat' (first | refine yo ?_ ?_ | refine yw ?_ ?_ | refine yk ?_ ?_ | exact trivial | with_reducible refine wA ?_ ?_ | refine ys ?_ ?_ | refine xs_done ?_ | refine yl ?_ ?_ | refine w8 ?_ | refine w9 ?_ | refine w1 ?_ | refine w2 ?_ | refine w3 ?_ | refine w4 ?_ | refine w5 ?_ | refine w6 ?_ | refine w7 ?_ | refine yo0 ?_ ?_ | refine yw0 ?_ ?_ | exact qq | fail)
      refine kretv rfl ⟨Nat.zero_lt_one, trivial, trivial⟩ rfl ?_
      rw [lookS, if_neg (by omega), if_pos (Or.inl h0)]; rfl
    · have h0 := nv_f h0
      repeat' (first | refine yo ?_ ?_ | refine yw ?_ ?_ | refine yk ?_ ?_ | exact trivial | with_reducible refine wA ?_ ?_ | refine ys ?_ ?_ | refine xs_done ?_ | refine yl ?_ ?_ | refine w8 ?_ | refine w9 ?_ | refine w1 ?_ | refine w2 ?_ | refine w3 ?_ | refine w4 ?_ | refine w5 ?_ | refine w6 ?_ | refine w7 ?_ | refine yo0 ?_ ?_ | refine yw0 ?_ ?_ | exact qq | fail)
      refine pcan (st' := ⟨[(0, .vsl n 3 (tF cN3 ef)), (3, .ptr 0 0 0), (4, .ptr 1 0 0), (19, .vsl n 3 (tF cN3 ef)), (20, vi n), (21, vi ((0 : Nat) : Int))], [rR a b, rR 0 0]⟩) (can_rowsv [0,1] (k0_sel hk rfl) rfl (by (repeat (refine SelV.cons rfl rqq ?_)); exact SelV.nil) tmq) ?_
      refine ploop (fun q st => ∃ i : Nat, i ≤ n ∧ (∀ j, j < i → entB (ef j) = true) ∧ q = n - i ∧ st = ⟨[(0, .vsl n 3 (tF cN3 ef)), (3, .ptr 0 0 0), (4, .ptr 1 0 0), (19, .vsl n 3 (tF cN3 ef)), (20, vi n), (21, vi i)], [rR a b, rR 0 0]⟩) n ⟨0, by omega, fun j hj => by omega, by omega, rfl⟩ ?_
      rintro _ _ ⟨i, hi, hv, rfl, rfl⟩
      repeat' (first | refine yo ?_ ?_ | refine yw ?_ ?_ | refine yk ?_ ?_ | exact trivial | with_reducible refine wA ?_ ?_ | refine ys ?_ ?_ | refine xs_done ?_ | refine yl ?_ ?_ | refine w8 ?_ | refine w9 ?_ | refine w1 ?_ | refine w2 ?_ | refine w3 ?_ | refine w4 ?_ | refine w5 ?_ | refine w6 ?_ | refine w7 ?_ | refine yo0 ?_ ?_ | refine yw0 ?_ ?_ | exact qq | fail)
      refine pcond rfl ?_ ?_ <;> intro hl <;> simp at hl
      · have c1 := ratioValid_c (ef i).2.1 (ef i).2.2 (hb i hl).1 (hb i hl).2
        repeat' (first | refine yo ?_ ?_ | refine yw ?_ ?_ | refine yk ?_ ?_ | exact trivial | with_reducible refine wA ?_ ?_ | refine ys ?_ ?_ | refine xs_done ?_ | refine yl ?_ ?_ | refine z1 c1 ?_ | refine z2 c1 ?_ | refine z3 c1 ?_ | refine z4 c1 ?_ | refine z5 c1 ?_ | refine w8 ?_ | refine w9 ?_ | refine w1 ?_ | refine w2 ?_ | refine w3 ?_ | refine w4 ?_ | refine w5 ?_ | refine w6 ?_ | refine w7 ?_ | refine yo0 ?_ ?_ | refine yw0 ?_ ?_ | exact qq | fail)
        refine pcond (b := !entB (ef i)) ?_ ?_ ?_
        · refine eqB ?_
          rw [← entB_eq]
          cases okR (ef i).2.1 (ef i).2.2 <;> simp
        · intro h1
          have h1 := nv_t h1
          repeat' (first | refine yo ?_ ?_ | refine yw ?_ ?_ | refine yk ?_ ?_ | exact trivial | with_reducible refine wA ?_ ?_ | refine ys ?_ ?_ | refine xs_done ?_ | refine yl ?_ ?_ | refine w8 ?_ | refine w9 ?_ | refine w1 ?_ | refine w2 ?_ | refine w3 ?_ | refine w4 ?_ | refine w5 ?_ | refine w6 ?_ | refine w7 ?_ | refine yo0 ?_ ?_ | refine yw0 ?_ ?_ | exact qq | fail)
          refine kretv rfl ⟨Nat.zero_lt_one, trivial, trivial⟩ rfl ?_
          rw [lookS, if_neg (by omega), if_pos (Or.inr (allK_no hl h1))]; rfl
        · intro h1
          have h1 := nv_f h1
          repeat' (first | refine yo ?_ ?_ | refine yw ?_ ?_ | refine yk ?_ ?_ | exact trivial | with_reducible refine wA ?_ ?_ | refine ys ?_ ?_ | refine xs_done ?_ | refine yl ?_ ?_ | refine w8 ?_ | refine w9 ?_ | refine w1 ?_ | refine w2 ?_ | refine w3 ?_ | refine w4 ?_ | refine w5 ?_ | refine w6 ?_ | refine w7 ?_ | refine yo0 ?_ ?_ | refine yw0 ?_ ?_ | exact qq | fail)
          rw [show IntKind.i64.wrap ((i : Int) + 1) = ((i + 1 : Nat) : Int) from w64 (by omega) (by omega)]
          exact kloop_next (st' := ⟨[(0, .vsl n 3 (tF cN3 ef)), (3, .ptr 0 0 0), (4, .ptr 1 0 0), (19, .vsl n 3 (tF cN3 ef)), (20, vi n), (21, vi ((i + 1 : Nat) : Int))], [rR a b, rR 0 0]⟩) (n - (i + 1)) (can_rowsv [0,1] (k0_sel hk rfl) rfl (by (repeat (refine SelV.cons rfl rqq ?_)); exact SelV.nil) tmq) (by omega) ⟨i + 1, by omega, fun j hj => by
            by_cases e : j = i
            · subst e; exact h1
            · exact hv j (by omega), rfl, rfl⟩
      · obtain rfl : i = n := by omega
        have hall : allK i (fun i => entB (ef i)) = true := allK_iff.2 hv
        repeat' (first | refine yo ?_ ?_ | refine yw ?_ ?_ | refine yk ?_ ?_ | exact trivial | with_reducible refine wA ?_ ?_ | refine ys ?_ ?_ | refine xs_done ?_ | refine yl ?_ ?_ | refine w8 ?_ | refine w9 ?_ | refine w1 ?_ | refine w2 ?_ | refine w3 ?_ | refine w4 ?_ | refine w5 ?_ | refine w6 ?_ | refine w7 ?_ | refine yo0 ?_ ?_ | refine yw0 ?_ ?_ | exact qq | fail)
        refine pcan (st' := ⟨[(0, .vsl i 3 (tF cN3 ef)), (3, .ptr 0 0 0), (4, .ptr 1 0 0), (8, vi (-1)), (41, .vsl i 3 (tF cN3 ef)), (42, vi i), (43, vi ((0 : Nat) : Int))], [rR a b, rR 0 0]⟩) (can_rowsv [0,1] (k0_sel hk rfl) rfl (by (repeat (refine SelV.cons rfl rqq ?_)); exact SelV.nil) tmq) ?_
        refine ploop (fun q st => ∃ m : Nat, m ≤ i ∧ q = i - m ∧ st = ⟨[(0, .vsl i 3 (tF cN3 ef)), (3, .ptr 0 0 0), (4, .ptr 1 0 0), (8, vi (bestS ef a b m)), (41, .vsl i 3 (tF cN3 ef)), (42, vi i), (43, vi m)], [rR a b, rR 0 0]⟩) i ⟨0, by omega, by omega, rfl⟩ ?_
        rintro _ _ ⟨m, hm, rfl, rfl⟩
        have hbd := bestS_bd ef a b m
        repeat' (first | refine yo ?_ ?_ | refine yw ?_ ?_ | refine yk ?_ ?_ | exact trivial | with_reducible refine wA ?_ ?_ | refine ys ?_ ?_ | refine xs_done ?_ | refine yl ?_ ?_ | refine w8 ?_ | refine w9 ?_ | refine w1 ?_ | refine w2 ?_ | refine w3 ?_ | refine w4 ?_ | refine w5 ?_ | refine w6 ?_ | refine w7 ?_ | refine yo0 ?_ ?_ | refine yw0 ?_ ?_ | exact qq | fail)
        refine pcond rfl ?_ ?_ <;> intro hl2 <;> simp at hl2
        · have hk2 := entB_bd (hv m hl2)
          have c1 := integer_c (ef m).1
          have c2 := ratioCompare_c (ef m).1 1 a b (by omega) (by omega) ha.1 ha.2
          have e1 : bestS ef a b (m + 1) = if cmpR (ef m).1 1 a b ≤ 0 ∧ (bestS ef a b m < 0 ∨ (ef (bestS ef a b m).toNat).1 < (ef m).1) then (m : Int) else bestS ef a b m := rfl
          generalize bestS ef a b m = B at *
          repeat' (first | refine yo ?_ ?_ | refine yw ?_ ?_ | refine yk ?_ ?_ | exact trivial | with_reducible refine wA ?_ ?_ | refine ys ?_ ?_ | refine xs_done ?_ | refine yl ?_ ?_ | refine xs_start (id := 15) true [.take 0, .take 1, .take 3, .one 2, .one 4, .take 5, .take 6, .take 7, .take 8, .take 9, .take 10, .take 11, .take 12, .take 13, .take 14, .take 15, .take 16, .take 17, .take 18, .take 19] 0 rfl rfl (by kernel_rfl) ?_ | refine z1 c1 ?_ | refine z2 c1 ?_ | refine z3 c1 ?_ | refine z4 c1 ?_ | refine z5 c1 ?_ | refine z1 c2 ?_ | refine z2 c2 ?_ | refine z3 c2 ?_ | refine z4 c2 ?_ | refine z5 c2 ?_ | refine w8 ?_ | refine w9 ?_ | refine w1 ?_ | refine w2 ?_ | refine w3 ?_ | refine w4 ?_ | refine w5 ?_ | refine w6 ?_ | refine w7 ?_ | refine yo0 ?_ ?_ | refine yw0 ?_ ?_ | exact qq | fail)
          refine pcond (b := decide (cmpR (ef m).1 1 a b ≤ 0 ∧ (B < 0 ∨ (ef B.toNat).1 < (ef m).1))) ?_ ?_ ?_
          · refine eqB ?_
            by_cases q1 : cmpR (ef m).1 1 a b ≤ 0 <;> by_cases q2 : B < 0 <;> simp [q1, q2]
          · intro h1
            have h1 := of_decide_eq_true h1
            rw [if_pos h1] at e1
            repeat' (first | refine yo ?_ ?_ | refine yw ?_ ?_ | refine yk ?_ ?_ | exact trivial | with_reducible refine wA ?_ ?_ | refine ys ?_ ?_ | refine xs_done ?_ | refine yl ?_ ?_ | refine w8 ?_ | refine w9 ?_ | refine w1 ?_ | refine w2 ?_ | refine w3 ?_ | refine w4 ?_ | refine w5 ?_ | refine w6 ?_ | refine w7 ?_ | refine yo0 ?_ ?_ | refine yw0 ?_ ?_ | exact qq | fail)
            rw [show IntKind.i64.wrap ((m : Int) + 1) = ((m + 1 : Nat) : Int) from w64 (by omega) (by omega)]
            exact kloop_next (st' := ⟨[(0, .vsl i 3 (tF cN3 ef)), (3, .ptr 0 0 0), (4, .ptr 1 0 0), (8, vi m), (41, .vsl i 3 (tF cN3 ef)), (42, vi i), (43, vi ((m + 1 : Nat) : Int))], [rR a b, rR 0 0]⟩) (i - (m + 1)) (can_rowsv [0,1] (k0_sel hk rfl) rfl (by (repeat (refine SelV.cons rfl rqq ?_)); exact SelV.nil) tmq) (by omega) ⟨m + 1, by omega, rfl, by rw [e1]⟩
          · intro h1
            have h1 := of_decide_eq_false h1
            rw [if_neg h1] at e1
            repeat' (first | refine yo ?_ ?_ | refine yw ?_ ?_ | refine yk ?_ ?_ | exact trivial | with_reducible refine wA ?_ ?_ | refine ys ?_ ?_ | refine xs_done ?_ | refine yl ?_ ?_ | refine w8 ?_ | refine w9 ?_ | refine w1 ?_ | refine w2 ?_ | refine w3 ?_ | refine w4 ?_ | refine w5 ?_ | refine w6 ?_ | refine w7 ?_ | refine yo0 ?_ ?_ | refine yw0 ?_ ?_ | exact qq | fail)
            rw [show IntKind.i64.wrap ((m : Int) + 1) = ((m + 1 : Nat) : Int) from w64 (by omega) (by omega)]
            exact kloop_next (st' := ⟨[(0, .vsl i 3 (tF cN3 ef)), (3, .ptr 0 0 0), (4, .ptr 1 0 0), (8, vi B), (41, .vsl i 3 (tF cN3 ef)), (42, vi i), (43, vi ((m + 1 : Nat) : Int))], [rR a b, rR 0 0]⟩) (i - (m + 1)) (can_rowsv [0,1] (k0_sel hk rfl) rfl (by (repeat (refine SelV.cons rfl rqq ?_)); exact SelV.nil) tmq) (by omega) ⟨m + 1, by omega, rfl, by rw [e1]⟩
        · obtain rfl : m = i := by omega
          repeat' (first | refine yo ?_ ?_ | refine yw ?_ ?_ | refine yk ?_ ?_ | exact trivial | with_reducible refine wA ?_ ?_ | refine ys ?_ ?_ | refine xs_done ?_ | refine yl ?_ ?_ | refine w8 ?_ | refine w9 ?_ | refine w1 ?_ | refine w2 ?_ | refine w3 ?_ | refine w4 ?_ | refine w5 ?_ | refine w6 ?_ | refine w7 ?_ | refine yo0 ?_ ?_ | refine yw0 ?_ ?_ | exact qq | fail)
          refine pcond rfl ?_ ?_ <;> intro h3 <;> simp at h3
          · repeat' (first | refine yo ?_ ?_ | refine yw ?_ ?_ | refine yk ?_ ?_ | exact trivial | with_reducible refine wA ?_ ?_ | refine ys ?_ ?_ | refine xs_done ?_ | refine yl ?_ ?_ | refine w8 ?_ | refine w9 ?_ | refine w1 ?_ | refine w2 ?_ | refine w3 ?_ | refine w4 ?_ | refine w5 ?_ | refine w6 ?_ | refine w7 ?_ | refine yo0 ?_ ?_ | refine yw0 ?_ ?_ | exact qq | fail)
            refine kretv rfl ⟨Nat.zero_lt_one, trivial, trivial⟩ rfl ?_
            rw [lookS, if_neg (by omega), if_neg (by rintro (h | h); rw [h0] at h; cases h; rw [hall] at h; cases h), if_pos h3]; rfl
          · repeat' (first | refine yo ?_ ?_ | refine yw ?_ ?_ | refine yk ?_ ?_ | exact trivial | with_reducible refine wA ?_ ?_ | refine ys ?_ ?_ | refine xs_done ?_ | refine yl ?_ ?_ | refine w8 ?_ | refine w9 ?_ | refine w1 ?_ | refine w2 ?_ | refine w3 ?_ | refine w4 ?_ | refine w5 ?_ | refine w6 ?_ | refine w7 ?_ | refine yo0 ?_ ?_ | refine yw0 ?_ ?_ | exact qq | fail)
            refine kretv rfl ⟨Nat.zero_lt_one, trivial, trivial⟩ rfl ?_
            rw [lookS, if_neg (by omega), if_neg (by rintro (h | h); rw [h0] at h; cases h; rw [hall] at h; cases h), if_neg (by omega)]; rfl


set_option maxHeartbeats 4000000 in
theorem lookup22_c (n : Nat) (ef : Nat → En) (a b : Int) (hn : n ≤ 1000000000) (hb : ∀ i, i < n → -9223372036854775808 ≤ (ef i).2.1 ∧ (ef i).2.1 ≤ 9223372036854775807) (ha : -9223372036854775808 ≤ a ∧ a ≤ 9223372036854775807) : PureC G.P 12 [.vsl n 3 (tF cN3 ef), vr a b] (fun r => r = vRE (lookS n ef a b)) := by
  have c0 := ref1Valid_c a b ha.1 ha.2
  refine pure_of (G := G.toPg) (fn := Tryd.f12) Tryd.func12 rfl rfl rfl ?_; intro Γ hk
  repeat' (first | refine yo ?_ ?_ | refine yw ?_ ?_ | refine yk ?_ ?_ | exact trivial | with_reducible refine wA ?_ ?_ | refine ys ?_ ?_ | refine xs_done ?_ | refine yl ?_ ?_ | refine w8 ?_ | refine w9 ?_ | refine w1 ?_ | refine w2 ?_ | refine w3 ?_ | refine w4 ?_ | refine w5 ?_ | refine w6 ?_ | refine w7 ?_ | refine yo0 ?_ ?_ | refine yw0 ?_ ?_ | exact qq | fail)
  refine pcond rfl ?_ ?_ <;> intro hc <;> simp at hc
  · repeat' (first | refine yo ?_ ?_ | refine yw ?_ ?_ | refine yk ?_ ?_ | exact trivial | with_reducible refine wA ?_ ?_ | refine ys ?_ ?_ | refine xs_done ?_ | refine yl ?_ ?_ | refine w8 ?_ | refine w9 ?_ | refine w1 ?_ | refine w2 ?_ | refine w3 ?_ | refine w4 ?_ | refine w5 ?_ | refine w6 ?_ | refine w7 ?_ | refine yo0 ?_ ?_ | refine yw0 ?_ ?_ | exact qq | fail)
    refine kretv rfl ⟨Nat.zero_lt_one, trivial, trivial⟩ rfl ?_
    rw [lookS, if_pos (by omega)]; rfl
  · repeat' (first | refine yo ?_ ?_ | refine yw ?_ ?_ | refine yk ?_ ?_ | exact trivial | with_reducible refine wA ?_ ?_ | refine ys ?_ ?_ | refine xs_done ?_ | refine yl ?_ ?_ | refine w8 ?_ | refine w9 ?_ | refine w1 ?_ | refine w2 ?_ | refine w3 ?_ | refine w4 ?_ | refine w5 ?_ | refine w6 ?_ | refine w7 ?_ | refine yo0 ?_ ?_ | refine yw0 ?_ ?_ | exact qq | fail)
    refine pcan (st' := ⟨[(0, .vsl n 3 (tF cN3 ef)), (3, .ptr 0 0 0), (4, .ptr 1 0 0), (6, vi (-1)), (7, vi ((0 : Nat) : Int))], [rR a b, rR 0 0]⟩) (can_rowsv [0,1] (k0_sel hk rfl) rfl (by (repeat (refine SelV.cons rfl rqq ?_)); exact SelV.nil) tmq) ?_
    refine ploop (fun q st => ∃ m : Nat, m ≤ n ∧ (∀ j, j < m → entB (ef j) = true) ∧ q = n - m ∧ st = ⟨[(0, .vsl n 3 (tF cN3 ef)), (3, .ptr 0 0 0), (4, .ptr 1 0 0), (6, vi (bestS ef a b m)), (7, vi m)], [rR a b, rR 0 0]⟩) n ⟨0, by omega, fun j hj => by omega, by omega, rfl⟩ ?_
    rintro _ _ ⟨m, hm, hv, rfl, rfl⟩
    have hbd := bestS_bd ef a b m
    repeat' (first | refine yo ?_ ?_ | refine yw ?_ ?_ | refine yk ?_ ?_ | exact trivial | with_reducible refine wA ?_ ?_ | refine ys ?_ ?_ | refine xs_done ?_ | refine yl ?_ ?_ | refine w8 ?_ | refine w9 ?_ | refine w1 ?_ | refine w2 ?_ | refine w3 ?_ | refine w4 ?_ | refine w5 ?_ | refine w6 ?_ | refine w7 ?_ | refine yo0 ?_ ?_ | refine yw0 ?_ ?_ | exact qq | fail)
    refine pcond rfl ?_ ?_ <;> intro hl2 <;> simp at hl2
    · have c1 := ref1Valid_c (ef m).2.1 (ef m).2.2 (hb m hl2).1 (hb m hl2).2
      have e1 : bestS ef a b (m + 1) = if cmpR (ef m).1 1 a b ≤ 0 ∧ (bestS ef a b m < 0 ∨ (ef (bestS ef a b m).toNat).1 < (ef m).1) then (m : Int) else bestS ef a b m := rfl
      generalize bestS ef a b m = B at *
      repeat' (first | refine yo ?_ ?_ | refine yw ?_ ?_ | refine yk ?_ ?_ | exact trivial | with_reducible refine wA ?_ ?_ | refine ys ?_ ?_ | refine xs_done ?_ | refine yl ?_ ?_ | refine z1 c1 ?_ | refine z2 c1 ?_ | refine z3 c1 ?_ | refine z4 c1 ?_ | refine z5 c1 ?_ | refine w8 ?_ | refine w9 ?_ | refine w1 ?_ | refine w2 ?_ | refine w3 ?_ | refine w4 ?_ | refine w5 ?_ | refine w6 ?_ | refine w7 ?_ | refine yo0 ?_ ?_ | refine yw0 ?_ ?_ | exact qq | fail)
      refine pcond (b := !entB (ef m)) ?_ ?_ ?_
      · refine eqB ?_
        rw [← entB_eq]
        cases okR (ef m).2.1 (ef m).2.2 <;> simp
      · intro h1
        have h1 := nv_t h1
        repeat' (first | refine yo ?_ ?_ | refine yw ?_ ?_ | refine yk ?_ ?_ | exact trivial | with_reducible refine wA ?_ ?_ | refine ys ?_ ?_ | refine xs_done ?_ | refine yl ?_ ?_ | refine w8 ?_ | refine w9 ?_ | refine w1 ?_ | refine w2 ?_ | refine w3 ?_ | refine w4 ?_ | refine w5 ?_ | refine w6 ?_ | refine w7 ?_ | refine yo0 ?_ ?_ | refine yw0 ?_ ?_ | exact qq | fail)
        refine kretv rfl ⟨Nat.zero_lt_one, trivial, trivial⟩ rfl ?_
        rw [lookS, if_neg (by omega), if_pos (Or.inr (allK_no hl2 h1))]; rfl
      · intro h1
        have h1 := nv_f h1
        have hk2 := entB_bd h1
        have c2 := ref1Compare_c (ef m).1 1 a b (by omega) (by omega) ha.1 ha.2
        have hv' : ∀ j, j < m + 1 → entB (ef j) = true := fun j hj => by
          by_cases e : j = m
          · subst e; exact h1
          · exact hv j (by omega)
        repeat' (first | refine yo ?_ ?_ | refine yw ?_ ?_ | refine yk ?_ ?_ | exact trivial | with_reducible refine wA ?_ ?_ | refine ys ?_ ?_ | refine xs_done ?_ | refine yl ?_ ?_ | refine xs_start (id := 9) true [.take 0, .take 1, .take 2, .take 3, .take 4, .take 5, .take 6, .one 7, .take 8, .take 9, .take 10, .take 11, .take 12, .take 13, .take 14, .take 15, .take 16, .take 17, .take 18, .take 19, .take 20, .take 21, .take 22, .take 23, .take 24, .take 25] 0 rfl rfl (by kernel_rfl) ?_ | refine z1 c2 ?_ | refine z2 c2 ?_ | refine z3 c2 ?_ | refine z4 c2 ?_ | refine z5 c2 ?_ | refine w8 ?_ | refine w9 ?_ | refine w1 ?_ | refine w2 ?_ | refine w3 ?_ | refine w4 ?_ | refine w5 ?_ | refine w6 ?_ | refine w7 ?_ | refine yo0 ?_ ?_ | refine yw0 ?_ ?_ | exact qq | fail)
        refine pcond (b := decide (cmpR (ef m).1 1 a b ≤ 0 ∧ (B < 0 ∨ (ef B.toNat).1 < (ef m).1))) ?_ ?_ ?_
        · refine eqB ?_
          by_cases q1 : cmpR (ef m).1 1 a b ≤ 0 <;> by_cases q2 : B < 0 <;> simp [q1, q2]
        · intro h1
          have h1 := of_decide_eq_true h1
          rw [if_pos h1] at e1
          repeat' (first | refine yo ?_ ?_ | refine yw ?_ ?_ | refine yk ?_ ?_ | exact trivial | with_reducible refine wA ?_ ?_ | refine ys ?_ ?_ | refine xs_done ?_ | refine yl ?_ ?_ | refine w8 ?_ | refine w9 ?_ | refine w1 ?_ | refine w2 ?_ | refine w3 ?_ | refine w4 ?_ | refine w5 ?_ | refine w6 ?_ | refine w7 ?_ | refine yo0 ?_ ?_ | refine yw0 ?_ ?_ | exact qq | fail)
          rw [show IntKind.i64.wrap ((m : Int) + 1) = ((m + 1 : Nat) : Int) from w64 (by omega) (by omega)]
          exact kloop_next (st' := ⟨[(0, .vsl n 3 (tF cN3 ef)), (3, .ptr 0 0 0), (4, .ptr 1 0 0), (6, vi m), (7, vi ((m + 1 : Nat) : Int))], [rR a b, rR 0 0]⟩) (n - (m + 1)) (can_rowsv [0,1] (k0_sel hk rfl) rfl (by (repeat (refine SelV.cons rfl rqq ?_)); exact SelV.nil) tmq) (by omega) ⟨m + 1, by omega, hv', rfl, by rw [e1]⟩
        · intro h1
          have h1 := of_decide_eq_false h1
          rw [if_neg h1] at e1
          repeat' (first | refine yo ?_ ?_ | refine yw ?_ ?_ | refine yk ?_ ?_ | exact trivial | with_reducible refine wA ?_ ?_ | refine ys ?_ ?_ | refine xs_done ?_ | refine yl ?_ ?_ | refine w8 ?_ | refine w9 ?_ | refine w1 ?_ | refine w2 ?_ | refine w3 ?_ | refine w4 ?_ | refine w5 ?_ | refine w6 ?_ | refine w7 ?_ | refine yo0 ?_ ?_ | refine yw0 ?_ ?_ | exact qq | fail)
          rw [show IntKind.i64.wrap ((m : Int) + 1) = ((m + 1 : Nat) : Int) from w64 (by omega) (by omega)]
          exact kloop_next (st' := ⟨[(0, .vsl n 3 (tF cN3 ef)), (3, .ptr 0 0 0), (4, .ptr 1 0 0), (6, vi B), (7, vi ((m + 1 : Nat) : Int))], [rR a b, rR 0 0]⟩) (n - (m + 1)) (can_rowsv [0,1] (k0_sel hk rfl) rfl (by (repeat (refine SelV.cons rfl rqq ?_)); exact SelV.nil) tmq) (by omega) ⟨m + 1, by omega, hv', rfl, by rw [e1]⟩
    · obtain rfl : m = n := by omega
      have hall : allK m (fun i => entB (ef i)) = true := allK_iff.2 hv
      repeat' (first | refine yo ?_ ?_ | refine yw ?_ ?_ | refine yk ?_ ?_ | exact trivial | with_reducible refine wA ?_ ?_ | refine ys ?_ ?_ | refine xs_done ?_ | refine yl ?_ ?_ | refine z1 c0 ?_ | refine z2 c0 ?_ | refine z3 c0 ?_ | refine z4 c0 ?_ | refine z5 c0 ?_ | refine w8 ?_ | refine w9 ?_ | refine w1 ?_ | refine w2 ?_ | refine w3 ?_ | refine w4 ?_ | refine w5 ?_ | refine w6 ?_ | refine w7 ?_ | refine yo0 ?_ ?_ | refine yw0 ?_ ?_ | exact qq | fail)
      refine pcond rfl ?_ ?_ <;> intro h0
      · have h0 := nv_t h0
        repeat' (first | refine yo ?_ ?_ | refine yw ?_ ?_ | refine yk ?_ ?_ | exact trivial | with_reducible refine wA ?_ ?_ | refine ys ?_ ?_ | refine xs_done ?_ | refine yl ?_ ?_ | refine w8 ?_ | refine w9 ?_ | refine w1 ?_ | refine w2 ?_ | refine w3 ?_ | refine w4 ?_ | refine w5 ?_ | refine w6 ?_ | refine w7 ?_ | refine yo0 ?_ ?_ | refine yw0 ?_ ?_ | exact qq | fail)
        refine kretv rfl ⟨Nat.zero_lt_one, trivial, trivial⟩ rfl ?_
        rw [lookS, if_neg (by omega), if_pos (Or.inl h0)]; rfl
      · have h0 := nv_f h0
        repeat' (first | refine yo ?_ ?_ | refine yw ?_ ?_ | refine yk ?_ ?_ | exact trivial | with_reducible refine wA ?_ ?_ | refine ys ?_ ?_ | refine xs_done ?_ | refine yl ?_ ?_ | refine w8 ?_ | refine w9 ?_ | refine w1 ?_ | refine w2 ?_ | refine w3 ?_ | refine w4 ?_ | refine w5 ?_ | refine w6 ?_ | refine w7 ?_ | refine yo0 ?_ ?_ | refine yw0 ?_ ?_ | exact qq | fail)
        refine pcond rfl ?_ ?_ <;> intro h3 <;> simp at h3
        · repeat' (first | refine yo ?_ ?_ | refine yw ?_ ?_ | refine yk ?_ ?_ | exact trivial | with_reducible refine wA ?_ ?_ | refine ys ?_ ?_ | refine xs_done ?_ | refine yl ?_ ?_ | refine w8 ?_ | refine w9 ?_ | refine w1 ?_ | refine w2 ?_ | refine w3 ?_ | refine w4 ?_ | refine w5 ?_ | refine w6 ?_ | refine w7 ?_ | refine yo0 ?_ ?_ | refine yw0 ?_ ?_ | exact qq | fail)
          refine kretv rfl ⟨Nat.zero_lt_one, trivial, trivial⟩ rfl ?_
          rw [lookS, if_neg (by omega), if_neg (by rintro (h | h); rw [h0] at h; cases h; rw [hall] at h; cases h), if_pos h3]; rfl
        · repeat' (first | refine yo ?_ ?_ | refine yw ?_ ?_ | refine yk ?_ ?_ | exact trivial | with_reducible refine wA ?_ ?_ | refine ys ?_ ?_ | refine xs_done ?_ | refine yl ?_ ?_ | refine w8 ?_ | refine w9 ?_ | refine w1 ?_ | refine w2 ?_ | refine w3 ?_ | refine w4 ?_ | refine w5 ?_ | refine w6 ?_ | refine w7 ?_ | refine yo0 ?_ ?_ | refine yw0 ?_ ?_ | exact qq | fail)
          refine kretv rfl ⟨Nat.zero_lt_one, trivial, trivial⟩ rfl ?_
          rw [lookS, if_neg (by omega), if_neg (by rintro (h | h); rw [h0] at h; cases h; rw [hall] at h; cases h), if_neg (by omega)]; rfl
end Go.Proofs.YtcghpepighboaaaDoor
