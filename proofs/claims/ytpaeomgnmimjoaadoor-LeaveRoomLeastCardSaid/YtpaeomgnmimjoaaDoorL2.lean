/- package leave: within, Valid, turn. -/
import Derived.Test.YtpaeomgnmimjoaaDoorL1
import Derived.Test.YtpaeomgnmimjoaaDoorPvClr
set_option linter.unusedSimpArgs false
set_option linter.unusedVariables false
set_option maxRecDepth 100000
namespace Go.Proofs.YtpaeomgnmimjoaaDoor
abbrev lrL (r : LR) : List PV := [vi r.mon, vi r.car, vi r.mth, vi r.day, vi r.deb, vi r.frm, vi r.too, vi r.opn]
abbrev vLR (r : LR) : PV := .agg 8 (nthP (lrL r))
abbrev rLR (r : LR) : Row := ⟨.own, true, 1, 8, fun _ => nthP (lrL r)⟩
abbrev vAc (a : Acc) : PV := .agg 4 (nthP [vi a.car, vi a.cur, vi a.los, vi a.tak])
abbrev rAc (a : Acc) : Row := ⟨.own, true, 1, 4, fun _ => nthP [vi a.car, vi a.cur, vi a.los, vi a.tak]⟩
theorem within_c (n lo hi : Int) : PureC G.P 17 [vi n, vi lo, vi hi] (fun r => r = vb (decide (lo ≤ n) && decide (n ≤ hi))) := by
  refine pure_of (G := G.toPg) (fn := Tryd.f17) Tryd.func17 rfl rfl rfl ?_; intro Γ hk
  repeat' (first | refine yo ?_ ?_ | refine yw ?_ ?_ | refine yk ?_ ?_ | exact trivial | with_reducible refine wA ?_ ?_ | refine ys ?_ ?_ | refine xs_done ?_ | refine yl ?_ ?_ | refine w8 ?_ | refine w9 ?_ | refine w1 ?_ | refine w2 ?_ | refine w3 ?_ | refine w4 ?_ | refine w5 ?_ | refine w6 ?_ | refine w7 ?_ | refine yo0 ?_ ?_ | refine yw0 ?_ ?_ | exact qq | fail)
  refine kretv rfl ⟨trivial, trivial⟩ rfl (eqB ?_)
  by_cases h1 : lo ≤ n <;> by_cases h2 : n ≤ hi <;> simp [h1, h2]
theorem within_t {n lo hi : Int} (h1 : lo ≤ n) (h2 : n ≤ hi) : PureC G.P 17 [vi n, vi lo, vi hi] (fun r => r = vb true) := by
  have := within_c n lo hi
  rw [decide_eq_true h1, decide_eq_true h2] at this
  exact this
theorem lvalid_c (r : LR) (hr : LOk r) : PureC G.P 16 [vLR r] (fun q => q = vi 0) := by
  have c1 := within_t hr.mon.1 hr.mon.2
  have c2 := within_t hr.car.1 hr.car.2
  have c3 := within_t hr.deb.1 hr.deb.2
  have c4 := within_t hr.opn.1 hr.opn.2
  have c5 := within_t hr.mth.1 hr.mth.2
  have c6 := within_t hr.day.1 hr.day.2
  have h := hr.frm
  have h2 := hr.too
  have c7 := within_t (n := r.frm) (lo := 0) (hi := 84005) (by omega) (by omega)
  have c8 := within_t (n := r.too) (lo := 0) (hi := 84005) (by omega) (by omega)
  refine pure_of (G := G.toPg) (fn := Tryd.f16) Tryd.func16 rfl rfl rfl ?_; intro Γ hk
  repeat' (first | refine yo ?_ ?_ | refine yw ?_ ?_ | refine yk ?_ ?_ | exact trivial | with_reducible refine wA ?_ ?_ | refine ys ?_ ?_ | refine xs_done ?_ | refine yl ?_ ?_ | refine z1 c1 ?_ | refine z2 c1 ?_ | refine z3 c1 ?_ | refine z4 c1 ?_ | refine z5 c1 ?_ | refine z1 c2 ?_ | refine z2 c2 ?_ | refine z3 c2 ?_ | refine z4 c2 ?_ | refine z5 c2 ?_ | refine z1 c3 ?_ | refine z2 c3 ?_ | refine z3 c3 ?_ | refine z4 c3 ?_ | refine z5 c3 ?_ | refine z1 c4 ?_ | refine z2 c4 ?_ | refine z3 c4 ?_ | refine z4 c4 ?_ | refine z5 c4 ?_ | refine z1 c5 ?_ | refine z2 c5 ?_ | refine z3 c5 ?_ | refine z4 c5 ?_ | refine z5 c5 ?_ | refine z1 c6 ?_ | refine z2 c6 ?_ | refine z3 c6 ?_ | refine z4 c6 ?_ | refine z5 c6 ?_ | refine z1 c7 ?_ | refine z2 c7 ?_ | refine z3 c7 ?_ | refine z4 c7 ?_ | refine z5 c7 ?_ | refine z1 c8 ?_ | refine z2 c8 ?_ | refine z3 c8 ?_ | refine z4 c8 ?_ | refine z5 c8 ?_ | refine w8 ?_ | refine w9 ?_ | refine w1 ?_ | refine w2 ?_ | refine w3 ?_ | refine w4 ?_ | refine w5 ?_ | refine w6 ?_ | refine w7 ?_ | refine yo0 ?_ ?_ | refine yw0 ?_ ?_ | exact qq | fail)
  refine pcond (b := false) ?_ ?_ ?_
  · refine eqB ?_
    simp; omega
  · intro h; cases h
  · intro _
    repeat' (first | refine yo ?_ ?_ | refine yw ?_ ?_ | refine yk ?_ ?_ | exact trivial | with_reducible refine wA ?_ ?_ | refine ys ?_ ?_ | refine xs_done ?_ | refine yl ?_ ?_ | refine w8 ?_ | refine w9 ?_ | refine w1 ?_ | refine w2 ?_ | refine w3 ?_ | refine w4 ?_ | refine w5 ?_ | refine w6 ?_ | refine w7 ?_ | refine yo0 ?_ ?_ | refine yw0 ?_ ?_ | exact qq | fail)
    exact kretv rfl ⟨trivial, trivial⟩ rfl rfl
/-- the account's numbers lie in a range -/
def ABd (a : Acc) : Prop := (-1000000000000000 ≤ a.car ∧ a.car ≤ 1000000000000000) ∧ (-1000000000000000 ≤ a.cur ∧ a.cur ≤ 1000000000000000) ∧ (-1000000000000000 ≤ a.los ∧ a.los ≤ 1000000000000000) ∧ (-1000000000000000 ≤ a.tak ∧ a.tak ≤ 1000000000000000)
theorem AInv.bd {a : Acc} {k : Nat} (h : AInv a k) (hk : k ≤ 100000) : ABd a := by
  obtain ⟨h1, h2, h3, h4, h5, h6⟩ := h
  unfold ABd; omega
theorem t1_bd {r : LR} {a : Acc} {d : Int} (ha : ABd a) (hc : 0 ≤ r.car ∧ r.car ≤ 1000000) : (-2000000000000000 ≤ (t1S r a d).car ∧ (t1S r a d).car ≤ 2000000000000000) ∧ (-2000000000000000 ≤ (t1S r a d).cur ∧ (t1S r a d).cur ≤ 2000000000000000) ∧ (-20000000000000000 ≤ (t1S r a d).los ∧ (t1S r a d).los ≤ 20000000000000000) := by
  unfold ABd at ha
  unfold t1S
  split
  · split
    · dsimp only; split <;> omega
    · dsimp only; omega
  · omega
theorem t2_bd {r : LR} {a : Acc} {d : Int} (h : (-2000000000000000 ≤ a.cur ∧ a.cur ≤ 2000000000000000)) : (-2000000000000000 ≤ (t2S r a d).cur ∧ (t2S r a d).cur ≤ 2000000000000000) := by
  unfold t2S
  split <;> exact h
set_option maxHeartbeats 2000000 in
theorem turn_c (r : LR) (a : Acc) (d : Int) (hr : LOk r) (ha : ABd a) (h1 : 1 ≤ d) (h2 : d ≤ 84005) : PureC G.P 23 [vLR r, vAc a, vi d] (fun q => q = vAc (turnS r a d)) := by
  have hw : IntKind.i64.wrap (d - 1) = d - 1 := w64 (by omega) (by omega)
  have k1 := date_c d (by omega) h2
  have k2 := date_c (d - 1) (by omega) (by omega)
  have hm := hr.mon
  have hc := hr.car
  have hb1 := t1_bd (d := d) ha hc
  have hb2 := t2_bd (r := r) (d := d) hb1.2.1
  unfold ABd at ha
  rw [← hw] at k2
  refine pure_of (G := G.toPg) (fn := Tryd.f23) Tryd.func23 rfl rfl rfl ?_; intro Γ hk
  repeat' (first | refine yo ?_ ?_ | refine yw ?_ ?_ | refine yk ?_ ?_ | exact trivial | with_reducible refine wA ?_ ?_ | refine ys ?_ ?_ | refine xs_done ?_ | refine yl ?_ ?_ | refine z1 k1 ?_ | refine z2 k1 ?_ | refine z3 k1 ?_ | refine z4 k1 ?_ | refine z5 k1 ?_ | refine w8 ?_ | refine w9 ?_ | refine w1 ?_ | refine w2 ?_ | refine w3 ?_ | refine w4 ?_ | refine w5 ?_ | refine w6 ?_ | refine w7 ?_ | refine yo0 ?_ ?_ | refine yw0 ?_ ?_ | exact qq | fail)
  refine pcut (fun st => st = ⟨[(2, vi d), (3, .ptr 0 0 0), (4, .ptr 1 0 0), (6, .ptr 2 0 0), (9, vi (dateS d).2.2)], [rLR r, rAc (t1S r a d), rAc ⟨0, 0, 0, 0⟩]⟩) ?_ ?_
  · refine pcond (b := decide ((dateS d).2.1 = 1 ∧ (dateS d).2.2 = 1 ∧ d ≠ r.frm)) ?_ ?_ ?_
    · refine eqB ?_
      by_cases q1 : (dateS d).2.1 = 1 <;> by_cases q2 : (dateS d).2.2 = 1 <;> by_cases q3 : d = r.frm <;> simp [q1, q2, q3]
    · intro h
      have h := of_decide_eq_true h
      repeat' (first | refine yo ?_ ?_ | refine yw ?_ ?_ | refine yk ?_ ?_ | exact trivial | with_reducible refine wA ?_ ?_ | refine ys ?_ ?_ | refine xs_done ?_ | refine yl ?_ ?_ | refine w8 ?_ | refine w9 ?_ | refine w1 ?_ | refine w2 ?_ | refine w3 ?_ | refine w4 ?_ | refine w5 ?_ | refine w6 ?_ | refine w7 ?_ | refine yo0 ?_ ?_ | refine yw0 ?_ ?_ | exact qq | fail)
      refine pcond rfl ?_ ?_ <;> intro hc2 <;> simp at hc2
      · have e : t1S r a d = ⟨(if r.car < a.cur then r.car else a.cur), 0, a.los + a.car + (a.cur - (if r.car < a.cur then r.car else a.cur)), a.tak⟩ := by unfold t1S; rw [if_pos h, if_pos hc2]
        rw [e]
        repeat' (first | refine yo ?_ ?_ | refine yw ?_ ?_ | refine yk ?_ ?_ | exact trivial | with_reducible refine wA ?_ ?_ | refine ys ?_ ?_ | refine xs_done ?_ | refine yl ?_ ?_ | refine w8 ?_ | refine w9 ?_ | refine w1 ?_ | refine w2 ?_ | refine w3 ?_ | refine w4 ?_ | refine w5 ?_ | refine w6 ?_ | refine w7 ?_ | refine yo0 ?_ ?_ | refine yw0 ?_ ?_ | exact qq | fail)
        rw [w64 (n := a.los + a.car) (by omega) (by omega), w64 (n := a.cur - (if r.car < a.cur then r.car else a.cur)) (by split <;> omega) (by split <;> omega), w64 (n := a.los + a.car + (a.cur - (if r.car < a.cur then r.car else a.cur))) (by split <;> omega) (by split <;> omega)]
        refine xdone ?_
        exact kcut (can_rowsv [0,1,2] (k0_sel hk rfl) rfl (by (repeat (refine SelV.cons rfl rqq ?_)); exact SelV.nil) tmq) rfl
      · have e : t1S r a d = ⟨0, a.cur, a.los + a.car, a.tak⟩ := by unfold t1S; rw [if_pos h, if_neg (by omega)]
        rw [e]
        repeat' (first | refine yo ?_ ?_ | refine yw ?_ ?_ | refine yk ?_ ?_ | exact trivial | with_reducible refine wA ?_ ?_ | refine ys ?_ ?_ | refine xs_done ?_ | refine yl ?_ ?_ | refine w8 ?_ | refine w9 ?_ | refine w1 ?_ | refine w2 ?_ | refine w3 ?_ | refine w4 ?_ | refine w5 ?_ | refine w6 ?_ | refine w7 ?_ | refine yo0 ?_ ?_ | refine yw0 ?_ ?_ | exact qq | fail)
        rw [w64 (n := a.los + a.car) (by omega) (by omega)]
        refine xdone ?_
        exact kcut (can_rowsv [0,1,2] (k0_sel hk rfl) rfl (by (repeat (refine SelV.cons rfl rqq ?_)); exact SelV.nil) tmq) rfl
    · intro h
      have h := of_decide_eq_false h
      have e : t1S r a d = a := by unfold t1S; rw [if_neg h]
      rw [e]
      repeat' (first | refine yo ?_ ?_ | refine yw ?_ ?_ | refine yk ?_ ?_ | exact trivial | with_reducible refine wA ?_ ?_ | refine ys ?_ ?_ | refine xs_done ?_ | refine yl ?_ ?_ | refine w8 ?_ | refine w9 ?_ | refine w1 ?_ | refine w2 ?_ | refine w3 ?_ | refine w4 ?_ | refine w5 ?_ | refine w6 ?_ | refine w7 ?_ | refine yo0 ?_ ?_ | refine yw0 ?_ ?_ | exact qq | fail)
      refine xdone ?_
      exact kcut (can_rowsv [0,1,2] (k0_sel hk rfl) rfl (by (repeat (refine SelV.cons rfl rqq ?_)); exact SelV.nil) tmq) rfl
  · rintro _ rfl
    unfold turnS
    generalize t1S r a d = a1 at *
    repeat' (first | refine yo ?_ ?_ | refine yw ?_ ?_ | refine yk ?_ ?_ | exact trivial | with_reducible refine wA ?_ ?_ | refine ys ?_ ?_ | refine xs_done ?_ | refine yl ?_ ?_ | refine z1 k2 ?_ | refine z2 k2 ?_ | refine z3 k2 ?_ | refine z4 k2 ?_ | refine z5 k2 ?_ | refine w8 ?_ | refine w9 ?_ | refine w1 ?_ | refine w2 ?_ | refine w3 ?_ | refine w4 ?_ | refine w5 ?_ | refine w6 ?_ | refine w7 ?_ | refine yo0 ?_ ?_ | refine yw0 ?_ ?_ | exact qq | fail)
    rw [hw]
    refine pcut (fun st => st = ⟨[(2, vi d), (3, .ptr 0 0 0), (4, .ptr 1 0 0), (6, .ptr 2 0 0), (9, vi (dateS d).2.2)], [rLR r, rAc (t2S r a1 d), rAc ⟨0, 0, 0, 0⟩]⟩) ?_ ?_
    · refine pcond (b := decide ((dateS (d - 1)).2.1 = r.mth ∧ (dateS (d - 1)).2.2 = r.day)) ?_ ?_ ?_
      · refine eqB ?_
        by_cases q1 : (dateS (d - 1)).2.1 = r.mth <;> by_cases q2 : (dateS (d - 1)).2.2 = r.day <;> simp [q1, q2]
      · intro h
        have h := of_decide_eq_true h
        have e : t2S r a1 d = ⟨0, a1.cur, a1.los + a1.car, a1.tak⟩ := by unfold t2S; rw [if_pos h]
        rw [e]
        repeat' (first | refine yo ?_ ?_ | refine yw ?_ ?_ | refine yk ?_ ?_ | exact trivial | with_reducible refine wA ?_ ?_ | refine ys ?_ ?_ | refine xs_done ?_ | refine yl ?_ ?_ | refine w8 ?_ | refine w9 ?_ | refine w1 ?_ | refine w2 ?_ | refine w3 ?_ | refine w4 ?_ | refine w5 ?_ | refine w6 ?_ | refine w7 ?_ | refine yo0 ?_ ?_ | refine yw0 ?_ ?_ | exact qq | fail)
        rw [w64 (n := a1.los + a1.car) (by omega) (by omega)]
        refine xdone ?_
        exact kcut (can_rowsv [0,1,2] (k0_sel hk rfl) rfl (by (repeat (refine SelV.cons rfl rqq ?_)); exact SelV.nil) tmq) rfl
      · intro h
        have h := of_decide_eq_false h
        have e : t2S r a1 d = a1 := by unfold t2S; rw [if_neg h]
        rw [e]
        repeat' (first | refine yo ?_ ?_ | refine yw ?_ ?_ | refine yk ?_ ?_ | exact trivial | with_reducible refine wA ?_ ?_ | refine ys ?_ ?_ | refine xs_done ?_ | refine yl ?_ ?_ | refine w8 ?_ | refine w9 ?_ | refine w1 ?_ | refine w2 ?_ | refine w3 ?_ | refine w4 ?_ | refine w5 ?_ | refine w6 ?_ | refine w7 ?_ | refine yo0 ?_ ?_ | refine yw0 ?_ ?_ | exact qq | fail)
        refine xdone ?_
        exact kcut (can_rowsv [0,1,2] (k0_sel hk rfl) rfl (by (repeat (refine SelV.cons rfl rqq ?_)); exact SelV.nil) tmq) rfl
    · rintro _ rfl
      generalize t2S r a1 d = a2 at *
      repeat' (first | refine yo ?_ ?_ | refine yw ?_ ?_ | refine yk ?_ ?_ | exact trivial | with_reducible refine wA ?_ ?_ | refine ys ?_ ?_ | refine xs_done ?_ | refine yl ?_ ?_ | refine w8 ?_ | refine w9 ?_ | refine w1 ?_ | refine w2 ?_ | refine w3 ?_ | refine w4 ?_ | refine w5 ?_ | refine w6 ?_ | refine w7 ?_ | refine yo0 ?_ ?_ | refine yw0 ?_ ?_ | exact qq | fail)
      refine pcond (b := decide ((dateS d).2.2 = 1 ∧ d ≤ r.too)) ?_ ?_ ?_
      · refine eqB ?_
        by_cases q1 : (dateS d).2.2 = 1 <;> by_cases q2 : d ≤ r.too <;> simp [q1, q2]
      · intro h
        have h := of_decide_eq_true h
        repeat' (first | refine yo ?_ ?_ | refine yw ?_ ?_ | refine yk ?_ ?_ | exact trivial | with_reducible refine wA ?_ ?_ | refine ys ?_ ?_ | refine xs_done ?_ | refine yl ?_ ?_ | refine w8 ?_ | refine w9 ?_ | refine w1 ?_ | refine w2 ?_ | refine w3 ?_ | refine w4 ?_ | refine w5 ?_ | refine w6 ?_ | refine w7 ?_ | refine yo0 ?_ ?_ | refine yw0 ?_ ?_ | exact qq | fail)
        refine kretv rfl ⟨Nat.zero_lt_one, trivial⟩ rfl ?_
        unfold t3S
        rw [if_pos h, w64 (n := a2.cur + r.mon) (by omega) (by omega)]; rfl
      · intro h
        have h := of_decide_eq_false h
        repeat' (first | refine yo ?_ ?_ | refine yw ?_ ?_ | refine yk ?_ ?_ | exact trivial | with_reducible refine wA ?_ ?_ | refine ys ?_ ?_ | refine xs_done ?_ | refine yl ?_ ?_ | refine w8 ?_ | refine w9 ?_ | refine w1 ?_ | refine w2 ?_ | refine w3 ?_ | refine w4 ?_ | refine w5 ?_ | refine w6 ?_ | refine w7 ?_ | refine yo0 ?_ ?_ | refine yw0 ?_ ?_ | exact qq | fail)
        refine kretv rfl ⟨Nat.zero_lt_one, trivial⟩ rfl ?_
        unfold t3S
        rw [if_neg h]; rfl
end Go.Proofs.YtpaeomgnmimjoaaDoor
