/- payrolllaw15: sane; LeaveConserves. -/
import Derived.Test.YtpaeomgnmimjoaaDoorL6
import Derived.Test.YtpaeomgnmimjoaaDoorBridge
import Derived.Test.YtpaeomgnmimjoaaDoorGlo
set_option linter.unusedSimpArgs false
set_option linter.unusedVariables false
set_option maxRecDepth 100000
namespace Go.Proofs.YtpaeomgnmimjoaaDoor
abbrev r0 : LR := ⟨800, 1000, 3, 28, 0, 20454, 21154, 0⟩
theorem r0_ok : LOk r0 := ⟨by decide, by decide, by decide, by decide, by decide, by decide, by decide, by decide⟩
theorem bal_a : balS r0 [] 20527 = (⟨0, 2400, 0, 0⟩, 0) := by decide +kernel
theorem bal_b : balS r0 [(20522, 1000)] 20527 = (⟨0, 1400, 0, 1000⟩, 0) := by decide +kernel
theorem bal_d : balS r0 [] 20819 = (⟨1000, 800, 8600, 0⟩, 0) := by decide +kernel
theorem acc_a : accS r0 20485 = 1600 := by decide +kernel
theorem argB1 {mem : List Row} {L : List Nat} {l : Nat} {x y : Int} (hr : rowAt mem l = some ⟨.own, false, 1, 2, fun a b => nthP [vi x, vi y] (a * 2 + b)⟩) (hL : l ∈ L) : ArgOk mem L (.lsl l 0 1) (vBs [(x, y)]) :=
  argLsl (r := ⟨.own, false, 1, 2, _⟩) hr trivial hL (Nat.le_refl 1) fun a ha b hb => by
    obtain rfl : a = 0 := by omega
    have hb : b < 2 := hb
    rcases (by omega : b = 0 ∨ b = 1) with rfl | rfl <;> exact ⟨rfl, trivial⟩
theorem sane15_c : PureC G.P 11 [] (fun r => r = vb true) := by
  have c1 := balance_c r0 r0_ok [] ⟨by simp, by simp⟩ (by decide) 20527 (by decide) (by decide)
  have c2 := balance_c r0 r0_ok [(20522, 1000)] ⟨by simp, by simp⟩ (by decide) 20527 (by decide) (by decide)
  have c3 := balance_c r0 r0_ok [] ⟨by simp, by simp⟩ (by decide) 20819 (by decide) (by decide)
  have c4 := accrued_c r0 r0_ok 20485 (by decide) (by decide)
  have c5 := lvalid_c r0 r0_ok
  rw [bal_a] at c1
  rw [bal_b] at c2
  rw [bal_d] at c3
  rw [acc_a] at c4
  refine pure_of (G := G.toPg) (fn := Tryd.f11) Tryd.func11 rfl rfl rfl ?_; intro Γ hk
  repeat' (first | refine yo ?_ ?_ | refine yw ?_ ?_ | refine yk ?_ ?_ | exact trivial | with_reducible refine wA ?_ ?_ | refine ys ?_ ?_ | refine xs_done ?_ | refine yl ?_ ?_ | refine w8 ?_ | refine w9 ?_ | refine w1 ?_ | refine w2 ?_ | refine w3 ?_ | refine w4 ?_ | refine w5 ?_ | refine w6 ?_ | refine w7 ?_ | refine yo0 ?_ ?_ | refine yw0 ?_ ?_ | exact qq | fail)
  refine pop_call [] rfl rfl rfl rfl rfl c1 ⟨argCl (lr_cl r0), argNil, argVal, trivial⟩ ?_
  rintro _ rfl
  refine ⟨scB_spec _ rfl, ?_⟩
  repeat' (first | refine yo ?_ ?_ | refine yw ?_ ?_ | refine yk ?_ ?_ | exact trivial | with_reducible refine wA ?_ ?_ | refine ys ?_ ?_ | refine xs_done ?_ | refine yl ?_ ?_ | refine w8 ?_ | refine w9 ?_ | refine w1 ?_ | refine w2 ?_ | refine w3 ?_ | refine w4 ?_ | refine w5 ?_ | refine w6 ?_ | refine w7 ?_ | refine yo0 ?_ ?_ | refine yw0 ?_ ?_ | exact qq | fail)
  refine pop_call [2] rfl rfl rfl rfl rfl c2 ⟨argCl (lr_cl r0), argB1 rfl (List.Mem.head _), argVal, trivial⟩ ?_
  rintro _ rfl
  refine ⟨scB_spec _ rfl, ?_⟩
  repeat' (first | refine yo ?_ ?_ | refine yw ?_ ?_ | refine yk ?_ ?_ | exact trivial | with_reducible refine wA ?_ ?_ | refine ys ?_ ?_ | refine xs_done ?_ | refine yl ?_ ?_ | refine w8 ?_ | refine w9 ?_ | refine w1 ?_ | refine w2 ?_ | refine w3 ?_ | refine w4 ?_ | refine w5 ?_ | refine w6 ?_ | refine w7 ?_ | refine yo0 ?_ ?_ | refine yw0 ?_ ?_ | exact qq | fail)
  refine pop_call [] rfl rfl rfl rfl rfl c3 ⟨argCl (lr_cl r0), argNil, argVal, trivial⟩ ?_
  rintro _ rfl
  refine ⟨scB_spec _ rfl, ?_⟩
  repeat' (first | refine yo ?_ ?_ | refine yw ?_ ?_ | refine yk ?_ ?_ | exact trivial | with_reducible refine wA ?_ ?_ | refine ys ?_ ?_ | refine xs_done ?_ | refine yl ?_ ?_ | refine z1 c4 ?_ | refine z2 c4 ?_ | refine z3 c4 ?_ | refine z4 c4 ?_ | refine z5 c4 ?_ | refine z1 c5 ?_ | refine z2 c5 ?_ | refine z3 c5 ?_ | refine z4 c5 ?_ | refine z5 c5 ?_ | refine w8 ?_ | refine w9 ?_ | refine w1 ?_ | refine w2 ?_ | refine w3 ?_ | refine w4 ?_ | refine w5 ?_ | refine w6 ?_ | refine w7 ?_ | refine yo0 ?_ ?_ | refine yw0 ?_ ?_ | exact qq | fail)
  refine kretv rfl ⟨trivial, trivial⟩ rfl (eqB ?_)
  rfl
theorem takS_bd {d : Int} : ∀ {l : List Bk}, (∀ b, b ∈ l → 0 ≤ b.2 ∧ b.2 ≤ 1000000) → 0 ≤ takS l d ∧ takS l d ≤ 1000000 * l.length
  | [], _ => by simp [takS]
  | b :: l, h => by
    have ih := takS_bd (d := d) (l := l) fun y hy => h y (by simp [hy])
    have := h b (by simp)
    rw [takS, List.length_cons]
    split <;> omega
theorem takS_snoc {d : Int} {b : Bk} : ∀ (l : List Bk), takS (l ++ [b]) d = takS l d + (if b.1 ≤ d then b.2 else 0)
  | [] => by simp [takS]
  | x :: l => by rw [List.cons_append, takS, takS, takS_snoc]; omega
theorem pass_inv {r : LR} {B : Int → Int} (hr : LOk r) : ∀ (L : List Int) (a : Acc) (k : Nat), AInv a k → (∀ d, d ∈ L → 0 ≤ B d ∧ B d ≤ 2000000000) → (passS r B a L).2 = true → AInv (passS r B a L).1 (k + L.length)
  | [], a, k, h, _, _ => h
  | d :: L, a, k, h, hb, hc => by
    unfold passS at hc ⊢
    have hbd := hb d (by simp)
    split at hc
    · cases hc
    · rename_i hn
      rw [if_neg hn]
      have ih := pass_inv hr L (stepA r B a d) (k + 1) (inv_step hr h hbd.1 hbd.2) (fun x hx => hb x (by simp [hx])) hc
      rw [show k + (d :: L).length = k + 1 + L.length by simp; omega]
      exact ih
theorem bal_bd {r : LR} (hr : LOk r) {l : List Bk} (hn : l.length ≤ 2000) (hl : ∀ b, b ∈ l → 0 ≤ b.2 ∧ b.2 ≤ 1000000) {day : Int} (h2 : day ≤ 84005) (h : (balS r l day).2 = 0) : ABd (balS r l day).1 := by
  unfold balS at h ⊢
  split at h
  · rename_i hc
    rw [if_pos hc]
    have := pass_inv hr _ _ 0 (inv_0 hr) (fun x _ => by have := bkS_bd (x := x) hl; omega) hc
    have hd := ds_len r (l.map (·.1)) day
    have := hr.frm
    refine AInv.bd (k := 0 + (dsS r (l.map (·.1)) day).length) (by assumption) (by omega)
  · exact absurd h (by decide)
set_option maxHeartbeats 4000000 in
theorem conserves_c (n : Nat) (g : Nat → Int) (day : Int) (hn : n ≤ 9223372036854775807) : PureC G.P 3 [.vsl n 1 (tI g), vi day] (fun r => r = vb true) := by
  have cs := sane15_c
  have cm := mod_c day 900 (by omega) (by omega)
  refine pure_of (G := G.toPg) (fn := Tryd.f3) Tryd.func3 rfl rfl rfl ?_; intro Γ hk
  repeat' (first | refine yo ?_ ?_ | refine yw ?_ ?_ | refine yk ?_ ?_ | exact trivial | with_reducible refine wA ?_ ?_ | refine ys ?_ ?_ | refine xs_done ?_ | refine yl ?_ ?_ | refine w8 ?_ | refine w9 ?_ | refine w1 ?_ | refine w2 ?_ | refine w3 ?_ | refine w4 ?_ | refine w5 ?_ | refine w6 ?_ | refine w7 ?_ | refine yo0 ?_ ?_ | refine yw0 ?_ ?_ | exact qq | fail)
  refine pop_rowsc [] rfl rfl rfl rfl rfl rfl .nil (new_c n g) (by exact ⟨PEq.refl _, trivial⟩) ?_
  rintro r rows ⟨rfl, rfl⟩
  refine ⟨_, _, rfl, ⟨tape_cl _ _ _, trivial⟩, rfl, ?_⟩
  have b1 : (0 : Int) ≤ 0 := by omega
  have b2 : (0 : Int) ≤ n := by omega
  repeat' (first | refine yo ?_ ?_ | refine yw ?_ ?_ | refine yk ?_ ?_ | exact trivial | with_reducible refine wA ?_ ?_ | refine ys ?_ ?_ | refine xs_done ?_ | refine yl ?_ ?_ | (refine t1 leave_t hn ?_; rintro at_ _ b1 b2 ⟨r, rfl, hr⟩) | (refine t2 leave_t hn ?_; rintro at_ _ b1 b2 ⟨r, rfl, hr⟩) | (refine t3 leave_t hn ?_; rintro at_ _ b1 b2 ⟨r, rfl, hr⟩) | refine w8 ?_ | refine w9 ?_ | refine w1 ?_ | refine w2 ?_ | refine w3 ?_ | refine w4 ?_ | refine w5 ?_ | refine w6 ?_ | refine w7 ?_ | refine yo0 ?_ ?_ | refine yw0 ?_ ?_ | exact qq | fail)
  have tb := bookings_t r hr 4 (by omega)
  repeat' (first | refine yo ?_ ?_ | refine yw ?_ ?_ | refine yk ?_ ?_ | exact trivial | with_reducible refine wA ?_ ?_ | refine ys ?_ ?_ | refine xs_done ?_ | refine yl ?_ ?_ | refine xs_start (id := 4) true [.take 0, .take 1, .take 2, .one 3, .take 4, .take 5] 0 rfl rfl (by kernel_rfl) ?_ | refine xs_start (id := 14) true [.take 0, .take 1, .take 2, .take 3, .take 4, .take 5, .take 6, .take 7, .take 8, .take 9, .take 10, .take 11, .take 12, .take 13, .take 14, .take 15, .take 16, .take 17, .take 18, .take 19, .take 20, .take 21, .take 22, .take 23, .take 24, .take 25, .take 26, .take 27, .one 28, .take 29, .take 30, .take 31, .one 32, .take 33, .take 34] 0 rfl rfl (by kernel_rfl) ?_ | (refine t1 tb hn ?_; rintro at_ _ b1 b2 ⟨l, rfl, hl, hln⟩) | (refine t2 tb hn ?_; rintro at_ _ b1 b2 ⟨l, rfl, hl, hln⟩) | (refine t3 tb hn ?_; rintro at_ _ b1 b2 ⟨l, rfl, hl, hln⟩) | refine z1 cm ?_ | refine z2 cm ?_ | refine z3 cm ?_ | refine z4 cm ?_ | refine z5 cm ?_ | refine w8 ?_ | refine w9 ?_ | refine w1 ?_ | refine w2 ?_ | refine w3 ?_ | refine w4 ?_ | refine w5 ?_ | refine w6 ?_ | refine w7 ?_ | refine yo0 ?_ ?_ | refine yw0 ?_ ?_ | exact qq | fail)
  have hlo := hr.toLOk
  have hf0 := hr.f0
  have hf1 := hr.f1
  have hmd := Int.emod_nonneg day (show (900 : Int) ≠ 0 by decide)
  have hmd2 := Int.emod_lt_of_pos day (show (0 : Int) < 900 by decide)
  rw [w64 (n := r.frm + day % 900) (by omega) (by omega)]
  obtain ⟨d, hd⟩ : ∃ d, d = r.frm + day % 900 := ⟨_, rfl⟩
  rw [← hd]
  have cb := balance_c r hlo l hl (by omega) d (by omega) (by omega)
  have ca := accrued_c r hlo d (by omega) (by omega)
  have hcon := conserves (l := l) hlo (by omega) (fun b hb => ⟨hl.day b hb, hl.min b hb⟩) (day := d) (by omega) (by omega)
  have hbd := bal_bd (l := l) hlo (by omega) hl.min (day := d) (by omega)
  have hX2 : (balS r l d).2 = 20 ∨ (balS r l d).2 = 0 := by
    unfold balS
    split
    · exact .inr rfl
    · exact .inl rfl
  generalize balS r l d = X at *
  repeat' (first | refine yo ?_ ?_ | refine yw ?_ ?_ | refine yk ?_ ?_ | exact trivial | with_reducible refine wA ?_ ?_ | refine ys ?_ ?_ | refine xs_done ?_ | refine yl ?_ ?_ | refine z1 cb ?_ | refine z2 cb ?_ | refine z3 cb ?_ | refine z4 cb ?_ | refine z5 cb ?_ | refine w8 ?_ | refine w9 ?_ | refine w1 ?_ | refine w2 ?_ | refine w3 ?_ | refine w4 ?_ | refine w5 ?_ | refine w6 ?_ | refine w7 ?_ | refine yo0 ?_ ?_ | refine yw0 ?_ ?_ | exact qq | fail)
  rcases hX2 with e | e
  · rw [e]
    repeat' (first | refine yo ?_ ?_ | refine yw ?_ ?_ | refine yk ?_ ?_ | exact trivial | with_reducible refine wA ?_ ?_ | refine ys ?_ ?_ | refine xs_done ?_ | refine yl ?_ ?_ | refine z1 cs ?_ | refine z2 cs ?_ | refine z3 cs ?_ | refine z4 cs ?_ | refine z5 cs ?_ | refine w8 ?_ | refine w9 ?_ | refine w1 ?_ | refine w2 ?_ | refine w3 ?_ | refine w4 ?_ | refine w5 ?_ | refine w6 ?_ | refine w7 ?_ | refine yo0 ?_ ?_ | refine yw0 ?_ ?_ | exact qq | fail)
    exact kretv rfl ⟨trivial, trivial⟩ rfl rfl
  · have hcon := hcon e
    have hbd := hbd e
    unfold ABd at hbd
    rw [e]
    repeat' (first | refine yo ?_ ?_ | refine yw ?_ ?_ | refine yk ?_ ?_ | exact trivial | with_reducible refine wA ?_ ?_ | refine ys ?_ ?_ | refine xs_done ?_ | refine yl ?_ ?_ | refine w8 ?_ | refine w9 ?_ | refine w1 ?_ | refine w2 ?_ | refine w3 ?_ | refine w4 ?_ | refine w5 ?_ | refine w6 ?_ | refine w7 ?_ | refine yo0 ?_ ?_ | refine yw0 ?_ ?_ | exact qq | fail)
    refine pcan (st' := ⟨[(6, .ptr 0 0 0), (7, vBs l), (8, vi d), (9, .ptr 1 0 0), (11, vi (takS (l.take 0) d)), (12, vi ((0 : Nat) : Int))], [rLR r, rAc X.1]⟩) (can_rowsv [1, 2] (k0_sel hk rfl) rfl (.cons rfl rqq (.cons rfl rqq .nil)) tmq) ?_
    refine ploop (fun q st => ∃ i : Nat, i ≤ l.length ∧ q = l.length - i ∧ st = ⟨[(6, .ptr 0 0 0), (7, vBs l), (8, vi d), (9, .ptr 1 0 0), (11, vi (takS (l.take i) d)), (12, vi i)], [rLR r, rAc X.1]⟩) l.length ⟨0, by omega, rfl, rfl⟩ ?_
    rintro _ _ ⟨i, hi, rfl, rfl⟩
    repeat' (first | refine yo ?_ ?_ | refine yw ?_ ?_ | refine yk ?_ ?_ | exact trivial | with_reducible refine wA ?_ ?_ | refine ys ?_ ?_ | refine xs_done ?_ | refine yl ?_ ?_ | refine w8 ?_ | refine w9 ?_ | refine w1 ?_ | refine w2 ?_ | refine w3 ?_ | refine w4 ?_ | refine w5 ?_ | refine w6 ?_ | refine w7 ?_ | refine yo0 ?_ ?_ | refine yw0 ?_ ?_ | exact qq | fail)
    refine pcond rfl ?_ ?_ <;> intro hc <;> simp at hc
    · have hw : IntKind.i64.wrap ((i : Int) + 1) = ((i + 1 : Nat) : Int) := w64 (by omega) (by omega)
      have hst := takS_snoc (d := d) (b := lF dB l i) (l.take i)
      rw [← take_step (d := dB) hc] at hst
      have hb1 := takS_bd (d := d) (l := l.take i) fun b hb => hl.min b (List.mem_of_mem_take hb)
      have hb2 := hl.min (lF dB l i) (by rw [lF_get hc]; exact List.getElem_mem _)
      have hb3 : (l.take i).length ≤ 4 := by simp; omega
      repeat' (first | refine yo ?_ ?_ | refine yw ?_ ?_ | refine yk ?_ ?_ | exact trivial | with_reducible refine wA ?_ ?_ | refine ys ?_ ?_ | refine xs_done ?_ | refine yl ?_ ?_ | refine w8 ?_ | refine w9 ?_ | refine w1 ?_ | refine w2 ?_ | refine w3 ?_ | refine w4 ?_ | refine w5 ?_ | refine w6 ?_ | refine w7 ?_ | refine yo0 ?_ ?_ | refine yw0 ?_ ?_ | exact qq | fail)
      refine pcond (b := decide ((lF dB l i).1 ≤ d)) (eqB rfl) ?_ ?_ <;> intro h
      · have h := of_decide_eq_true h
        rw [if_pos h] at hst
        repeat' (first | refine yo ?_ ?_ | refine yw ?_ ?_ | refine yk ?_ ?_ | exact trivial | with_reducible refine wA ?_ ?_ | refine ys ?_ ?_ | refine xs_done ?_ | refine yl ?_ ?_ | refine w8 ?_ | refine w9 ?_ | refine w1 ?_ | refine w2 ?_ | refine w3 ?_ | refine w4 ?_ | refine w5 ?_ | refine w6 ?_ | refine w7 ?_ | refine yo0 ?_ ?_ | refine yw0 ?_ ?_ | exact qq | fail)
        rw [hw, show IntKind.i64.wrap (takS (l.take i) d + (lF dB l (i : Int).toNat).2) = takS (l.take (i + 1)) d from by rw [hst]; exact w64 (by show _ ≤ takS (l.take i) d + (lF dB l i).2; omega) (by show takS (l.take i) d + (lF dB l i).2 ≤ _; omega)]
        exact kloop_next (st' := ⟨[(6, .ptr 0 0 0), (7, vBs l), (8, vi d), (9, .ptr 1 0 0), (11, vi (takS (l.take (i + 1)) d)), (12, vi ((i + 1 : Nat) : Int))], [rLR r, rAc X.1]⟩) (l.length - (i + 1)) (can_rowsv [0,1] (k0_sel hk rfl) rfl (by (repeat (refine SelV.cons rfl rqq ?_)); exact SelV.nil) tmq) (by omega) ⟨i + 1, by omega, rfl, rfl⟩
      · have h := of_decide_eq_false h
        rw [if_neg h, Int.add_zero] at hst
        repeat' (first | refine yo ?_ ?_ | refine yw ?_ ?_ | refine yk ?_ ?_ | exact trivial | with_reducible refine wA ?_ ?_ | refine ys ?_ ?_ | refine xs_done ?_ | refine yl ?_ ?_ | refine w8 ?_ | refine w9 ?_ | refine w1 ?_ | refine w2 ?_ | refine w3 ?_ | refine w4 ?_ | refine w5 ?_ | refine w6 ?_ | refine w7 ?_ | refine yo0 ?_ ?_ | refine yw0 ?_ ?_ | exact qq | fail)
        rw [hw, ← hst]
        exact kloop_next (st' := ⟨[(6, .ptr 0 0 0), (7, vBs l), (8, vi d), (9, .ptr 1 0 0), (11, vi (takS (l.take (i + 1)) d)), (12, vi ((i + 1 : Nat) : Int))], [rLR r, rAc X.1]⟩) (l.length - (i + 1)) (can_rowsv [0,1] (k0_sel hk rfl) rfl (by (repeat (refine SelV.cons rfl rqq ?_)); exact SelV.nil) tmq) (by omega) ⟨i + 1, by omega, rfl, rfl⟩
    · rw [show l.take i = l by rw [show i = l.length by omega]; simp]
      obtain ⟨g1, g2, g3, g4⟩ := hcon
      have ht := takS_bd (d := d) hl.min
      have hab := accF_bd hlo (if r.too < d then r.too else d) (monthS (if r.too < d then r.too else d) + 1 - monthS r.frm).toNat
      repeat' (first | refine yo ?_ ?_ | refine yw ?_ ?_ | refine yk ?_ ?_ | exact trivial | with_reducible refine wA ?_ ?_ | refine ys ?_ ?_ | refine xs_done ?_ | refine yl ?_ ?_ | refine xs_start (id := 4) true [.take 0, .take 1, .take 2, .one 3, .take 4, .take 5] 0 rfl rfl (by kernel_rfl) ?_ | refine xs_start (id := 14) true [.take 0, .take 1, .take 2, .take 3, .take 4, .take 5, .take 6, .take 7, .take 8, .take 9, .take 10, .take 11, .take 12, .take 13, .take 14, .take 15, .take 16, .take 17, .take 18, .take 19, .take 20, .take 21, .take 22, .take 23, .take 24, .take 25, .take 26, .take 27, .one 28, .take 29, .take 30, .take 31, .one 32, .take 33, .take 34] 0 rfl rfl (by kernel_rfl) ?_ | refine z1 ca ?_ | refine z2 ca ?_ | refine z3 ca ?_ | refine z4 ca ?_ | refine z5 ca ?_ | refine z1 cs ?_ | refine z2 cs ?_ | refine z3 cs ?_ | refine z4 cs ?_ | refine z5 cs ?_ | refine w8 ?_ | refine w9 ?_ | refine w1 ?_ | refine w2 ?_ | refine w3 ?_ | refine w4 ?_ | refine w5 ?_ | refine w6 ?_ | refine w7 ?_ | refine yo0 ?_ ?_ | refine yw0 ?_ ?_ | exact qq | fail)
      rw [w64 (n := X.1.car + X.1.cur) (by omega) (by omega), w64 (n := X.1.car + X.1.cur + X.1.los) (by omega) (by omega), w64 (n := X.1.car + X.1.cur + X.1.los + X.1.tak) (by omega) (by omega)]
      refine kretv rfl ⟨trivial, trivial⟩ rfl (eqB ?_)
      rw [g4, g3]
      simp [g1, g2]
theorem conserves_walk (v : Value) (l : List Int) (x : Int) (w : World) (h : IntsAt w v l) (hG : GOk (fun b => b < w.heap.size) w) : Calls G.P 3 #[v, .int .i64 x] w fun e w' => e = .returned (.bool true) ∧ Ext w w' := by
  have hl : l.length ≤ 9223372036854775807 := by obtain ⟨_, _, _, _, h, _⟩ := h; exact h
  exact law_of (vs := [v, .int .i64 x]) (conserves_c l.length _ x hl) ⟨h.rel _, rfl, trivial⟩ hG
end Go.Proofs.YtpaeomgnmimjoaaDoor
