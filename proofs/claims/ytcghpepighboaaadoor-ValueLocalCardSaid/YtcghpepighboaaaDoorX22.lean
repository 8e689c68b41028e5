/- payrollgen: agreements. -/
import Derived.Test.YtcghpepighboaaaDoorX17
import Derived.Test.YtcghpepighboaaaDoorX21c
import Derived.Test.YtcghpepighboaaaDoorPvF
set_option linter.unusedSimpArgs false
set_option linter.unusedVariables false
set_option maxRecDepth 100000
namespace Go.Proofs.YtcghpepighboaaaDoor
set_option maxHeartbeats 8000000 in
theorem agreement_r (h : Nat) (h1 : 1 ≤ h) (h32 : h ≤ 32) (hX : ∀ t, t ∈ tysA → ∀ rules : Int, TapC G.P 22 [vT t, vi h, vi rules] (fun r => ∃ e, r = vX e ∧ EOk (max h 1) t e)) (wild : Bool) (n : Nat) (g : Nat → Int) (at_ : Int) (hn : n ≤ 9223372036854775807) (h1' : 0 ≤ at_) (h2' : at_ ≤ n) : RowsC G.P 46 [tapeRow n g at_] [.ptr 0 0 0, vi h, vb wild] (agrPost h n g) := by
  refine rows_of (G := G.toPg) (fn := Tryd.f46) Tryd.func46 rfl rfl rfl ?_; intro Γ hk
  replace hk : Γ.k0 = 1 := hk
  repeat' (first | refine yo ?_ ?_ | refine yw ?_ ?_ | refine yk ?_ ?_ | exact trivial | with_reducible refine wA ?_ ?_ | refine ys ?_ ?_ | refine xs_done ?_ | refine yl ?_ ?_ | refine z1 number_c ?_ | refine z2 number_c ?_ | refine z3 number_c ?_ | refine z4 number_c ?_ | refine z5 number_c ?_ | refine z1 money_c ?_ | refine z2 money_c ?_ | refine z3 money_c ?_ | refine z4 money_c ?_ | refine z5 money_c ?_ | refine z1 hours_c ?_ | refine z2 hours_c ?_ | refine z3 hours_c ?_ | refine z4 hours_c ?_ | refine z5 hours_c ?_ | refine z1 rate_c ?_ | refine z2 rate_c ?_ | refine z3 rate_c ?_ | refine z4 rate_c ?_ | refine z5 rate_c ?_ | refine z1 truth_c ?_ | refine z2 truth_c ?_ | refine z3 truth_c ?_ | refine z4 truth_c ?_ | refine z5 truth_c ?_ | refine w8 ?_ | refine w9 ?_ | refine w1 ?_ | refine w2 ?_ | refine w3 ?_ | refine w4 ?_ | refine w5 ?_ | refine w6 ?_ | refine w7 ?_ | refine yo0 ?_ ?_ | refine yw0 ?_ ?_ | exact qq | fail)
  refine pcan (st' := ⟨[(0, .ptr 0 0 0), (1, vi h), (2, vb wild), (6, .ptr 1 0 0), (7, .ptr 2 0 0)], [tapeRow n g at_, rZA, rA 5 3, vRow cD 21 5 (lF dD ins5)]⟩) (can_rowsv [0, 1, 2, 3] (k0_sel hk rfl) rfl (.cons rfl (RowEq.cl (tape_cl _ _ _)) (.cons rfl rqq (.cons rfl rqq (.cons rfl (o_eqP (Nat.le_refl _) fun a ha b hb => by
    rcases (by omega : a = 0 ∨ a = 1 ∨ a = 2 ∨ a = 3 ∨ a = 4) with rfl | rfl | rfl | rfl | rfl <;> rcases split21 hb with rfl | rfl | rfl | rfl | rfl | rfl | rfl | rfl | rfl | rfl | rfl | rfl | rfl | rfl | rfl | rfl | rfl | rfl | rfl | rfl | rfl <;> first | exact PEq.refl _ | exact peq_nil) .nil)))) tmq) ?_
  repeat' (first | refine yo ?_ ?_ | refine yw ?_ ?_ | refine yk ?_ ?_ | exact trivial | with_reducible refine wA ?_ ?_ | refine ys ?_ ?_ | refine xs_done ?_ | refine yl ?_ ?_ | refine xs_startH (id := 3) [1,2] true [.take 0, .take 1, .take 2, .take 5, .one 3, .one 4, .one 6, .one 7, .one 8, .one 9, .take 10, .one 11] 0 rfl (by kernel_rfl) ?_ | (exact ⟨Nat.le_refl _, (by rw [hk]; exact Nat.le_of_ble_eq_true rfl), Nat.le_of_ble_eq_true rfl, Nat.le_of_ble_eq_true rfl, Nat.le_of_ble_eq_true rfl⟩) | (refine t1 ((scale_t n_w tR 20454)) hn ?_; rintro at_ _ b1 b2 ⟨d1, rfl, hd1⟩) | (refine t2 ((scale_t n_w tR 20454)) hn ?_; rintro at_ _ b1 b2 ⟨d1, rfl, hd1⟩) | (refine t3 ((scale_t n_w tR 20454)) hn ?_; rintro at_ _ b1 b2 ⟨d1, rfl, hd1⟩) | (refine t1 ((scale_t n_s t0 20454)) hn ?_; rintro at_ _ b1 b2 ⟨d2, rfl, hd2⟩) | (refine t2 ((scale_t n_s t0 20454)) hn ?_; rintro at_ _ b1 b2 ⟨d2, rfl, hd2⟩) | (refine t3 ((scale_t n_s t0 20454)) hn ?_; rintro at_ _ b1 b2 ⟨d2, rfl, hd2⟩) | (refine tn1 hn ?_; rintro at_ b1 b2 x hx1 hx2) | refine z1 number_c ?_ | refine z2 number_c ?_ | refine z3 number_c ?_ | refine z4 number_c ?_ | refine z5 number_c ?_ | refine z1 money_c ?_ | refine z2 money_c ?_ | refine z3 money_c ?_ | refine z4 money_c ?_ | refine z5 money_c ?_ | refine z1 hours_c ?_ | refine z2 hours_c ?_ | refine z3 hours_c ?_ | refine z4 hours_c ?_ | refine z5 hours_c ?_ | refine z1 rate_c ?_ | refine z2 rate_c ?_ | refine z3 rate_c ?_ | refine z4 rate_c ?_ | refine z5 rate_c ?_ | refine z1 truth_c ?_ | refine z2 truth_c ?_ | refine z3 truth_c ?_ | refine z4 truth_c ?_ | refine z5 truth_c ?_ | refine w8 ?_ | refine w9 ?_ | refine w1 ?_ | refine w2 ?_ | refine w3 ?_ | refine w4 ?_ | refine w5 ?_ | refine w6 ?_ | refine w7 ?_ | refine yo0 ?_ ?_ | refine yw0 ?_ ?_ | exact qq | fail)
  have hB := (((ab5 h).snoc (by omega) (d := d1) (by rw [hd1.eq]; rfl) (gd_sc hd1 mm (by decide) (by decide) rfl (by decide))).snoc (by omega) (d := d2) (by rw [hd2.eq]; rfl) (gd_sc hd2 mm (by decide) (by decide) rfl (by decide)))
  refine pcan (st' := ⟨[(0, .ptr 0 0 0), (1, vi h), (2, vb wild), (6, .ptr 1 0 0), (7, .ptr 2 0 0), (42, vb (decide (x = 0)))], [tapeRow n g at_, rZA, rA 7 3, vRow cD 21 7 (lF dD (ins5 ++ [d1, d2]))]⟩) (can_rowsv [0, 1, 2, 5] (k0_sel hk rfl) rfl (.cons rfl (RowEq.cl (tape_cl _ _ _)) (.cons rfl rqq (.cons rfl rqq (.cons rfl (app_2 cD_cl (l := ins5) rfl (fun _ => rfl) rfl rfl) .nil)))) tmq) ?_
  refine pcut (fun st => ∃ (at' : Int) (k : Nat) (l : List Df), 0 ≤ at' ∧ at' ≤ n ∧ l.length = k + 1 ∧ AB h 8 l ∧ st = ⟨[(0, .ptr 0 0 0), (1, vi h), (2, vb wild), (6, .ptr 1 0 0), (7, .ptr 2 0 0)], [tapeRow n g at', rZA, rA (k + 1) 3, vRow cD 21 (k + 1) (lF dD l)]⟩) (pcond rfl ?_ ?_) ?_
  · intro hc
    repeat' (first | refine yo ?_ ?_ | refine yw ?_ ?_ | refine yk ?_ ?_ | exact trivial | with_reducible refine wA ?_ ?_ | refine ys ?_ ?_ | refine xs_done ?_ | refine yl ?_ ?_ | refine xs_startH (id := 5) [1,2] true [.take 0, .take 1, .take 2, .one 3, .one 4, .one 5, .one 6, .take 7, .one 8] 0 rfl (by kernel_rfl) ?_ | (exact ⟨Nat.le_refl _, (by rw [hk]; exact Nat.le_of_ble_eq_true rfl), Nat.le_of_ble_eq_true rfl, Nat.le_of_ble_eq_true rfl, Nat.le_of_ble_eq_true rfl⟩) | (refine t1 ((scale_t n_w tR 20459)) hn ?_; rintro at_ _ b1 b2 ⟨d3, rfl, hd3⟩) | (refine t2 ((scale_t n_w tR 20459)) hn ?_; rintro at_ _ b1 b2 ⟨d3, rfl, hd3⟩) | (refine t3 ((scale_t n_w tR 20459)) hn ?_; rintro at_ _ b1 b2 ⟨d3, rfl, hd3⟩) | refine z1 number_c ?_ | refine z2 number_c ?_ | refine z3 number_c ?_ | refine z4 number_c ?_ | refine z5 number_c ?_ | refine z1 money_c ?_ | refine z2 money_c ?_ | refine z3 money_c ?_ | refine z4 money_c ?_ | refine z5 money_c ?_ | refine z1 hours_c ?_ | refine z2 hours_c ?_ | refine z3 hours_c ?_ | refine z4 hours_c ?_ | refine z5 hours_c ?_ | refine z1 rate_c ?_ | refine z2 rate_c ?_ | refine z3 rate_c ?_ | refine z4 rate_c ?_ | refine z5 rate_c ?_ | refine z1 truth_c ?_ | refine z2 truth_c ?_ | refine z3 truth_c ?_ | refine z4 truth_c ?_ | refine z5 truth_c ?_ | refine w8 ?_ | refine w9 ?_ | refine w1 ?_ | refine w2 ?_ | refine w3 ?_ | refine w4 ?_ | refine w5 ?_ | refine w6 ?_ | refine w7 ?_ | refine yo0 ?_ ?_ | refine yw0 ?_ ?_ | exact qq | fail)
    exact kcut (st' := ⟨[(0, .ptr 0 0 0), (1, vi h), (2, vb wild), (6, .ptr 1 0 0), (7, .ptr 2 0 0)], [tapeRow n g _, rZA, rA (7 + 1) 3, vRow cD 21 (7 + 1) (lF dD ((ins5 ++ [d1, d2]) ++ [d3]))]⟩) (can_rowsv [0, 1, 2, 5] (k0_sel hk rfl) rfl (.cons rfl (RowEq.cl (tape_cl _ _ _)) (.cons rfl rqq (.cons rfl rqq (.cons rfl (app_l cD_cl (l := ins5 ++ [d1, d2]) rfl rfl rfl) .nil)))) tmq) ⟨_, 7, _, b1, b2, rfl, hB.snoc (by omega) (d := d3) (by rw [hd3.eq]; rfl) (gd_sc hd3 mm (by decide) (by decide) rfl (by decide)), rfl⟩
  · intro hc
    repeat' (first | refine yo ?_ ?_ | refine yw ?_ ?_ | refine yk ?_ ?_ | exact trivial | with_reducible refine wA ?_ ?_ | refine ys ?_ ?_ | refine xs_done ?_ | refine yl ?_ ?_ | refine w8 ?_ | refine w9 ?_ | refine w1 ?_ | refine w2 ?_ | refine w3 ?_ | refine w4 ?_ | refine w5 ?_ | refine w6 ?_ | refine w7 ?_ | refine yo0 ?_ ?_ | refine yw0 ?_ ?_ | exact qq | fail)
    exact kcut (st' := ⟨[(0, .ptr 0 0 0), (1, vi h), (2, vb wild), (6, .ptr 1 0 0), (7, .ptr 2 0 0)], [tapeRow n g at_, rZA, rA (6 + 1) 3, vRow cD 21 (6 + 1) (lF dD (ins5 ++ [d1, d2]))]⟩) (can_rowsv [0, 1, 2, 3] (k0_sel hk rfl) rfl (.cons rfl (RowEq.cl (tape_cl _ _ _)) (.cons rfl rqq (.cons rfl rqq (.cons rfl (RowEq.cl (v_cl cD_cl _ _ _)) .nil)))) tmq) ⟨_, 6, _, b1, b2, rfl, hB.skip (by omega) (.inl ks_w), rfl⟩
  rintro _ ⟨at', k, l, b1, b2, hlk, hA, rfl⟩
  repeat' (first | refine yo ?_ ?_ | refine yw ?_ ?_ | refine yk ?_ ?_ | exact trivial | with_reducible refine wA ?_ ?_ | refine ys ?_ ?_ | refine xs_done ?_ | refine yl ?_ ?_ | refine z1 number_c ?_ | refine z2 number_c ?_ | refine z3 number_c ?_ | refine z4 number_c ?_ | refine z5 number_c ?_ | refine z1 money_c ?_ | refine z2 money_c ?_ | refine z3 money_c ?_ | refine z4 money_c ?_ | refine z5 money_c ?_ | refine z1 hours_c ?_ | refine z2 hours_c ?_ | refine z3 hours_c ?_ | refine z4 hours_c ?_ | refine z5 hours_c ?_ | refine z1 rate_c ?_ | refine z2 rate_c ?_ | refine z3 rate_c ?_ | refine z4 rate_c ?_ | refine z5 rate_c ?_ | refine z1 truth_c ?_ | refine z2 truth_c ?_ | refine z3 truth_c ?_ | refine z4 truth_c ?_ | refine z5 truth_c ?_ | refine w8 ?_ | refine w9 ?_ | refine w1 ?_ | refine w2 ?_ | refine w3 ?_ | refine w4 ?_ | refine w5 ?_ | refine w6 ?_ | refine w7 ?_ | refine yo0 ?_ ?_ | refine yw0 ?_ ?_ | exact qq | fail)
  refine pcan (st' := ⟨[(0, .ptr 0 0 0), (1, vi h), (2, vb wild), (6, .ptr 1 0 0), (7, .ptr 2 0 0), (8, .lsl 4 0 4), (9, .lsl 5 0 4), (10, vi 0)], [tapeRow n g at', rZA, rA (k + 1) 3, vRow cD 21 (k + 1) (lF dD l), oRow cSt 1 4 (lF ⟨#[]⟩ nmsR), oRow cT 4 4 (lF t0 tysR)]⟩) (can_rowsv [0, 1, 2, 3, 4, 5] (k0_sel hk rfl) rfl (.cons rfl (RowEq.cl (tape_cl _ _ _)) (.cons rfl rqq (.cons rfl rqq (.cons rfl (RowEq.cl (v_cl cD_cl _ _ _)) (.cons rfl (o_eq cSt_cl (Nat.le_refl _) fun a ha b hb => by
    have ha : a < 4 := ha
    have hb : b < 1 := hb
    obtain rfl : b = 0 := by omega
    rcases (by omega : a = 0 ∨ a = 1 ∨ a = 2 ∨ a = 3) with rfl | rfl | rfl | rfl <;> rfl) (.cons rfl (o_eq cT_cl (Nat.le_refl _) fun a ha b hb => by
    have ha : a < 4 := ha
    have hb : b < 4 := hb
    rcases (by omega : a = 0 ∨ a = 1 ∨ a = 2 ∨ a = 3) with rfl | rfl | rfl | rfl <;> rcases (by omega : b = 0 ∨ b = 1 ∨ b = 2 ∨ b = 3) with rfl | rfl | rfl | rfl <;> rfl) .nil)))))) tmq) ?_
  refine pcutx (fun st => ∃ (at' : Int) (k : Nat) (l : List Df), 0 ≤ at' ∧ at' ≤ n ∧ l.length = k + 1 ∧ AB h 16 l ∧ st = ⟨[(0, .ptr 0 0 0), (1, vi h), (6, .ptr 1 0 0), (7, .ptr 2 0 0)], [tapeRow n g at', rZA, rA (k + 1) 3, vRow cD 21 (k + 1) (lF dD l)]⟩) ?_ (by rintro _ ⟨at', k, l, b1, b2, hlk, hA, rfl⟩; exact agr_pay h h1 h32 hX n g hn Γ hk at' k l b1 b2 hlk hA)
  refine ploop (fun q st => ∃ (b : Bool) (at' : Int) (i k : Nat) (l : List Df), 0 ≤ at' ∧ at' ≤ n ∧ i ≤ 4 ∧ q = 4 - i ∧ l.length = k + 1 ∧ AB h (8 + 2 * i) l ∧ st = ⟨[(0, .ptr 0 0 0), (1, vi h), (2, vb b), (6, .ptr 1 0 0), (7, .ptr 2 0 0), (8, .lsl 4 0 4), (9, .lsl 5 0 4), (10, vi i)], [tapeRow n g at', rZA, rA (k + 1) 3, vRow cD 21 (k + 1) (lF dD l), oRow cSt 1 4 (lF ⟨#[]⟩ nmsR), oRow cT 4 4 (lF t0 tysR)]⟩) 4 ⟨wild, at', 0, k, l, b1, b2, by omega, rfl, hlk, hA, rfl⟩ ?_
  clear hlk hA b1 b2
  rintro _ _ ⟨b, at', i, k, l, b1, b2, hi, rfl, hlk, hA, rfl⟩
  repeat' (first | refine yo ?_ ?_ | refine yw ?_ ?_ | refine yk ?_ ?_ | exact trivial | with_reducible refine wA ?_ ?_ | refine ys ?_ ?_ | refine xs_done ?_ | refine yl ?_ ?_ | refine w8 ?_ | refine w9 ?_ | refine w1 ?_ | refine w2 ?_ | refine w3 ?_ | refine w4 ?_ | refine w5 ?_ | refine w6 ?_ | refine w7 ?_ | refine yo0 ?_ ?_ | refine yw0 ?_ ?_ | exact qq | fail)
  refine pcond rfl ?_ ?_ <;> intro hc <;> simp at hc
  · have hwi : IntKind.i64.wrap ((i : Int) + 1) = ((i + 1 : Nat) : Int) := w64 (by omega) (by omega)
    have i0 : 0 + (i : Int).toNat = i := by omega
    have iX : ∀ rules : Int, TapC G.P 22 [vT (lF t0 tysR (0 + (i : Int).toNat)), vi h, vi rules] (fun r => ∃ e, r = vX e ∧ EOk (max h 1) (lF t0 tysR i) e) := fun rules => by rw [i0]; exact hX _ (rule_ty (by omega)) rules
    rcases b with _ | _
    all_goals
      repeat' (first | refine yo ?_ ?_ | refine yw ?_ ?_ | refine yk ?_ ?_ | exact trivial | with_reducible refine wA ?_ ?_ | refine ys ?_ ?_ | refine xs_done ?_ | refine yl ?_ ?_ | (refine pop_gfalse rfl rfl rfl rfl ?_) | (refine pop_opt 65 rfl rfl ?_) | (refine pop_unguard rfl rfl ?_) | (refine tn1 hn ?_; rintro at_ b1 b2 x hx1 hx2) | refine w8 ?_ | refine w9 ?_ | refine w1 ?_ | refine w2 ?_ | refine w3 ?_ | refine w4 ?_ | refine w5 ?_ | refine w6 ?_ | refine w7 ?_ | refine yo0 ?_ ?_ | refine yw0 ?_ ?_ | (refine pcond rfl ?_ ?_ <;> intro hc) | exact qq | fail)
    all_goals
      refine pcan (st' := ⟨[(0, .ptr 0 0 0), (1, vi h), (2, vb _), (6, .ptr 1 0 0), (7, .ptr 2 0 0), (8, .lsl 4 0 4), (9, .lsl 5 0 4), (10, vi i), (11, vi _), (12, vi 0)], [tapeRow n g _, rZA, rA (k + 1) 3, vRow cD 21 (k + 1) (lF dD l), oRow cSt 1 4 (lF ⟨#[]⟩ nmsR), oRow cT 4 4 (lF t0 tysR)]⟩) (can_rowsv [0, 1, 2, 3, 4, 5] (k0_sel hk rfl) rfl (.cons rfl (RowEq.cl (tape_cl _ _ _)) (.cons rfl rqq (.cons rfl rqq (.cons rfl (RowEq.cl (v_cl cD_cl _ _ _)) (.cons rfl (RowEq.cl (o_cl cSt_cl _ _ _)) (.cons rfl (RowEq.cl (o_cl cT_cl _ _ _)) .nil)))))) tmq) ?_
      refine ploop (fun q st => ∃ (b : Bool) (at' rules : Int) (v k : Nat) (l : List Df), 0 ≤ at' ∧ at' ≤ n ∧ v ≤ 2 ∧ q = 2 - v ∧ l.length = k + 1 ∧ AB h (8 + 2 * i + v) l ∧ st = ⟨[(0, .ptr 0 0 0), (1, vi h), (2, vb b), (6, .ptr 1 0 0), (7, .ptr 2 0 0), (8, .lsl 4 0 4), (9, .lsl 5 0 4), (10, vi i), (11, vi rules), (12, vi v)], [tapeRow n g at', rZA, rA (k + 1) 3, vRow cD 21 (k + 1) (lF dD l), oRow cSt 1 4 (lF ⟨#[]⟩ nmsR), oRow cT 4 4 (lF t0 tysR)]⟩) 2 ⟨_, _, _, 0, k, l, by assumption, by assumption, by omega, rfl, hlk, hA, rfl⟩ ?_
      clear hlk hA b1 b2
      rintro _ _ ⟨b, at', rules, v, k, l, b1, b2, hv, rfl, hlk, hA, rfl⟩
      have hkl := hA.len
      have iX := iX rules
      repeat' (first | refine yo ?_ ?_ | refine yw ?_ ?_ | refine yk ?_ ?_ | exact trivial | with_reducible refine wA ?_ ?_ | refine ys ?_ ?_ | refine xs_done ?_ | refine yl ?_ ?_ | (exact (show ¬ (2 : Int) = 0 from by decide)) | (refine tn1 hn ?_; rintro at_ b1 b2 x hx1 hx2) | refine w8 ?_ | refine w9 ?_ | refine w1 ?_ | refine w2 ?_ | refine w3 ?_ | refine w4 ?_ | refine w5 ?_ | refine w6 ?_ | refine w7 ?_ | refine yo0 ?_ ?_ | refine yw0 ?_ ?_ | exact qq | fail)
      have hwq : IntKind.i64.wrap (x.tdiv 2) = x.tdiv 2 := by
        have : x.tdiv 2 = x / 2 := Int.tdiv_eq_ediv_of_nonneg hx1
        rw [this]; exact w64 (by omega) (by omega)
      have htd : x.tdiv 2 = x / 2 := Int.tdiv_eq_ediv_of_nonneg hx1
      refine pcond rfl ?_ ?_ <;> intro hc4 <;> simp at hc4
      · have hv1 : v ≤ 1 := by omega
        have hwv : IntKind.i64.wrap ((v : Int) + 1) = ((v + 1 : Nat) : Int) := w64 (by omega) (by omega)
        have hwd : IntKind.i64.wrap (20454 + IntKind.i64.wrap (5 * (v : Int))) = 20454 + 5 * (v : Int) := by rw [w64 (n := 5 * (v : Int)) (by omega) (by omega), w64 (by omega) (by omega)]
        repeat' (first | refine yo ?_ ?_ | refine yw ?_ ?_ | refine yk ?_ ?_ | exact trivial | with_reducible refine wA ?_ ?_ | refine ys ?_ ?_ | refine xs_done ?_ | refine yl ?_ ?_ | refine xs_startH (id := 16) [1,2,4,5] true [.take 0, .take 1, .take 2, .take 3, .take 4, .take 5, .take 6, .take 7, .take 8, .take 9, .take 10, .take 11, .take 12, .take 13, .take 14, .take 15, .take 16, .take 17, .take 18, .take 19, .one 20, .take 21, .one 22, .one 23, .take 24, .one 25] 0 rfl (by kernel_rfl) ?_ | exact ⟨Nat.le_refl _, (by rw [hk]; exact Nat.le_of_ble_eq_true rfl), Nat.le_of_eq (Nat.zero_add _), (show (_ : Nat) * 216 ≤ 140737488355328 from by omega), (show (_ : Nat) ≤ 9223372036854775807 from by omega)⟩ | (refine t1 iX hn ?_; rintro at_ _ b1 b2 ⟨e, rfl, he⟩) | (refine t2 iX hn ?_; rintro at_ _ b1 b2 ⟨e, rfl, he⟩) | (refine t3 iX hn ?_; rintro at_ _ b1 b2 ⟨e, rfl, he⟩) | refine w8 ?_ | refine w9 ?_ | refine w1 ?_ | refine w2 ?_ | refine w3 ?_ | refine w4 ?_ | refine w5 ?_ | refine w6 ?_ | refine w7 ?_ | refine yo0 ?_ ?_ | refine yw0 ?_ ?_ | exact qq | fail)
        refine xdone ?_
        rw [hwv, hwd, i0]
        have ht := rule_tab (i := i) (by omega)
        have hks := ks_rule (i := i) (v := v) (by omega) (by omega)
        exact kloop_next (st' := ⟨[(0, .ptr 0 0 0), (1, vi h), (2, vb b), (6, .ptr 1 0 0), (7, .ptr 2 0 0), (8, .lsl 4 0 4), (9, .lsl 5 0 4), (10, vi i), (11, vi rules), (12, vi ((v + 1 : Nat) : Int))], [tapeRow n g _, rZA, rA (k + 1 + 1) 3, vRow cD 21 (k + 1 + 1) (lF dD (l ++ [dR (lF ⟨#[]⟩ nmsR i) (lF t0 tysR i) (20454 + 5 * v) e])), oRow cSt 1 4 (lF ⟨#[]⟩ nmsR), oRow cT 4 4 (lF t0 tysR)]⟩) (2 - (v + 1)) (can_rowsv [0, 1, 2, 7, 4, 5] (k0_sel hk rfl) rfl (.cons rfl (RowEq.cl (tape_cl _ _ _)) (.cons rfl rqq (.cons rfl rqq (.cons rfl (app_p cD_cl (by assumption) (fun b hb => by rcases split21 hb with rfl | rfl | rfl | rfl | rfl | rfl | rfl | rfl | rfl | rfl | rfl | rfl | rfl | rfl | rfl | rfl | rfl | rfl | rfl | rfl | rfl <;> first | exact PEq.refl _ | exact peq_nil) rfl) (.cons rfl (RowEq.cl (o_cl cSt_cl _ _ _)) (.cons rfl (RowEq.cl (o_cl cT_cl _ _ _)) .nil)))))) tmq) (by omega) ⟨b, _, rules, v + 1, k + 1, _, by assumption, by assumption, by omega, rfl, by rw [List.length_append, hlk]; rfl, hA.snoc (by omega) (d := dR (lF ⟨#[]⟩ nmsR i) (lF t0 tysR i) (20454 + 5 * v) e) hks.symm (gd_rule (he.mono (by omega)) h32 ht.1 ht.2.1 ht.2.2 (by omega)), rfl⟩
      · repeat' (first | refine yo ?_ ?_ | refine yw ?_ ?_ | refine yk ?_ ?_ | exact trivial | with_reducible refine wA ?_ ?_ | refine ys ?_ ?_ | refine xs_done ?_ | refine yl ?_ ?_ | refine w8 ?_ | refine w9 ?_ | refine w1 ?_ | refine w2 ?_ | refine w3 ?_ | refine w4 ?_ | refine w5 ?_ | refine w6 ?_ | refine w7 ?_ | refine yo0 ?_ ?_ | refine yw0 ?_ ?_ | exact qq | fail)
        rw [hwi]
        exact kloop_next (st' := ⟨[(0, .ptr 0 0 0), (1, vi h), (2, vb b), (6, .ptr 1 0 0), (7, .ptr 2 0 0), (8, .lsl 4 0 4), (9, .lsl 5 0 4), (10, vi ((i + 1 : Nat) : Int))], [tapeRow n g _, rZA, rA (k + 1) 3, vRow cD 21 (k + 1) (lF dD l), oRow cSt 1 4 (lF ⟨#[]⟩ nmsR), oRow cT 4 4 (lF t0 tysR)]⟩) (4 - (i + 1)) (can_rowsv [0, 1, 2, 3, 4, 5] (k0_sel hk rfl) rfl (.cons rfl (RowEq.cl (tape_cl _ _ _)) (.cons rfl rqq (.cons rfl rqq (.cons rfl (RowEq.cl (v_cl cD_cl _ _ _)) (.cons rfl (RowEq.cl (o_cl cSt_cl _ _ _)) (.cons rfl (RowEq.cl (o_cl cT_cl _ _ _)) .nil)))))) tmq) (by omega) ⟨b, _, i + 1, k, l, by assumption, by assumption, by omega, rfl, hlk, (by
          rcases (by omega : v = 1 ∨ v = 2) with rfl | rfl
          · exact hA.skip (by omega) (.inl (ks_skip (by omega)))
          · exact hA), rfl⟩
  · obtain rfl : i = 4 := by omega
    repeat' (first | refine yo ?_ ?_ | refine yw ?_ ?_ | refine yk ?_ ?_ | exact trivial | with_reducible refine wA ?_ ?_ | refine ys ?_ ?_ | refine xs_done ?_ | refine yl ?_ ?_ | refine w8 ?_ | refine w9 ?_ | refine w1 ?_ | refine w2 ?_ | refine w3 ?_ | refine w4 ?_ | refine w5 ?_ | refine w6 ?_ | refine w7 ?_ | refine yo0 ?_ ?_ | refine yw0 ?_ ?_ | exact qq | fail)
    refine kblock_hit rfl ?_
    exact kcut (st' := ⟨[(0, .ptr 0 0 0), (1, vi h), (6, .ptr 1 0 0), (7, .ptr 2 0 0)], [tapeRow n g at', rZA, rA (k + 1) 3, vRow cD 21 (k + 1) (lF dD l)]⟩) (can_rowsv [0, 1, 2, 3] (k0_sel hk rfl) rfl (.cons rfl (RowEq.cl (tape_cl _ _ _)) (.cons rfl rqq (.cons rfl rqq (.cons rfl (RowEq.cl (v_cl cD_cl _ _ _)) .nil)))) tmq) ⟨at', k, l, b1, b2, hlk, hA, rfl⟩
def RowsR (τ : Nat → Option Nat) : List Row → List Row → Prop
  | [], [] => True
  | r :: rs, q :: qs => RowEq (r.ren τ) q ∧ RowsR τ rs qs
  | _, _ => False
theorem RowsR.get {τ : Nat → Option Nat} : ∀ (rows rows2 : List Row), RowsR τ rows rows2 → rows.length = rows2.length ∧ ∀ (i : Nat) (q : Row), rows2[i]? = some q → ∃ r, rows[i]? = some r ∧ RowEq (r.ren τ) q
  | [], [], _ => ⟨rfl, fun i q h => by simp at h⟩
  | r :: rs, q :: qs, h => by
    obtain ⟨h1, h2⟩ := RowsR.get rs qs h.2
    refine ⟨by simp [h1], fun i x hx => ?_⟩
    cases i with
    | zero => simp at hx; subst hx; exact ⟨r, rfl, h.1⟩
    | succ i => exact h2 i x (by simpa using hx)
  | [], _ :: _, h => h.elim
  | _ :: _, [], h => h.elim
theorem putPl_eq2 (τ : Nat → Option Nat) : ∀ (s : List Nat) (rows rows2 mem mem' : List Row), RowsR τ rows rows2 → mem'.length = mem.length → (∀ (l : Nat) (r' : Row), mem'[l]? = some r' → ∃ r : Row, mem[l]? = some r ∧ RowEq r r') →
    (putPl s rows2 mem').length = (putRows τ s rows mem).length ∧ ∀ (l : Nat) (r' : Row), (putPl s rows2 mem')[l]? = some r' → ∃ r : Row, (putRows τ s rows mem)[l]? = some r ∧ RowEq r r'
  | [], ext, ext2, mem, mem', hc, hl, he => by
    obtain ⟨g1, g2⟩ := RowsR.get ext ext2 hc
    refine ⟨by simp [putPl, putRows, hl, g1], fun l r' h => ?_⟩
    rw [putPl] at h
    rw [putRows]
    by_cases hlt : l < mem'.length
    · rw [List.getElem?_append_left hlt] at h
      rw [List.getElem?_append_left (by omega)]
      exact he l r' h
    · rw [List.getElem?_append_right (by omega)] at h
      rw [List.getElem?_append_right (by omega), List.getElem?_map]
      rw [hl] at h
      obtain ⟨r, e1, e2⟩ := g2 _ _ h
      exact ⟨r.ren τ, by rw [e1]; rfl, e2⟩
  | x :: s, r :: rows, q :: rows2, mem, mem', hc, hl, he => by
    rw [putPl, putRows]
    refine putPl_eq2 τ s rows rows2 _ _ hc.2 (by simp [hl]) (fun l r' h => ?_)
    by_cases e : l = x
    · subst e
      by_cases hlt : l < mem'.length
      · rw [List.getElem?_set_self hlt] at h
        simp only [Option.some.injEq] at h
        subst h
        exact ⟨r.ren τ, List.getElem?_set_self (by omega), hc.1⟩
      · rw [List.getElem?_eq_none (by simp; omega)] at h; cases h
    · rw [List.getElem?_set_ne (Ne.symm e)] at h
      rw [List.getElem?_set_ne (Ne.symm e)]
      exact he l r' h
  | _ :: _, [], [], mem, mem', _, hl, he => ⟨by simp [putPl, putRows, hl], fun l r' h => he l r' h⟩
  | _ :: _, [], _ :: _, _, _, hc, _, _ => hc.elim
  | _ :: _, _ :: _, [], _, _, hc, _, _ => hc.elim
section
variable {G : Pg} {N : Nat} {Γ : Fr} {st : PSt}
variable {K : Exit → PSt → Prop} {ops : Array Oper} {o : Oper} {rest : List Oper} {d : Nat}
theorem pop_rowsd {f : FuncId} {x : Operand} {args : Array Operand} {tys : Array TypeId} {n : Nat} {c : Nat → PV} {rows : List Row} {qs : List PV} {post : PV → List Row → Prop} (sel : List Nat) (hg : o.guard = none) (hdst : o.dst = some d) (hN : Nat.blt d N = true)
    (ho : o.op = .call ⟨.value x, args, tys⟩) (hx : st.ev x = .clo f n c) (hd : nodupB sel = true) (hs : SelOk st.mem sel sel rows) (hc : RowsC G.P f rows qs post) (ha : PEqL ((args.toList.map st.ev ++ capL n c 0).map (PV.ren (inv sel 0))) qs)
    (h : ∀ r rows', post r rows' → ∃ rows2 m r', RowsR (tau sel (lenK st.mem 0)) rows' rows2 ∧ putP sel rows2 st.mem some = some m ∧ PEq (r.ren (tau sel (lenK st.mem 0))) r' ∧ POps G N Γ ops rest (PSt.put ⟨st.tm, m⟩ d r') K) : POps G N Γ ops (o :: rest) st K := .mk fun ρ I a w hrel => by
  have hw : Region.wanted o (yielded ops a.tmps) = true := by simp [Region.wanted, hg]
  simp only [wpList, hw, if_true]
  refine .inl (rows_core sel hrel ho (hx ▸ ev_rel hrel x) hd hs hc ha ?_)
  intro v r rows' ρ2 I' w' hpost hr _ hv
  obtain ⟨rows2, m, r', e0, e1, e2, hk⟩ := h r rows' hpost
  rw [putP_eq] at e1
  rw [lenK_eq, Nat.zero_add] at e0 e2
  simp only [Option.some.injEq] at e1
  obtain ⟨q1, q2⟩ := putPl_eq2 (tau sel st.mem.length) sel rows' rows2 st.mem st.mem e0 rfl (fun l r' h => ⟨r', h, RowEq.refl _⟩)
  have hr2 := hr.rowsEq q1 q2
  rw [← q1] at hv
  rw [e1] at hr2 hv
  simp only [hdst]
  exact hk.go ρ2 I' _ w' (hr2.put (by rwa [Nat.blt_eq] at hN) (e2 _ _ _ _ _ hv))
end
theorem peqA {τ : Nat → Option Nat} {nm : ByteArray} {l l' i n : Nat} (h : τ l = some l') : PEq ((PV.agg 2 (nthP [vs nm, .lsl l i n])).ren τ) (.agg 2 (nthP [vs nm, .lsl l' i n])) :=
  (show PEq (.agg 2 _) (.agg 2 _) from PEq.agg fun j hj => by
    rcases (by omega : j = 0 ∨ j = 1) with rfl | rfl
    · exact PEq.refl _
    · show PEq (match τ l with | some l' => PV.lsl l' i n | none => .junk) (.lsl l' i n)
      rw [h]; exact PEq.refl _)
theorem rA_eq {τ : Nat → Option Nat} {k l l' : Nat} (h : τ l = some l') : RowEq (Row.ren τ (rA (k + 1) l)) (rA (k + 1) l') := ⟨rfl, rfl, Nat.le_refl _, fun i hi j hj => by
  have hj : j < 2 := hj
  rcases (by omega : j = 0 ∨ j = 1) with rfl | rfl
  · exact PEq.refl _
  · show PEq (match τ l with | some l' => PV.lsl l' 0 (k + 1) | none => .junk) (.lsl l' 0 (k + 1))
    rw [h]; exact PEq.refl _⟩
theorem agreement4_r (h : Nat) (hh : h ≤ 5) (wild : Bool) (n : Nat) (g : Nat → Int) (at_ : Int) (hn : n ≤ 9223372036854775807) (h1' : 0 ≤ at_) (h2' : at_ ≤ n) : RowsC G.P 46 [tapeRow n g at_] [.ptr 0 0 0, vi (h + 1 : Nat), vb wild] (agrPost (h + 1) n g) :=
  agreement_r (h + 1) (by omega) (by omega) (fun t ht rules => expr_t h hh t ht rules) wild n g at_ hn h1' h2'
theorem argAgr {mem : List Row} {L : List Nat} {nm : ByteArray} {l : List Df} {p : PV} (h : ArgOk mem L p (vDs l)) : ArgOk mem L (.agg 2 (nthP [vs nm, p])) (vA nm l) := argAggL fun i hi => by
  rcases (by omega : i = 0 ∨ i = 1) with rfl | rfl
  · exact argVal
  · exact h
end Go.Proofs.YtcghpepighboaaaDoor
