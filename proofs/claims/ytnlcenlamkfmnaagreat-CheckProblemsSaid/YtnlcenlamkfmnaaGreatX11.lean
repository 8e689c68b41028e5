/- payrollgen: leaves. -/
import Derived.Test.YtnlcenlamkfmnaaGreatX10
set_option linter.unusedSimpArgs false
set_option linter.unusedVariables false
set_option maxRecDepth 100000
namespace Go.Proofs.YtnlcenlamkfmnaaGreat
set_option maxHeartbeats 4000000 in
theorem leaf_number_t (rules : Int) : TapC G.P 25 [vT t0, vi rules] (fun r => ∃ e, r = vX e ∧ EOk 1 t0 e) := by
  intro n g at_ hn h1 h2
  refine ptr_of (G := G.toPg) (fn := Tryz.f25) Tryz.func25 rfl rfl rfl ?_; intro Γ hk
  repeat' (first | refine yo ?_ ?_ | refine yw ?_ ?_ | refine yk ?_ ?_ | exact trivial | with_reducible refine wA ?_ ?_ | refine ys ?_ ?_ | refine xs_done ?_ | refine yl ?_ ?_ | refine xs_start (id := 28) true [.take 0, .take 2, .take 3, .one 1, .take 4, .one 5] 0 rfl rfl (by kernel_rfl) ?_ | (refine pop_opt 88 rfl rfl ?_) | (refine pop_unguard rfl rfl ?_) | (refine pop_gfalse rfl rfl rfl rfl ?_) | (refine tn1 hn ?_; rintro at_ b1 b2 x hx1 hx2) | (refine pop_tapl (G := G) rfl rfl rfl rfl rfl rfl rfl rfl rfl rfl rfl (by omega) rfl (fun _ => rfl) rfl (pick_t _ _ rfl (by decide) (by decide)) hn (by assumption) (by assumption) ?_; rintro at_ _ b1 b2 ⟨x, rfl, hx⟩; simp only [unL, List.mem_cons, List.not_mem_nil, or_false] at hx) | (refine xs_one (ch := [_]) rfl rfl rfl (pz decimal_t hn ?_); rintro at_ _ b1 b2 ⟨dx, rfl, hdx⟩) | refine z1 number_c ?_ | refine z2 number_c ?_ | refine z3 number_c ?_ | refine z4 number_c ?_ | refine z5 number_c ?_ | refine z1 money_c ?_ | refine z2 money_c ?_ | refine z3 money_c ?_ | refine z4 money_c ?_ | refine z5 money_c ?_ | refine z1 hours_c ?_ | refine z2 hours_c ?_ | refine z3 hours_c ?_ | refine z4 hours_c ?_ | refine z5 hours_c ?_ | refine z1 rate_c ?_ | refine z2 rate_c ?_ | refine z3 rate_c ?_ | refine z4 rate_c ?_ | refine z5 rate_c ?_ | refine z1 truth_c ?_ | refine z2 truth_c ?_ | refine z3 truth_c ?_ | refine z4 truth_c ?_ | refine z5 truth_c ?_ | refine w8 ?_ | refine w9 ?_ | refine w1 ?_ | refine w2 ?_ | refine w3 ?_ | refine w4 ?_ | refine w5 ?_ | refine w6 ?_ | refine w7 ?_ | refine yo0 ?_ ?_ | refine yw0 ?_ ?_ | (refine pcond rfl ?_ ?_ <;> intro hc) | exact qq | fail)
  all_goals first
    | (refine xdone ?_; refine ktapL [] (qs := [vX (.mk _ _ _ _ _ _ _ _ _ 0 kn)]) rfl b1 b2 (by simp) rfl ⟨Nat.zero_lt_one, trivial⟩ ⟨argEx argNil, trivial⟩ ⟨_, rfl, ?_⟩; first | exact ok_name (by decide +kernel) (by decide) (fun N S P hE => hE.g) | exact ok_name (by decide +kernel) (by decide) (fun N S P hE => hE.r4) | exact ok_num hdx (by decide))
    | skip
  all_goals rcases (by omega : x = 0 ∨ x = 1) with rfl | rfl
  all_goals first
    | (exfalso; omega)
    | skip
  all_goals
    repeat' (first | refine yo ?_ ?_ | refine yw ?_ ?_ | refine yk ?_ ?_ | exact trivial | with_reducible refine wA ?_ ?_ | refine ys ?_ ?_ | refine xs_done ?_ | refine yl ?_ ?_ | refine w8 ?_ | refine w9 ?_ | refine w1 ?_ | refine w2 ?_ | refine w3 ?_ | refine w4 ?_ | refine w5 ?_ | refine w6 ?_ | refine w7 ?_ | refine yo0 ?_ ?_ | refine yw0 ?_ ?_ | exact qq | fail)
    refine xdone ?_; refine ktapL [] (qs := [vX (.mk _ _ _ _ _ _ _ _ _ 0 kn)]) rfl b1 b2 (by simp) rfl ⟨Nat.zero_lt_one, trivial⟩ ⟨argEx argNil, trivial⟩ ⟨_, rfl, ?_⟩; first | exact ok_name (by decide +kernel) (by decide) (fun N S P hE => hE.g) | exact ok_name (by decide +kernel) (by decide) (fun N S P hE => hE.r4) | exact ok_num hdx (by decide)
set_option maxHeartbeats 4000000 in
theorem leaf_money_t (rules : Int) : TapC G.P 25 [vT tM, vi rules] (fun r => ∃ e, r = vX e ∧ EOk 1 tM e) := by
  intro n g at_ hn h1 h2
  refine ptr_of (G := G.toPg) (fn := Tryz.f25) Tryz.func25 rfl rfl rfl ?_; intro Γ hk
  repeat' (first | refine yo ?_ ?_ | refine yw ?_ ?_ | refine yk ?_ ?_ | exact trivial | with_reducible refine wA ?_ ?_ | refine ys ?_ ?_ | refine xs_done ?_ | refine yl ?_ ?_ | refine xs_start (id := 28) true [.take 0, .take 2, .take 3, .one 1, .take 4, .one 5] 0 rfl rfl (by kernel_rfl) ?_ | (refine pop_opt 88 rfl rfl ?_) | (refine pop_unguard rfl rfl ?_) | (refine pop_gfalse rfl rfl rfl rfl ?_) | (refine tn1 hn ?_; rintro at_ b1 b2 x hx1 hx2) | (refine pop_tapl (G := G) rfl rfl rfl rfl rfl rfl rfl rfl rfl rfl rfl (by omega) rfl (fun _ => rfl) rfl (pick_t _ _ rfl (by decide) (by decide)) hn (by assumption) (by assumption) ?_; rintro at_ _ b1 b2 ⟨x, rfl, hx⟩; simp only [unL, List.mem_cons, List.not_mem_nil, or_false] at hx) | (refine xs_one (ch := [_]) rfl rfl rfl (pz decimal_t hn ?_); rintro at_ _ b1 b2 ⟨dx, rfl, hdx⟩) | refine z1 number_c ?_ | refine z2 number_c ?_ | refine z3 number_c ?_ | refine z4 number_c ?_ | refine z5 number_c ?_ | refine z1 money_c ?_ | refine z2 money_c ?_ | refine z3 money_c ?_ | refine z4 money_c ?_ | refine z5 money_c ?_ | refine z1 hours_c ?_ | refine z2 hours_c ?_ | refine z3 hours_c ?_ | refine z4 hours_c ?_ | refine z5 hours_c ?_ | refine z1 rate_c ?_ | refine z2 rate_c ?_ | refine z3 rate_c ?_ | refine z4 rate_c ?_ | refine z5 rate_c ?_ | refine z1 truth_c ?_ | refine z2 truth_c ?_ | refine z3 truth_c ?_ | refine z4 truth_c ?_ | refine z5 truth_c ?_ | refine w8 ?_ | refine w9 ?_ | refine w1 ?_ | refine w2 ?_ | refine w3 ?_ | refine w4 ?_ | refine w5 ?_ | refine w6 ?_ | refine w7 ?_ | refine yo0 ?_ ?_ | refine yw0 ?_ ?_ | (refine pcond rfl ?_ ?_ <;> intro hc) | exact qq | fail)
  all_goals first
    | (refine xdone ?_; refine ktapL [] (qs := [vX (.mk _ _ _ _ _ _ _ _ _ 0 kn)]) rfl b1 b2 (by simp) rfl ⟨Nat.zero_lt_one, trivial⟩ ⟨argEx argNil, trivial⟩ ⟨_, rfl, ?_⟩; first | exact ok_name (by decide +kernel) (by decide) (fun N S P hE => hE.r2) | exact ok_name (by decide +kernel) (by decide) (fun N S P hE => hE.a) | exact ok_num hdx (by decide) | exact ok_past (by assumption) (by decide +kernel) (by decide) (by rw [w64 (by omega) (by omega)]; omega) (fun N S P hE => hE.gross))
    | skip
  all_goals rcases (by omega : x = 0 ∨ x = 1) with rfl | rfl
  all_goals first
    | (exfalso; omega)
    | skip
  all_goals
    repeat' (first | refine yo ?_ ?_ | refine yw ?_ ?_ | refine yk ?_ ?_ | exact trivial | with_reducible refine wA ?_ ?_ | refine ys ?_ ?_ | refine xs_done ?_ | refine yl ?_ ?_ | refine w8 ?_ | refine w9 ?_ | refine w1 ?_ | refine w2 ?_ | refine w3 ?_ | refine w4 ?_ | refine w5 ?_ | refine w6 ?_ | refine w7 ?_ | refine yo0 ?_ ?_ | refine yw0 ?_ ?_ | exact qq | fail)
    refine xdone ?_; refine ktapL [] (qs := [vX (.mk _ _ _ _ _ _ _ _ _ 0 kn)]) rfl b1 b2 (by simp) rfl ⟨Nat.zero_lt_one, trivial⟩ ⟨argEx argNil, trivial⟩ ⟨_, rfl, ?_⟩; first | exact ok_name (by decide +kernel) (by decide) (fun N S P hE => hE.r2) | exact ok_name (by decide +kernel) (by decide) (fun N S P hE => hE.a) | exact ok_num hdx (by decide) | exact ok_past (by assumption) (by decide +kernel) (by decide) (by rw [w64 (by omega) (by omega)]; omega) (fun N S P hE => hE.gross)
set_option maxHeartbeats 4000000 in
theorem leaf_hours_t (rules : Int) : TapC G.P 25 [vT tH, vi rules] (fun r => ∃ e, r = vX e ∧ EOk 1 tH e) := by
  intro n g at_ hn h1 h2
  refine ptr_of (G := G.toPg) (fn := Tryz.f25) Tryz.func25 rfl rfl rfl ?_; intro Γ hk
  repeat' (first | refine yo ?_ ?_ | refine yw ?_ ?_ | refine yk ?_ ?_ | exact trivial | with_reducible refine wA ?_ ?_ | refine ys ?_ ?_ | refine xs_done ?_ | refine yl ?_ ?_ | refine xs_start (id := 28) true [.take 0, .take 2, .take 3, .one 1, .take 4, .one 5] 0 rfl rfl (by kernel_rfl) ?_ | (refine pop_opt 88 rfl rfl ?_) | (refine pop_unguard rfl rfl ?_) | (refine pop_gfalse rfl rfl rfl rfl ?_) | (refine tn1 hn ?_; rintro at_ b1 b2 x hx1 hx2) | (refine pop_tapl (G := G) rfl rfl rfl rfl rfl rfl rfl rfl rfl rfl rfl (by omega) rfl (fun _ => rfl) rfl (pick_t _ _ rfl (by decide) (by decide)) hn (by assumption) (by assumption) ?_; rintro at_ _ b1 b2 ⟨x, rfl, hx⟩; simp only [unL, List.mem_cons, List.not_mem_nil, or_false] at hx) | (refine xs_one (ch := [_]) rfl rfl rfl (pz decimal_t hn ?_); rintro at_ _ b1 b2 ⟨dx, rfl, hdx⟩) | refine z1 number_c ?_ | refine z2 number_c ?_ | refine z3 number_c ?_ | refine z4 number_c ?_ | refine z5 number_c ?_ | refine z1 money_c ?_ | refine z2 money_c ?_ | refine z3 money_c ?_ | refine z4 money_c ?_ | refine z5 money_c ?_ | refine z1 hours_c ?_ | refine z2 hours_c ?_ | refine z3 hours_c ?_ | refine z4 hours_c ?_ | refine z5 hours_c ?_ | refine z1 rate_c ?_ | refine z2 rate_c ?_ | refine z3 rate_c ?_ | refine z4 rate_c ?_ | refine z5 rate_c ?_ | refine z1 truth_c ?_ | refine z2 truth_c ?_ | refine z3 truth_c ?_ | refine z4 truth_c ?_ | refine z5 truth_c ?_ | refine w8 ?_ | refine w9 ?_ | refine w1 ?_ | refine w2 ?_ | refine w3 ?_ | refine w4 ?_ | refine w5 ?_ | refine w6 ?_ | refine w7 ?_ | refine yo0 ?_ ?_ | refine yw0 ?_ ?_ | (refine pcond rfl ?_ ?_ <;> intro hc) | exact qq | fail)
  all_goals first
    | (refine xdone ?_; refine ktapL [] (qs := [vX (.mk _ _ _ _ _ _ _ _ _ 0 kn)]) rfl b1 b2 (by simp) rfl ⟨Nat.zero_lt_one, trivial⟩ ⟨argEx argNil, trivial⟩ ⟨_, rfl, ?_⟩; first | exact ok_name (by decide +kernel) (by decide) (fun N S P hE => hE.h) | exact ok_num hdx (by decide) | exact ok_past (by assumption) (by decide +kernel) (by decide) (by rw [w64 (by omega) (by omega)]; omega) (fun N S P hE => hE.time))
    | skip
  all_goals rcases (by omega : x = 0 ∨ x = 1) with rfl | rfl
  all_goals first
    | (exfalso; omega)
    | skip
  all_goals
    repeat' (first | refine yo ?_ ?_ | refine yw ?_ ?_ | refine yk ?_ ?_ | exact trivial | with_reducible refine wA ?_ ?_ | refine ys ?_ ?_ | refine xs_done ?_ | refine yl ?_ ?_ | refine w8 ?_ | refine w9 ?_ | refine w1 ?_ | refine w2 ?_ | refine w3 ?_ | refine w4 ?_ | refine w5 ?_ | refine w6 ?_ | refine w7 ?_ | refine yo0 ?_ ?_ | refine yw0 ?_ ?_ | exact qq | fail)
    refine xdone ?_; refine ktapL [] (qs := [vX (.mk _ _ _ _ _ _ _ _ _ 0 kn)]) rfl b1 b2 (by simp) rfl ⟨Nat.zero_lt_one, trivial⟩ ⟨argEx argNil, trivial⟩ ⟨_, rfl, ?_⟩; first | exact ok_name (by decide +kernel) (by decide) (fun N S P hE => hE.h) | exact ok_num hdx (by decide) | exact ok_past (by assumption) (by decide +kernel) (by decide) (by rw [w64 (by omega) (by omega)]; omega) (fun N S P hE => hE.time)
set_option maxHeartbeats 4000000 in
theorem leaf_rate_t (rules : Int) : TapC G.P 25 [vT tR, vi rules] (fun r => ∃ e, r = vX e ∧ EOk 1 tR e) := by
  intro n g at_ hn h1 h2
  refine ptr_of (G := G.toPg) (fn := Tryz.f25) Tryz.func25 rfl rfl rfl ?_; intro Γ hk
  repeat' (first | refine yo ?_ ?_ | refine yw ?_ ?_ | refine yk ?_ ?_ | exact trivial | with_reducible refine wA ?_ ?_ | refine ys ?_ ?_ | refine xs_done ?_ | refine yl ?_ ?_ | refine xs_start (id := 28) true [.take 0, .take 2, .take 3, .one 1, .take 4, .one 5] 0 rfl rfl (by kernel_rfl) ?_ | (refine pop_opt 88 rfl rfl ?_) | (refine pop_unguard rfl rfl ?_) | (refine pop_gfalse rfl rfl rfl rfl ?_) | (refine tn1 hn ?_; rintro at_ b1 b2 x hx1 hx2) | (refine pop_tapl (G := G) rfl rfl rfl rfl rfl rfl rfl rfl rfl rfl rfl (by omega) rfl (fun _ => rfl) rfl (pick_t _ _ rfl (by decide) (by decide)) hn (by assumption) (by assumption) ?_; rintro at_ _ b1 b2 ⟨x, rfl, hx⟩; simp only [unL, List.mem_cons, List.not_mem_nil, or_false] at hx) | (refine xs_one (ch := [_]) rfl rfl rfl (pz decimal_t hn ?_); rintro at_ _ b1 b2 ⟨dx, rfl, hdx⟩) | refine z1 number_c ?_ | refine z2 number_c ?_ | refine z3 number_c ?_ | refine z4 number_c ?_ | refine z5 number_c ?_ | refine z1 money_c ?_ | refine z2 money_c ?_ | refine z3 money_c ?_ | refine z4 money_c ?_ | refine z5 money_c ?_ | refine z1 hours_c ?_ | refine z2 hours_c ?_ | refine z3 hours_c ?_ | refine z4 hours_c ?_ | refine z5 hours_c ?_ | refine z1 rate_c ?_ | refine z2 rate_c ?_ | refine z3 rate_c ?_ | refine z4 rate_c ?_ | refine z5 rate_c ?_ | refine z1 truth_c ?_ | refine z2 truth_c ?_ | refine z3 truth_c ?_ | refine z4 truth_c ?_ | refine z5 truth_c ?_ | refine w8 ?_ | refine w9 ?_ | refine w1 ?_ | refine w2 ?_ | refine w3 ?_ | refine w4 ?_ | refine w5 ?_ | refine w6 ?_ | refine w7 ?_ | refine yo0 ?_ ?_ | refine yw0 ?_ ?_ | (refine pcond rfl ?_ ?_ <;> intro hc) | exact qq | fail)
  all_goals first
    | (refine xdone ?_; refine ktapL [] (qs := [vX (.mk _ _ _ _ _ _ _ _ _ 0 kn)]) rfl b1 b2 (by simp) rfl ⟨Nat.zero_lt_one, trivial⟩ ⟨argEx argNil, trivial⟩ ⟨_, rfl, ?_⟩; first | exact ok_name (by decide +kernel) (by decide) (fun N S P hE => hE.r1) | exact ok_num hdx (by decide))
    | skip
  all_goals rcases (by omega : x = 0 ∨ x = 1) with rfl | rfl
  all_goals first
    | (exfalso; omega)
    | skip
  all_goals
    repeat' (first | refine yo ?_ ?_ | refine yw ?_ ?_ | refine yk ?_ ?_ | exact trivial | with_reducible refine wA ?_ ?_ | refine ys ?_ ?_ | refine xs_done ?_ | refine yl ?_ ?_ | refine w8 ?_ | refine w9 ?_ | refine w1 ?_ | refine w2 ?_ | refine w3 ?_ | refine w4 ?_ | refine w5 ?_ | refine w6 ?_ | refine w7 ?_ | refine yo0 ?_ ?_ | refine yw0 ?_ ?_ | exact qq | fail)
    refine xdone ?_; refine ktapL [] (qs := [vX (.mk _ _ _ _ _ _ _ _ _ 0 kn)]) rfl b1 b2 (by simp) rfl ⟨Nat.zero_lt_one, trivial⟩ ⟨argEx argNil, trivial⟩ ⟨_, rfl, ?_⟩; first | exact ok_name (by decide +kernel) (by decide) (fun N S P hE => hE.r1) | exact ok_num hdx (by decide)
set_option maxHeartbeats 4000000 in
theorem leaf_truth_t (rules : Int) : TapC G.P 25 [vT tB, vi rules] (fun r => ∃ e, r = vX e ∧ EOk 1 tB e) := by
  intro n g at_ hn h1 h2
  refine ptr_of (G := G.toPg) (fn := Tryz.f25) Tryz.func25 rfl rfl rfl ?_; intro Γ hk
  repeat' (first | refine yo ?_ ?_ | refine yw ?_ ?_ | refine yk ?_ ?_ | exact trivial | with_reducible refine wA ?_ ?_ | refine ys ?_ ?_ | refine xs_done ?_ | refine yl ?_ ?_ | refine xs_start (id := 28) true [.take 0, .take 2, .take 3, .one 1, .take 4, .one 5] 0 rfl rfl (by kernel_rfl) ?_ | (refine pop_opt 88 rfl rfl ?_) | (refine pop_unguard rfl rfl ?_) | (refine pop_gfalse rfl rfl rfl rfl ?_) | (refine tn1 hn ?_; rintro at_ b1 b2 x hx1 hx2) | (refine pop_tapl (G := G) rfl rfl rfl rfl rfl rfl rfl rfl rfl rfl rfl (by omega) rfl (fun _ => rfl) rfl (pick_t _ _ rfl (by decide) (by decide)) hn (by assumption) (by assumption) ?_; rintro at_ _ b1 b2 ⟨x, rfl, hx⟩; simp only [unL, List.mem_cons, List.not_mem_nil, or_false] at hx) | (refine xs_one (ch := [_]) rfl rfl rfl (pz decimal_t hn ?_); rintro at_ _ b1 b2 ⟨dx, rfl, hdx⟩) | refine z1 number_c ?_ | refine z2 number_c ?_ | refine z3 number_c ?_ | refine z4 number_c ?_ | refine z5 number_c ?_ | refine z1 money_c ?_ | refine z2 money_c ?_ | refine z3 money_c ?_ | refine z4 money_c ?_ | refine z5 money_c ?_ | refine z1 hours_c ?_ | refine z2 hours_c ?_ | refine z3 hours_c ?_ | refine z4 hours_c ?_ | refine z5 hours_c ?_ | refine z1 rate_c ?_ | refine z2 rate_c ?_ | refine z3 rate_c ?_ | refine z4 rate_c ?_ | refine z5 rate_c ?_ | refine z1 truth_c ?_ | refine z2 truth_c ?_ | refine z3 truth_c ?_ | refine z4 truth_c ?_ | refine z5 truth_c ?_ | refine w8 ?_ | refine w9 ?_ | refine w1 ?_ | refine w2 ?_ | refine w3 ?_ | refine w4 ?_ | refine w5 ?_ | refine w6 ?_ | refine w7 ?_ | refine yo0 ?_ ?_ | refine yw0 ?_ ?_ | (refine pcond rfl ?_ ?_ <;> intro hc) | exact qq | fail)
  all_goals first
    | (refine xdone ?_; refine ktapL [] (qs := [vX (.mk _ _ _ _ _ _ _ _ _ 0 kn)]) rfl b1 b2 (by simp) rfl ⟨Nat.zero_lt_one, trivial⟩ ⟨argEx argNil, trivial⟩ ⟨_, rfl, ?_⟩; first | exact ok_name (by decide +kernel) (by decide) (fun N S P hE => hE.f) | exact ok_name (by decide +kernel) (by decide) (fun N S P hE => hE.r3) | exact ok_truth (by omega))
    | skip
  all_goals rcases (by omega : x = 0 ∨ x = 1) with rfl | rfl
  all_goals first
    | (exfalso; omega)
    | skip
  all_goals
    repeat' (first | refine yo ?_ ?_ | refine yw ?_ ?_ | refine yk ?_ ?_ | exact trivial | with_reducible refine wA ?_ ?_ | refine ys ?_ ?_ | refine xs_done ?_ | refine yl ?_ ?_ | refine w8 ?_ | refine w9 ?_ | refine w1 ?_ | refine w2 ?_ | refine w3 ?_ | refine w4 ?_ | refine w5 ?_ | refine w6 ?_ | refine w7 ?_ | refine yo0 ?_ ?_ | refine yw0 ?_ ?_ | exact qq | fail)
    refine xdone ?_; refine ktapL [] (qs := [vX (.mk _ _ _ _ _ _ _ _ _ 0 kn)]) rfl b1 b2 (by simp) rfl ⟨Nat.zero_lt_one, trivial⟩ ⟨argEx argNil, trivial⟩ ⟨_, rfl, ?_⟩; first | exact ok_name (by decide +kernel) (by decide) (fun N S P hE => hE.f) | exact ok_name (by decide +kernel) (by decide) (fun N S P hE => hE.r3) | exact ok_truth (by omega)
end Go.Proofs.YtnlcenlamkfmnaaGreat
