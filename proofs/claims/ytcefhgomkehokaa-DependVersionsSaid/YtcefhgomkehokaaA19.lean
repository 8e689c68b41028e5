/- payrollgen: expressions of any height up to 5. -/
import Derived.Test.YtcefhgomkehokaaA14
import Derived.Test.YtcefhgomkehokaaA15
import Derived.Test.YtcefhgomkehokaaA16
import Derived.Test.YtcefhgomkehokaaA17
import Derived.Test.YtcefhgomkehokaaA18
import Derived.Test.YtcefhgomkehokaaA13
import Derived.Test.YtcefhgomkehokaaA11
import Derived.Test.YtcefhgomkehokaaA08
import Derived.Test.YtcefhgomkehokaaA12
import Derived.Test.YtcefhgomkehokaaA05
import Derived.Test.YtcefhgomkehokaaA10
import Derived.Test.YtcefhgomkehokaaA07
set_option linter.unusedSimpArgs false
set_option linter.unusedVariables false
set_option maxRecDepth 100000
namespace Go.Proofs.Ytcefhgomkehokaa
set_option maxHeartbeats 4000000 in
theorem expr_one_t : XT 1 := by
  intro t ht rules
  simp only [tys5, List.mem_cons, List.not_mem_nil, or_false] at ht
  have l1 := leaf_number_t rules
  have l2 := leaf_money_t rules
  have l3 := leaf_hours_t rules
  have l4 := leaf_rate_t rules
  have l5 := leaf_truth_t rules
  intro n g at_ hn h1 h2
  rcases ht with rfl | rfl | rfl | rfl | rfl
  all_goals
    refine ptr_of (G := G.toPg) (fn := Try.f20) Try.func20 rfl rfl rfl ?_; intro Γ hk
    repeat' (first | refine yo ?_ ?_ | refine yw ?_ ?_ | refine yk ?_ ?_ | exact trivial | with_reducible refine wA ?_ ?_ | refine ys ?_ ?_ | refine xs_done ?_ | refine yl ?_ ?_ | refine w8 ?_ | refine w9 ?_ | refine w1 ?_ | refine w2 ?_ | refine w3 ?_ | refine w4 ?_ | refine w5 ?_ | refine w6 ?_ | refine w7 ?_ | refine yo0 ?_ ?_ | refine yw0 ?_ ?_ | exact qq | fail)
    rw [show decide (((1 : Nat) : Int) ≤ 1) = true from rfl]
    repeat' (first | refine yo ?_ ?_ | refine yw ?_ ?_ | refine yk ?_ ?_ | exact trivial | with_reducible refine wA ?_ ?_ | refine ys ?_ ?_ | refine xs_done ?_ | refine yl ?_ ?_ | (refine pop_gfalse rfl rfl rfl rfl ?_) | (refine t1 l1 hn ?_; rintro at_ _ b1 b2 ⟨e, rfl, he⟩) | (refine t2 l1 hn ?_; rintro at_ _ b1 b2 ⟨e, rfl, he⟩) | (refine t3 l1 hn ?_; rintro at_ _ b1 b2 ⟨e, rfl, he⟩) | (refine t1 l2 hn ?_; rintro at_ _ b1 b2 ⟨e, rfl, he⟩) | (refine t2 l2 hn ?_; rintro at_ _ b1 b2 ⟨e, rfl, he⟩) | (refine t3 l2 hn ?_; rintro at_ _ b1 b2 ⟨e, rfl, he⟩) | (refine t1 l3 hn ?_; rintro at_ _ b1 b2 ⟨e, rfl, he⟩) | (refine t2 l3 hn ?_; rintro at_ _ b1 b2 ⟨e, rfl, he⟩) | (refine t3 l3 hn ?_; rintro at_ _ b1 b2 ⟨e, rfl, he⟩) | (refine t1 l4 hn ?_; rintro at_ _ b1 b2 ⟨e, rfl, he⟩) | (refine t2 l4 hn ?_; rintro at_ _ b1 b2 ⟨e, rfl, he⟩) | (refine t3 l4 hn ?_; rintro at_ _ b1 b2 ⟨e, rfl, he⟩) | (refine t1 l5 hn ?_; rintro at_ _ b1 b2 ⟨e, rfl, he⟩) | (refine t2 l5 hn ?_; rintro at_ _ b1 b2 ⟨e, rfl, he⟩) | (refine t3 l5 hn ?_; rintro at_ _ b1 b2 ⟨e, rfl, he⟩) | refine w8 ?_ | refine w9 ?_ | refine w1 ?_ | refine w2 ?_ | refine w3 ?_ | refine w4 ?_ | refine w5 ?_ | refine w6 ?_ | refine w7 ?_ | refine yo0 ?_ ?_ | refine yw0 ?_ ?_ | exact qq | fail)
    refine xdone ?_
    exact ktap rfl b1 b2 rfl ⟨Nat.zero_lt_one, trivial⟩ rfl ⟨e, rfl, he⟩
theorem expr_up (k : Nat) (hk5 : k ≤ 100) (ih : XT (k + 1)) : XT (k + 2) := by
  intro t ht rules
  simp only [tys5, List.mem_cons, List.not_mem_nil, or_false] at ht
  rcases ht with rfl | rfl | rfl | rfl | rfl
  · exact expr_number_t k hk5 ih rules
  · exact expr_money_t k hk5 ih rules
  · exact expr_hours_t k hk5 ih rules
  · exact expr_rate_t k hk5 ih rules
  · exact expr_truth_t k hk5 ih rules
theorem expr_t : ∀ k, k ≤ 5 → XT (k + 1)
  | 0, _ => expr_one_t
  | k + 1, hk => expr_up k (by omega) (expr_t k (by omega))
end Go.Proofs.Ytcefhgomkehokaa
namespace Go.Proofs.Ytcefhgomkehokaa
set_option maxHeartbeats 20000000 in
theorem agr_pay (h : Nat) (h1 : 1 ≤ h) (h32 : h ≤ 32) (hX : ∀ t, t ∈ tysA → ∀ rules : Int, TapC G.P 20 [vT t, vi h, vi rules] (fun r => ∃ e, r = vX e ∧ EOk (max h 1) t e)) (n : Nat) (g : Nat → Int) (hn : n ≤ 9223372036854775807) (Γ : Fr) (hk : Γ.k0 = 1) (at_ : Int) (k : Nat) (l : List Df) (b1 : 0 ≤ at_) (b2 : at_ ≤ n) (hlk : l.length = k + 1) (hA : AB h 16 l) :
    PWp G.toPg Try.f6.ntmps Γ (dropS 7 (Try.f6.body.getD .skip)) ⟨[(0, .ptr 0 0 0), (1, vi h), (6, .ptr 1 0 0), (7, .ptr 2 0 0)], [tapeRow n g at_, rZA, rA (k + 1) 3, vRow cD 21 (k + 1) (lF dD l)]⟩ (KretR Try.f6.ntmps Γ G.tab Try.f6.results.toList 1 (agrPost h n g)) := by
  have hM := hX tM (by simp [tysA])
  repeat' (first | refine yo ?_ ?_ | refine yw ?_ ?_ | refine yk ?_ ?_ | exact trivial | with_reducible refine wA ?_ ?_ | refine ys ?_ ?_ | refine xs_done ?_ | refine yl ?_ ?_ | refine w8 ?_ | refine w9 ?_ | refine w1 ?_ | refine w2 ?_ | refine w3 ?_ | refine w4 ?_ | refine w5 ?_ | refine w6 ?_ | refine w7 ?_ | refine yo0 ?_ ?_ | refine yw0 ?_ ?_ | exact qq | fail)
  refine pcan (st' := ⟨[(0, .ptr 0 0 0), (1, vi h), (6, .ptr 1 0 0), (7, .ptr 2 0 0), (13, vi 0)], [tapeRow n g at_, rZA, rA (k + 1) 3, vRow cD 21 (k + 1) (lF dD l)]⟩) (can_rowsv [0, 1, 2, 3] (k0_sel hk rfl) rfl (.cons rfl (RowEq.cl (tape_cl _ _ _)) (.cons rfl rqq (.cons rfl rqq (.cons rfl (RowEq.cl (v_cl cD_cl _ _ _)) .nil)))) tmq) ?_
  refine pcutx (fun st => ∃ (at' : Int) (k : Nat) (l : List Df), 0 ≤ at' ∧ at' ≤ n ∧ l.length = k + 1 ∧ AGood h l ∧ st = ⟨[(0, .ptr 0 0 0), (6, .ptr 1 0 0), (7, .ptr 2 0 0)], [tapeRow n g at', rZA, rA (k + 1) 3, vRow cD 21 (k + 1) (lF dD l)]⟩) ?_ (by rintro _ ⟨at', k, l, b1, b2, hlk, hA, rfl⟩; exact agr_swap h n g hn Γ hk at' k l b1 b2 hlk hA)
  refine ploop (fun q st => ∃ (at' : Int) (v k : Nat) (l : List Df), 0 ≤ at' ∧ at' ≤ n ∧ v ≤ 2 ∧ q = 2 - v ∧ l.length = k + 1 ∧ AB h (16 + v) l ∧ st = ⟨[(0, .ptr 0 0 0), (1, vi h), (6, .ptr 1 0 0), (7, .ptr 2 0 0), (13, vi v)], [tapeRow n g at', rZA, rA (k + 1) 3, vRow cD 21 (k + 1) (lF dD l)]⟩) 2 ⟨at_, 0, k, l, b1, b2, by omega, rfl, hlk, hA, rfl⟩ ?_
  clear hlk hA b1 b2
  rintro _ _ ⟨at', v, k, l, b1, b2, hv, rfl, hlk, hA, rfl⟩
  have hkl := hA.len
  repeat' (first | refine yo ?_ ?_ | refine yw ?_ ?_ | refine yk ?_ ?_ | exact trivial | with_reducible refine wA ?_ ?_ | refine ys ?_ ?_ | refine xs_done ?_ | refine yl ?_ ?_ | (refine tn1 hn ?_; rintro at_ b1 b2 x hx1 hx2) | refine w8 ?_ | refine w9 ?_ | refine w1 ?_ | refine w2 ?_ | refine w3 ?_ | refine w4 ?_ | refine w5 ?_ | refine w6 ?_ | refine w7 ?_ | refine yo0 ?_ ?_ | refine yw0 ?_ ?_ | exact qq | fail)
  refine pcond rfl ?_ ?_ <;> intro hc4 <;> simp at hc4
  · have hv1 : v ≤ 1 := by omega
    have hwv : IntKind.i64.wrap ((v : Int) + 1) = ((v + 1 : Nat) : Int) := w64 (by omega) (by omega)
    obtain ⟨ht1, ht2, ht3⟩ := pay_tab3 hv1
    clear hx1 hx2 hc4
    repeat' (first | refine yo ?_ ?_ | refine yw ?_ ?_ | refine yk ?_ ?_ | exact trivial | with_reducible refine wA ?_ ?_ | refine ys ?_ ?_ | refine xs_done ?_ | refine yl ?_ ?_ | refine xs_startH (id := 20) [1,2] false [.take 0, .take 1, .take 3, .take 6, .take 8, .take 9, .take 10, .take 12, .take 14, .take 15, .take 16, .take 18, .take 7] 14 rfl (by kernel_rfl) ?_ | refine BrAll.cons ?_ ?_ | exact BrAll.nil | refine xs_brT (n := 27) [0, 1, 3, 6, 7, 8, 9, 10, 12, 14, 15, 16, 18] [(2, [.take 4], false, 12), (11, [], false, 13), (17, [], false, 13)] (by decide +kernel) rfl (by kernel_rfl) (by kernel_rfl) ?_ | refine xs_brT (n := 27) [0, 1, 3, 6, 7, 8, 9, 10, 12, 14, 15, 16, 17, 18] [(2, [.take 4], false, 11), (11, [], false, 12)] (by decide +kernel) rfl (by kernel_rfl) (by kernel_rfl) ?_ | refine xs_brT (n := 27) [0, 1, 3, 6, 7, 8, 9, 10, 11, 12, 14, 15, 16, 17, 18] [(2, [.take 4], false, 10), (13, [], false, 11)] (by decide +kernel) rfl (by kernel_rfl) (by kernel_rfl) ?_ | refine xs_brT (n := 27) [0, 1, 3, 6, 7, 8, 9, 10, 11, 12, 13, 14, 15, 16, 17, 18] [(2, [.take 4], false, 9), (19, [.take 20], false, 9)] (by decide +kernel) rfl (by kernel_rfl) (by kernel_rfl) ?_ | refine xs_brT (n := 27) [0, 1, 3, 6, 7, 8, 9, 10, 11, 12, 14, 15, 16, 18] [(2, [.take 4], false, 11), (13, [], false, 12), (17, [], false, 12)] (by decide +kernel) rfl (by kernel_rfl) (by kernel_rfl) ?_ | refine xs_brT (n := 27) [0, 1, 3, 6, 7, 8, 9, 10, 11, 12, 13, 14, 15, 16, 18] [(2, [.take 4], false, 10), (17, [], false, 11), (19, [], false, 11)] (by decide +kernel) rfl (by kernel_rfl) (by kernel_rfl) ?_ | refine xs_brT (n := 27) [0, 1, 3, 6, 7, 8, 9, 10, 11, 12, 13, 14, 15, 16, 18, 19] [(2, [.take 4], false, 9), (17, [.take 20], false, 9)] (by decide +kernel) rfl (by kernel_rfl) (by kernel_rfl) ?_ | refine xs_brT (n := 27) [0, 1, 2, 3, 4, 5, 6, 7, 8, 9, 10, 11, 12, 13, 14, 15, 16, 18] [(17, [.one 19, .take 20], false, 6), (19, [.one 17, .take 20], false, 6)] (by decide +kernel) rfl (by kernel_rfl) (by kernel_rfl) ?_ | refine xs_brT (n := 27) [0, 1, 2, 3, 4, 5, 6, 7, 8, 9, 10, 11, 12, 14, 15, 16, 18] [(13, [], false, 9), (17, [.one 13, .one 19, .take 20], false, 6)] (by decide +kernel) rfl (by kernel_rfl) (by kernel_rfl) ?_ | refine xs_brT (n := 27) [0, 1, 2, 3, 4, 5, 6, 7, 8, 9, 10, 12, 14, 15, 16, 18] [(11, [], false, 10), (17, [.one 11, .one 13, .one 19, .take 20], false, 6)] (by decide +kernel) rfl (by kernel_rfl) (by kernel_rfl) ?_ | refine xs_moreF (sch := [.take 5]) (fin := false) (m' := 11) (n := 27) [0, 1, 2, 3, 4, 6, 7, 8, 9, 10, 12, 14, 15, 16, 18] (by decide +kernel) (by kernel_rfl) ?_ | refine xs_moreF (sch := []) (fin := false) (m' := 11) (n := 27) [0, 1, 2, 3, 4, 5, 6, 7, 8, 9, 10, 12, 14, 15, 16, 18] (by decide +kernel) (by kernel_rfl) ?_ | refine xs_moreF (sch := [.take 5]) (fin := false) (m' := 10) (n := 27) [0, 1, 2, 3, 4, 6, 7, 8, 9, 10, 12, 14, 15, 16, 17, 18] (by decide +kernel) (by kernel_rfl) ?_ | refine xs_moreF (sch := [.one 11, .one 13, .one 19, .take 20]) (fin := false) (m' := 6) (n := 27) [0, 1, 2, 3, 4, 5, 6, 7, 8, 9, 10, 12, 14, 15, 16, 17, 18] (by decide +kernel) (by kernel_rfl) ?_ | refine xs_moreF (sch := [.take 21]) (fin := false) (m' := 5) (n := 27) [0, 1, 2, 3, 4, 5, 6, 7, 8, 9, 10, 11, 12, 13, 14, 15, 16, 17, 18, 19, 20] (by decide +kernel) (by kernel_rfl) ?_ | refine xs_moreF (sch := [.take 22, .one 23, .one 24, .take 25, .one 26]) (fin := true) (m' := 0) (n := 27) [0, 1, 2, 3, 4, 5, 6, 7, 8, 9, 10, 11, 12, 13, 14, 15, 16, 17, 18, 19, 20, 21] (by decide +kernel) (by kernel_rfl) ?_ | refine xs_moreF (sch := [.take 5]) (fin := false) (m' := 9) (n := 27) [0, 1, 2, 3, 4, 6, 7, 8, 9, 10, 11, 12, 14, 15, 16, 17, 18] (by decide +kernel) (by kernel_rfl) ?_ | refine xs_moreF (sch := [.one 13, .one 19, .take 20]) (fin := false) (m' := 6) (n := 27) [0, 1, 2, 3, 4, 5, 6, 7, 8, 9, 10, 11, 12, 14, 15, 16, 17, 18] (by decide +kernel) (by kernel_rfl) ?_ | refine xs_moreF (sch := [.take 5]) (fin := false) (m' := 8) (n := 27) [0, 1, 2, 3, 4, 6, 7, 8, 9, 10, 11, 12, 13, 14, 15, 16, 17, 18] (by decide +kernel) (by kernel_rfl) ?_ | refine xs_moreF (sch := [.one 19, .take 20]) (fin := false) (m' := 6) (n := 27) [0, 1, 2, 3, 4, 5, 6, 7, 8, 9, 10, 11, 12, 13, 14, 15, 16, 17, 18] (by decide +kernel) (by kernel_rfl) ?_ | refine xs_moreF (sch := [.take 21]) (fin := false) (m' := 8) (n := 27) [0, 1, 3, 6, 7, 8, 9, 10, 11, 12, 13, 14, 15, 16, 17, 18, 19, 20] (by decide +kernel) (by kernel_rfl) ?_ | refine xs_moreF (sch := [.one 2, .take 4]) (fin := false) (m' := 6) (n := 27) [0, 1, 3, 6, 7, 8, 9, 10, 11, 12, 13, 14, 15, 16, 17, 18, 19, 20, 21] (by decide +kernel) (by kernel_rfl) ?_ | refine xs_moreF (sch := [.take 5]) (fin := false) (m' := 5) (n := 27) [0, 1, 2, 3, 4, 6, 7, 8, 9, 10, 11, 12, 13, 14, 15, 16, 17, 18, 19, 20, 21] (by decide +kernel) (by kernel_rfl) ?_ | refine xs_moreF (sch := [.take 5]) (fin := false) (m' := 10) (n := 27) [0, 1, 2, 3, 4, 6, 7, 8, 9, 10, 11, 12, 14, 15, 16, 18] (by decide +kernel) (by kernel_rfl) ?_ | refine xs_moreF (sch := []) (fin := false) (m' := 10) (n := 27) [0, 1, 2, 3, 4, 5, 6, 7, 8, 9, 10, 11, 12, 14, 15, 16, 18] (by decide +kernel) (by kernel_rfl) ?_ | refine xs_moreF (sch := [.take 5]) (fin := false) (m' := 9) (n := 27) [0, 1, 2, 3, 4, 6, 7, 8, 9, 10, 11, 12, 13, 14, 15, 16, 18] (by decide +kernel) (by kernel_rfl) ?_ | refine xs_moreF (sch := []) (fin := false) (m' := 9) (n := 27) [0, 1, 2, 3, 4, 5, 6, 7, 8, 9, 10, 11, 12, 13, 14, 15, 16, 18] (by decide +kernel) (by kernel_rfl) ?_ | refine xs_moreF (sch := [.take 5]) (fin := false) (m' := 8) (n := 27) [0, 1, 2, 3, 4, 6, 7, 8, 9, 10, 11, 12, 13, 14, 15, 16, 18, 19] (by decide +kernel) (by kernel_rfl) ?_ | refine xs_moreF (sch := [.one 17, .take 20]) (fin := false) (m' := 6) (n := 27) [0, 1, 2, 3, 4, 5, 6, 7, 8, 9, 10, 11, 12, 13, 14, 15, 16, 18, 19] (by decide +kernel) (by kernel_rfl) ?_ | refine ⟨_, [], true, rfl, rfl, stepOp_pst rfl ?_ ?_⟩ | (refine xs_takeR rfl rfl rfl rfl (pread_cell (q := vs (lF ⟨#[]⟩ nmsP v)) rfl rfl rfl rfl rfl (nmP_row hv1)) rfl (show (0 + ((v : Nat) : Int).toNat) < 2 from by omega) ?_) | (refine xs_takeR rfl rfl rfl rfl (pread_aggs2 (q := [vi (lF dS stepL x.toNat).1, vi (lF dS stepL x.toNat).2]) rfl rfl rfl rfl rfl rfl (st3_row hx1 hx2)) rfl (show 0 + x.toNat < 3 from by omega) ?_) | exact ⟨Nat.le_refl _, (by rw [hk]; exact Nat.le_of_ble_eq_true rfl), Nat.le_of_eq (Nat.zero_add _), (show (_ : Nat) * 216 ≤ 140737488355328 from by omega), (show (_ : Nat) ≤ 9223372036854775807 from by omega)⟩ | (refine t1 ((hM _)) hn ?_; rintro at_ _ b1 b2 ⟨e, rfl, he⟩) | (refine t2 ((hM _)) hn ?_; rintro at_ _ b1 b2 ⟨e, rfl, he⟩) | (refine t3 ((hM _)) hn ?_; rintro at_ _ b1 b2 ⟨e, rfl, he⟩) | (refine tn3 hn ?_; rintro at_ b1 b2 x hx1 hx2) | (refine tn2 hn ?_; rintro at_ b1 b2 x hx1 hx2) | refine z1 money_c ?_ | refine z2 money_c ?_ | refine z3 money_c ?_ | refine z4 money_c ?_ | refine z5 money_c ?_ | refine w8 ?_ | refine w9 ?_ | refine w1 ?_ | refine w2 ?_ | refine w3 ?_ | refine w4 ?_ | refine w5 ?_ | refine w6 ?_ | refine w7 ?_ | refine yo0 ?_ ?_ | refine yw0 ?_ ?_ | exact qq | refine xs_growN 4 rfl rfl trivial ?_ | refine xs_growN 5 rfl rfl trivial ?_ | fail)
    all_goals
      rename_i at1 c1 c2 xm hm1 hm2
      refine xdone ?_
      rw [hwv]
      exact kloop_next (st' := ⟨[(0, .ptr 0 0 0), (1, vi h), (6, .ptr 1 0 0), (7, .ptr 2 0 0), (13, vi ((v + 1 : Nat) : Int))], [tapeRow n g _, rZA, rA (k + 1 + 1) 3, vRow cD 21 (k + 1 + 1) (lF dD (l ++ [dP (lF ⟨#[]⟩ nmsP v) e xm (lF dS stepL x.toNat)]))]⟩) (2 - (v + 1)) (can_rowsv [0, 1, 2, 7] (k0_sel hk rfl) rfl (.cons rfl (RowEq.cl (tape_cl _ _ _)) (.cons rfl rqq (.cons rfl rqq (.cons rfl (app_p cD_cl (by assumption) (fun b hb => by rcases split21 hb with rfl | rfl | rfl | rfl | rfl | rfl | rfl | rfl | rfl | rfl | rfl | rfl | rfl | rfl | rfl | rfl | rfl | rfl | rfl | rfl | rfl <;> first | exact PEq.refl _ | exact peq_nil) rfl) .nil)))) tmq) (by omega) ⟨_, v + 1, k + 1, _, by assumption, by assumption, by omega, rfl, by rw [List.length_append, hlk]; rfl, hA.snoc (by omega) (d := dP (lF ⟨#[]⟩ nmsP v) e xm (lF dS stepL x.toNat)) ht3.symm (gd_pay (he.mono (by omega)) h32 ht1 ht2 (by omega) (st3_mem hx1 hx2)), rfl⟩
  · repeat' (first | refine yo ?_ ?_ | refine yw ?_ ?_ | refine yk ?_ ?_ | exact trivial | with_reducible refine wA ?_ ?_ | refine ys ?_ ?_ | refine xs_done ?_ | refine yl ?_ ?_ | refine w8 ?_ | refine w9 ?_ | refine w1 ?_ | refine w2 ?_ | refine w3 ?_ | refine w4 ?_ | refine w5 ?_ | refine w6 ?_ | refine w7 ?_ | refine yo0 ?_ ?_ | refine yw0 ?_ ?_ | exact qq | fail)
    refine kblock_hit rfl ?_
    exact kcut (st' := ⟨[(0, .ptr 0 0 0), (6, .ptr 1 0 0), (7, .ptr 2 0 0)], [tapeRow n g _, rZA, rA (k + 1) 3, vRow cD 21 (k + 1) (lF dD l)]⟩) (can_rowsv [0, 1, 2, 3] (k0_sel hk rfl) rfl (.cons rfl (RowEq.cl (tape_cl _ _ _)) (.cons rfl rqq (.cons rfl rqq (.cons rfl (RowEq.cl (v_cl cD_cl _ _ _)) .nil)))) tmq) ⟨_, k, l, by assumption, by assumption, hlk, (by
      rcases (by omega : v = 1 ∨ v = 2) with rfl | rfl
      · exact (hA.skip (by omega) (.inr rfl)).good
      · exact hA.good), rfl⟩
end Go.Proofs.Ytcefhgomkehokaa
namespace Go.Proofs.Ytcefhgomkehokaa
set_option maxHeartbeats 8000000 in
theorem agreement_r (h : Nat) (h1 : 1 ≤ h) (h32 : h ≤ 32) (hX : ∀ t, t ∈ tysA → ∀ rules : Int, TapC G.P 20 [vT t, vi h, vi rules] (fun r => ∃ e, r = vX e ∧ EOk (max h 1) t e)) (wild : Bool) (n : Nat) (g : Nat → Int) (at_ : Int) (hn : n ≤ 9223372036854775807) (h1' : 0 ≤ at_) (h2' : at_ ≤ n) : RowsC G.P 6 [tapeRow n g at_] [.ptr 0 0 0, vi h, vb wild] (agrPost h n g) := by
  refine rows_of (G := G.toPg) (fn := Try.f6) Try.func6 rfl rfl rfl ?_; intro Γ hk
  replace hk : Γ.k0 = 1 := hk
  repeat' (first | refine yo ?_ ?_ | refine yw ?_ ?_ | refine yk ?_ ?_ | exact trivial | with_reducible refine wA ?_ ?_ | refine ys ?_ ?_ | refine xs_done ?_ | refine yl ?_ ?_ | refine z1 number_c ?_ | refine z2 number_c ?_ | refine z3 number_c ?_ | refine z4 number_c ?_ | refine z5 number_c ?_ | refine z1 money_c ?_ | refine z2 money_c ?_ | refine z3 money_c ?_ | refine z4 money_c ?_ | refine z5 money_c ?_ | refine z1 hours_c ?_ | refine z2 hours_c ?_ | refine z3 hours_c ?_ | refine z4 hours_c ?_ | refine z5 hours_c ?_ | refine z1 rate_c ?_ | refine z2 rate_c ?_ | refine z3 rate_c ?_ | refine z4 rate_c ?_ | refine z5 rate_c ?_ | refine z1 truth_c ?_ | refine z2 truth_c ?_ | refine z3 truth_c ?_ | refine z4 truth_c ?_ | refine z5 truth_c ?_ | refine w8 ?_ | refine w9 ?_ | refine w1 ?_ | refine w2 ?_ | refine w3 ?_ | refine w4 ?_ | refine w5 ?_ | refine w6 ?_ | refine w7 ?_ | refine yo0 ?_ ?_ | refine yw0 ?_ ?_ | exact qq | fail)
  refine pcan (st' := ⟨[(0, .ptr 0 0 0), (1, vi h), (2, vb wild), (6, .ptr 1 0 0), (7, .ptr 2 0 0)], [tapeRow n g at_, rZA, rA 5 3, vRow cD 21 5 (lF dD ins5)]⟩) (can_rowsv [0, 1, 2, 3] (k0_sel hk rfl) rfl (.cons rfl (RowEq.cl (tape_cl _ _ _)) (.cons rfl rqq (.cons rfl rqq (.cons rfl (o_eqP (Nat.le_refl _) fun a ha b hb => by
    rcases (by omega : a = 0 ∨ a = 1 ∨ a = 2 ∨ a = 3 ∨ a = 4) with rfl | rfl | rfl | rfl | rfl <;> rcases split21 hb with rfl | rfl | rfl | rfl | rfl | rfl | rfl | rfl | rfl | rfl | rfl | rfl | rfl | rfl | rfl | rfl | rfl | rfl | rfl | rfl | rfl <;> first | exact PEq.refl _ | exact peq_nil) .nil)))) tmq) ?_
  repeat' (first | refine yo ?_ ?_ | refine yw ?_ ?_ | refine yk ?_ ?_ | exact trivial | with_reducible refine wA ?_ ?_ | refine ys ?_ ?_ | refine xs_done ?_ | refine yl ?_ ?_ | refine xs_startH (id := 3) [1,2] true [.take 0, .take 1, .take 2, .take 5, .one 3, .one 4, .one 6, .one 7, .one 8, .one 9, .take 10, .one 11] 0 rfl (by kernel_rfl) ?_ | (exact ⟨Nat.le_refl _, (by rw [hk]; exact Nat.le_of_ble_eq_true rfl), Nat.le_of_ble_eq_true rfl, Nat.le_of_ble_eq_true rfl, Nat.le_of_ble_eq_true rfl⟩) | (refine t1 ((scale_t n_w tR 20454)) hn ?_; rintro at_ _ b1 b2 ⟨d1, rfl, hd1⟩) | (refine t2 ((scale_t n_w tR 20454)) hn ?_; rintro at_ _ b1 b2 ⟨d1, rfl, hd1⟩) | (refine t3 ((scale_t n_w tR 20454)) hn ?_; rintro at_ _ b1 b2 ⟨d1, rfl, hd1⟩) | (refine t1 ((scale_t n_s t0 20454)) hn ?_; rintro at_ _ b1 b2 ⟨d2, rfl, hd2⟩) | (refine t2 ((scale_t n_s t0 20454)) hn ?_; rintro at_ _ b1 b2 ⟨d2, rfl, hd2⟩) | (refine t3 ((scale_t n_s t0 20454)) hn ?_; rintro at_ _ b1 b2 ⟨d2, rfl, hd2⟩) | (refine tn1 hn ?_; rintro at_ b1 b2 x hx1 hx2) | refine z1 number_c ?_ | refine z2 number_c ?_ | refine z3 number_c ?_ | refine z4 number_c ?_ | refine z5 number_c ?_ | refine z1 money_c ?_ | refine z2 money_c ?_ | refine z3 money_c ?_ | refine z4 money_c ?_ | refine z5 money_c ?_ | refine z1 hours_c ?_ | refine z2 hours_c ?_ | refine z3 hours_c ?_ | refine z4 hours_c ?_ | refine z5 hours_c ?_ | refine z1 rate_c ?_ | refine z2 rate_c ?_ | refine z3 rate_c ?_ | refine z4 rate_c ?_ | refine z5 rate_c ?_ | refine z1 truth_c ?_ | refine z2 truth_c ?_ | refine z3 truth_c ?_ | refine z4 truth_c ?_ | refine z5 truth_c ?_ | refine w8 ?_ | refine w9 ?_ | refine w1 ?_ | refine w2 ?_ | refine w3 ?_ | refine w4 ?_ | refine w5 ?_ | refine w6 ?_ | refine w7 ?_ | refine yo0 ?_ ?_ | refine yw0 ?_ ?_ | exact qq | fail)
  have hB := (((ab5 h).snoc (by omega) (d := d1) (by rw [hd1.eq]; rfl) (gd_sc hd1 mm (by decide) (by decide) rfl (by decide))).snoc (by omega) (d := d2) (by rw [hd2.eq]; rfl) (gd_sc hd2 mm (by decide) (by decide) rfl (by decide)))
  refine pcan (st' := ⟨[(0, .ptr 0 0 0), (1, vi h), (2, vb wild), (6, .ptr 1 0 0), (7, .ptr 2 0 0), (42, vb (decide (x = 0)))], [tapeRow n g at_, rZA, rA 7 3, vRow cD 21 7 (lF dD (ins5 ++ [d1, d2]))]⟩) (can_rowsv [0, 1, 2, 5] (k0_sel hk rfl) rfl (.cons rfl (RowEq.cl (tape_cl _ _ _)) (.cons rfl rqq (.cons rfl rqq (.cons rfl (app_2 cD_cl (l := ins5) rfl (fun _ => rfl) rfl rfl) .nil)))) tmq) ?_
  refine pcut (fun st => ∃ (at' : Int) (k : Nat) (l : List Df), 0 ≤ at' ∧ at' ≤ n ∧ l.length = k + 1 ∧ AB h 8 l ∧ st = ⟨[(0, .ptr 0 0 0), (1, vi h), (2, vb wild), (6, .ptr 1 0 0), (7, .ptr 2 0 0)], [tapeRow n g at', rZA, rA (k + 1) 3, vRow cD 21 (k + 1) (lF dD l)]⟩) (pcond rfl ?_ ?_) ?_
  · intro hc
    repeat' (first | refine yo ?_ ?_ | refine yw ?_ ?_ | refine yk ?_ ?_ | exact trivial | with_reducible refine wA ?_ ?_ | refine ys ?_ ?_ | refine xs_done ?_ | refine yl ?_ ?_ | refine xs_startH (id := 5) [1,2] true [.take 0, .take 1, .take 2, .one 3, .one 4, .one 5, .one 6, .take 7, .one 8] 0 rfl (by kernel_rfl) ?_ | (exact ⟨Nat.le_refl _, (by rw [hk]; exact Nat.le_of_ble_eq_true rfl), Nat.le_of_ble_eq_true rfl, Nat.le_of_ble_eq_true rfl, Nat.le_of_ble_eq_true rfl⟩) | (refine t1 ((scale_t n_w tR 20459)) hn ?_; rintro at_ _ b1 b2 ⟨d3, rfl, hd3⟩) | (refine t2 ((scale_t n_w tR 20459)) hn ?_; rintro at_ _ b1 b2 ⟨d3, rfl, hd3⟩) | (refine t3 ((scale_t n_w tR 20459)) hn ?_; rintro at_ _ b1 b2 ⟨d3, rfl, hd3⟩) | refine z1 number_c ?_ | refine z2 number_c ?_ | refine z3 number_c ?_ | refine z4 number_c ?_ | refine z5 number_c ?_ | refine z1 money_c ?_ | refine z2 money_c ?_ | refine z3 money_c ?_ | refine z4 money_c ?_ | refine z5 money_c ?_ | refine z1 hours_c ?_ | refine z2 hours_c ?_ | refine z3 hours_c ?_ | refine z4 hours_c ?_ | refine z5 hours_c ?_ | refine z1 rate_c ?_ | refine z2 rate_c ?_ | refine z3 rate_c ?_ | refine z4 rate_c ?_ | refine z5 rate_c ?_ | refine z1 truth_c ?_ | refine z2 truth_c ?_ | refine z3 truth_c ?_ | refine z4 truth_c ?_ | refine z5 truth_c ?_ | refine w8 ?_ | refine w9 ?_ | refine w1 ?_ | refine w2 ?_ | refine w3 ?_ | refine w4 ?_ | refine w5 ?_ | refine w6 ?_ | refine w7 ?_ | refine yo0 ?_ ?_ | refine yw0 ?_ ?_ | exact qq | fail)
    exact kcut (st' := ⟨[(0, .ptr 0 0 0), (1, vi h), (2, vb wild), (6, .ptr 1 0 0), (7, .ptr 2 0 0)], [tapeRow n g _, rZA, rA (7 + 1) 3, vRow cD 21 (7 + 1) (lF dD ((ins5 ++ [d1, d2]) ++ [d3]))]⟩) (can_rowsv [0, 1, 2, 5] (k0_sel hk rfl) rfl (.cons rfl (RowEq.cl (tape_cl _ _ _)) (.cons rfl rqq (.cons rfl rqq (.cons rfl (app_l cD_cl (l := ins5 ++ [d1, d2]) rfl rfl rfl) .nil)))) tmq) ⟨_, 7, _, b1, b2, rfl, hB.snoc (by omega) (d := d3) (by rw [hd3.eq]; rfl) (gd_sc hd3 mm (by decide) (by decide) rfl (by decide)), rfl⟩
  · intro hc
    repeat' (first | refine yo ?_ ?_ | refine yw ?_ ?_ | refine yk ?_ ?_ | exact trivial | with_reducible refine wA ?_ ?_ | refine ys ?_ ?_ | refine xs_done ?_ | refine yl ?_ ?_ | refine w8 ?_ | refine w9 ?_ | refine w1 ?_ | refine w2 ?_ | refine w3 ?_ | refine w4 ?_ | refine w5 ?_ | refine w6 ?_ | refine w7 ?_ | refine yo0 ?_ ?_ | refine yw0 ?_ ?_ | exact qq | fail)
    exact kcut (st' := ⟨[(0, .ptr 0 0 0), (1, vi h), (2, vb wild), (6, .ptr 1 0 0), (7, .ptr 2 0 0)], [tapeRow n g at_, rZA, rA (6 + 1) 3, vRow cD 21 (6 + 1) (lF dD (ins5 ++ [d1, d2]))]⟩) (can_rowsv [0, 1, 2, 3] (k0_sel hk rfl) rfl (.cons rfl (RowEq.cl (tape_cl _ _ _)) (.cons rfl rqq (.cons rfl rqq (.cons rfl (RowEq.cl (v_cl cD_cl _ _ _)) .nil)))) tmq) ⟨_, 6, _, b1, b2, rfl, hB.skip (by omega) (.inl ks_w), rfl⟩
  rintro _ ⟨at', k, l, b1, b2, hlk, hA, rfl⟩
  repeat' (first | refine yo ?_ ?_ | refine yw ?_ ?_ | refine yk ?_ ?_ | exact trivial | with_reducible refine wA ?_ ?_ | refine ys ?_ ?_ | refine xs_done ?_ | refine yl ?_ ?_ | refine z1 number_c ?_ | refine z2 number_c ?_ | refine z3 number_c ?_ | refine z4 number_c ?_ | refine z5 number_c ?_ | refine z1 money_c ?_ | refine z2 money_c ?_ | refine z3 money_c ?_ | refine z4 money_c ?_ | refine z5 money_c ?_ | refine z1 hours_c ?_ | refine z2 hours_c ?_ | refine z3 hours_c ?_ | refine z4 hours_c ?_ | refine z5 hours_c ?_ | refine z1 rate_c ?_ | refine z2 rate_c ?_ | refine z3 rate_c ?_ | refine z4 rate_c ?_ | refine z5 rate_c ?_ | refine z1 truth_c ?_ | refine z2 truth_c ?_ | refine z3 truth_c ?_ | refine z4 truth_c ?_ | refine z5 truth_c ?_ | refine w8 ?_ | refine w9 ?_ | refine w1 ?_ | refine w2 ?_ | refine w3 ?_ | refine w4 ?_ | refine w5 ?_ | refine w6 ?_ | refine w7 ?_ | refine yo0 ?_ ?_ | refine yw0 ?_ ?_ | exact qq | fail)
  refine pcan (st' := ⟨[(0, .ptr 0 0 0), (1, vi h), (2, vb wild), (6, .ptr 1 0 0), (7, .ptr 2 0 0), (8, .lsl 4 0 4), (9, .lsl 5 0 4), (10, vi 0)], [tapeRow n g at', rZA, rA (k + 1) 3, vRow cD 21 (k + 1) (lF dD l), oRow cSt 1 4 (lF ⟨#[]⟩ nmsR), oRow cT 4 4 (lF t0 tysR)]⟩) (can_rowsv [0, 1, 2, 3, 4, 5] (k0_sel hk rfl) rfl (.cons rfl (RowEq.cl (tape_cl _ _ _)) (.cons rfl rqq (.cons rfl rqq (.cons rfl (RowEq.cl (v_cl cD_cl _ _ _)) (.cons rfl (o_eq cSt_cl (Nat.le_refl _) fun a ha b hb => by
    have ha : a < 4 := ha
    have hb : b < 1 := hb
    obtain rfl : b = 0 := by omega
    rcases (by omega : a = 0 ∨ a = 1 ∨ a = 2 ∨ a = 3) with rfl | rfl | rfl | rfl <;> rfl) (.cons rfl (o_eq cT_cl (Nat.le_refl _) fun a ha b hb => by
    have ha : a < 4 := ha
    have hb : b < 4 := hb
    rcases (by omega : a = 0 ∨ a = 1 ∨ a = 2 ∨ a = 3) with rfl | rfl | rfl | rfl <;> rcases (by omega : b = 0 ∨ b = 1 ∨ b = 2 ∨ b = 3) with rfl | rfl | rfl | rfl <;> rfl) .nil)))))) tmq) ?_
  refine pcutx (fun st => ∃ (at' : Int) (k : Nat) (l : List Df), 0 ≤ at' ∧ at' ≤ n ∧ l.length = k + 1 ∧ AB h 16 l ∧ st = ⟨[(0, .ptr 0 0 0), (1, vi h), (6, .ptr 1 0 0), (7, .ptr 2 0 0)], [tapeRow n g at', rZA, rA (k + 1) 3, vRow cD 21 (k + 1) (lF dD l)]⟩) ?_ (by rintro _ ⟨at', k, l, b1, b2, hlk, hA, rfl⟩; exact agr_pay h h1 h32 hX n g hn Γ hk at' k l b1 b2 hlk hA)
  refine ploop (fun q st => ∃ (b : Bool) (at' : Int) (i k : Nat) (l : List Df), 0 ≤ at' ∧ at' ≤ n ∧ i ≤ 4 ∧ q = 4 - i ∧ l.length = k + 1 ∧ AB h (8 + 2 * i) l ∧ st = ⟨[(0, .ptr 0 0 0), (1, vi h), (2, vb b), (6, .ptr 1 0 0), (7, .ptr 2 0 0), (8, .lsl 4 0 4), (9, .lsl 5 0 4), (10, vi i)], [tapeRow n g at', rZA, rA (k + 1) 3, vRow cD 21 (k + 1) (lF dD l), oRow cSt 1 4 (lF ⟨#[]⟩ nmsR), oRow cT 4 4 (lF t0 tysR)]⟩) 4 ⟨wild, at', 0, k, l, b1, b2, by omega, rfl, hlk, hA, rfl⟩ ?_
  clear hlk hA b1 b2
  rintro _ _ ⟨b, at', i, k, l, b1, b2, hi, rfl, hlk, hA, rfl⟩
  repeat' (first | refine yo ?_ ?_ | refine yw ?_ ?_ | refine yk ?_ ?_ | exact trivial | with_reducible refine wA ?_ ?_ | refine ys ?_ ?_ | refine xs_done ?_ | refine yl ?_ ?_ | refine w8 ?_ | refine w9 ?_ | refine w1 ?_ | refine w2 ?_ | refine w3 ?_ | refine w4 ?_ | refine w5 ?_ | refine w6 ?_ | refine w7 ?_ | refine yo0 ?_ ?_ | refine yw0 ?_ ?_ | exact qq | fail)
  refine pcond rfl ?_ ?_ <;> intro hc <;> simp at hc
  · have hwi : IntKind.i64.wrap ((i : Int) + 1) = ((i + 1 : Nat) : Int) := w64 (by omega) (by omega)
    have i0 : 0 + (i : Int).toNat = i := by omega
    have iX : ∀ rules : Int, TapC G.P 20 [vT (lF t0 tysR (0 + (i : Int).toNat)), vi h, vi rules] (fun r => ∃ e, r = vX e ∧ EOk (max h 1) (lF t0 tysR i) e) := fun rules => by rw [i0]; exact hX _ (rule_ty (by omega)) rules
    rcases b with _ | _
    all_goals
      repeat' (first | refine yo ?_ ?_ | refine yw ?_ ?_ | refine yk ?_ ?_ | exact trivial | with_reducible refine wA ?_ ?_ | refine ys ?_ ?_ | refine xs_done ?_ | refine yl ?_ ?_ | (refine pop_gfalse rfl rfl rfl rfl ?_) | (refine pop_opt 65 rfl rfl ?_) | (refine pop_unguard rfl rfl ?_) | (refine tn1 hn ?_; rintro at_ b1 b2 x hx1 hx2) | refine w8 ?_ | refine w9 ?_ | refine w1 ?_ | refine w2 ?_ | refine w3 ?_ | refine w4 ?_ | refine w5 ?_ | refine w6 ?_ | refine w7 ?_ | refine yo0 ?_ ?_ | refine yw0 ?_ ?_ | (refine pcond rfl ?_ ?_ <;> intro hc) | exact qq | fail)
    all_goals
      refine pcan (st' := ⟨[(0, .ptr 0 0 0), (1, vi h), (2, vb _), (6, .ptr 1 0 0), (7, .ptr 2 0 0), (8, .lsl 4 0 4), (9, .lsl 5 0 4), (10, vi i), (11, vi _), (12, vi 0)], [tapeRow n g _, rZA, rA (k + 1) 3, vRow cD 21 (k + 1) (lF dD l), oRow cSt 1 4 (lF ⟨#[]⟩ nmsR), oRow cT 4 4 (lF t0 tysR)]⟩) (can_rowsv [0, 1, 2, 3, 4, 5] (k0_sel hk rfl) rfl (.cons rfl (RowEq.cl (tape_cl _ _ _)) (.cons rfl rqq (.cons rfl rqq (.cons rfl (RowEq.cl (v_cl cD_cl _ _ _)) (.cons rfl (RowEq.cl (o_cl cSt_cl _ _ _)) (.cons rfl (RowEq.cl (o_cl cT_cl _ _ _)) .nil)))))) tmq) ?_
      refine ploop (fun q st => ∃ (b : Bool) (at' rules : Int) (v k : Nat) (l : List Df), 0 ≤ at' ∧ at' ≤ n ∧ v ≤ 2 ∧ q = 2 - v ∧ l.length = k + 1 ∧ AB h (8 + 2 * i + v) l ∧ st = ⟨[(0, .ptr 0 0 0), (1, vi h), (2, vb b), (6, .ptr 1 0 0), (7, .ptr 2 0 0), (8, .lsl 4 0 4), (9, .lsl 5 0 4), (10, vi i), (11, vi rules), (12, vi v)], [tapeRow n g at', rZA, rA (k + 1) 3, vRow cD 21 (k + 1) (lF dD l), oRow cSt 1 4 (lF ⟨#[]⟩ nmsR), oRow cT 4 4 (lF t0 tysR)]⟩) 2 ⟨_, _, _, 0, k, l, by assumption, by assumption, by omega, rfl, hlk, hA, rfl⟩ ?_
      clear hlk hA b1 b2
      rintro _ _ ⟨b, at', rules, v, k, l, b1, b2, hv, rfl, hlk, hA, rfl⟩
      have hkl := hA.len
      have iX := iX rules
      repeat' (first | refine yo ?_ ?_ | refine yw ?_ ?_ | refine yk ?_ ?_ | exact trivial | with_reducible refine wA ?_ ?_ | refine ys ?_ ?_ | refine xs_done ?_ | refine yl ?_ ?_ | (exact (show ¬ (2 : Int) = 0 from by decide)) | (refine tn1 hn ?_; rintro at_ b1 b2 x hx1 hx2) | refine w8 ?_ | refine w9 ?_ | refine w1 ?_ | refine w2 ?_ | refine w3 ?_ | refine w4 ?_ | refine w5 ?_ | refine w6 ?_ | refine w7 ?_ | refine yo0 ?_ ?_ | refine yw0 ?_ ?_ | exact qq | fail)
      have hwq : IntKind.i64.wrap (x.tdiv 2) = x.tdiv 2 := by
        have : x.tdiv 2 = x / 2 := Int.tdiv_eq_ediv_of_nonneg hx1
        rw [this]; exact w64 (by omega) (by omega)
      have htd : x.tdiv 2 = x / 2 := Int.tdiv_eq_ediv_of_nonneg hx1
      refine pcond rfl ?_ ?_ <;> intro hc4 <;> simp at hc4
      · have hv1 : v ≤ 1 := by omega
        have hwv : IntKind.i64.wrap ((v : Int) + 1) = ((v + 1 : Nat) : Int) := w64 (by omega) (by omega)
        have hwd : IntKind.i64.wrap (20454 + IntKind.i64.wrap (5 * (v : Int))) = 20454 + 5 * (v : Int) := by rw [w64 (n := 5 * (v : Int)) (by omega) (by omega), w64 (by omega) (by omega)]
        repeat' (first | refine yo ?_ ?_ | refine yw ?_ ?_ | refine yk ?_ ?_ | exact trivial | with_reducible refine wA ?_ ?_ | refine ys ?_ ?_ | refine xs_done ?_ | refine yl ?_ ?_ | refine xs_startH (id := 16) [1,2,4,5] true [.take 0, .take 1, .take 2, .take 3, .take 4, .take 5, .take 6, .take 7, .take 8, .take 9, .take 10, .take 11, .take 12, .take 13, .take 14, .take 15, .take 16, .take 17, .take 18, .take 19, .one 20, .take 21, .one 22, .one 23, .take 24, .one 25] 0 rfl (by kernel_rfl) ?_ | exact ⟨Nat.le_refl _, (by rw [hk]; exact Nat.le_of_ble_eq_true rfl), Nat.le_of_eq (Nat.zero_add _), (show (_ : Nat) * 216 ≤ 140737488355328 from by omega), (show (_ : Nat) ≤ 9223372036854775807 from by omega)⟩ | (refine t1 iX hn ?_; rintro at_ _ b1 b2 ⟨e, rfl, he⟩) | (refine t2 iX hn ?_; rintro at_ _ b1 b2 ⟨e, rfl, he⟩) | (refine t3 iX hn ?_; rintro at_ _ b1 b2 ⟨e, rfl, he⟩) | refine w8 ?_ | refine w9 ?_ | refine w1 ?_ | refine w2 ?_ | refine w3 ?_ | refine w4 ?_ | refine w5 ?_ | refine w6 ?_ | refine w7 ?_ | refine yo0 ?_ ?_ | refine yw0 ?_ ?_ | exact qq | fail)
        refine xdone ?_
        rw [hwv, hwd, i0]
        have ht := rule_tab (i := i) (by omega)
        have hks := ks_rule (i := i) (v := v) (by omega) (by omega)
        exact kloop_next (st' := ⟨[(0, .ptr 0 0 0), (1, vi h), (2, vb b), (6, .ptr 1 0 0), (7, .ptr 2 0 0), (8, .lsl 4 0 4), (9, .lsl 5 0 4), (10, vi i), (11, vi rules), (12, vi ((v + 1 : Nat) : Int))], [tapeRow n g _, rZA, rA (k + 1 + 1) 3, vRow cD 21 (k + 1 + 1) (lF dD (l ++ [dR (lF ⟨#[]⟩ nmsR i) (lF t0 tysR i) (20454 + 5 * v) e])), oRow cSt 1 4 (lF ⟨#[]⟩ nmsR), oRow cT 4 4 (lF t0 tysR)]⟩) (2 - (v + 1)) (can_rowsv [0, 1, 2, 7, 4, 5] (k0_sel hk rfl) rfl (.cons rfl (RowEq.cl (tape_cl _ _ _)) (.cons rfl rqq (.cons rfl rqq (.cons rfl (app_p cD_cl (by assumption) (fun b hb => by rcases split21 hb with rfl | rfl | rfl | rfl | rfl | rfl | rfl | rfl | rfl | rfl | rfl | rfl | rfl | rfl | rfl | rfl | rfl | rfl | rfl | rfl | rfl <;> first | exact PEq.refl _ | exact peq_nil) rfl) (.cons rfl (RowEq.cl (o_cl cSt_cl _ _ _)) (.cons rfl (RowEq.cl (o_cl cT_cl _ _ _)) .nil)))))) tmq) (by omega) ⟨b, _, rules, v + 1, k + 1, _, by assumption, by assumption, by omega, rfl, by rw [List.length_append, hlk]; rfl, hA.snoc (by omega) (d := dR (lF ⟨#[]⟩ nmsR i) (lF t0 tysR i) (20454 + 5 * v) e) hks.symm (gd_rule (he.mono (by omega)) h32 ht.1 ht.2.1 ht.2.2 (by omega)), rfl⟩
      · repeat' (first | refine yo ?_ ?_ | refine yw ?_ ?_ | refine yk ?_ ?_ | exact trivial | with_reducible refine wA ?_ ?_ | refine ys ?_ ?_ | refine xs_done ?_ | refine yl ?_ ?_ | refine w8 ?_ | refine w9 ?_ | refine w1 ?_ | refine w2 ?_ | refine w3 ?_ | refine w4 ?_ | refine w5 ?_ | refine w6 ?_ | refine w7 ?_ | refine yo0 ?_ ?_ | refine yw0 ?_ ?_ | exact qq | fail)
        rw [hwi]
        exact kloop_next (st' := ⟨[(0, .ptr 0 0 0), (1, vi h), (2, vb b), (6, .ptr 1 0 0), (7, .ptr 2 0 0), (8, .lsl 4 0 4), (9, .lsl 5 0 4), (10, vi ((i + 1 : Nat) : Int))], [tapeRow n g _, rZA, rA (k + 1) 3, vRow cD 21 (k + 1) (lF dD l), oRow cSt 1 4 (lF ⟨#[]⟩ nmsR), oRow cT 4 4 (lF t0 tysR)]⟩) (4 - (i + 1)) (can_rowsv [0, 1, 2, 3, 4, 5] (k0_sel hk rfl) rfl (.cons rfl (RowEq.cl (tape_cl _ _ _)) (.cons rfl rqq (.cons rfl rqq (.cons rfl (RowEq.cl (v_cl cD_cl _ _ _)) (.cons rfl (RowEq.cl (o_cl cSt_cl _ _ _)) (.cons rfl (RowEq.cl (o_cl cT_cl _ _ _)) .nil)))))) tmq) (by omega) ⟨b, _, i + 1, k, l, by assumption, by assumption, by omega, rfl, hlk, (by
          rcases (by omega : v = 1 ∨ v = 2) with rfl | rfl
          · exact hA.skip (by omega) (.inl (ks_skip (by omega)))
          · exact hA), rfl⟩
  · obtain rfl : i = 4 := by omega
    repeat' (first | refine yo ?_ ?_ | refine yw ?_ ?_ | refine yk ?_ ?_ | exact trivial | with_reducible refine wA ?_ ?_ | refine ys ?_ ?_ | refine xs_done ?_ | refine yl ?_ ?_ | refine w8 ?_ | refine w9 ?_ | refine w1 ?_ | refine w2 ?_ | refine w3 ?_ | refine w4 ?_ | refine w5 ?_ | refine w6 ?_ | refine w7 ?_ | refine yo0 ?_ ?_ | refine yw0 ?_ ?_ | exact qq | fail)
    refine kblock_hit rfl ?_
    exact kcut (st' := ⟨[(0, .ptr 0 0 0), (1, vi h), (6, .ptr 1 0 0), (7, .ptr 2 0 0)], [tapeRow n g at', rZA, rA (k + 1) 3, vRow cD 21 (k + 1) (lF dD l)]⟩) (can_rowsv [0, 1, 2, 3] (k0_sel hk rfl) rfl (.cons rfl (RowEq.cl (tape_cl _ _ _)) (.cons rfl rqq (.cons rfl rqq (.cons rfl (RowEq.cl (v_cl cD_cl _ _ _)) .nil)))) tmq) ⟨at', k, l, b1, b2, hlk, hA, rfl⟩
def RowsR (τ : Nat → Option Nat) : List Row → List Row → Prop
  | [], [] => True
  | r :: rs, q :: qs => RowEq (r.ren τ) q ∧ RowsR τ rs qs
  | _, _ => False
theorem RowsR.get {τ : Nat → Option Nat} : ∀ (rows rows2 : List Row), RowsR τ rows rows2 → rows.length = rows2.length ∧ ∀ (i : Nat) (q : Row), rows2[i]? = some q → ∃ r, rows[i]? = some r ∧ RowEq (r.ren τ) q
  | [], [], _ => ⟨rfl, fun i q h => by simp at h⟩
  | r :: rs, q :: qs, h => by
    obtain ⟨h1, h2⟩ := RowsR.get rs qs h.2
    refine ⟨by simp [h1], fun i x hx => ?_⟩
    cases i with
    | zero => simp at hx; subst hx; exact ⟨r, rfl, h.1⟩
    | succ i => exact h2 i x (by simpa using hx)
  | [], _ :: _, h => h.elim
  | _ :: _, [], h => h.elim
theorem putPl_eq2 (τ : Nat → Option Nat) : ∀ (s : List Nat) (rows rows2 mem mem' : List Row), RowsR τ rows rows2 → mem'.length = mem.length → (∀ (l : Nat) (r' : Row), mem'[l]? = some r' → ∃ r : Row, mem[l]? = some r ∧ RowEq r r') →
    (putPl s rows2 mem').length = (putRows τ s rows mem).length ∧ ∀ (l : Nat) (r' : Row), (putPl s rows2 mem')[l]? = some r' → ∃ r : Row, (putRows τ s rows mem)[l]? = some r ∧ RowEq r r'
  | [], ext, ext2, mem, mem', hc, hl, he => by
    obtain ⟨g1, g2⟩ := RowsR.get ext ext2 hc
    refine ⟨by simp [putPl, putRows, hl, g1], fun l r' h => ?_⟩
    rw [putPl] at h
    rw [putRows]
    by_cases hlt : l < mem'.length
    · rw [List.getElem?_append_left hlt] at h
      rw [List.getElem?_append_left (by omega)]
      exact he l r' h
    · rw [List.getElem?_append_right (by omega)] at h
      rw [List.getElem?_append_right (by omega), List.getElem?_map]
      rw [hl] at h
      obtain ⟨r, e1, e2⟩ := g2 _ _ h
      exact ⟨r.ren τ, by rw [e1]; rfl, e2⟩
  | x :: s, r :: rows, q :: rows2, mem, mem', hc, hl, he => by
    rw [putPl, putRows]
    refine putPl_eq2 τ s rows rows2 _ _ hc.2 (by simp [hl]) (fun l r' h => ?_)
    by_cases e : l = x
    · subst e
      by_cases hlt : l < mem'.length
      · rw [List.getElem?_set_self hlt] at h
        simp only [Option.some.injEq] at h
        subst h
        exact ⟨r.ren τ, List.getElem?_set_self (by omega), hc.1⟩
      · rw [List.getElem?_eq_none (by simp; omega)] at h; cases h
    · rw [List.getElem?_set_ne (Ne.symm e)] at h
      rw [List.getElem?_set_ne (Ne.symm e)]
      exact he l r' h
  | _ :: _, [], [], mem, mem', _, hl, he => ⟨by simp [putPl, putRows, hl], fun l r' h => he l r' h⟩
  | _ :: _, [], _ :: _, _, _, hc, _, _ => hc.elim
  | _ :: _, _ :: _, [], _, _, hc, _, _ => hc.elim
section
variable {G : Pg} {N : Nat} {Γ : Fr} {st : PSt}
variable {K : Exit → PSt → Prop} {ops : Array Oper} {o : Oper} {rest : List Oper} {d : Nat}
theorem pop_rowsd {f : FuncId} {x : Operand} {args : Array Operand} {tys : Array TypeId} {n : Nat} {c : Nat → PV} {rows : List Row} {qs : List PV} {post : PV → List Row → Prop} (sel : List Nat) (hg : o.guard = none) (hdst : o.dst = some d) (hN : Nat.blt d N = true)
    (ho : o.op = .call ⟨.value x, args, tys⟩) (hx : st.ev x = .clo f n c) (hd : nodupB sel = true) (hs : SelOk st.mem sel sel rows) (hc : RowsC G.P f rows qs post) (ha : PEqL ((args.toList.map st.ev ++ capL n c 0).map (PV.ren (inv sel 0))) qs)
    (h : ∀ r rows', post r rows' → ∃ rows2 m r', RowsR (tau sel (lenK st.mem 0)) rows' rows2 ∧ putP sel rows2 st.mem some = some m ∧ PEq (r.ren (tau sel (lenK st.mem 0))) r' ∧ POps G N Γ ops rest (PSt.put ⟨st.tm, m⟩ d r') K) : POps G N Γ ops (o :: rest) st K := .mk fun ρ I a w hrel => by
  have hw : Region.wanted o (yielded ops a.tmps) = true := by simp [Region.wanted, hg]
  simp only [wpList, hw, if_true]
  refine .inl (rows_core sel hrel ho (hx ▸ ev_rel hrel x) hd hs hc ha ?_)
  intro v r rows' ρ2 I' w' hpost hr _ hv
  obtain ⟨rows2, m, r', e0, e1, e2, hk⟩ := h r rows' hpost
  rw [putP_eq] at e1
  rw [lenK_eq, Nat.zero_add] at e0 e2
  simp only [Option.some.injEq] at e1
  obtain ⟨q1, q2⟩ := putPl_eq2 (tau sel st.mem.length) sel rows' rows2 st.mem st.mem e0 rfl (fun l r' h => ⟨r', h, RowEq.refl _⟩)
  have hr2 := hr.rowsEq q1 q2
  rw [← q1] at hv
  rw [e1] at hr2 hv
  simp only [hdst]
  exact hk.go ρ2 I' _ w' (hr2.put (by rwa [Nat.blt_eq] at hN) (e2 _ _ _ _ _ hv))
end
theorem peqA {τ : Nat → Option Nat} {nm : ByteArray} {l l' i n : Nat} (h : τ l = some l') : PEq ((PV.agg 2 (nthP [vs nm, .lsl l i n])).ren τ) (.agg 2 (nthP [vs nm, .lsl l' i n])) :=
  (show PEq (.agg 2 _) (.agg 2 _) from PEq.agg fun j hj => by
    rcases (by omega : j = 0 ∨ j = 1) with rfl | rfl
    · exact PEq.refl _
    · show PEq (match τ l with | some l' => PV.lsl l' i n | none => .junk) (.lsl l' i n)
      rw [h]; exact PEq.refl _)
theorem rA_eq {τ : Nat → Option Nat} {k l l' : Nat} (h : τ l = some l') : RowEq (Row.ren τ (rA (k + 1) l)) (rA (k + 1) l') := ⟨rfl, rfl, Nat.le_refl _, fun i hi j hj => by
  have hj : j < 2 := hj
  rcases (by omega : j = 0 ∨ j = 1) with rfl | rfl
  · exact PEq.refl _
  · show PEq (match τ l with | some l' => PV.lsl l' 0 (k + 1) | none => .junk) (.lsl l' 0 (k + 1))
    rw [h]; exact PEq.refl _⟩
theorem agreement4_r (h : Nat) (hh : h ≤ 5) (wild : Bool) (n : Nat) (g : Nat → Int) (at_ : Int) (hn : n ≤ 9223372036854775807) (h1' : 0 ≤ at_) (h2' : at_ ≤ n) : RowsC G.P 6 [tapeRow n g at_] [.ptr 0 0 0, vi (h + 1 : Nat), vb wild] (agrPost (h + 1) n g) :=
  agreement_r (h + 1) (by omega) (by omega) (fun t ht rules => expr_t h hh t ht rules) wild n g at_ hn h1' h2'
theorem argAgr {mem : List Row} {L : List Nat} {nm : ByteArray} {l : List Df} {p : PV} (h : ArgOk mem L p (vDs l)) : ArgOk mem L (.agg 2 (nthP [vs nm, p])) (vA nm l) := argAggL fun i hi => by
  rcases (by omega : i = 0 ∨ i = 1) with rfl | rfl
  · exact argVal
  · exact h
end Go.Proofs.Ytcefhgomkehokaa
namespace Go.Proofs.Ytcefhgomkehokaa
abbrev q_a : ByteArray := ⟨#[97]⟩
abbrev q_b : ByteArray := ⟨#[98]⟩
abbrev q_m : ByteArray := ⟨#[109]⟩
abbrev dQr (nm : ByteArray) (b : ByteArray) : Df := ⟨3, nm, t0, 0, 0, fun _ => (0, 0, 0), .mk 3 0 0 0 0 0 b 0 0 0 kn, 0, 0, 0⟩
def mq2 : List Df := [dQr q_a q_b, dQr q_b q_a]
theorem mq_bd : ∀ d, d ∈ mq2 → BdD d := by
  intro d hd
  simp only [mq2, List.mem_cons, List.not_mem_nil, or_false] at hd
  rcases hd with rfl | rfl
  · exact ⟨by decide, fun i hi => absurd hi (Nat.not_lt_zero i), Nat.zero_le _, .mk ⟨by decide, by decide, by decide⟩ (fun i hi => absurd hi (Nat.not_lt_zero i)), by show (-9223372036854775808 : Int) ≤ 0; decide, by show (0 : Int) ≤ 9223372036854775807; decide⟩
  · exact ⟨by decide, fun i hi => absurd hi (Nat.not_lt_zero i), Nat.zero_le _, .mk ⟨by decide, by decide, by decide⟩ (fun i hi => absurd hi (Nat.not_lt_zero i)), by show (-9223372036854775808 : Int) ≤ 0; decide, by show (0 : Int) ≤ 9223372036854775807; decide⟩
theorem mq_ok : AgO q_m mq2 := ⟨by decide, mq_bd, by
  intro d hd
  simp only [mq2, List.mem_cons, List.not_mem_nil, or_false] at hd
  rcases hd with rfl | rfl
  · exact Nat.le_of_ble_eq_true rfl
  · exact Nat.le_of_ble_eq_true rfl⟩
theorem mq_ord : OrdS q_m mq2 0 = ([], 11) := by decide +kernel
theorem mq_cyc : CycS q_m mq2 0 = [0, 1] := by decide +kernel
theorem mq_nee : NeedsS q_m mq2 0 0 = ([1], 0) := by decide +kernel
theorem mq_act : ActS q_m mq2 0 = [0, 1] := by decide +kernel
theorem mq_dwn : DwnS q_m mq2 0 q_a = [0, 1] := by decide +kernel
abbrev rS2 : Row := ⟨.own, true, 1, 2, fun _ => nthP [vs q_m, .lsl 0 0 2]⟩
set_option maxHeartbeats 4000000 in
theorem sane21_c : PureC G.P 9 [] (fun r => r = vb true) := by
  have c1 := Order_c q_m mq2 0 mq_ok (by decide)
  have c2 := Cycle_c q_m mq2 0 mq_ok (by decide)
  have c3 := Needs_c q_m mq2 0 0 mq_ok (by decide)
  have c4 := Active_c q_m mq2 0 mq_ok (by decide)
  have c5 := Downstream_c q_m mq2 0 q_a mq_ok (by decide)
  rw [mq_ord] at c1
  rw [mq_cyc] at c2
  rw [mq_nee] at c3
  rw [mq_act] at c4
  rw [mq_dwn] at c5
  refine pure_of (G := G.toPg) (fn := Try.f9) Try.func9 rfl rfl rfl ?_; intro Γ hk
  repeat' (first | refine yo ?_ ?_ | refine yw ?_ ?_ | refine yk ?_ ?_ | exact trivial | with_reducible refine wA ?_ ?_ | refine ys ?_ ?_ | refine xs_done ?_ | refine yl ?_ ?_ | refine w8 ?_ | refine w9 ?_ | refine w1 ?_ | refine w2 ?_ | refine w3 ?_ | refine w4 ?_ | refine w5 ?_ | refine w6 ?_ | refine w7 ?_ | refine yo0 ?_ ?_ | refine yw0 ?_ ?_ | exact qq | fail)
  refine ocan0 (st' := ⟨[(3, .ptr 1 0 0), (18, .agg 2 (nthP [vs q_m, .lsl 0 0 2]))], [oRow cD 21 2 (lF dD mq2), rS2]⟩) (can_rowsv [2, 3] (k0_sel (show Γ.k0 = 0 from hk) rfl) rfl (.cons rfl (o_eqP (Nat.le_refl _) fun a ha b hb => by
    have hb : b < 21 := hb
    rcases (by omega : a = 0 ∨ a = 1) with rfl | rfl <;> rcases split21 hb with rfl | rfl | rfl | rfl | rfl | rfl | rfl | rfl | rfl | rfl | rfl | rfl | rfl | rfl | rfl | rfl | rfl | rfl | rfl | rfl | rfl <;> first | exact PEq.refl _ | exact peq_nil) (.cons rfl rqq .nil)) (by exact ⟨PEq.refl _, (show PEq (.agg 2 _) (.agg 2 _) from PEq.agg (fun i hi => by rcases (by omega : i = 0 ∨ i = 1) with rfl | rfl <;> exact PEq.refl _)), trivial⟩)) ?_
  refine pop_callc [0] rfl rfl rfl rfl rfl rfl (by intro l hl; rw [show Γ.k0 = 0 from hk]; exact Nat.zero_le _) c1 ⟨argAgr (arg_o (s := .own) cD_cl rfl trivial (List.Mem.head _)), argVal, trivial⟩ ?_
  rintro _ rfl
  repeat' (first | refine yo ?_ ?_ | refine yw ?_ ?_ | refine yk ?_ ?_ | exact trivial | with_reducible refine wA ?_ ?_ | refine ys ?_ ?_ | refine xs_done ?_ | refine yl ?_ ?_ | refine w8 ?_ | refine w9 ?_ | refine w1 ?_ | refine w2 ?_ | refine w3 ?_ | refine w4 ?_ | refine w5 ?_ | refine w6 ?_ | refine w7 ?_ | refine yo0 ?_ ?_ | refine yw0 ?_ ?_ | exact qq | fail)
  refine pop_callc [0] rfl rfl rfl rfl rfl rfl (by intro l hl; rw [show Γ.k0 = 0 from hk]; exact Nat.zero_le _) c2 ⟨argAgr (arg_o (s := .imm) cD_cl rfl trivial (List.Mem.head _)), argVal, trivial⟩ ?_
  rintro _ rfl
  repeat' (first | refine yo ?_ ?_ | refine yw ?_ ?_ | refine yk ?_ ?_ | exact trivial | with_reducible refine wA ?_ ?_ | refine ys ?_ ?_ | refine xs_done ?_ | refine yl ?_ ?_ | refine w8 ?_ | refine w9 ?_ | refine w1 ?_ | refine w2 ?_ | refine w3 ?_ | refine w4 ?_ | refine w5 ?_ | refine w6 ?_ | refine w7 ?_ | refine yo0 ?_ ?_ | refine yw0 ?_ ?_ | exact qq | fail)
  refine pop_callc [0] rfl rfl rfl rfl rfl rfl (by intro l hl; rw [show Γ.k0 = 0 from hk]; exact Nat.zero_le _) c3 ⟨argAgr (arg_o (s := .imm) cD_cl rfl trivial (List.Mem.head _)), argVal, argVal, trivial⟩ ?_
  rintro _ rfl
  repeat' (first | refine yo ?_ ?_ | refine yw ?_ ?_ | refine yk ?_ ?_ | exact trivial | with_reducible refine wA ?_ ?_ | refine ys ?_ ?_ | refine xs_done ?_ | refine yl ?_ ?_ | (intro h; first | exact ⟨h, by decide, by decide⟩ | exact ⟨by decide, by decide⟩ | exact ⟨h, by decide⟩ | exact ⟨h, h, by decide⟩ | exact ⟨h, h, by decide, by decide⟩) | refine w8 ?_ | refine w9 ?_ | refine w1 ?_ | refine w2 ?_ | refine w3 ?_ | refine w4 ?_ | refine w5 ?_ | refine w6 ?_ | refine w7 ?_ | refine yo0 ?_ ?_ | refine yw0 ?_ ?_ | exact qq | fail)
  refine pop_opt 64 rfl rfl ?_
  refine pop_unguard rfl rfl ?_
  refine pop_callc [0] rfl rfl rfl rfl rfl rfl (by intro l hl; rw [show Γ.k0 = 0 from hk]; exact Nat.zero_le _) c4 ⟨argAgr (arg_o (s := .imm) cD_cl rfl trivial (List.Mem.head _)), argVal, trivial⟩ ?_
  rintro _ rfl
  repeat' (first | refine yo ?_ ?_ | refine yw ?_ ?_ | refine yk ?_ ?_ | exact trivial | with_reducible refine wA ?_ ?_ | refine ys ?_ ?_ | refine xs_done ?_ | refine yl ?_ ?_ | (intro h; first | exact ⟨h, by decide, by decide⟩ | exact ⟨by decide, by decide⟩ | exact ⟨h, by decide⟩ | exact ⟨h, h, by decide⟩ | exact ⟨h, h, by decide, by decide⟩) | refine w8 ?_ | refine w9 ?_ | refine w1 ?_ | refine w2 ?_ | refine w3 ?_ | refine w4 ?_ | refine w5 ?_ | refine w6 ?_ | refine w7 ?_ | refine yo0 ?_ ?_ | refine yw0 ?_ ?_ | exact qq | fail)
  refine pop_opt 70 rfl rfl ?_
  refine pop_unguard rfl rfl ?_
  refine pop_callc [0] rfl rfl rfl rfl rfl rfl (by intro l hl; rw [show Γ.k0 = 0 from hk]; exact Nat.zero_le _) c5 ⟨argAgr (arg_o (s := .imm) cD_cl rfl trivial (List.Mem.head _)), argVal, argVal, trivial⟩ ?_
  rintro _ rfl
  repeat' (first | refine yo ?_ ?_ | refine yw ?_ ?_ | refine yk ?_ ?_ | exact trivial | with_reducible refine wA ?_ ?_ | refine ys ?_ ?_ | refine xs_done ?_ | refine yl ?_ ?_ | (intro h; first | exact ⟨h, by decide, by decide⟩ | exact ⟨by decide, by decide⟩ | exact ⟨h, by decide⟩ | exact ⟨h, h, by decide⟩ | exact ⟨h, h, by decide, by decide⟩) | refine w8 ?_ | refine w9 ?_ | refine w1 ?_ | refine w2 ?_ | refine w3 ?_ | refine w4 ?_ | refine w5 ?_ | refine w6 ?_ | refine w7 ?_ | refine yo0 ?_ ?_ | refine yw0 ?_ ?_ | exact qq | fail)
  refine xdone ?_
  refine kretv rfl ⟨trivial, trivial⟩ rfl (eqB ?_)
  rfl
end Go.Proofs.Ytcefhgomkehokaa
namespace Go.Proofs.Ytcefhgomkehokaa
def IntsAt (w : World) (v : Value) (l : List Int) : Prop :=
  ∃ (a : Option Addr) (cap : Nat), v = .slice a l.length cap ∧ l.length ≤ cap ∧ l.length ≤ 9223372036854775807 ∧
    ∀ k, k < l.length → ∃ b off, a = some ⟨b, off, none⟩ ∧ b < w.heap.size ∧ w.cell? ⟨b, off + k, none⟩ = some (.int .i64 (l.getD k 0))
theorem intsAt_of_row {w : World} {a : Option Addr} {len cap : Nat} {zs : List Int} (h : (a = none ∧ len = 0 ∧ cap = 0 ∧ zs = []) ∨ ∃ x, a = some x ∧ len ≤ cap ∧ cap ≤ maxLen ∧ zs.length = cap ∧ (∀ i, i < zs.length → w.cell? (x.add i) = some (.int .i64 (zs.getD i 0))) ∧ ∀ n ∈ zs, (Lit.int .i64 n).wf = true) :
    IntsAt w (.slice a len cap) (zs.take len) := by
  rcases h with ⟨rfl, rfl, rfl, rfl⟩ | ⟨x, rfl, h1, h2, h3, h4, _⟩
  · exact ⟨none, 0, rfl, by simp, by simp, fun k hk => by simp at hk⟩
  · have hl : (zs.take len).length = len := by simp; omega
    unfold maxLen at h2
    refine ⟨some x, cap, by rw [hl], by rw [hl]; omega, by rw [hl]; omega, fun k hk => ?_⟩
    rw [hl] at hk
    have hc := h4 k (by omega)
    have hc0 := h4 0 (by omega)
    obtain ⟨b, off, spot⟩ := x
    have hs : spot = none := by
      cases spot with
      | none => rfl
      | some q =>
        simp only [World.cell?, Addr.add, if_true] at hc0
        split at hc0 <;> simp at hc0
    subst hs
    have hc2 : w.cell? ⟨b, off + k, none⟩ = some (.int .i64 (zs.getD k 0)) := by
      rw [← hc]; congr 1; unfold Addr.add; split <;> simp_all
    refine ⟨b, off, rfl, ?_, by rw [hc2]; simp [List.getElem?_take, hk]⟩
    by_cases hb : b < w.heap.size
    · exact hb
    · simp [World.cell?, Array.getElem?_eq_none (show w.heap.size ≤ b by omega)] at hc2
theorem IntsAt.rel {w : World} {v : Value} {l : List Int} (h : IntsAt w v l) (ρ : Nat → Loc) : VRel 0 ρ (fun b => b < w.heap.size) w (.vsl l.length 1 (tI fun i => l.getD i 0)) v := by
  obtain ⟨a, cap, rfl, hcap, hl, hc⟩ := h
  refine ⟨a, cap, rfl, hcap, ?_⟩
  by_cases h0 : l.length = 0
  · exact .inl h0
  · obtain ⟨b, off, e1, e2, _⟩ := hc 0 (by omega)
    refine .inr ⟨b, off, e1, e2, fun i hi j hj => ?_⟩
    obtain ⟨b', off', f1, f2, f3⟩ := hc i hi
    rw [e1] at f1
    simp only [Option.some.injEq, Addr.mk.injEq] at f1
    obtain ⟨rfl, rfl, _⟩ := f1
    obtain rfl : j = 0 := by omega
    exact ⟨_, by simpa using f3, rfl, rfl⟩
theorem law_of {P : Program} {f : FuncId} {args : List PV} {vs : List Value} {w : World} (h : PureC P f args (fun r => r = vb true)) (ha : ARel (fun _ => ⟨0, 0, 0⟩) (fun b => b < w.heap.size) w args vs) (hG : GOk (fun b => b < w.heap.size) w := by exact fun x hx => by cases hx) :
    Calls P f vs.toArray w fun e w' => e = .returned (.bool true) ∧ Ext w w' :=
  (h.2 _ _ w vs (fun _ h => h) hG ha).mono fun e w' ⟨v, r, h1, h2, h3, h4⟩ => by
    subst h2; exact ⟨by rw [h1, show v = .bool true from h4], h3⟩
end Go.Proofs.Ytcefhgomkehokaa
namespace Go.Proofs.Ytcefhgomkehokaa
theorem nameS_mt : nameS n_metal = true := by decide +kernel
theorem zeroX_w {e : Ex} (h : zeroX e = true) : e.w ≤ 1 := by
  unfold zeroX at h
  simp only [Bool.and_eq_true, decide_eq_true_eq] at h
  have h := h.2.2.2.2.2.2
  cases e with
  | nil => exact Nat.zero_le _
  | mk op vn vd um uh ud nm cnt mode nk kf =>
    have h : nk = 0 := h
    subst h
    exact Nat.le_refl _
theorem gd_w {hh : Nat} {d : Df} (h : GD hh d) (h5 : hh ≤ 5) : d.body.w ≤ 900000 := by
  by_cases hk : d.kind = 3 ∨ d.kind = 4
  · exact Nat.le_trans (w_valid 5 _ ((h.wt hk).vl 5 h5)) (by decide)
  · have hd := h.df
    unfold defS at hd
    have hz : zeroX d.body = true := by
      by_cases k1 : d.kind = 1
      · rw [if_pos k1] at hd; simp only [Bool.and_eq_true] at hd; exact hd.2.2.2.1
      · rw [if_neg k1] at hd
        by_cases k5 : d.kind = 5
        · rw [if_pos k5] at hd; simp only [Bool.and_eq_true] at hd; exact hd.2.2.2.1
        · rw [if_neg k5] at hd
          by_cases k2 : d.kind = 2
          · rw [if_pos k2] at hd; simp only [Bool.and_eq_true] at hd; exact hd.2.2.2.1
          · rw [if_neg k2, if_neg (fun e => hk (.inl e)), if_neg (fun e => hk (.inr e))] at hd; cases hd
    exact Nat.le_trans (zeroX_w hz) (by decide)
theorem gd_day {d : Df} (h : defS d = true) : 0 ≤ d.day ∧ (d.kind = 1 ∨ d.kind = 5 → d.day = 0) := by
  unfold defS at h
  by_cases k1 : d.kind = 1
  · rw [if_pos k1] at h; simp only [Bool.and_eq_true, decide_eq_true_eq] at h; have := h.2.1; exact ⟨by omega, fun _ => this⟩
  · rw [if_neg k1] at h
    by_cases k5 : d.kind = 5
    · rw [if_pos k5] at h; simp only [Bool.and_eq_true, decide_eq_true_eq] at h; have := h.2.1; exact ⟨by omega, fun _ => this⟩
    · rw [if_neg k5] at h
      refine ⟨?_, fun e => absurd e (fun e => e.elim k1 k5)⟩
      by_cases k2 : d.kind = 2
      · rw [if_pos k2] at h; simp only [Bool.and_eq_true, dayS, decide_eq_true_eq] at h; exact h.2.1.1
      · rw [if_neg k2] at h
        by_cases k3 : d.kind = 3
        · rw [if_pos k3] at h; simp only [Bool.and_eq_true, dayS, decide_eq_true_eq] at h; exact h.2.1.1
        · rw [if_neg k3] at h
          by_cases k4 : d.kind = 4
          · rw [if_pos k4] at h; simp only [Bool.and_eq_true, dayS, decide_eq_true_eq] at h; exact h.2.1.1
          · rw [if_neg k4] at h; cases h
theorem good_ago {hh : Nat} {l : List Df} (h : AGood hh l) (h5 : hh ≤ 5) : AgO n_metal l := ⟨by decide, fun d hd => (h.all d hd).bd, fun d hd => gd_w (h.all d hd) h5⟩
theorem lFd_mem {l : List Df} {i : Nat} (hi : i < l.length) : lF dD l i ∈ l := by unfold lF; rw [List.getD_eq_getElem?_getD, List.getElem?_eq_getElem hi]; exact List.getElem_mem hi
theorem good_agr {hh : Nat} {l : List Df} (h : AGood hh l) : agrS n_metal l = true := by
  unfold agrS
  have hlen := h.len
  simp only [Bool.and_eq_true, decide_eq_true_eq, List.all_eq_true]
  exact ⟨nameS_mt, by omega, fun d hd => ⟨tab_nm _ (h.all d hd).tab, (h.all d hd).df⟩⟩
theorem good_ver {hh : Nat} {l : List Df} (h : AGood hh l) : VerOk l := ⟨fun i j hi hj e1 e2 => by
  have hk := h.key
  have hi2 : i < (l.map fun d => (d.nm.toList, d.day)).length := by rw [List.length_map]; exact hi
  have hj2 : j < (l.map fun d => (d.nm.toList, d.day)).length := by rw [List.length_map]; exact hj
  refine (List.getElem_inj (h₀ := hi2) (h₁ := hj2) hk).1 ?_
  rw [List.getElem_map, List.getElem_map]
  unfold lF at e1 e2
  rw [List.getD_eq_getElem?_getD, List.getD_eq_getElem?_getD, List.getElem?_eq_getElem hi, List.getElem?_eq_getElem hj] at e1 e2
  exact Prod.ext e1 e2, fun i hi => (gd_day (h.all _ (lFd_mem hi)).df).1, fun i hi => (gd_day (h.all _ (lFd_mem hi)).df).2⟩
theorem good_act {hh : Nat} {l : List Df} {day : Int} (h : AGood hh l) (h0 : 0 ≤ day) (h1 : day ≤ 84005) : ActS n_metal l day = actL l day := by
  have : chkE n_metal l day = 0 := by
    unfold chkE
    rw [if_neg (by rw [good_agr h]; decide), if_neg (by omega)]
  unfold ActS
  rw [if_pos this]
theorem argDs {mem : List Row} {L : List Nat} {x k : Nat} {l : List Df} (hk : l.length = k + 1) (hr : rowAt mem x = some (oRow cD 21 (k + 1) (lF dD l))) (hL : x ∈ L) : ArgOk mem L (.lsl x 0 (k + 1)) (vDs l) := by
  have := arg_o (s := .own) (L := L) cD_cl hr trivial hL
  rw [← hk] at this ⊢
  exact this
def stB (l : List Df) (D : Int) (i : Nat) : Bool := (List.range i).any fun j => decide ((lF dD l j).day = D)
theorem stB_succ {l : List Df} {D : Int} {i : Nat} : stB l D (i + 1) = (stB l D i || decide ((lF dD l i).day = D)) := by
  unfold stB; rw [List.range_succ, List.any_append]; simp
def inB21 (A : List Int) (i : Nat) (q : Nat) : Bool := (A.take q).any fun y => decide (y = (i : Int))
theorem inB21_succ {A : List Int} {i q : Nat} (hq : q < A.length) : inB21 A i (q + 1) = (inB21 A i q || decide (lF 0 A q = (i : Int))) := by
  unfold inB21
  rw [List.take_add_one, List.getElem?_eq_getElem hq, List.any_append, lF_get' hq]; simp
theorem inB21_all {A : List Int} {i : Nat} : inB21 A i A.length = decide ((i : Int) ∈ A) := by
  unfold inB21
  rw [List.take_length, Bool.eq_iff_iff, List.any_eq_true, decide_eq_true_eq]
  exact ⟨fun ⟨y, h1, h2⟩ => by rw [← of_decide_eq_true h2]; exact h1, fun h => ⟨_, h, decide_eq_true rfl⟩⟩
set_option maxHeartbeats 16000000 in
theorem versions21_c (n : Nat) (g : Nat → Int) (from_ : Int) (hn : n ≤ 9223372036854775807) : PureC G.P 4 [.vsl n 1 (tI g), vi from_] (fun r => r = vb true) := by
  have m0 := Int.emod_nonneg from_ (show (20 : Int) ≠ 0 by decide)
  have m1 := Int.emod_lt_of_pos from_ (show (0 : Int) < 20 by decide)
  have hwd : IntKind.i64.wrap (20454 + from_ % 20) = 20454 + from_ % 20 := w64 (by omega) (by omega)
  refine pure_of (G := G.toPg) (fn := Try.f4) Try.func4 rfl rfl rfl ?_; intro Γ hk
  repeat' (first | refine yo ?_ ?_ | refine yw ?_ ?_ | refine yk ?_ ?_ | exact trivial | with_reducible refine wA ?_ ?_ | refine ys ?_ ?_ | refine xs_done ?_ | refine yl ?_ ?_ | refine w8 ?_ | refine w9 ?_ | refine w1 ?_ | refine w2 ?_ | refine w3 ?_ | refine w4 ?_ | refine w5 ?_ | refine w6 ?_ | refine w7 ?_ | refine yo0 ?_ ?_ | refine yw0 ?_ ?_ | exact qq | fail)
  refine pop_rowsc [] rfl rfl rfl rfl rfl rfl .nil (new_c n g) (by exact ⟨PEq.refl _, trivial⟩) ?_
  rintro r rows ⟨rfl, rfl⟩
  refine ⟨_, _, rfl, ⟨tape_cl _ _ _, trivial⟩, rfl, ?_⟩
  repeat' (first | refine yo ?_ ?_ | refine yw ?_ ?_ | refine yk ?_ ?_ | exact trivial | with_reducible refine wA ?_ ?_ | refine ys ?_ ?_ | refine xs_done ?_ | refine yl ?_ ?_ | refine w8 ?_ | refine w9 ?_ | refine w1 ?_ | refine w2 ?_ | refine w3 ?_ | refine w4 ?_ | refine w5 ?_ | refine w6 ?_ | refine w7 ?_ | refine yo0 ?_ ?_ | refine yw0 ?_ ?_ | exact qq | fail)
  refine pop_rowsd [0] rfl rfl rfl rfl rfl rfl (by exact .cons rfl trivial (RowEq.cl (tape_cl _ _ _)) .nil) (agreement4_r 1 (by omega) true n g 0 hn (by omega) (by omega)) (by exact ⟨PEq.refl _, PEq.refl _, PEq.refl _, trivial⟩) ?_
  rintro r rows ⟨at_, k, l, b1, b2, hlk, hA, rfl, rfl⟩
  refine ⟨[tapeRow n g at_, rA (k + 1) 2, oRow cD 21 (k + 1) (lF dD l)], _, .agg 2 (nthP [vs n_metal, .lsl 2 0 (k + 1)]), ⟨RowEq.cl (tape_cl _ _ _), rA_eq rfl, RowEq.cl (o_cl cD_cl _ _ _), trivial⟩, rfl, peqA rfl, ?_⟩
  have hk30 := hA.len
  have hag := good_ago hA (by omega)
  have hvo := good_ver hA
  repeat' (first | refine yo ?_ ?_ | refine yw ?_ ?_ | refine yk ?_ ?_ | exact trivial | with_reducible refine wA ?_ ?_ | refine ys ?_ ?_ | refine xs_done ?_ | refine yl ?_ ?_ | refine z1 (mod_c from_ 20 (by decide) (by decide)) ?_ | refine z2 (mod_c from_ 20 (by decide) (by decide)) ?_ | refine z3 (mod_c from_ 20 (by decide) (by decide)) ?_ | refine z4 (mod_c from_ 20 (by decide) (by decide)) ?_ | refine z5 (mod_c from_ 20 (by decide) (by decide)) ?_ | refine w8 ?_ | refine w9 ?_ | refine w1 ?_ | refine w2 ?_ | refine w3 ?_ | refine w4 ?_ | refine w5 ?_ | refine w6 ?_ | refine w7 ?_ | refine yo0 ?_ ?_ | refine yw0 ?_ ?_ | exact qq | fail)
  rw [hwd]
  generalize hDD : 20454 + from_ % 20 = D
  have hD1 : 20454 ≤ D := by omega
  have hD2 : D ≤ 20473 := by omega
  clear hwd
  have cA := Active_c n_metal l D hag (by omega)
  rw [good_act hA (by omega) (by omega)] at cA
  have cA2 := Active_c n_metal l (D + 1) hag (by omega)
  rw [good_act hA (by omega) (by omega)] at cA2
  refine ocan0 (st' := ⟨[(6, .ptr 0 0 0), (7, vi D), (24, vA n_metal l), (25, vi D)], [rA1 n_metal l]⟩) ((can_frzb [2] 3 (fun _ => nthP [vs n_metal, vDs l]) (tm := [(6, .ptr 3 0 0), (7, vi D), (24, vA n_metal l), (25, vi D)]) (by intro l hl; rw [hk]; exact Nat.zero_le _) rfl rfl rfl (fun i hi j hj => by
    have hj : j < 2 := hj
    obtain rfl | rfl : j = 0 ∨ j = 1 := by omega
    · exact argVal
    · exact argDs hlk rfl (List.Mem.head _)) (by exact ⟨.inl rfl, .inl rfl, .inr (argAgr (argDs hlk rfl (List.Mem.head _))), .inl rfl, trivial⟩)).trans (can_rowsv [3] (k0_sel hk rfl) rfl (.cons rfl (RowEq.cl (rA1_cl _ _)) .nil) (by exact ⟨PEq.refl _, PEq.refl _, PEq.cl (vA n_metal l) (clA ⟨trivial, trivial, trivial⟩), PEq.refl _, trivial⟩))) ?_
  obtain ⟨A, hAe⟩ : ∃ A, actL l D = A := ⟨_, rfl⟩
  have hAl := actL_len l D
  have hbest := fun i (hi : i < l.length) => act_best hvo (by omega : 0 ≤ D) hi
  rw [hAe] at cA hAl
  simp only [hAe] at hbest
  repeat' (first | refine yo ?_ ?_ | refine yw ?_ ?_ | refine yk ?_ ?_ | exact trivial | with_reducible refine wA ?_ ?_ | refine ys ?_ ?_ | refine xs_done ?_ | refine yl ?_ ?_ | (refine pop_callc [] rfl rfl rfl rfl rfl rfl (fun _ h => by cases h) (cA) (args_cl _ rfl) ?_; rintro _ rfl) | refine w8 ?_ | refine w9 ?_ | refine w1 ?_ | refine w2 ?_ | refine w3 ?_ | refine w4 ?_ | refine w5 ?_ | refine w6 ?_ | refine w7 ?_ | refine yo0 ?_ ?_ | refine yw0 ?_ ?_ | exact qq | fail)
  refine pcan (st' := ⟨[(6, .ptr 0 0 0), (7, vi D), (8, sV A), (9, vb (stB l (D + 1) 0)), (10, vi ((0 : Nat) : Int))], [rA1 n_metal l]⟩) (can_rowsv [0] (k0_sel hk rfl) rfl (.cons rfl (RowEq.cl (rA1_cl _ _)) .nil) (by exact ⟨PEq.refl _, PEq.refl _, PEq.refl _, PEq.refl _, PEq.refl _, trivial⟩)) ?_
  refine ploop (fun q st => ∃ i : Nat, i ≤ l.length ∧ q = l.length - i ∧ st = ⟨[(6, .ptr 0 0 0), (7, vi D), (8, sV A), (9, vb (stB l (D + 1) i)), (10, vi i)], [rA1 n_metal l]⟩) l.length ⟨0, Nat.zero_le _, rfl, rfl⟩ ?_
  rintro _ _ ⟨i, hi, rfl, rfl⟩
  have hw1 : IntKind.i64.wrap ((i : Int) + 1) = ((i + 1 : Nat) : Int) := w64 (by omega) (by omega)
  have hwD : IntKind.i64.wrap (D + 1) = D + 1 := w64 (by omega) (by omega)
  repeat' (first | refine yo ?_ ?_ | refine yw ?_ ?_ | refine yk ?_ ?_ | exact trivial | with_reducible refine wA ?_ ?_ | refine ys ?_ ?_ | refine xs_done ?_ | refine yl ?_ ?_ | refine w8 ?_ | refine w9 ?_ | refine w1 ?_ | refine w2 ?_ | refine w3 ?_ | refine w4 ?_ | refine w5 ?_ | refine w6 ?_ | refine w7 ?_ | refine yo0 ?_ ?_ | refine yw0 ?_ ?_ | exact qq | fail)
  refine pcond rfl ?_ ?_ <;> intro hc
  · have hc : i < l.length := by have := of_decide_eq_true hc; omega
    repeat' (first | refine yo ?_ ?_ | refine yw ?_ ?_ | refine yk ?_ ?_ | exact trivial | with_reducible refine wA ?_ ?_ | refine ys ?_ ?_ | refine xs_done ?_ | refine yl ?_ ?_ | refine w8 ?_ | refine w9 ?_ | refine w1 ?_ | refine w2 ?_ | refine w3 ?_ | refine w4 ?_ | refine w5 ?_ | refine w6 ?_ | refine w7 ?_ | refine yo0 ?_ ?_ | refine yw0 ?_ ?_ | exact qq | fail)
    refine pcan (st' := ⟨[(6, .ptr 0 0 0), (7, vi D), (8, sV A), (9, vb (stB l (D + 1) i)), (10, vi i), (11, .ptr 1 0 0), (12, vi (bestS l D i 0)), (13, vi ((0 : Nat) : Int))], [rA1 n_metal l, rD1 (lF dD l i)]⟩) (can_rowsv [0, 1] (k0_sel hk rfl) rfl (.cons rfl (RowEq.cl (rA1_cl _ _)) (.cons rfl (RowEq.cl (rD1_cl _)) .nil)) (by exact ⟨PEq.refl _, PEq.refl _, PEq.refl _, PEq.refl _, PEq.refl _, PEq.refl _, PEq.refl _, PEq.refl _, trivial⟩)) ?_
    refine ploop (fun q st => ∃ j : Nat, j ≤ l.length ∧ q = l.length - j ∧ st = ⟨[(6, .ptr 0 0 0), (7, vi D), (8, sV A), (9, vb (stB l (D + 1) i)), (10, vi i), (11, .ptr 1 0 0), (12, vi (bestS l D i j)), (13, vi j)], [rA1 n_metal l, rD1 (lF dD l i)]⟩) l.length ⟨0, Nat.zero_le _, rfl, rfl⟩ ?_
    rintro _ _ ⟨j, hj, rfl, rfl⟩
    have hwj : IntKind.i64.wrap ((j : Int) + 1) = ((j + 1 : Nat) : Int) := w64 (by omega) (by omega)
    repeat' (first | refine yo ?_ ?_ | refine yw ?_ ?_ | refine yk ?_ ?_ | exact trivial | with_reducible refine wA ?_ ?_ | refine ys ?_ ?_ | refine xs_done ?_ | refine yl ?_ ?_ | refine w8 ?_ | refine w9 ?_ | refine w1 ?_ | refine w2 ?_ | refine w3 ?_ | refine w4 ?_ | refine w5 ?_ | refine w6 ?_ | refine w7 ?_ | refine yo0 ?_ ?_ | refine yw0 ?_ ?_ | exact qq | fail)
    refine pcond rfl ?_ ?_ <;> intro hc2
    · have hc2 : j < l.length := by have := of_decide_eq_true hc2; omega
      repeat' (first | refine yo ?_ ?_ | refine yw ?_ ?_ | refine yk ?_ ?_ | exact trivial | with_reducible refine wA ?_ ?_ | refine ys ?_ ?_ | refine xs_done ?_ | refine yl ?_ ?_ | refine w8 ?_ | refine w9 ?_ | refine w1 ?_ | refine w2 ?_ | refine w3 ?_ | refine w4 ?_ | refine w5 ?_ | refine w6 ?_ | refine w7 ?_ | refine yo0 ?_ ?_ | refine yw0 ?_ ?_ | exact qq | fail)
      refine pcond (b := decide ((lF dD l j).kind = (lF dD l i).kind ∧ (lF dD l j).nm.toList = (lF dD l i).nm.toList ∧ (lF dD l j).day ≤ D)) ?_ ?_ ?_
      · refine eqB ?_
        show (bif bif ((lF dD l j).kind == (lF dD l i).kind) then ((lF dD l j).nm.toList == (lF dD l i).nm.toList) else false then decide ((lF dD l j).day ≤ D) else false) = _
        by_cases e1 : (lF dD l j).kind = (lF dD l i).kind <;> by_cases e2 : (lF dD l j).nm.toList = (lF dD l i).nm.toList <;> by_cases e3 : (lF dD l j).day ≤ D <;> simp [e1, e2, e3]
      · intro h1
        have h1 := of_decide_eq_true h1
        have hb : bestS l D i (j + 1) = max (bestS l D i j) (lF dD l j).day := by rw [bestS_succ]; exact if_pos h1
        repeat' (first | refine yo ?_ ?_ | refine yw ?_ ?_ | refine yk ?_ ?_ | exact trivial | with_reducible refine wA ?_ ?_ | refine ys ?_ ?_ | refine xs_done ?_ | refine yl ?_ ?_ | refine w8 ?_ | refine w9 ?_ | refine w1 ?_ | refine w2 ?_ | refine w3 ?_ | refine w4 ?_ | refine w5 ?_ | refine w6 ?_ | refine w7 ?_ | refine yo0 ?_ ?_ | refine yw0 ?_ ?_ | exact qq | fail)
        rw [hwj]
        exact kloop_next (st' := ⟨[(6, .ptr 0 0 0), (7, vi D), (8, sV A), (9, vb (stB l (D + 1) i)), (10, vi i), (11, .ptr 1 0 0), (12, vi (bestS l D i (j + 1))), (13, vi ((j + 1 : Nat) : Int))], [rA1 n_metal l, rD1 (lF dD l i)]⟩) (l.length - (j + 1)) (can_rowsv [0, 1] (k0_sel hk rfl) rfl (.cons rfl (RowEq.cl (rA1_cl _ _)) (.cons rfl (RowEq.cl (rD1_cl _)) .nil)) (by exact ⟨PEq.refl _, PEq.refl _, PEq.refl _, PEq.refl _, PEq.refl _, PEq.refl _, PEq.of (congrArg vi (by rw [hb]; simp only [Int.toNat_natCast]; split <;> omega)), PEq.refl _, trivial⟩)) (by omega) ⟨j + 1, by omega, rfl, rfl⟩
      · intro h1
        have h1 := of_decide_eq_false h1
        have hb : bestS l D i (j + 1) = bestS l D i j := by rw [bestS_succ]; exact if_neg h1
        repeat' (first | refine yo ?_ ?_ | refine yw ?_ ?_ | refine yk ?_ ?_ | exact trivial | with_reducible refine wA ?_ ?_ | refine ys ?_ ?_ | refine xs_done ?_ | refine yl ?_ ?_ | refine w8 ?_ | refine w9 ?_ | refine w1 ?_ | refine w2 ?_ | refine w3 ?_ | refine w4 ?_ | refine w5 ?_ | refine w6 ?_ | refine w7 ?_ | refine yo0 ?_ ?_ | refine yw0 ?_ ?_ | exact qq | fail)
        rw [hwj]
        exact kloop_next (st' := ⟨[(6, .ptr 0 0 0), (7, vi D), (8, sV A), (9, vb (stB l (D + 1) i)), (10, vi i), (11, .ptr 1 0 0), (12, vi (bestS l D i (j + 1))), (13, vi ((j + 1 : Nat) : Int))], [rA1 n_metal l, rD1 (lF dD l i)]⟩) (l.length - (j + 1)) (can_rowsv [0, 1] (k0_sel hk rfl) rfl (.cons rfl (RowEq.cl (rA1_cl _ _)) (.cons rfl (RowEq.cl (rD1_cl _)) .nil)) (by exact ⟨PEq.refl _, PEq.refl _, PEq.refl _, PEq.refl _, PEq.refl _, PEq.refl _, PEq.of (congrArg vi hb.symm), PEq.refl _, trivial⟩)) (by omega) ⟨j + 1, by omega, rfl, rfl⟩
    · have hjl : j = l.length := by have := of_decide_eq_false hc2; omega
      subst hjl
      repeat' (first | refine yo ?_ ?_ | refine yw ?_ ?_ | refine yk ?_ ?_ | exact trivial | with_reducible refine wA ?_ ?_ | refine ys ?_ ?_ | refine xs_done ?_ | refine yl ?_ ?_ | refine w8 ?_ | refine w9 ?_ | refine w1 ?_ | refine w2 ?_ | refine w3 ?_ | refine w4 ?_ | refine w5 ?_ | refine w6 ?_ | refine w7 ?_ | refine yo0 ?_ ?_ | refine yw0 ?_ ?_ | exact qq | fail)
      refine pcan (st' := ⟨[(6, .ptr 0 0 0), (7, vi D), (8, sV A), (9, vb (stB l (D + 1) i)), (10, vi i), (11, .ptr 1 0 0), (12, vi (bestS l D i l.length)), (15, vb (inB21 A i 0)), (16, vi ((0 : Nat) : Int))], [rA1 n_metal l, rD1 (lF dD l i)]⟩) (can_rowsv [0, 1] (k0_sel hk rfl) rfl (.cons rfl (RowEq.cl (rA1_cl _ _)) (.cons rfl (RowEq.cl (rD1_cl _)) .nil)) (by exact ⟨PEq.refl _, PEq.refl _, PEq.refl _, PEq.refl _, PEq.refl _, PEq.refl _, PEq.refl _, PEq.refl _, PEq.refl _, trivial⟩)) ?_
      refine ploop (fun q st => ∃ q2 : Nat, q2 ≤ A.length ∧ q = A.length - q2 ∧ st = ⟨[(6, .ptr 0 0 0), (7, vi D), (8, sV A), (9, vb (stB l (D + 1) i)), (10, vi i), (11, .ptr 1 0 0), (12, vi (bestS l D i l.length)), (15, vb (inB21 A i q2)), (16, vi q2)], [rA1 n_metal l, rD1 (lF dD l i)]⟩) A.length ⟨0, Nat.zero_le _, rfl, rfl⟩ ?_
      rintro _ _ ⟨q2, hq, rfl, rfl⟩
      have hwq : IntKind.i64.wrap ((q2 : Int) + 1) = ((q2 + 1 : Nat) : Int) := w64 (by omega) (by omega)
      repeat' (first | refine yo ?_ ?_ | refine yw ?_ ?_ | refine yk ?_ ?_ | exact trivial | with_reducible refine wA ?_ ?_ | refine ys ?_ ?_ | refine xs_done ?_ | refine yl ?_ ?_ | refine w8 ?_ | refine w9 ?_ | refine w1 ?_ | refine w2 ?_ | refine w3 ?_ | refine w4 ?_ | refine w5 ?_ | refine w6 ?_ | refine w7 ?_ | refine yo0 ?_ ?_ | refine yw0 ?_ ?_ | exact qq | fail)
      refine pcond rfl ?_ ?_ <;> intro hc3
      · have hc3 : q2 < A.length := by have := of_decide_eq_true hc3; omega
        repeat' (first | refine yo ?_ ?_ | refine yw ?_ ?_ | refine yk ?_ ?_ | exact trivial | with_reducible refine wA ?_ ?_ | refine ys ?_ ?_ | refine xs_done ?_ | refine yl ?_ ?_ | (intro hh; exact ⟨hh, by omega⟩) | (intro hh; exact ⟨by omega, by omega⟩) | refine w8 ?_ | refine w9 ?_ | refine w1 ?_ | refine w2 ?_ | refine w3 ?_ | refine w4 ?_ | refine w5 ?_ | refine w6 ?_ | refine w7 ?_ | refine yo0 ?_ ?_ | refine yw0 ?_ ?_ | exact qq | fail)
        rw [hwq]
        exact kloop_next (st' := ⟨[(6, .ptr 0 0 0), (7, vi D), (8, sV A), (9, vb (stB l (D + 1) i)), (10, vi i), (11, .ptr 1 0 0), (12, vi (bestS l D i l.length)), (15, vb (inB21 A i (q2 + 1))), (16, vi ((q2 + 1 : Nat) : Int))], [rA1 n_metal l, rD1 (lF dD l i)]⟩) (A.length - (q2 + 1)) (can_rowsv [0, 1] (k0_sel hk rfl) rfl (.cons rfl (RowEq.cl (rA1_cl _ _)) (.cons rfl (RowEq.cl (rD1_cl _)) .nil)) (by exact ⟨PEq.refl _, PEq.refl _, PEq.refl _, PEq.refl _, PEq.refl _, PEq.refl _, PEq.refl _, PEq.of (congrArg vb (by rw [inB21_succ hc3]; cases inB21 A i q2 <;> rfl)), PEq.refl _, trivial⟩)) (by omega) ⟨q2 + 1, by omega, rfl, rfl⟩
      · have hql : q2 = A.length := by have := of_decide_eq_false hc3; omega
        subst hql
        repeat' (first | refine yo ?_ ?_ | refine yw ?_ ?_ | refine yk ?_ ?_ | exact trivial | with_reducible refine wA ?_ ?_ | refine ys ?_ ?_ | refine xs_done ?_ | refine yl ?_ ?_ | refine w8 ?_ | refine w9 ?_ | refine w1 ?_ | refine w2 ?_ | refine w3 ?_ | refine w4 ?_ | refine w5 ?_ | refine w6 ?_ | refine w7 ?_ | refine yo0 ?_ ?_ | refine yw0 ?_ ?_ | exact qq | fail)
        refine pcond (b := false) (eqB (by rw [inB21_all, hbest i hc]; by_cases e : (lF dD l i).day = bestS l D i l.length <;> simp [e])) ?_ ?_ <;> intro h3
        · cases h3
        · repeat' (first | refine yo ?_ ?_ | refine yw ?_ ?_ | refine yk ?_ ?_ | exact trivial | with_reducible refine wA ?_ ?_ | refine ys ?_ ?_ | refine xs_done ?_ | refine yl ?_ ?_ | refine w8 ?_ | refine w9 ?_ | refine w1 ?_ | refine w2 ?_ | refine w3 ?_ | refine w4 ?_ | refine w5 ?_ | refine w6 ?_ | refine w7 ?_ | refine yo0 ?_ ?_ | refine yw0 ?_ ?_ | exact qq | fail)
          rw [hwD, hw1]
          exact kloop_next (st' := ⟨[(6, .ptr 0 0 0), (7, vi D), (8, sV A), (9, vb (stB l (D + 1) (i + 1))), (10, vi ((i + 1 : Nat) : Int))], [rA1 n_metal l]⟩) (l.length - (i + 1)) (can_rowsv [0] (k0_sel hk rfl) rfl (.cons rfl (RowEq.cl (rA1_cl _ _)) .nil) (by exact ⟨PEq.refl _, PEq.refl _, PEq.refl _, PEq.of (congrArg vb (by rw [stB_succ]; cases stB l (D + 1) i <;> rfl)), PEq.refl _, trivial⟩)) (by omega) ⟨i + 1, by omega, rfl, rfl⟩
  · have hil : i = l.length := by have := of_decide_eq_false hc; omega
    subst hil
    cases hst : stB l (D + 1) l.length with
    | true =>
      repeat' (first | refine yo ?_ ?_ | refine yw ?_ ?_ | refine yk ?_ ?_ | exact trivial | with_reducible refine wA ?_ ?_ | refine ys ?_ ?_ | refine xs_done ?_ | refine yl ?_ ?_ | refine w8 ?_ | refine w9 ?_ | refine w1 ?_ | refine w2 ?_ | refine w3 ?_ | refine w4 ?_ | refine w5 ?_ | refine w6 ?_ | refine w7 ?_ | refine yo0 ?_ ?_ | refine yw0 ?_ ?_ | exact qq | fail)
      refine pop_gfB rfl rfl rfl rfl ?_
      refine pop_gfB rfl rfl rfl rfl ?_
      repeat' (first | refine yo ?_ ?_ | refine yw ?_ ?_ | refine yk ?_ ?_ | exact trivial | with_reducible refine wA ?_ ?_ | refine ys ?_ ?_ | refine xs_done ?_ | refine yl ?_ ?_ | (refine pop_unguard rfl rfl ?_) | (intro hh; cases hh; done) | refine z1 sane21_c ?_ | refine z2 sane21_c ?_ | refine z3 sane21_c ?_ | refine z4 sane21_c ?_ | refine z5 sane21_c ?_ | refine w8 ?_ | refine w9 ?_ | refine w1 ?_ | refine w2 ?_ | refine w3 ?_ | refine w4 ?_ | refine w5 ?_ | refine w6 ?_ | refine w7 ?_ | refine yo0 ?_ ?_ | refine yw0 ?_ ?_ | exact qq | fail)
      refine xdone ?_
      exact kretv rfl ⟨trivial, trivial⟩ rfl rfl
    | false =>
      have hnx : actL l (D + 1) = A := by
        rw [← hAe]
        refine act_next fun i hi he => ?_
        unfold stB at hst
        rw [List.any_eq_false] at hst
        exact hst i (List.mem_range.2 hi) (decide_eq_true he)
      rw [hnx] at cA2
      have cs := same21_c A A (by omega) (by omega)
      rw [decide_eq_true (rfl : A = A)] at cs
      repeat' (first | refine yo ?_ ?_ | refine yw ?_ ?_ | refine yk ?_ ?_ | exact trivial | with_reducible refine wA ?_ ?_ | refine ys ?_ ?_ | refine xs_done ?_ | refine yl ?_ ?_ | refine w8 ?_ | refine w9 ?_ | refine w1 ?_ | refine w2 ?_ | refine w3 ?_ | refine w4 ?_ | refine w5 ?_ | refine w6 ?_ | refine w7 ?_ | refine yo0 ?_ ?_ | refine yw0 ?_ ?_ | exact qq | fail)
      rw [hwD]
      refine pop_opt 105 rfl rfl ?_
      refine pop_opt 107 rfl rfl ?_
      refine pop_unguard rfl rfl ?_
      repeat' (first | refine yo ?_ ?_ | refine yw ?_ ?_ | refine yk ?_ ?_ | exact trivial | with_reducible refine wA ?_ ?_ | refine ys ?_ ?_ | refine xs_done ?_ | refine yl ?_ ?_ | (refine pop_callc [] rfl rfl rfl rfl rfl rfl (fun _ h => by cases h) (cA2) (args_cl _ rfl) ?_; rintro _ rfl) | refine w8 ?_ | refine w9 ?_ | refine w1 ?_ | refine w2 ?_ | refine w3 ?_ | refine w4 ?_ | refine w5 ?_ | refine w6 ?_ | refine w7 ?_ | refine yo0 ?_ ?_ | refine yw0 ?_ ?_ | exact qq | fail)
      refine pop_opt 104 rfl rfl ?_
      refine pop_unguard rfl rfl ?_
      repeat' (first | refine yo ?_ ?_ | refine yw ?_ ?_ | refine yk ?_ ?_ | exact trivial | with_reducible refine wA ?_ ?_ | refine ys ?_ ?_ | refine xs_done ?_ | refine yl ?_ ?_ | refine z1 cs ?_ | refine z2 cs ?_ | refine z3 cs ?_ | refine z4 cs ?_ | refine z5 cs ?_ | refine w8 ?_ | refine w9 ?_ | refine w1 ?_ | refine w2 ?_ | refine w3 ?_ | refine w4 ?_ | refine w5 ?_ | refine w6 ?_ | refine w7 ?_ | refine yo0 ?_ ?_ | refine yw0 ?_ ?_ | exact qq | fail)
      refine pop_unguard rfl rfl ?_
      repeat' (first | refine yo ?_ ?_ | refine yw ?_ ?_ | refine yk ?_ ?_ | exact trivial | with_reducible refine wA ?_ ?_ | refine ys ?_ ?_ | refine xs_done ?_ | refine yl ?_ ?_ | refine z1 sane21_c ?_ | refine z2 sane21_c ?_ | refine z3 sane21_c ?_ | refine z4 sane21_c ?_ | refine z5 sane21_c ?_ | refine w8 ?_ | refine w9 ?_ | refine w1 ?_ | refine w2 ?_ | refine w3 ?_ | refine w4 ?_ | refine w5 ?_ | refine w6 ?_ | refine w7 ?_ | refine yo0 ?_ ?_ | refine yw0 ?_ ?_ | exact qq | fail)
      refine xdone ?_
      exact kretv rfl ⟨trivial, trivial⟩ rfl rfl
theorem depVersions_walk (v : Value) (l : List Int) (x : Int) (w : World) (h : IntsAt w v l) : Calls G.P 4 #[v, .int .i64 x] w fun e w' => e = .returned (.bool true) ∧ Ext w w' := by
  have hl : l.length ≤ 9223372036854775807 := by obtain ⟨_, _, _, _, h, _⟩ := h; exact h
  exact law_of (vs := [v, .int .i64 x]) (versions21_c l.length _ x hl) ⟨h.rel _, rfl, trivial⟩
end Go.Proofs.Ytcefhgomkehokaa
