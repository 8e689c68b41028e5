/- payrollgen: expressions of any height up to 5. -/
import Derived.Test.YtcefhgomkehokaaA14
import Derived.Test.YtcefhgomkehokaaA15
import Derived.Test.YtcefhgomkehokaaA16
import Derived.Test.YtcefhgomkehokaaA17
import Derived.Test.YtcefhgomkehokaaA18
import Derived.Test.YtcefhgomkehokaaA13
import Derived.Test.YtcefhgomkehokaaA11
import Derived.Test.YtcefhgomkehokaaA08
import Derived.Test.YtcefhgomkehokaaA05
import Derived.Test.YtcefhgomkehokaaA07
import Derived.Test.YtcefhgomkehokaaA12
set_option linter.unusedSimpArgs false
set_option linter.unusedVariables false
set_option maxRecDepth 100000
namespace Go.Proofs.Ytcefhgomkehokaa
set_option maxHeartbeats 4000000 in
theorem expr_one_t : XT 1 := by
  intro t ht rules
  simp only [tys5, List.mem_cons, List.not_mem_nil, or_false] at ht
  have l1 := leaf_number_t rules
  have l2 := leaf_money_t rules
  have l3 := leaf_hours_t rules
  have l4 := leaf_rate_t rules
  have l5 := leaf_truth_t rules
  intro n g at_ hn h1 h2
  rcases ht with rfl | rfl | rfl | rfl | rfl
  all_goals
    refine ptr_of (G := G.toPg) (fn := Try.f20) Try.func20 rfl rfl rfl ?_; intro Γ hk
    repeat' (first | refine yo ?_ ?_ | refine yw ?_ ?_ | refine yk ?_ ?_ | exact trivial | with_reducible refine wA ?_ ?_ | refine ys ?_ ?_ | refine xs_done ?_ | refine yl ?_ ?_ | refine w8 ?_ | refine w9 ?_ | refine w1 ?_ | refine w2 ?_ | refine w3 ?_ | refine w4 ?_ | refine w5 ?_ | refine w6 ?_ | refine w7 ?_ | refine yo0 ?_ ?_ | refine yw0 ?_ ?_ | exact qq | fail)
    rw [show decide (((1 : Nat) : Int) ≤ 1) = true from rfl]
    repeat' (first | refine yo ?_ ?_ | refine yw ?_ ?_ | refine yk ?_ ?_ | exact trivial | with_reducible refine wA ?_ ?_ | refine ys ?_ ?_ | refine xs_done ?_ | refine yl ?_ ?_ | (refine pop_gfalse rfl rfl rfl rfl ?_) | (refine t1 l1 hn ?_; rintro at_ _ b1 b2 ⟨e, rfl, he⟩) | (refine t2 l1 hn ?_; rintro at_ _ b1 b2 ⟨e, rfl, he⟩) | (refine t3 l1 hn ?_; rintro at_ _ b1 b2 ⟨e, rfl, he⟩) | (refine t1 l2 hn ?_; rintro at_ _ b1 b2 ⟨e, rfl, he⟩) | (refine t2 l2 hn ?_; rintro at_ _ b1 b2 ⟨e, rfl, he⟩) | (refine t3 l2 hn ?_; rintro at_ _ b1 b2 ⟨e, rfl, he⟩) | (refine t1 l3 hn ?_; rintro at_ _ b1 b2 ⟨e, rfl, he⟩) | (refine t2 l3 hn ?_; rintro at_ _ b1 b2 ⟨e, rfl, he⟩) | (refine t3 l3 hn ?_; rintro at_ _ b1 b2 ⟨e, rfl, he⟩) | (refine t1 l4 hn ?_; rintro at_ _ b1 b2 ⟨e, rfl, he⟩) | (refine t2 l4 hn ?_; rintro at_ _ b1 b2 ⟨e, rfl, he⟩) | (refine t3 l4 hn ?_; rintro at_ _ b1 b2 ⟨e, rfl, he⟩) | (refine t1 l5 hn ?_; rintro at_ _ b1 b2 ⟨e, rfl, he⟩) | (refine t2 l5 hn ?_; rintro at_ _ b1 b2 ⟨e, rfl, he⟩) | (refine t3 l5 hn ?_; rintro at_ _ b1 b2 ⟨e, rfl, he⟩) | refine w8 ?_ | refine w9 ?_ | refine w1 ?_ | refine w2 ?_ | refine w3 ?_ | refine w4 ?_ | refine w5 ?_ | refine w6 ?_ | refine w7 ?_ | refine yo0 ?_ ?_ | refine yw0 ?_ ?_ | exact qq | fail)
    refine xdone ?_
    exact ktap rfl b1 b2 rfl ⟨Nat.zero_lt_one, trivial⟩ rfl ⟨e, rfl, he⟩
theorem expr_up (k : Nat) (hk5 : k ≤ 100) (ih : XT (k + 1)) : XT (k + 2) := by
  intro t ht rules
  simp only [tys5, List.mem_cons, List.not_mem_nil, or_false] at ht
  rcases ht with rfl | rfl | rfl | rfl | rfl
  · exact expr_number_t k hk5 ih rules
  · exact expr_money_t k hk5 ih rules
  · exact expr_hours_t k hk5 ih rules
  · exact expr_rate_t k hk5 ih rules
  · exact expr_truth_t k hk5 ih rules
theorem expr_t : ∀ k, k ≤ 5 → XT (k + 1)
  | 0, _ => expr_one_t
  | k + 1, hk => expr_up k (by omega) (expr_t k (by omega))
end Go.Proofs.Ytcefhgomkehokaa
namespace Go.Proofs.Ytcefhgomkehokaa
set_option maxHeartbeats 20000000 in
theorem agr_pay (wild : Bool) (h : Nat) (h1 : 1 ≤ h) (h32 : h ≤ 32) (hX : ∀ t, t ∈ tysA → ∀ rules : Int, TapC G.P 20 [vT t, vi h, vi rules] (fun r => ∃ e, r = vX e ∧ EOk rules (max h 1) t e)) (n : Nat) (g : Nat → Int) (hn : n ≤ 9223372036854775807) (Γ : Fr) (hk : Γ.k0 = 1) (at_ : Int) (k : Nat) (l : List Df) (b1 : 0 ≤ at_) (b2 : at_ ≤ n) (hlk : l.length = k + 1) (hA : AB wild h 16 l) :
    PWp G.toPg Try.f6.ntmps Γ (dropS 7 (Try.f6.body.getD .skip)) ⟨[(0, .ptr 0 0 0), (1, vi h), (6, .ptr 1 0 0), (7, .ptr 2 0 0)], [tapeRow n g at_, rZA, rA (k + 1) 3, vRow cD 21 (k + 1) (lF dD l)]⟩ (KretR Try.f6.ntmps Γ G.tab Try.f6.results.toList 1 (agrPost wild h n g)) := by
  have hM := hX tM (by simp [tysA])
  repeat' (first | refine yo ?_ ?_ | refine yw ?_ ?_ | refine yk ?_ ?_ | exact trivial | with_reducible refine wA ?_ ?_ | refine ys ?_ ?_ | refine xs_done ?_ | refine yl ?_ ?_ | refine w8 ?_ | refine w9 ?_ | refine w1 ?_ | refine w2 ?_ | refine w3 ?_ | refine w4 ?_ | refine w5 ?_ | refine w6 ?_ | refine w7 ?_ | refine yo0 ?_ ?_ | refine yw0 ?_ ?_ | exact qq | fail)
  refine pcan (st' := ⟨[(0, .ptr 0 0 0), (1, vi h), (6, .ptr 1 0 0), (7, .ptr 2 0 0), (13, vi 0)], [tapeRow n g at_, rZA, rA (k + 1) 3, vRow cD 21 (k + 1) (lF dD l)]⟩) (can_rowsv [0, 1, 2, 3] (k0_sel hk rfl) rfl (.cons rfl (RowEq.cl (tape_cl _ _ _)) (.cons rfl rqq (.cons rfl rqq (.cons rfl (RowEq.cl (v_cl cD_cl _ _ _)) .nil)))) tmq) ?_
  refine pcutx (fun st => ∃ (at' : Int) (k : Nat) (l : List Df), 0 ≤ at' ∧ at' ≤ n ∧ l.length = k + 1 ∧ AGood wild h l ∧ st = ⟨[(0, .ptr 0 0 0), (6, .ptr 1 0 0), (7, .ptr 2 0 0)], [tapeRow n g at', rZA, rA (k + 1) 3, vRow cD 21 (k + 1) (lF dD l)]⟩) ?_ (by rintro _ ⟨at', k, l, b1, b2, hlk, hA, rfl⟩; exact agr_swap wild h n g hn Γ hk at' k l b1 b2 hlk hA)
  refine ploop (fun q st => ∃ (at' : Int) (v k : Nat) (l : List Df), 0 ≤ at' ∧ at' ≤ n ∧ v ≤ 2 ∧ q = 2 - v ∧ l.length = k + 1 ∧ AB wild h (16 + v) l ∧ st = ⟨[(0, .ptr 0 0 0), (1, vi h), (6, .ptr 1 0 0), (7, .ptr 2 0 0), (13, vi v)], [tapeRow n g at', rZA, rA (k + 1) 3, vRow cD 21 (k + 1) (lF dD l)]⟩) 2 ⟨at_, 0, k, l, b1, b2, by omega, rfl, hlk, hA, rfl⟩ ?_
  clear hlk hA b1 b2
  rintro _ _ ⟨at', v, k, l, b1, b2, hv, rfl, hlk, hA, rfl⟩
  have hkl := hA.len
  repeat' (first | refine yo ?_ ?_ | refine yw ?_ ?_ | refine yk ?_ ?_ | exact trivial | with_reducible refine wA ?_ ?_ | refine ys ?_ ?_ | refine xs_done ?_ | refine yl ?_ ?_ | (refine tn1 hn ?_; rintro at_ b1 b2 x hx1 hx2) | refine w8 ?_ | refine w9 ?_ | refine w1 ?_ | refine w2 ?_ | refine w3 ?_ | refine w4 ?_ | refine w5 ?_ | refine w6 ?_ | refine w7 ?_ | refine yo0 ?_ ?_ | refine yw0 ?_ ?_ | exact qq | fail)
  refine pcond rfl ?_ ?_ <;> intro hc4 <;> simp at hc4
  · have hv1 : v ≤ 1 := by omega
    have hwv : IntKind.i64.wrap ((v : Int) + 1) = ((v + 1 : Nat) : Int) := w64 (by omega) (by omega)
    obtain ⟨ht1, ht2, ht3⟩ := pay_tab3 hv1
    clear hx1 hx2 hc4
    repeat' (first | refine yo ?_ ?_ | refine yw ?_ ?_ | refine yk ?_ ?_ | exact trivial | with_reducible refine wA ?_ ?_ | refine ys ?_ ?_ | refine xs_done ?_ | refine yl ?_ ?_ | refine xs_startH (id := 20) [1,2] false [.take 0, .take 1, .take 3, .take 6, .take 8, .take 9, .take 10, .take 12, .take 14, .take 15, .take 16, .take 18, .take 7] 14 rfl (by kernel_rfl) ?_ | refine BrAll.cons ?_ ?_ | exact BrAll.nil | refine xs_brT (n := 27) [0, 1, 3, 6, 7, 8, 9, 10, 12, 14, 15, 16, 18] [(2, [.take 4], false, 12), (11, [], false, 13), (17, [], false, 13)] (by decide +kernel) rfl (by kernel_rfl) (by kernel_rfl) ?_ | refine xs_brT (n := 27) [0, 1, 3, 6, 7, 8, 9, 10, 12, 14, 15, 16, 17, 18] [(2, [.take 4], false, 11), (11, [], false, 12)] (by decide +kernel) rfl (by kernel_rfl) (by kernel_rfl) ?_ | refine xs_brT (n := 27) [0, 1, 3, 6, 7, 8, 9, 10, 11, 12, 14, 15, 16, 17, 18] [(2, [.take 4], false, 10), (13, [], false, 11)] (by decide +kernel) rfl (by kernel_rfl) (by kernel_rfl) ?_ | refine xs_brT (n := 27) [0, 1, 3, 6, 7, 8, 9, 10, 11, 12, 13, 14, 15, 16, 17, 18] [(2, [.take 4], false, 9), (19, [.take 20], false, 9)] (by decide +kernel) rfl (by kernel_rfl) (by kernel_rfl) ?_ | refine xs_brT (n := 27) [0, 1, 3, 6, 7, 8, 9, 10, 11, 12, 14, 15, 16, 18] [(2, [.take 4], false, 11), (13, [], false, 12), (17, [], false, 12)] (by decide +kernel) rfl (by kernel_rfl) (by kernel_rfl) ?_ | refine xs_brT (n := 27) [0, 1, 3, 6, 7, 8, 9, 10, 11, 12, 13, 14, 15, 16, 18] [(2, [.take 4], false, 10), (17, [], false, 11), (19, [], false, 11)] (by decide +kernel) rfl (by kernel_rfl) (by kernel_rfl) ?_ | refine xs_brT (n := 27) [0, 1, 3, 6, 7, 8, 9, 10, 11, 12, 13, 14, 15, 16, 18, 19] [(2, [.take 4], false, 9), (17, [.take 20], false, 9)] (by decide +kernel) rfl (by kernel_rfl) (by kernel_rfl) ?_ | refine xs_brT (n := 27) [0, 1, 2, 3, 4, 5, 6, 7, 8, 9, 10, 11, 12, 13, 14, 15, 16, 18] [(17, [.one 19, .take 20], false, 6), (19, [.one 17, .take 20], false, 6)] (by decide +kernel) rfl (by kernel_rfl) (by kernel_rfl) ?_ | refine xs_brT (n := 27) [0, 1, 2, 3, 4, 5, 6, 7, 8, 9, 10, 11, 12, 14, 15, 16, 18] [(13, [], false, 9), (17, [.one 13, .one 19, .take 20], false, 6)] (by decide +kernel) rfl (by kernel_rfl) (by kernel_rfl) ?_ | refine xs_brT (n := 27) [0, 1, 2, 3, 4, 5, 6, 7, 8, 9, 10, 12, 14, 15, 16, 18] [(11, [], false, 10), (17, [.one 11, .one 13, .one 19, .take 20], false, 6)] (by decide +kernel) rfl (by kernel_rfl) (by kernel_rfl) ?_ | refine xs_moreF (sch := [.take 5]) (fin := false) (m' := 11) (n := 27) [0, 1, 2, 3, 4, 6, 7, 8, 9, 10, 12, 14, 15, 16, 18] (by decide +kernel) (by kernel_rfl) ?_ | refine xs_moreF (sch := []) (fin := false) (m' := 11) (n := 27) [0, 1, 2, 3, 4, 5, 6, 7, 8, 9, 10, 12, 14, 15, 16, 18] (by decide +kernel) (by kernel_rfl) ?_ | refine xs_moreF (sch := [.take 5]) (fin := false) (m' := 10) (n := 27) [0, 1, 2, 3, 4, 6, 7, 8, 9, 10, 12, 14, 15, 16, 17, 18] (by decide +kernel) (by kernel_rfl) ?_ | refine xs_moreF (sch := [.one 11, .one 13, .one 19, .take 20]) (fin := false) (m' := 6) (n := 27) [0, 1, 2, 3, 4, 5, 6, 7, 8, 9, 10, 12, 14, 15, 16, 17, 18] (by decide +kernel) (by kernel_rfl) ?_ | refine xs_moreF (sch := [.take 21]) (fin := false) (m' := 5) (n := 27) [0, 1, 2, 3, 4, 5, 6, 7, 8, 9, 10, 11, 12, 13, 14, 15, 16, 17, 18, 19, 20] (by decide +kernel) (by kernel_rfl) ?_ | refine xs_moreF (sch := [.take 22, .one 23, .one 24, .take 25, .one 26]) (fin := true) (m' := 0) (n := 27) [0, 1, 2, 3, 4, 5, 6, 7, 8, 9, 10, 11, 12, 13, 14, 15, 16, 17, 18, 19, 20, 21] (by decide +kernel) (by kernel_rfl) ?_ | refine xs_moreF (sch := [.take 5]) (fin := false) (m' := 9) (n := 27) [0, 1, 2, 3, 4, 6, 7, 8, 9, 10, 11, 12, 14, 15, 16, 17, 18] (by decide +kernel) (by kernel_rfl) ?_ | refine xs_moreF (sch := [.one 13, .one 19, .take 20]) (fin := false) (m' := 6) (n := 27) [0, 1, 2, 3, 4, 5, 6, 7, 8, 9, 10, 11, 12, 14, 15, 16, 17, 18] (by decide +kernel) (by kernel_rfl) ?_ | refine xs_moreF (sch := [.take 5]) (fin := false) (m' := 8) (n := 27) [0, 1, 2, 3, 4, 6, 7, 8, 9, 10, 11, 12, 13, 14, 15, 16, 17, 18] (by decide +kernel) (by kernel_rfl) ?_ | refine xs_moreF (sch := [.one 19, .take 20]) (fin := false) (m' := 6) (n := 27) [0, 1, 2, 3, 4, 5, 6, 7, 8, 9, 10, 11, 12, 13, 14, 15, 16, 17, 18] (by decide +kernel) (by kernel_rfl) ?_ | refine xs_moreF (sch := [.take 21]) (fin := false) (m' := 8) (n := 27) [0, 1, 3, 6, 7, 8, 9, 10, 11, 12, 13, 14, 15, 16, 17, 18, 19, 20] (by decide +kernel) (by kernel_rfl) ?_ | refine xs_moreF (sch := [.one 2, .take 4]) (fin := false) (m' := 6) (n := 27) [0, 1, 3, 6, 7, 8, 9, 10, 11, 12, 13, 14, 15, 16, 17, 18, 19, 20, 21] (by decide +kernel) (by kernel_rfl) ?_ | refine xs_moreF (sch := [.take 5]) (fin := false) (m' := 5) (n := 27) [0, 1, 2, 3, 4, 6, 7, 8, 9, 10, 11, 12, 13, 14, 15, 16, 17, 18, 19, 20, 21] (by decide +kernel) (by kernel_rfl) ?_ | refine xs_moreF (sch := [.take 5]) (fin := false) (m' := 10) (n := 27) [0, 1, 2, 3, 4, 6, 7, 8, 9, 10, 11, 12, 14, 15, 16, 18] (by decide +kernel) (by kernel_rfl) ?_ | refine xs_moreF (sch := []) (fin := false) (m' := 10) (n := 27) [0, 1, 2, 3, 4, 5, 6, 7, 8, 9, 10, 11, 12, 14, 15, 16, 18] (by decide +kernel) (by kernel_rfl) ?_ | refine xs_moreF (sch := [.take 5]) (fin := false) (m' := 9) (n := 27) [0, 1, 2, 3, 4, 6, 7, 8, 9, 10, 11, 12, 13, 14, 15, 16, 18] (by decide +kernel) (by kernel_rfl) ?_ | refine xs_moreF (sch := []) (fin := false) (m' := 9) (n := 27) [0, 1, 2, 3, 4, 5, 6, 7, 8, 9, 10, 11, 12, 13, 14, 15, 16, 18] (by decide +kernel) (by kernel_rfl) ?_ | refine xs_moreF (sch := [.take 5]) (fin := false) (m' := 8) (n := 27) [0, 1, 2, 3, 4, 6, 7, 8, 9, 10, 11, 12, 13, 14, 15, 16, 18, 19] (by decide +kernel) (by kernel_rfl) ?_ | refine xs_moreF (sch := [.one 17, .take 20]) (fin := false) (m' := 6) (n := 27) [0, 1, 2, 3, 4, 5, 6, 7, 8, 9, 10, 11, 12, 13, 14, 15, 16, 18, 19] (by decide +kernel) (by kernel_rfl) ?_ | refine ⟨_, [], true, rfl, rfl, stepOp_pst rfl ?_ ?_⟩ | (refine xs_takeR rfl rfl rfl rfl (pread_cell (q := vs (lF ⟨#[]⟩ nmsP v)) rfl rfl rfl rfl rfl (nmP_row hv1)) rfl (show (0 + ((v : Nat) : Int).toNat) < 2 from by omega) ?_) | (refine xs_takeR rfl rfl rfl rfl (pread_aggs2 (q := [vi (lF dS stepL x.toNat).1, vi (lF dS stepL x.toNat).2]) rfl rfl rfl rfl rfl rfl (st3_row hx1 hx2)) rfl (show 0 + x.toNat < 3 from by omega) ?_) | exact ⟨Nat.le_refl _, (by rw [hk]; exact Nat.le_of_ble_eq_true rfl), Nat.le_of_eq (Nat.zero_add _), (show (_ : Nat) * 216 ≤ 140737488355328 from by omega), (show (_ : Nat) ≤ 9223372036854775807 from by omega)⟩ | (refine t1 ((hM _)) hn ?_; rintro at_ _ b1 b2 ⟨e, rfl, he⟩) | (refine t2 ((hM _)) hn ?_; rintro at_ _ b1 b2 ⟨e, rfl, he⟩) | (refine t3 ((hM _)) hn ?_; rintro at_ _ b1 b2 ⟨e, rfl, he⟩) | (refine tn3 hn ?_; rintro at_ b1 b2 x hx1 hx2) | (refine tn2 hn ?_; rintro at_ b1 b2 x hx1 hx2) | refine z1 money_c ?_ | refine z2 money_c ?_ | refine z3 money_c ?_ | refine z4 money_c ?_ | refine z5 money_c ?_ | refine w8 ?_ | refine w9 ?_ | refine w1 ?_ | refine w2 ?_ | refine w3 ?_ | refine w4 ?_ | refine w5 ?_ | refine w6 ?_ | refine w7 ?_ | refine yo0 ?_ ?_ | refine yw0 ?_ ?_ | exact qq | refine xs_growN 4 rfl rfl trivial ?_ | refine xs_growN 5 rfl rfl trivial ?_ | fail)
    all_goals
      rename_i at1 c1 c2 xm hm1 hm2
      refine xdone ?_
      rw [hwv]
      exact kloop_next (st' := ⟨[(0, .ptr 0 0 0), (1, vi h), (6, .ptr 1 0 0), (7, .ptr 2 0 0), (13, vi ((v + 1 : Nat) : Int))], [tapeRow n g _, rZA, rA (k + 1 + 1) 3, vRow cD 21 (k + 1 + 1) (lF dD (l ++ [dP (lF ⟨#[]⟩ nmsP v) e xm (lF dS stepL x.toNat)]))]⟩) (2 - (v + 1)) (can_rowsv [0, 1, 2, 7] (k0_sel hk rfl) rfl (.cons rfl (RowEq.cl (tape_cl _ _ _)) (.cons rfl rqq (.cons rfl rqq (.cons rfl (app_p cD_cl (by assumption) (fun b hb => by rcases split21 hb with rfl | rfl | rfl | rfl | rfl | rfl | rfl | rfl | rfl | rfl | rfl | rfl | rfl | rfl | rfl | rfl | rfl | rfl | rfl | rfl | rfl <;> first | exact PEq.refl _ | exact peq_nil) rfl) .nil)))) tmq) (by omega) ⟨_, v + 1, k + 1, _, by assumption, by assumption, by omega, rfl, by rw [List.length_append, hlk]; rfl, hA.snoc (by omega) (d := dP (lF ⟨#[]⟩ nmsP v) e xm (lF dS stepL x.toNat)) ht3.symm (gd_pay (he.mono (by omega)) (pay_rho hv1) h32 ht1 ht2 (by omega) (st3_mem hx1 hx2)), rfl⟩
  · repeat' (first | refine yo ?_ ?_ | refine yw ?_ ?_ | refine yk ?_ ?_ | exact trivial | with_reducible refine wA ?_ ?_ | refine ys ?_ ?_ | refine xs_done ?_ | refine yl ?_ ?_ | refine w8 ?_ | refine w9 ?_ | refine w1 ?_ | refine w2 ?_ | refine w3 ?_ | refine w4 ?_ | refine w5 ?_ | refine w6 ?_ | refine w7 ?_ | refine yo0 ?_ ?_ | refine yw0 ?_ ?_ | exact qq | fail)
    refine kblock_hit rfl ?_
    exact kcut (st' := ⟨[(0, .ptr 0 0 0), (6, .ptr 1 0 0), (7, .ptr 2 0 0)], [tapeRow n g _, rZA, rA (k + 1) 3, vRow cD 21 (k + 1) (lF dD l)]⟩) (can_rowsv [0, 1, 2, 3] (k0_sel hk rfl) rfl (.cons rfl (RowEq.cl (tape_cl _ _ _)) (.cons rfl rqq (.cons rfl rqq (.cons rfl (RowEq.cl (v_cl cD_cl _ _ _)) .nil)))) tmq) ⟨_, k, l, by assumption, by assumption, hlk, (by
      rcases (by omega : v = 1 ∨ v = 2) with rfl | rfl
      · exact (hA.skip (by omega) (.inr rfl)).good
      · exact hA.good), rfl⟩
end Go.Proofs.Ytcefhgomkehokaa
namespace Go.Proofs.Ytcefhgomkehokaa
set_option maxHeartbeats 8000000 in
theorem agreement_r (h : Nat) (h1 : 1 ≤ h) (h32 : h ≤ 32) (hX : ∀ t, t ∈ tysA → ∀ rules : Int, TapC G.P 20 [vT t, vi h, vi rules] (fun r => ∃ e, r = vX e ∧ EOk rules (max h 1) t e)) (wild : Bool) (n : Nat) (g : Nat → Int) (at_ : Int) (hn : n ≤ 9223372036854775807) (h1' : 0 ≤ at_) (h2' : at_ ≤ n) : RowsC G.P 6 [tapeRow n g at_] [.ptr 0 0 0, vi h, vb wild] (agrPost wild h n g) := by
  refine rows_of (G := G.toPg) (fn := Try.f6) Try.func6 rfl rfl rfl ?_; intro Γ hk
  replace hk : Γ.k0 = 1 := hk
  repeat' (first | refine yo ?_ ?_ | refine yw ?_ ?_ | refine yk ?_ ?_ | exact trivial | with_reducible refine wA ?_ ?_ | refine ys ?_ ?_ | refine xs_done ?_ | refine yl ?_ ?_ | refine z1 number_c ?_ | refine z2 number_c ?_ | refine z3 number_c ?_ | refine z4 number_c ?_ | refine z5 number_c ?_ | refine z1 money_c ?_ | refine z2 money_c ?_ | refine z3 money_c ?_ | refine z4 money_c ?_ | refine z5 money_c ?_ | refine z1 hours_c ?_ | refine z2 hours_c ?_ | refine z3 hours_c ?_ | refine z4 hours_c ?_ | refine z5 hours_c ?_ | refine z1 rate_c ?_ | refine z2 rate_c ?_ | refine z3 rate_c ?_ | refine z4 rate_c ?_ | refine z5 rate_c ?_ | refine z1 truth_c ?_ | refine z2 truth_c ?_ | refine z3 truth_c ?_ | refine z4 truth_c ?_ | refine z5 truth_c ?_ | refine w8 ?_ | refine w9 ?_ | refine w1 ?_ | refine w2 ?_ | refine w3 ?_ | refine w4 ?_ | refine w5 ?_ | refine w6 ?_ | refine w7 ?_ | refine yo0 ?_ ?_ | refine yw0 ?_ ?_ | exact qq | fail)
  refine pcan (st' := ⟨[(0, .ptr 0 0 0), (1, vi h), (2, vb wild), (6, .ptr 1 0 0), (7, .ptr 2 0 0)], [tapeRow n g at_, rZA, rA 5 3, vRow cD 21 5 (lF dD ins5)]⟩) (can_rowsv [0, 1, 2, 3] (k0_sel hk rfl) rfl (.cons rfl (RowEq.cl (tape_cl _ _ _)) (.cons rfl rqq (.cons rfl rqq (.cons rfl (o_eqP (Nat.le_refl _) fun a ha b hb => by
    rcases (by omega : a = 0 ∨ a = 1 ∨ a = 2 ∨ a = 3 ∨ a = 4) with rfl | rfl | rfl | rfl | rfl <;> rcases split21 hb with rfl | rfl | rfl | rfl | rfl | rfl | rfl | rfl | rfl | rfl | rfl | rfl | rfl | rfl | rfl | rfl | rfl | rfl | rfl | rfl | rfl <;> first | exact PEq.refl _ | exact peq_nil) .nil)))) tmq) ?_
  repeat' (first | refine yo ?_ ?_ | refine yw ?_ ?_ | refine yk ?_ ?_ | exact trivial | with_reducible refine wA ?_ ?_ | refine ys ?_ ?_ | refine xs_done ?_ | refine yl ?_ ?_ | refine xs_startH (id := 3) [1,2] true [.take 0, .take 1, .take 2, .take 5, .one 3, .one 4, .one 6, .one 7, .one 8, .one 9, .take 10, .one 11] 0 rfl (by kernel_rfl) ?_ | (exact ⟨Nat.le_refl _, (by rw [hk]; exact Nat.le_of_ble_eq_true rfl), Nat.le_of_ble_eq_true rfl, Nat.le_of_ble_eq_true rfl, Nat.le_of_ble_eq_true rfl⟩) | (refine t1 ((scale_t n_w tR 20454)) hn ?_; rintro at_ _ b1 b2 ⟨d1, rfl, hd1⟩) | (refine t2 ((scale_t n_w tR 20454)) hn ?_; rintro at_ _ b1 b2 ⟨d1, rfl, hd1⟩) | (refine t3 ((scale_t n_w tR 20454)) hn ?_; rintro at_ _ b1 b2 ⟨d1, rfl, hd1⟩) | (refine t1 ((scale_t n_s t0 20454)) hn ?_; rintro at_ _ b1 b2 ⟨d2, rfl, hd2⟩) | (refine t2 ((scale_t n_s t0 20454)) hn ?_; rintro at_ _ b1 b2 ⟨d2, rfl, hd2⟩) | (refine t3 ((scale_t n_s t0 20454)) hn ?_; rintro at_ _ b1 b2 ⟨d2, rfl, hd2⟩) | (refine tn1 hn ?_; rintro at_ b1 b2 x hx1 hx2) | refine z1 number_c ?_ | refine z2 number_c ?_ | refine z3 number_c ?_ | refine z4 number_c ?_ | refine z5 number_c ?_ | refine z1 money_c ?_ | refine z2 money_c ?_ | refine z3 money_c ?_ | refine z4 money_c ?_ | refine z5 money_c ?_ | refine z1 hours_c ?_ | refine z2 hours_c ?_ | refine z3 hours_c ?_ | refine z4 hours_c ?_ | refine z5 hours_c ?_ | refine z1 rate_c ?_ | refine z2 rate_c ?_ | refine z3 rate_c ?_ | refine z4 rate_c ?_ | refine z5 rate_c ?_ | refine z1 truth_c ?_ | refine z2 truth_c ?_ | refine z3 truth_c ?_ | refine z4 truth_c ?_ | refine z5 truth_c ?_ | refine w8 ?_ | refine w9 ?_ | refine w1 ?_ | refine w2 ?_ | refine w3 ?_ | refine w4 ?_ | refine w5 ?_ | refine w6 ?_ | refine w7 ?_ | refine yo0 ?_ ?_ | refine yw0 ?_ ?_ | exact qq | fail)
  have hB := (((ab5 wild h).snoc (by omega) (d := d1) (by rw [hd1.eq]; rfl) (gd_sc hd1 mm (by decide) (by decide) rfl (by decide))).snoc (by omega) (d := d2) (by rw [hd2.eq]; rfl) (gd_sc hd2 mm (by decide) (by decide) rfl (by decide)))
  refine pcan (st' := ⟨[(0, .ptr 0 0 0), (1, vi h), (2, vb wild), (6, .ptr 1 0 0), (7, .ptr 2 0 0), (42, vb (decide (x = 0)))], [tapeRow n g at_, rZA, rA 7 3, vRow cD 21 7 (lF dD (ins5 ++ [d1, d2]))]⟩) (can_rowsv [0, 1, 2, 5] (k0_sel hk rfl) rfl (.cons rfl (RowEq.cl (tape_cl _ _ _)) (.cons rfl rqq (.cons rfl rqq (.cons rfl (app_2 cD_cl (l := ins5) rfl (fun _ => rfl) rfl rfl) .nil)))) tmq) ?_
  refine pcut (fun st => ∃ (at' : Int) (k : Nat) (l : List Df), 0 ≤ at' ∧ at' ≤ n ∧ l.length = k + 1 ∧ AB wild h 8 l ∧ st = ⟨[(0, .ptr 0 0 0), (1, vi h), (2, vb wild), (6, .ptr 1 0 0), (7, .ptr 2 0 0)], [tapeRow n g at', rZA, rA (k + 1) 3, vRow cD 21 (k + 1) (lF dD l)]⟩) (pcond rfl ?_ ?_) ?_
  · intro hc
    repeat' (first | refine yo ?_ ?_ | refine yw ?_ ?_ | refine yk ?_ ?_ | exact trivial | with_reducible refine wA ?_ ?_ | refine ys ?_ ?_ | refine xs_done ?_ | refine yl ?_ ?_ | refine xs_startH (id := 5) [1,2] true [.take 0, .take 1, .take 2, .one 3, .one 4, .one 5, .one 6, .take 7, .one 8] 0 rfl (by kernel_rfl) ?_ | (exact ⟨Nat.le_refl _, (by rw [hk]; exact Nat.le_of_ble_eq_true rfl), Nat.le_of_ble_eq_true rfl, Nat.le_of_ble_eq_true rfl, Nat.le_of_ble_eq_true rfl⟩) | (refine t1 ((scale_t n_w tR 20459)) hn ?_; rintro at_ _ b1 b2 ⟨d3, rfl, hd3⟩) | (refine t2 ((scale_t n_w tR 20459)) hn ?_; rintro at_ _ b1 b2 ⟨d3, rfl, hd3⟩) | (refine t3 ((scale_t n_w tR 20459)) hn ?_; rintro at_ _ b1 b2 ⟨d3, rfl, hd3⟩) | refine z1 number_c ?_ | refine z2 number_c ?_ | refine z3 number_c ?_ | refine z4 number_c ?_ | refine z5 number_c ?_ | refine z1 money_c ?_ | refine z2 money_c ?_ | refine z3 money_c ?_ | refine z4 money_c ?_ | refine z5 money_c ?_ | refine z1 hours_c ?_ | refine z2 hours_c ?_ | refine z3 hours_c ?_ | refine z4 hours_c ?_ | refine z5 hours_c ?_ | refine z1 rate_c ?_ | refine z2 rate_c ?_ | refine z3 rate_c ?_ | refine z4 rate_c ?_ | refine z5 rate_c ?_ | refine z1 truth_c ?_ | refine z2 truth_c ?_ | refine z3 truth_c ?_ | refine z4 truth_c ?_ | refine z5 truth_c ?_ | refine w8 ?_ | refine w9 ?_ | refine w1 ?_ | refine w2 ?_ | refine w3 ?_ | refine w4 ?_ | refine w5 ?_ | refine w6 ?_ | refine w7 ?_ | refine yo0 ?_ ?_ | refine yw0 ?_ ?_ | exact qq | fail)
    exact kcut (st' := ⟨[(0, .ptr 0 0 0), (1, vi h), (2, vb wild), (6, .ptr 1 0 0), (7, .ptr 2 0 0)], [tapeRow n g _, rZA, rA (7 + 1) 3, vRow cD 21 (7 + 1) (lF dD ((ins5 ++ [d1, d2]) ++ [d3]))]⟩) (can_rowsv [0, 1, 2, 5] (k0_sel hk rfl) rfl (.cons rfl (RowEq.cl (tape_cl _ _ _)) (.cons rfl rqq (.cons rfl rqq (.cons rfl (app_l cD_cl (l := ins5 ++ [d1, d2]) rfl rfl rfl) .nil)))) tmq) ⟨_, 7, _, b1, b2, rfl, hB.snoc (by omega) (d := d3) (by rw [hd3.eq]; rfl) (gd_sc hd3 mm (by decide) (by decide) rfl (by decide)), rfl⟩
  · intro hc
    repeat' (first | refine yo ?_ ?_ | refine yw ?_ ?_ | refine yk ?_ ?_ | exact trivial | with_reducible refine wA ?_ ?_ | refine ys ?_ ?_ | refine xs_done ?_ | refine yl ?_ ?_ | refine w8 ?_ | refine w9 ?_ | refine w1 ?_ | refine w2 ?_ | refine w3 ?_ | refine w4 ?_ | refine w5 ?_ | refine w6 ?_ | refine w7 ?_ | refine yo0 ?_ ?_ | refine yw0 ?_ ?_ | exact qq | fail)
    exact kcut (st' := ⟨[(0, .ptr 0 0 0), (1, vi h), (2, vb wild), (6, .ptr 1 0 0), (7, .ptr 2 0 0)], [tapeRow n g at_, rZA, rA (6 + 1) 3, vRow cD 21 (6 + 1) (lF dD (ins5 ++ [d1, d2]))]⟩) (can_rowsv [0, 1, 2, 3] (k0_sel hk rfl) rfl (.cons rfl (RowEq.cl (tape_cl _ _ _)) (.cons rfl rqq (.cons rfl rqq (.cons rfl (RowEq.cl (v_cl cD_cl _ _ _)) .nil)))) tmq) ⟨_, 6, _, b1, b2, rfl, hB.skip (by omega) (.inl ks_w), rfl⟩
  rintro _ ⟨at', k, l, b1, b2, hlk, hA, rfl⟩
  repeat' (first | refine yo ?_ ?_ | refine yw ?_ ?_ | refine yk ?_ ?_ | exact trivial | with_reducible refine wA ?_ ?_ | refine ys ?_ ?_ | refine xs_done ?_ | refine yl ?_ ?_ | refine z1 number_c ?_ | refine z2 number_c ?_ | refine z3 number_c ?_ | refine z4 number_c ?_ | refine z5 number_c ?_ | refine z1 money_c ?_ | refine z2 money_c ?_ | refine z3 money_c ?_ | refine z4 money_c ?_ | refine z5 money_c ?_ | refine z1 hours_c ?_ | refine z2 hours_c ?_ | refine z3 hours_c ?_ | refine z4 hours_c ?_ | refine z5 hours_c ?_ | refine z1 rate_c ?_ | refine z2 rate_c ?_ | refine z3 rate_c ?_ | refine z4 rate_c ?_ | refine z5 rate_c ?_ | refine z1 truth_c ?_ | refine z2 truth_c ?_ | refine z3 truth_c ?_ | refine z4 truth_c ?_ | refine z5 truth_c ?_ | refine w8 ?_ | refine w9 ?_ | refine w1 ?_ | refine w2 ?_ | refine w3 ?_ | refine w4 ?_ | refine w5 ?_ | refine w6 ?_ | refine w7 ?_ | refine yo0 ?_ ?_ | refine yw0 ?_ ?_ | exact qq | fail)
  refine pcan (st' := ⟨[(0, .ptr 0 0 0), (1, vi h), (2, vb wild), (6, .ptr 1 0 0), (7, .ptr 2 0 0), (8, .lsl 4 0 4), (9, .lsl 5 0 4), (10, vi 0)], [tapeRow n g at', rZA, rA (k + 1) 3, vRow cD 21 (k + 1) (lF dD l), oRow cSt 1 4 (lF ⟨#[]⟩ nmsR), oRow cT 4 4 (lF t0 tysR)]⟩) (can_rowsv [0, 1, 2, 3, 4, 5] (k0_sel hk rfl) rfl (.cons rfl (RowEq.cl (tape_cl _ _ _)) (.cons rfl rqq (.cons rfl rqq (.cons rfl (RowEq.cl (v_cl cD_cl _ _ _)) (.cons rfl (o_eq cSt_cl (Nat.le_refl _) fun a ha b hb => by
    have ha : a < 4 := ha
    have hb : b < 1 := hb
    obtain rfl : b = 0 := by omega
    rcases (by omega : a = 0 ∨ a = 1 ∨ a = 2 ∨ a = 3) with rfl | rfl | rfl | rfl <;> rfl) (.cons rfl (o_eq cT_cl (Nat.le_refl _) fun a ha b hb => by
    have ha : a < 4 := ha
    have hb : b < 4 := hb
    rcases (by omega : a = 0 ∨ a = 1 ∨ a = 2 ∨ a = 3) with rfl | rfl | rfl | rfl <;> rcases (by omega : b = 0 ∨ b = 1 ∨ b = 2 ∨ b = 3) with rfl | rfl | rfl | rfl <;> rfl) .nil)))))) tmq) ?_
  refine pcutx (fun st => ∃ (at' : Int) (k : Nat) (l : List Df), 0 ≤ at' ∧ at' ≤ n ∧ l.length = k + 1 ∧ AB wild h 16 l ∧ st = ⟨[(0, .ptr 0 0 0), (1, vi h), (6, .ptr 1 0 0), (7, .ptr 2 0 0)], [tapeRow n g at', rZA, rA (k + 1) 3, vRow cD 21 (k + 1) (lF dD l)]⟩) ?_ (by rintro _ ⟨at', k, l, b1, b2, hlk, hA, rfl⟩; exact agr_pay wild h h1 h32 hX n g hn Γ hk at' k l b1 b2 hlk hA)
  refine ploop (fun q st => ∃ (b : Bool) (at' : Int) (i k : Nat) (l : List Df), 0 ≤ at' ∧ at' ≤ n ∧ i ≤ 4 ∧ q = 4 - i ∧ l.length = k + 1 ∧ AB wild h (8 + 2 * i) l ∧ (b = true → wild = true) ∧ st = ⟨[(0, .ptr 0 0 0), (1, vi h), (2, vb b), (6, .ptr 1 0 0), (7, .ptr 2 0 0), (8, .lsl 4 0 4), (9, .lsl 5 0 4), (10, vi i)], [tapeRow n g at', rZA, rA (k + 1) 3, vRow cD 21 (k + 1) (lF dD l), oRow cSt 1 4 (lF ⟨#[]⟩ nmsR), oRow cT 4 4 (lF t0 tysR)]⟩) 4 ⟨wild, at', 0, k, l, b1, b2, by omega, rfl, hlk, hA, id, rfl⟩ ?_
  clear hlk hA b1 b2
  rintro _ _ ⟨b, at', i, k, l, b1, b2, hi, rfl, hlk, hA, hbw, rfl⟩
  repeat' (first | refine yo ?_ ?_ | refine yw ?_ ?_ | refine yk ?_ ?_ | exact trivial | with_reducible refine wA ?_ ?_ | refine ys ?_ ?_ | refine xs_done ?_ | refine yl ?_ ?_ | refine w8 ?_ | refine w9 ?_ | refine w1 ?_ | refine w2 ?_ | refine w3 ?_ | refine w4 ?_ | refine w5 ?_ | refine w6 ?_ | refine w7 ?_ | refine yo0 ?_ ?_ | refine yw0 ?_ ?_ | exact qq | fail)
  refine pcond rfl ?_ ?_ <;> intro hc <;> simp at hc
  · have hwi : IntKind.i64.wrap ((i : Int) + 1) = ((i + 1 : Nat) : Int) := w64 (by omega) (by omega)
    have i0 : 0 + (i : Int).toNat = i := by omega
    have iX : ∀ rules : Int, TapC G.P 20 [vT (lF t0 tysR (0 + (i : Int).toNat)), vi h, vi rules] (fun r => ∃ e, r = vX e ∧ EOk rules (max h 1) (lF t0 tysR i) e) := fun rules => by rw [i0]; exact hX _ (rule_ty (by omega)) rules
    rcases b with _ | _
    all_goals
      repeat' (first | refine yo ?_ ?_ | refine yw ?_ ?_ | refine yk ?_ ?_ | exact trivial | with_reducible refine wA ?_ ?_ | refine ys ?_ ?_ | refine xs_done ?_ | refine yl ?_ ?_ | (refine pop_gfalse rfl rfl rfl rfl ?_) | (refine pop_opt 65 rfl rfl ?_) | (refine pop_unguard rfl rfl ?_) | (refine tn1 hn ?_; rintro at_ b1 b2 x hx1 hx2) | refine w8 ?_ | refine w9 ?_ | refine w1 ?_ | refine w2 ?_ | refine w3 ?_ | refine w4 ?_ | refine w5 ?_ | refine w6 ?_ | refine w7 ?_ | refine yo0 ?_ ?_ | refine yw0 ?_ ?_ | (refine pcond rfl ?_ ?_ <;> intro hc) | exact qq | fail)
    all_goals
      refine pcan (st' := ⟨[(0, .ptr 0 0 0), (1, vi h), (2, vb _), (6, .ptr 1 0 0), (7, .ptr 2 0 0), (8, .lsl 4 0 4), (9, .lsl 5 0 4), (10, vi i), (11, vi _), (12, vi 0)], [tapeRow n g _, rZA, rA (k + 1) 3, vRow cD 21 (k + 1) (lF dD l), oRow cSt 1 4 (lF ⟨#[]⟩ nmsR), oRow cT 4 4 (lF t0 tysR)]⟩) (can_rowsv [0, 1, 2, 3, 4, 5] (k0_sel hk rfl) rfl (.cons rfl (RowEq.cl (tape_cl _ _ _)) (.cons rfl rqq (.cons rfl rqq (.cons rfl (RowEq.cl (v_cl cD_cl _ _ _)) (.cons rfl (RowEq.cl (o_cl cSt_cl _ _ _)) (.cons rfl (RowEq.cl (o_cl cT_cl _ _ _)) .nil)))))) tmq) ?_
      refine ploop (fun q st => ∃ (b : Bool) (at' rules : Int) (v k : Nat) (l : List Df), 0 ≤ at' ∧ at' ≤ n ∧ v ≤ 2 ∧ q = 2 - v ∧ l.length = k + 1 ∧ AB wild h (8 + 2 * i + v) l ∧ rules ≤ rhoD wild (lF ⟨#[]⟩ nmsR i) ∧ (b = true → wild = true) ∧ st = ⟨[(0, .ptr 0 0 0), (1, vi h), (2, vb b), (6, .ptr 1 0 0), (7, .ptr 2 0 0), (8, .lsl 4 0 4), (9, .lsl 5 0 4), (10, vi i), (11, vi rules), (12, vi v)], [tapeRow n g at', rZA, rA (k + 1) 3, vRow cD 21 (k + 1) (lF dD l), oRow cSt 1 4 (lF ⟨#[]⟩ nmsR), oRow cT 4 4 (lF t0 tysR)]⟩) 2 ⟨_, _, _, 0, k, l, by assumption, by assumption, by omega, rfl, hlk, hA, (by first | exact rule_rho (by omega) | exact rule_rho5 (hbw rfl)), hbw, rfl⟩ ?_
      clear hlk hA b1 b2 hbw
      rintro _ _ ⟨b, at', rules, v, k, l, b1, b2, hv, rfl, hlk, hA, hρ, hbw, rfl⟩
      have hkl := hA.len
      have iX := iX rules
      repeat' (first | refine yo ?_ ?_ | refine yw ?_ ?_ | refine yk ?_ ?_ | exact trivial | with_reducible refine wA ?_ ?_ | refine ys ?_ ?_ | refine xs_done ?_ | refine yl ?_ ?_ | (exact (show ¬ (2 : Int) = 0 from by decide)) | (refine tn1 hn ?_; rintro at_ b1 b2 x hx1 hx2) | refine w8 ?_ | refine w9 ?_ | refine w1 ?_ | refine w2 ?_ | refine w3 ?_ | refine w4 ?_ | refine w5 ?_ | refine w6 ?_ | refine w7 ?_ | refine yo0 ?_ ?_ | refine yw0 ?_ ?_ | exact qq | fail)
      have hwq : IntKind.i64.wrap (x.tdiv 2) = x.tdiv 2 := by
        have : x.tdiv 2 = x / 2 := Int.tdiv_eq_ediv_of_nonneg hx1
        rw [this]; exact w64 (by omega) (by omega)
      have htd : x.tdiv 2 = x / 2 := Int.tdiv_eq_ediv_of_nonneg hx1
      refine pcond rfl ?_ ?_ <;> intro hc4 <;> simp at hc4
      · have hv1 : v ≤ 1 := by omega
        have hwv : IntKind.i64.wrap ((v : Int) + 1) = ((v + 1 : Nat) : Int) := w64 (by omega) (by omega)
        have hwd : IntKind.i64.wrap (20454 + IntKind.i64.wrap (5 * (v : Int))) = 20454 + 5 * (v : Int) := by rw [w64 (n := 5 * (v : Int)) (by omega) (by omega), w64 (by omega) (by omega)]
        repeat' (first | refine yo ?_ ?_ | refine yw ?_ ?_ | refine yk ?_ ?_ | exact trivial | with_reducible refine wA ?_ ?_ | refine ys ?_ ?_ | refine xs_done ?_ | refine yl ?_ ?_ | refine xs_startH (id := 16) [1,2,4,5] true [.take 0, .take 1, .take 2, .take 3, .take 4, .take 5, .take 6, .take 7, .take 8, .take 9, .take 10, .take 11, .take 12, .take 13, .take 14, .take 15, .take 16, .take 17, .take 18, .take 19, .one 20, .take 21, .one 22, .one 23, .take 24, .one 25] 0 rfl (by kernel_rfl) ?_ | exact ⟨Nat.le_refl _, (by rw [hk]; exact Nat.le_of_ble_eq_true rfl), Nat.le_of_eq (Nat.zero_add _), (show (_ : Nat) * 216 ≤ 140737488355328 from by omega), (show (_ : Nat) ≤ 9223372036854775807 from by omega)⟩ | (refine t1 iX hn ?_; rintro at_ _ b1 b2 ⟨e, rfl, he⟩) | (refine t2 iX hn ?_; rintro at_ _ b1 b2 ⟨e, rfl, he⟩) | (refine t3 iX hn ?_; rintro at_ _ b1 b2 ⟨e, rfl, he⟩) | refine w8 ?_ | refine w9 ?_ | refine w1 ?_ | refine w2 ?_ | refine w3 ?_ | refine w4 ?_ | refine w5 ?_ | refine w6 ?_ | refine w7 ?_ | refine yo0 ?_ ?_ | refine yw0 ?_ ?_ | exact qq | fail)
        refine xdone ?_
        rw [hwv, hwd, i0]
        have ht := rule_tab (i := i) (by omega)
        have hks := ks_rule (i := i) (v := v) (by omega) (by omega)
        exact kloop_next (st' := ⟨[(0, .ptr 0 0 0), (1, vi h), (2, vb b), (6, .ptr 1 0 0), (7, .ptr 2 0 0), (8, .lsl 4 0 4), (9, .lsl 5 0 4), (10, vi i), (11, vi rules), (12, vi ((v + 1 : Nat) : Int))], [tapeRow n g _, rZA, rA (k + 1 + 1) 3, vRow cD 21 (k + 1 + 1) (lF dD (l ++ [dR (lF ⟨#[]⟩ nmsR i) (lF t0 tysR i) (20454 + 5 * v) e])), oRow cSt 1 4 (lF ⟨#[]⟩ nmsR), oRow cT 4 4 (lF t0 tysR)]⟩) (2 - (v + 1)) (can_rowsv [0, 1, 2, 7, 4, 5] (k0_sel hk rfl) rfl (.cons rfl (RowEq.cl (tape_cl _ _ _)) (.cons rfl rqq (.cons rfl rqq (.cons rfl (app_p cD_cl (by assumption) (fun b hb => by rcases split21 hb with rfl | rfl | rfl | rfl | rfl | rfl | rfl | rfl | rfl | rfl | rfl | rfl | rfl | rfl | rfl | rfl | rfl | rfl | rfl | rfl | rfl <;> first | exact PEq.refl _ | exact peq_nil) rfl) (.cons rfl (RowEq.cl (o_cl cSt_cl _ _ _)) (.cons rfl (RowEq.cl (o_cl cT_cl _ _ _)) .nil)))))) tmq) (by omega) ⟨b, _, rules, v + 1, k + 1, _, by assumption, by assumption, by omega, rfl, by rw [List.length_append, hlk]; rfl, hA.snoc (by omega) (d := dR (lF ⟨#[]⟩ nmsR i) (lF t0 tysR i) (20454 + 5 * v) e) hks.symm (gd_rule (he.mono (by omega)) hρ h32 ht.1 ht.2.1 ht.2.2 (by omega)), hρ, hbw, rfl⟩
      · repeat' (first | refine yo ?_ ?_ | refine yw ?_ ?_ | refine yk ?_ ?_ | exact trivial | with_reducible refine wA ?_ ?_ | refine ys ?_ ?_ | refine xs_done ?_ | refine yl ?_ ?_ | refine w8 ?_ | refine w9 ?_ | refine w1 ?_ | refine w2 ?_ | refine w3 ?_ | refine w4 ?_ | refine w5 ?_ | refine w6 ?_ | refine w7 ?_ | refine yo0 ?_ ?_ | refine yw0 ?_ ?_ | exact qq | fail)
        rw [hwi]
        exact kloop_next (st' := ⟨[(0, .ptr 0 0 0), (1, vi h), (2, vb b), (6, .ptr 1 0 0), (7, .ptr 2 0 0), (8, .lsl 4 0 4), (9, .lsl 5 0 4), (10, vi ((i + 1 : Nat) : Int))], [tapeRow n g _, rZA, rA (k + 1) 3, vRow cD 21 (k + 1) (lF dD l), oRow cSt 1 4 (lF ⟨#[]⟩ nmsR), oRow cT 4 4 (lF t0 tysR)]⟩) (4 - (i + 1)) (can_rowsv [0, 1, 2, 3, 4, 5] (k0_sel hk rfl) rfl (.cons rfl (RowEq.cl (tape_cl _ _ _)) (.cons rfl rqq (.cons rfl rqq (.cons rfl (RowEq.cl (v_cl cD_cl _ _ _)) (.cons rfl (RowEq.cl (o_cl cSt_cl _ _ _)) (.cons rfl (RowEq.cl (o_cl cT_cl _ _ _)) .nil)))))) tmq) (by omega) ⟨b, _, i + 1, k, l, by assumption, by assumption, by omega, rfl, hlk, (by
          rcases (by omega : v = 1 ∨ v = 2) with rfl | rfl
          · exact hA.skip (by omega) (.inl (ks_skip (by omega)))
          · exact hA), hbw, rfl⟩
  · obtain rfl : i = 4 := by omega
    repeat' (first | refine yo ?_ ?_ | refine yw ?_ ?_ | refine yk ?_ ?_ | exact trivial | with_reducible refine wA ?_ ?_ | refine ys ?_ ?_ | refine xs_done ?_ | refine yl ?_ ?_ | refine w8 ?_ | refine w9 ?_ | refine w1 ?_ | refine w2 ?_ | refine w3 ?_ | refine w4 ?_ | refine w5 ?_ | refine w6 ?_ | refine w7 ?_ | refine yo0 ?_ ?_ | refine yw0 ?_ ?_ | exact qq | fail)
    refine kblock_hit rfl ?_
    exact kcut (st' := ⟨[(0, .ptr 0 0 0), (1, vi h), (6, .ptr 1 0 0), (7, .ptr 2 0 0)], [tapeRow n g at', rZA, rA (k + 1) 3, vRow cD 21 (k + 1) (lF dD l)]⟩) (can_rowsv [0, 1, 2, 3] (k0_sel hk rfl) rfl (.cons rfl (RowEq.cl (tape_cl _ _ _)) (.cons rfl rqq (.cons rfl rqq (.cons rfl (RowEq.cl (v_cl cD_cl _ _ _)) .nil)))) tmq) ⟨at', k, l, b1, b2, hlk, hA, rfl⟩
def RowsR (τ : Nat → Option Nat) : List Row → List Row → Prop
  | [], [] => True
  | r :: rs, q :: qs => RowEq (r.ren τ) q ∧ RowsR τ rs qs
  | _, _ => False
theorem RowsR.get {τ : Nat → Option Nat} : ∀ (rows rows2 : List Row), RowsR τ rows rows2 → rows.length = rows2.length ∧ ∀ (i : Nat) (q : Row), rows2[i]? = some q → ∃ r, rows[i]? = some r ∧ RowEq (r.ren τ) q
  | [], [], _ => ⟨rfl, fun i q h => by simp at h⟩
  | r :: rs, q :: qs, h => by
    obtain ⟨h1, h2⟩ := RowsR.get rs qs h.2
    refine ⟨by simp [h1], fun i x hx => ?_⟩
    cases i with
    | zero => simp at hx; subst hx; exact ⟨r, rfl, h.1⟩
    | succ i => exact h2 i x (by simpa using hx)
  | [], _ :: _, h => h.elim
  | _ :: _, [], h => h.elim
theorem putPl_eq2 (τ : Nat → Option Nat) : ∀ (s : List Nat) (rows rows2 mem mem' : List Row), RowsR τ rows rows2 → mem'.length = mem.length → (∀ (l : Nat) (r' : Row), mem'[l]? = some r' → ∃ r : Row, mem[l]? = some r ∧ RowEq r r') →
    (putPl s rows2 mem').length = (putRows τ s rows mem).length ∧ ∀ (l : Nat) (r' : Row), (putPl s rows2 mem')[l]? = some r' → ∃ r : Row, (putRows τ s rows mem)[l]? = some r ∧ RowEq r r'
  | [], ext, ext2, mem, mem', hc, hl, he => by
    obtain ⟨g1, g2⟩ := RowsR.get ext ext2 hc
    refine ⟨by simp [putPl, putRows, hl, g1], fun l r' h => ?_⟩
    rw [putPl] at h
    rw [putRows]
    by_cases hlt : l < mem'.length
    · rw [List.getElem?_append_left hlt] at h
      rw [List.getElem?_append_left (by omega)]
      exact he l r' h
    · rw [List.getElem?_append_right (by omega)] at h
      rw [List.getElem?_append_right (by omega), List.getElem?_map]
      rw [hl] at h
      obtain ⟨r, e1, e2⟩ := g2 _ _ h
      exact ⟨r.ren τ, by rw [e1]; rfl, e2⟩
  | x :: s, r :: rows, q :: rows2, mem, mem', hc, hl, he => by
    rw [putPl, putRows]
    refine putPl_eq2 τ s rows rows2 _ _ hc.2 (by simp [hl]) (fun l r' h => ?_)
    by_cases e : l = x
    · subst e
      by_cases hlt : l < mem'.length
      · rw [List.getElem?_set_self hlt] at h
        simp only [Option.some.injEq] at h
        subst h
        exact ⟨r.ren τ, List.getElem?_set_self (by omega), hc.1⟩
      · rw [List.getElem?_eq_none (by simp; omega)] at h; cases h
    · rw [List.getElem?_set_ne (Ne.symm e)] at h
      rw [List.getElem?_set_ne (Ne.symm e)]
      exact he l r' h
  | _ :: _, [], [], mem, mem', _, hl, he => ⟨by simp [putPl, putRows, hl], fun l r' h => he l r' h⟩
  | _ :: _, [], _ :: _, _, _, hc, _, _ => hc.elim
  | _ :: _, _ :: _, [], _, _, hc, _, _ => hc.elim
section
variable {G : Pg} {N : Nat} {Γ : Fr} {st : PSt}
variable {K : Exit → PSt → Prop} {ops : Array Oper} {o : Oper} {rest : List Oper} {d : Nat}
theorem pop_rowsd {f : FuncId} {x : Operand} {args : Array Operand} {tys : Array TypeId} {n : Nat} {c : Nat → PV} {rows : List Row} {qs : List PV} {post : PV → List Row → Prop} (sel : List Nat) (hg : o.guard = none) (hdst : o.dst = some d) (hN : Nat.blt d N = true)
    (ho : o.op = .call ⟨.value x, args, tys⟩) (hx : st.ev x = .clo f n c) (hd : nodupB sel = true) (hs : SelOk st.mem sel sel rows) (hc : RowsC G.P f rows qs post) (ha : PEqL ((args.toList.map st.ev ++ capL n c 0).map (PV.ren (inv sel 0))) qs)
    (h : ∀ r rows', post r rows' → ∃ rows2 m r', RowsR (tau sel (lenK st.mem 0)) rows' rows2 ∧ putP sel rows2 st.mem some = some m ∧ PEq (r.ren (tau sel (lenK st.mem 0))) r' ∧ POps G N Γ ops rest (PSt.put ⟨st.tm, m⟩ d r') K) : POps G N Γ ops (o :: rest) st K := .mk fun ρ I a w hrel => by
  have hw : Region.wanted o (yielded ops a.tmps) = true := by simp [Region.wanted, hg]
  simp only [wpList, hw, if_true]
  refine .inl (rows_core sel hrel ho (hx ▸ ev_rel hrel x) hd hs hc ha ?_)
  intro v r rows' ρ2 I' w' hpost hr _ hv
  obtain ⟨rows2, m, r', e0, e1, e2, hk⟩ := h r rows' hpost
  rw [putP_eq] at e1
  rw [lenK_eq, Nat.zero_add] at e0 e2
  simp only [Option.some.injEq] at e1
  obtain ⟨q1, q2⟩ := putPl_eq2 (tau sel st.mem.length) sel rows' rows2 st.mem st.mem e0 rfl (fun l r' h => ⟨r', h, RowEq.refl _⟩)
  have hr2 := hr.rowsEq q1 q2
  rw [← q1] at hv
  rw [e1] at hr2 hv
  simp only [hdst]
  exact hk.go ρ2 I' _ w' (hr2.put (by rwa [Nat.blt_eq] at hN) (e2 _ _ _ _ _ hv))
end
theorem peqA {τ : Nat → Option Nat} {nm : ByteArray} {l l' i n : Nat} (h : τ l = some l') : PEq ((PV.agg 2 (nthP [vs nm, .lsl l i n])).ren τ) (.agg 2 (nthP [vs nm, .lsl l' i n])) :=
  (show PEq (.agg 2 _) (.agg 2 _) from PEq.agg fun j hj => by
    rcases (by omega : j = 0 ∨ j = 1) with rfl | rfl
    · exact PEq.refl _
    · show PEq (match τ l with | some l' => PV.lsl l' i n | none => .junk) (.lsl l' i n)
      rw [h]; exact PEq.refl _)
theorem rA_eq {τ : Nat → Option Nat} {k l l' : Nat} (h : τ l = some l') : RowEq (Row.ren τ (rA (k + 1) l)) (rA (k + 1) l') := ⟨rfl, rfl, Nat.le_refl _, fun i hi j hj => by
  have hj : j < 2 := hj
  rcases (by omega : j = 0 ∨ j = 1) with rfl | rfl
  · exact PEq.refl _
  · show PEq (match τ l with | some l' => PV.lsl l' 0 (k + 1) | none => .junk) (.lsl l' 0 (k + 1))
    rw [h]; exact PEq.refl _⟩
theorem agreement4_r (h : Nat) (hh : h ≤ 5) (wild : Bool) (n : Nat) (g : Nat → Int) (at_ : Int) (hn : n ≤ 9223372036854775807) (h1' : 0 ≤ at_) (h2' : at_ ≤ n) : RowsC G.P 6 [tapeRow n g at_] [.ptr 0 0 0, vi (h + 1 : Nat), vb wild] (agrPost wild (h + 1) n g) :=
  agreement_r (h + 1) (by omega) (by omega) (fun t ht rules => expr_t h hh t ht rules) wild n g at_ hn h1' h2'
theorem argAgr {mem : List Row} {L : List Nat} {nm : ByteArray} {l : List Df} {p : PV} (h : ArgOk mem L p (vDs l)) : ArgOk mem L (.agg 2 (nthP [vs nm, p])) (vA nm l) := argAggL fun i hi => by
  rcases (by omega : i = 0 ∨ i = 1) with rfl | rfl
  · exact argVal
  · exact h
end Go.Proofs.Ytcefhgomkehokaa
namespace Go.Proofs.Ytcefhgomkehokaa
abbrev q_a : ByteArray := ⟨#[97]⟩
abbrev q_b : ByteArray := ⟨#[98]⟩
abbrev q_m : ByteArray := ⟨#[109]⟩
abbrev dQr (nm : ByteArray) (b : ByteArray) : Df := ⟨3, nm, t0, 0, 0, fun _ => (0, 0, 0), .mk 3 0 0 0 0 0 b 0 0 0 kn, 0, 0, 0⟩
def mq2 : List Df := [dQr q_a q_b, dQr q_b q_a]
theorem mq_bd : ∀ d, d ∈ mq2 → BdD d := by
  intro d hd
  simp only [mq2, List.mem_cons, List.not_mem_nil, or_false] at hd
  rcases hd with rfl | rfl
  · exact ⟨by decide, fun i hi => absurd hi (Nat.not_lt_zero i), Nat.zero_le _, .mk ⟨by decide, by decide, by decide⟩ (fun i hi => absurd hi (Nat.not_lt_zero i)), by show (-9223372036854775808 : Int) ≤ 0; decide, by show (0 : Int) ≤ 9223372036854775807; decide⟩
  · exact ⟨by decide, fun i hi => absurd hi (Nat.not_lt_zero i), Nat.zero_le _, .mk ⟨by decide, by decide, by decide⟩ (fun i hi => absurd hi (Nat.not_lt_zero i)), by show (-9223372036854775808 : Int) ≤ 0; decide, by show (0 : Int) ≤ 9223372036854775807; decide⟩
theorem mq_ok : AgO q_m mq2 := ⟨by decide, mq_bd, by
  intro d hd
  simp only [mq2, List.mem_cons, List.not_mem_nil, or_false] at hd
  rcases hd with rfl | rfl
  · exact Nat.le_of_ble_eq_true rfl
  · exact Nat.le_of_ble_eq_true rfl⟩
theorem mq_ord : OrdS q_m mq2 0 = ([], 11) := by decide +kernel
theorem mq_cyc : CycS q_m mq2 0 = [0, 1] := by decide +kernel
theorem mq_nee : NeedsS q_m mq2 0 0 = ([1], 0) := by decide +kernel
theorem mq_act : ActS q_m mq2 0 = [0, 1] := by decide +kernel
theorem mq_dwn : DwnS q_m mq2 0 q_a = [0, 1] := by decide +kernel
abbrev rS2 : Row := ⟨.own, true, 1, 2, fun _ => nthP [vs q_m, .lsl 0 0 2]⟩
set_option maxHeartbeats 4000000 in
theorem sane21_c : PureC G.P 9 [] (fun r => r = vb true) := by
  have c1 := Order_c q_m mq2 0 mq_ok (by decide)
  have c2 := Cycle_c q_m mq2 0 mq_ok (by decide)
  have c3 := Needs_c q_m mq2 0 0 mq_ok (by decide)
  have c4 := Active_c q_m mq2 0 mq_ok (by decide)
  have c5 := Downstream_c q_m mq2 0 q_a mq_ok (by decide)
  rw [mq_ord] at c1
  rw [mq_cyc] at c2
  rw [mq_nee] at c3
  rw [mq_act] at c4
  rw [mq_dwn] at c5
  refine pure_of (G := G.toPg) (fn := Try.f9) Try.func9 rfl rfl rfl ?_; intro Γ hk
  repeat' (first | refine yo ?_ ?_ | refine yw ?_ ?_ | refine yk ?_ ?_ | exact trivial | with_reducible refine wA ?_ ?_ | refine ys ?_ ?_ | refine xs_done ?_ | refine yl ?_ ?_ | refine w8 ?_ | refine w9 ?_ | refine w1 ?_ | refine w2 ?_ | refine w3 ?_ | refine w4 ?_ | refine w5 ?_ | refine w6 ?_ | refine w7 ?_ | refine yo0 ?_ ?_ | refine yw0 ?_ ?_ | exact qq | fail)
  refine ocan0 (st' := ⟨[(3, .ptr 1 0 0), (18, .agg 2 (nthP [vs q_m, .lsl 0 0 2]))], [oRow cD 21 2 (lF dD mq2), rS2]⟩) (can_rowsv [2, 3] (k0_sel (show Γ.k0 = 0 from hk) rfl) rfl (.cons rfl (o_eqP (Nat.le_refl _) fun a ha b hb => by
    have hb : b < 21 := hb
    rcases (by omega : a = 0 ∨ a = 1) with rfl | rfl <;> rcases split21 hb with rfl | rfl | rfl | rfl | rfl | rfl | rfl | rfl | rfl | rfl | rfl | rfl | rfl | rfl | rfl | rfl | rfl | rfl | rfl | rfl | rfl <;> first | exact PEq.refl _ | exact peq_nil) (.cons rfl rqq .nil)) (by exact ⟨PEq.refl _, (show PEq (.agg 2 _) (.agg 2 _) from PEq.agg (fun i hi => by rcases (by omega : i = 0 ∨ i = 1) with rfl | rfl <;> exact PEq.refl _)), trivial⟩)) ?_
  refine pop_callc [0] rfl rfl rfl rfl rfl rfl (by intro l hl; rw [show Γ.k0 = 0 from hk]; exact Nat.zero_le _) c1 ⟨argAgr (arg_o (s := .own) cD_cl rfl trivial (List.Mem.head _)), argVal, trivial⟩ ?_
  rintro _ rfl
  repeat' (first | refine yo ?_ ?_ | refine yw ?_ ?_ | refine yk ?_ ?_ | exact trivial | with_reducible refine wA ?_ ?_ | refine ys ?_ ?_ | refine xs_done ?_ | refine yl ?_ ?_ | refine w8 ?_ | refine w9 ?_ | refine w1 ?_ | refine w2 ?_ | refine w3 ?_ | refine w4 ?_ | refine w5 ?_ | refine w6 ?_ | refine w7 ?_ | refine yo0 ?_ ?_ | refine yw0 ?_ ?_ | exact qq | fail)
  refine pop_callc [0] rfl rfl rfl rfl rfl rfl (by intro l hl; rw [show Γ.k0 = 0 from hk]; exact Nat.zero_le _) c2 ⟨argAgr (arg_o (s := .imm) cD_cl rfl trivial (List.Mem.head _)), argVal, trivial⟩ ?_
  rintro _ rfl
  repeat' (first | refine yo ?_ ?_ | refine yw ?_ ?_ | refine yk ?_ ?_ | exact trivial | with_reducible refine wA ?_ ?_ | refine ys ?_ ?_ | refine xs_done ?_ | refine yl ?_ ?_ | refine w8 ?_ | refine w9 ?_ | refine w1 ?_ | refine w2 ?_ | refine w3 ?_ | refine w4 ?_ | refine w5 ?_ | refine w6 ?_ | refine w7 ?_ | refine yo0 ?_ ?_ | refine yw0 ?_ ?_ | exact qq | fail)
  refine pop_callc [0] rfl rfl rfl rfl rfl rfl (by intro l hl; rw [show Γ.k0 = 0 from hk]; exact Nat.zero_le _) c3 ⟨argAgr (arg_o (s := .imm) cD_cl rfl trivial (List.Mem.head _)), argVal, argVal, trivial⟩ ?_
  rintro _ rfl
  repeat' (first | refine yo ?_ ?_ | refine yw ?_ ?_ | refine yk ?_ ?_ | exact trivial | with_reducible refine wA ?_ ?_ | refine ys ?_ ?_ | refine xs_done ?_ | refine yl ?_ ?_ | (intro h; first | exact ⟨h, by decide, by decide⟩ | exact ⟨by decide, by decide⟩ | exact ⟨h, by decide⟩ | exact ⟨h, h, by decide⟩ | exact ⟨h, h, by decide, by decide⟩) | refine w8 ?_ | refine w9 ?_ | refine w1 ?_ | refine w2 ?_ | refine w3 ?_ | refine w4 ?_ | refine w5 ?_ | refine w6 ?_ | refine w7 ?_ | refine yo0 ?_ ?_ | refine yw0 ?_ ?_ | exact qq | fail)
  refine pop_opt 64 rfl rfl ?_
  refine pop_unguard rfl rfl ?_
  refine pop_callc [0] rfl rfl rfl rfl rfl rfl (by intro l hl; rw [show Γ.k0 = 0 from hk]; exact Nat.zero_le _) c4 ⟨argAgr (arg_o (s := .imm) cD_cl rfl trivial (List.Mem.head _)), argVal, trivial⟩ ?_
  rintro _ rfl
  repeat' (first | refine yo ?_ ?_ | refine yw ?_ ?_ | refine yk ?_ ?_ | exact trivial | with_reducible refine wA ?_ ?_ | refine ys ?_ ?_ | refine xs_done ?_ | refine yl ?_ ?_ | (intro h; first | exact ⟨h, by decide, by decide⟩ | exact ⟨by decide, by decide⟩ | exact ⟨h, by decide⟩ | exact ⟨h, h, by decide⟩ | exact ⟨h, h, by decide, by decide⟩) | refine w8 ?_ | refine w9 ?_ | refine w1 ?_ | refine w2 ?_ | refine w3 ?_ | refine w4 ?_ | refine w5 ?_ | refine w6 ?_ | refine w7 ?_ | refine yo0 ?_ ?_ | refine yw0 ?_ ?_ | exact qq | fail)
  refine pop_opt 70 rfl rfl ?_
  refine pop_unguard rfl rfl ?_
  refine pop_callc [0] rfl rfl rfl rfl rfl rfl (by intro l hl; rw [show Γ.k0 = 0 from hk]; exact Nat.zero_le _) c5 ⟨argAgr (arg_o (s := .imm) cD_cl rfl trivial (List.Mem.head _)), argVal, argVal, trivial⟩ ?_
  rintro _ rfl
  repeat' (first | refine yo ?_ ?_ | refine yw ?_ ?_ | refine yk ?_ ?_ | exact trivial | with_reducible refine wA ?_ ?_ | refine ys ?_ ?_ | refine xs_done ?_ | refine yl ?_ ?_ | (intro h; first | exact ⟨h, by decide, by decide⟩ | exact ⟨by decide, by decide⟩ | exact ⟨h, by decide⟩ | exact ⟨h, h, by decide⟩ | exact ⟨h, h, by decide, by decide⟩) | refine w8 ?_ | refine w9 ?_ | refine w1 ?_ | refine w2 ?_ | refine w3 ?_ | refine w4 ?_ | refine w5 ?_ | refine w6 ?_ | refine w7 ?_ | refine yo0 ?_ ?_ | refine yw0 ?_ ?_ | exact qq | fail)
  refine xdone ?_
  refine kretv rfl ⟨trivial, trivial⟩ rfl (eqB ?_)
  rfl
end Go.Proofs.Ytcefhgomkehokaa
namespace Go.Proofs.Ytcefhgomkehokaa
def IntsAt (w : World) (v : Value) (l : List Int) : Prop :=
  ∃ (a : Option Addr) (cap : Nat), v = .slice a l.length cap ∧ l.length ≤ cap ∧ l.length ≤ 9223372036854775807 ∧
    ∀ k, k < l.length → ∃ b off, a = some ⟨b, off, none⟩ ∧ b < w.heap.size ∧ w.cell? ⟨b, off + k, none⟩ = some (.int .i64 (l.getD k 0))
theorem intsAt_of_row {w : World} {a : Option Addr} {len cap : Nat} {zs : List Int} (h : (a = none ∧ len = 0 ∧ cap = 0 ∧ zs = []) ∨ ∃ x, a = some x ∧ len ≤ cap ∧ cap ≤ maxLen ∧ zs.length = cap ∧ (∀ i, i < zs.length → w.cell? (x.add i) = some (.int .i64 (zs.getD i 0))) ∧ ∀ n ∈ zs, (Lit.int .i64 n).wf = true) :
    IntsAt w (.slice a len cap) (zs.take len) := by
  rcases h with ⟨rfl, rfl, rfl, rfl⟩ | ⟨x, rfl, h1, h2, h3, h4, _⟩
  · exact ⟨none, 0, rfl, by simp, by simp, fun k hk => by simp at hk⟩
  · have hl : (zs.take len).length = len := by simp; omega
    unfold maxLen at h2
    refine ⟨some x, cap, by rw [hl], by rw [hl]; omega, by rw [hl]; omega, fun k hk => ?_⟩
    rw [hl] at hk
    have hc := h4 k (by omega)
    have hc0 := h4 0 (by omega)
    obtain ⟨b, off, spot⟩ := x
    have hs : spot = none := by
      cases spot with
      | none => rfl
      | some q =>
        simp only [World.cell?, Addr.add, if_true] at hc0
        split at hc0 <;> simp at hc0
    subst hs
    have hc2 : w.cell? ⟨b, off + k, none⟩ = some (.int .i64 (zs.getD k 0)) := by
      rw [← hc]; congr 1; unfold Addr.add; split <;> simp_all
    refine ⟨b, off, rfl, ?_, by rw [hc2]; simp [List.getElem?_take, hk]⟩
    by_cases hb : b < w.heap.size
    · exact hb
    · simp [World.cell?, Array.getElem?_eq_none (show w.heap.size ≤ b by omega)] at hc2
theorem IntsAt.rel {w : World} {v : Value} {l : List Int} (h : IntsAt w v l) (ρ : Nat → Loc) : VRel 0 ρ (fun b => b < w.heap.size) w (.vsl l.length 1 (tI fun i => l.getD i 0)) v := by
  obtain ⟨a, cap, rfl, hcap, hl, hc⟩ := h
  refine ⟨a, cap, rfl, hcap, ?_⟩
  by_cases h0 : l.length = 0
  · exact .inl h0
  · obtain ⟨b, off, e1, e2, _⟩ := hc 0 (by omega)
    refine .inr ⟨b, off, e1, e2, fun i hi j hj => ?_⟩
    obtain ⟨b', off', f1, f2, f3⟩ := hc i hi
    rw [e1] at f1
    simp only [Option.some.injEq, Addr.mk.injEq] at f1
    obtain ⟨rfl, rfl, _⟩ := f1
    obtain rfl : j = 0 := by omega
    exact ⟨_, by simpa using f3, rfl, rfl⟩
theorem law_of {P : Program} {f : FuncId} {args : List PV} {vs : List Value} {w : World} (h : PureC P f args (fun r => r = vb true)) (ha : ARel (fun _ => ⟨0, 0, 0⟩) (fun b => b < w.heap.size) w args vs) (hG : GOk (fun b => b < w.heap.size) w := by exact fun x hx => by cases hx) :
    Calls P f vs.toArray w fun e w' => e = .returned (.bool true) ∧ Ext w w' :=
  (h.2 _ _ w vs (fun _ h => h) hG ha).mono fun e w' ⟨v, r, h1, h2, h3, h4⟩ => by
    subst h2; exact ⟨by rw [h1, show v = .bool true from h4], h3⟩
end Go.Proofs.Ytcefhgomkehokaa
namespace Go.Proofs.Ytcefhgomkehokaa
theorem nameS_mt : nameS n_metal = true := by decide +kernel
theorem zeroX_w {e : Ex} (h : zeroX e = true) : e.w ≤ 1 := by
  unfold zeroX at h
  simp only [Bool.and_eq_true, decide_eq_true_eq] at h
  have h := h.2.2.2.2.2.2
  cases e with
  | nil => exact Nat.zero_le _
  | mk op vn vd um uh ud nm cnt mode nk kf =>
    have h : nk = 0 := h
    subst h
    exact Nat.le_refl _
theorem gd_w {wild : Bool} {hh : Nat} {d : Df} (h : GD wild hh d) (h5 : hh ≤ 5) : d.body.w ≤ 900000 := by
  by_cases hk : d.kind = 3 ∨ d.kind = 4
  · exact Nat.le_trans (w_valid 5 _ ((h.wt hk).vl 5 h5)) (by decide)
  · have hd := h.df
    unfold defS at hd
    have hz : zeroX d.body = true := by
      by_cases k1 : d.kind = 1
      · rw [if_pos k1] at hd; simp only [Bool.and_eq_true] at hd; exact hd.2.2.2.1
      · rw [if_neg k1] at hd
        by_cases k5 : d.kind = 5
        · rw [if_pos k5] at hd; simp only [Bool.and_eq_true] at hd; exact hd.2.2.2.1
        · rw [if_neg k5] at hd
          by_cases k2 : d.kind = 2
          · rw [if_pos k2] at hd; simp only [Bool.and_eq_true] at hd; exact hd.2.2.2.1
          · rw [if_neg k2, if_neg (fun e => hk (.inl e)), if_neg (fun e => hk (.inr e))] at hd; cases hd
    exact Nat.le_trans (zeroX_w hz) (by decide)
theorem gd_day {d : Df} (h : defS d = true) : 0 ≤ d.day ∧ (d.kind = 1 ∨ d.kind = 5 → d.day = 0) := by
  unfold defS at h
  by_cases k1 : d.kind = 1
  · rw [if_pos k1] at h; simp only [Bool.and_eq_true, decide_eq_true_eq] at h; have := h.2.1; exact ⟨by omega, fun _ => this⟩
  · rw [if_neg k1] at h
    by_cases k5 : d.kind = 5
    · rw [if_pos k5] at h; simp only [Bool.and_eq_true, decide_eq_true_eq] at h; have := h.2.1; exact ⟨by omega, fun _ => this⟩
    · rw [if_neg k5] at h
      refine ⟨?_, fun e => absurd e (fun e => e.elim k1 k5)⟩
      by_cases k2 : d.kind = 2
      · rw [if_pos k2] at h; simp only [Bool.and_eq_true, dayS, decide_eq_true_eq] at h; exact h.2.1.1
      · rw [if_neg k2] at h
        by_cases k3 : d.kind = 3
        · rw [if_pos k3] at h; simp only [Bool.and_eq_true, dayS, decide_eq_true_eq] at h; exact h.2.1.1
        · rw [if_neg k3] at h
          by_cases k4 : d.kind = 4
          · rw [if_pos k4] at h; simp only [Bool.and_eq_true, dayS, decide_eq_true_eq] at h; exact h.2.1.1
          · rw [if_neg k4] at h; cases h
theorem good_ago {wild : Bool} {hh : Nat} {l : List Df} (h : AGood wild hh l) (h5 : hh ≤ 5) : AgO n_metal l := ⟨by decide, fun d hd => (h.all d hd).bd, fun d hd => gd_w (h.all d hd) h5⟩
theorem lFd_mem {l : List Df} {i : Nat} (hi : i < l.length) : lF dD l i ∈ l := by unfold lF; rw [List.getD_eq_getElem?_getD, List.getElem?_eq_getElem hi]; exact List.getElem_mem hi
theorem good_agr {wild : Bool} {hh : Nat} {l : List Df} (h : AGood wild hh l) : agrS n_metal l = true := by
  unfold agrS
  have hlen := h.len
  simp only [Bool.and_eq_true, decide_eq_true_eq, List.all_eq_true]
  exact ⟨nameS_mt, by omega, fun d hd => ⟨tab_nm _ (h.all d hd).tab, (h.all d hd).df⟩⟩
theorem good_ver {wild : Bool} {hh : Nat} {l : List Df} (h : AGood wild hh l) : VerOk l := ⟨fun i j hi hj e1 e2 => by
  have hk := h.key
  have hi2 : i < (l.map fun d => (d.nm.toList, d.day)).length := by rw [List.length_map]; exact hi
  have hj2 : j < (l.map fun d => (d.nm.toList, d.day)).length := by rw [List.length_map]; exact hj
  refine (List.getElem_inj (h₀ := hi2) (h₁ := hj2) hk).1 ?_
  rw [List.getElem_map, List.getElem_map]
  unfold lF at e1 e2
  rw [List.getD_eq_getElem?_getD, List.getD_eq_getElem?_getD, List.getElem?_eq_getElem hi, List.getElem?_eq_getElem hj] at e1 e2
  exact Prod.ext e1 e2, fun i hi => (gd_day (h.all _ (lFd_mem hi)).df).1, fun i hi => (gd_day (h.all _ (lFd_mem hi)).df).2⟩
theorem argDs {mem : List Row} {L : List Nat} {x k : Nat} {l : List Df} (hk : l.length = k + 1) (hr : rowAt mem x = some (oRow cD 21 (k + 1) (lF dD l))) (hL : x ∈ L) : ArgOk mem L (.lsl x 0 (k + 1)) (vDs l) := by
  have := arg_o (s := .own) (L := L) cD_cl hr trivial hL
  rw [← hk] at this ⊢
  exact this
end Go.Proofs.Ytcefhgomkehokaa
namespace Go.Proofs.Ytcefhgomkehokaa
theorem flatK_mem {α : Type} {g : Nat → List α} {x : α} : ∀ {n : Nat}, x ∈ flatK n g → ∃ i, i < n ∧ x ∈ g i
  | 0, h => by cases h
  | n + 1, h => by
    rw [flatK, List.mem_append] at h
    rcases h with h | h
    · obtain ⟨i, hi, hx⟩ := flatK_mem h; exact ⟨i, by omega, hx⟩
    · exact ⟨n, by omega, h⟩
theorem rk_refs {ρ : Int} {e : Ex} (h : Rk ρ e) : ∀ r, r ∈ refsE e → (r.op = 3 ∨ r.op = 4) ∧ RkN ρ r.op r.nm := by
  induction h with
  | @mk op vn vd um uh ud nm cnt mode nk kf h hk ih =>
    intro r hr
    rw [refsE, List.mem_append] at hr
    rcases hr with hr | hr
    · by_cases hop : op = 3 ∨ op = 4
      · rw [if_pos hop] at hr
        obtain rfl := List.mem_singleton.1 hr
        exact ⟨hop, h⟩
      · rw [if_neg hop] at hr; cases hr
    · obtain ⟨i, hi, hx⟩ := flatK_mem hr
      exact ih i hi r hx
theorem act_ex {l : List Df} {day : Int} (h : VerOk l) (h0 : 0 ≤ day) {i : Nat} (hi : i < l.length) (hd : (lF dD l i).day ≤ day) : ∃ j : Nat, j < l.length ∧ (j : Int) ∈ actL l day ∧ (lF dD l j).kind = (lF dD l i).kind ∧ (lF dD l j).nm.toList = (lF dD l i).nm.toList := by
  obtain ⟨u1, u2, u3⟩ := bestS_ub (l := l) (i := i) (day := day) (by omega) l.length
  have hp := h.pos i hi
  have h1 := u3 i hi rfl rfl hd
  rcases bestS_at (l := l) (day := day) (i := i) l.length with e | ⟨j, hj, e1, e2, e3, e4⟩
  · omega
  · refine ⟨j, hj, ?_, e1, e2⟩
    have hb : bestS l day j l.length = bestS l day i l.length := by
      unfold bestS
      congr 1
      funext b k
      unfold bestG
      rw [e1, e2]
    have := act_best h h0 hj
    rw [hb, ← e4, decide_eq_true rfl] at this
    exact of_decide_eq_true this
theorem KS_days : ∀ x, x ∈ KS → 0 ≤ x.2 ∧ x.2 ≤ 20459 := by decide +kernel
theorem tab_rank : ∀ a, a ∈ tabL → a.2.1 = 3 ∨ a.2.1 = 4 → 1 ≤ rank a.1 := by decide +kernel
theorem tab_rank0 : ∀ a, a ∈ tabL → 0 ≤ rank a.1 := by decide +kernel
theorem rank_eq {a b : ByteArray} (h : a.toList = b.toList) : rank a = rank b := by unfold rank; rw [h]
theorem rank_b {wild : Bool} {hh : Nat} {l : List Df} (hA : AGood wild hh l) {i : Nat} (hi : i < l.length) : 0 ≤ rank (lF dD l i).nm ∧ ((lF dD l i).kind = 3 ∨ (lF dD l i).kind = 4 → 1 ≤ rank (lF dD l i).nm) :=
  ⟨tab_rank0 _ (hA.all _ (lFd_mem hi)).tab, tab_rank _ (hA.all _ (lFd_mem hi)).tab⟩
theorem nms3_tab : ∀ nm, nm ∈ nms3 → nm ∈ neds ∧ ∃ a, a ∈ tabL ∧ a.1 = nm ∧ (a.2.1 = 1 ∨ a.2.1 = 3 ∨ a.2.1 = 4) := by
  intro nm h
  unfold nms3 at h
  simp only [List.mem_cons, List.not_mem_nil, or_false] at h
  rcases h with rfl | rfl | rfl | rfl | rfl | rfl | rfl | rfl
  · exact ⟨mm, (n_h, 1, tH), mm, rfl, .inl rfl⟩
  · exact ⟨mm, (n_g, 1, t0), mm, rfl, .inl rfl⟩
  · exact ⟨mm, (n_f, 1, tB), mm, rfl, .inl rfl⟩
  · exact ⟨mm, (n_r1, 3, tR), mm, rfl, .inr (.inl rfl)⟩
  · exact ⟨mm, (n_r2, 3, tM), mm, rfl, .inr (.inl rfl)⟩
  · exact ⟨mm, (n_r3, 3, tB), mm, rfl, .inr (.inl rfl)⟩
  · exact ⟨mm, (n_r4, 3, t0), mm, rfl, .inr (.inl rfl)⟩
  · exact ⟨mm, (n_a, 4, t0), mm, rfl, .inr (.inr rfl)⟩
theorem nmsS_tab : ∀ nm : ByteArray, nm = n_w ∨ nm = n_s → nm ∈ neds ∧ ∃ a, a ∈ tabL ∧ a.1 = nm ∧ a.2.1 = 2 := by
  rintro nm (rfl | rfl)
  · exact ⟨mm, (n_w, 2, tR), mm, rfl, rfl⟩
  · exact ⟨mm, (n_s, 2, t0), mm, rfl, rfl⟩
theorem has_ix {wild : Bool} {hh : Nat} {l : List Df} (hA : AGood wild hh l) {nm : ByteArray} (hn : nm ∈ neds) {a : ByteArray × Int × Ty} (ha : a ∈ tabL) (he : a.1 = nm) : ∃ i, i < l.length ∧ (lF dD l i).nm = nm ∧ (lF dD l i).kind = a.2.1 := by
  obtain ⟨d, hd, e⟩ := List.mem_map.1 (hA.has nm hn)
  obtain ⟨i, hi, rfl⟩ := List.getElem_of_mem hd
  refine ⟨i, hi, by rw [lF_take hi]; exact e, ?_⟩
  have := tab_one _ (hA.all _ hd).tab _ ha (show _ = a.1.toList by rw [he, ← e])
  rw [lF_take hi, ← this]
theorem good_mean {wild : Bool} {hh : Nat} {l : List Df} (hA : AGood wild hh l) {day : Int} (hday : 20459 ≤ day) {r : Ex} {ρ : Int} (h : (r.op = 3 ∨ r.op = 4) ∧ RkN ρ r.op r.nm) : (meanI l (actL l day) r).isSome = true := by
  have hv := good_ver hA
  have hdy : ∀ i, i < l.length → (lF dD l i).day ≤ day := fun i hi => by
    have := (KS_days _ (hA.ks _ (lFd_mem hi))).2
    have : (lF dD l i).day ≤ 20459 := this
    omega
  have key : ∀ i, i < l.length → (lF dD l i).nm = r.nm → (r.op = 3 ∧ comp (lF dD l i) = true ∨ r.op = 4 ∧ (lF dD l i).kind = 2) → (meanI l (actL l day) r).isSome = true := fun i hi e hk => by
    unfold meanI
    split
    · rfl
    · rw [List.find?_isSome]
      obtain ⟨j, hj, hj1, e1, e2⟩ := act_ex hv (by omega) hi (hdy i hi)
      refine ⟨_, hj1, ?_⟩
      unfold fitB
      rw [Int.toNat_natCast]
      refine decide_eq_true ⟨?_, by rw [e2, e]⟩
      rcases hk with ⟨h1, h2⟩ | ⟨h1, h2⟩
      · refine .inl ⟨h1, ?_⟩
        unfold comp at h2 ⊢
        rw [e1]; exact h2
      · exact .inr ⟨h1, by rw [e1]; exact h2⟩
  rcases h with ⟨h3 | h4, hr⟩
  · obtain ⟨h1, a, ha, h2, h3'⟩ := nms3_tab _ (hr.1 h3).1
    obtain ⟨i, hi, e1, e2⟩ := has_ix hA h1 ha h2
    rcases h3' with k1 | k3
    · unfold meanI
      rw [if_pos h3]
      have : ((List.range l.length).find? (inpB l r.nm)).isSome = true := by
        rw [List.find?_isSome]
        refine ⟨i, List.mem_range.2 hi, ?_⟩
        unfold inpB
        exact decide_eq_true ⟨by rw [e2, k1], by rw [e1]⟩
      obtain ⟨j, hj⟩ := Option.isSome_iff_exists.1 this
      rw [hj]; rfl
    · exact key i hi e1 (.inl ⟨h3, by unfold comp; rw [e2]; exact decide_eq_true k3⟩)
  · obtain ⟨h1, a, ha, h2, h3'⟩ := nmsS_tab _ (hr.2 h4)
    obtain ⟨i, hi, e1, e2⟩ := has_ix hA h1 ha h2
    exact key i hi e1 (.inr ⟨h4, by rw [e2, h3']⟩)
theorem comp_iff {d : Df} : comp d = true ↔ d.kind = 3 ∨ d.kind = 4 := by unfold comp; exact decide_eq_true_iff
theorem good_body {wild : Bool} {hh : Nat} {l : List Df} (hA : AGood wild hh l) {i : Nat} (hi : i < l.length) (hc : comp (lF dD l i) = true) : Rk (rhoD wild (lF dD l i).nm) (lF dD l i).body := ((hA.all _ (lFd_mem hi)).wt (comp_iff.1 hc)).rk
theorem good_needs {wild : Bool} {hh : Nat} {l : List Df} (hA : AGood wild hh l) {day : Int} (hday : 20459 ≤ day) {i : Nat} (hi : i < l.length) (hc : comp (lF dD l i) = true) : needS l (actL l day) i = (needL l (actL l day) (refsE (lF dD l i).body), 0) := by
  unfold needS
  rw [if_pos]
  rw [List.all_eq_true]
  intro r hr
  exact good_mean hA hday (rk_refs (good_body hA hi hc) r hr)
theorem nodS_mem {l : List Df} {day : Int} {x : Int} : x ∈ nodS l day ↔ x ∈ actL l day ∧ comp (lF dD l x.toNat) = true := List.mem_filter
theorem good_gErr {wild : Bool} {hh : Nat} {l : List Df} (hA : AGood wild hh l) {day : Int} (hday : 20459 ≤ day) (hd2 : day ≤ 84005) : chkE n_metal l day = 0 ∧ gErr n_metal l day = 0 := by
  have hc : chkE n_metal l day = 0 := by
    unfold chkE
    rw [if_neg (by rw [good_agr hA]; decide), if_neg (by omega)]
  refine ⟨hc, ?_⟩
  unfold gErr
  rw [if_neg (by rw [hc]; decide), if_pos]
  rw [List.all_eq_true]
  intro x hx
  obtain ⟨h1, h2⟩ := nodS_mem.1 hx
  have := actL_in x h1
  rw [good_needs hA hday (by omega) h2]
  exact decide_eq_true rfl
def rkN (l : List Df) (x : Int) : Nat := (rank (lF dD l x.toNat).nm).toNat
theorem need_rank {hh : Nat} {l : List Df} (hA : AGood false hh l) {day : Int} {i : Nat} (hi : i < l.length) (hc : comp (lF dD l i) = true) {y : Int} (hy : y ∈ needL l (actL l day) (refsE (lF dD l i).body)) : y ∈ nodS l day ∧ rank (lF dD l y.toNat).nm < rank (lF dD l i).nm := by
  obtain ⟨h1, h2⟩ := List.mem_filter.1 hy
  rw [Bool.and_eq_true, decide_eq_true_eq] at h2
  refine ⟨nodS_mem.2 ⟨h1, h2.1⟩, ?_⟩
  obtain ⟨r, hr, he⟩ := List.mem_filterMap.1 h2.2
  obtain ⟨hop, hrk⟩ := rk_refs (good_body hA hi hc) r hr
  have hk := comp_iff.1 h2.1
  have hyl := actL_in y h1
  unfold meanI at he
  split at he
  · rename_i j hj
    injection he with he
    subst he
    split at hj
    · have := List.find?_some hj
      unfold inpB at this
      have := (of_decide_eq_true this).1
      simp only [Int.toNat_natCast] at hk
      omega
    · cases hj
  · have := List.find?_some he
    unfold fitB at this
    obtain ⟨e1, e2⟩ := of_decide_eq_true this
    rcases e1 with ⟨e3, _⟩ | ⟨_, e4⟩
    · have h5 := (hrk.1 e3).2
      rw [rank_eq e2]
      have h6 := (rank_b hA (i := y.toNat) (by omega)).2 hk
      rw [rank_eq e2] at h6
      have h7 : rhoD false (lF dD l i).nm = rank (lF dD l i).nm := rfl
      rw [h7] at h5
      omega
    · omega
theorem nodS_as (l : List Df) (day : Int) : (nodS l day).Pairwise (· < ·) := (actN_asc l day l.length).filter _
theorem asc_nd {L : List Int} (h : L.Pairwise (· < ·)) : L.Nodup := by
  rw [List.nodup_iff_pairwise_ne]
  exact h.imp fun h => by omega
theorem good_ord {hh : Nat} {l : List Df} (hA : AGood false hh l) {day : Int} (hday : 20459 ≤ day) (hd2 : day ≤ 84005) : ∃ o, OrdS n_metal l day = (o, 0) ∧ OrdInv (nodS l day) (mapS l day) o ∧ o.length = (nodS l day).length := by
  unfold OrdS
  rw [if_neg (fun h => h (good_gErr hA hday hd2).2)]
  refine ordF_all (rk := rkN l) (asc_nd (nodS_as l day)) (fun x hx y hy => ?_) _ [] (fun q hq => absurd hq (Nat.not_lt_zero q)) (Nat.zero_add _)
  obtain ⟨h1, h2⟩ := nodS_mem.1 hx
  have hxl := actL_in x h1
  have h3 := (sget_map hy).2
  have h3 : y ∈ (needS l (actL l day) x.toNat).1 := h3
  rw [good_needs hA hday (by omega) h2] at h3
  obtain ⟨h4, h5⟩ := need_rank hA (by omega) h2 h3
  refine ⟨h4, ?_⟩
  unfold rkN
  have := (rank_b hA (i := y.toNat) (by have := actL_in y (nodS_mem.1 h4).1; omega)).1
  omega
theorem good_sget {hh : Nat} {l : List Df} {day : Int} {x : Int} (hx : x ∈ nodS l day) : sget (mapS l day) x = (needS l (actL l day) x.toNat).1 := by
  unfold sget mapS mapL
  have : ∀ (ns : List Int), x ∈ ns → (ns.map fun x => (x, (needS l (actL l day) x.toNat).1)).find? (fun e => decide (e.1 = x)) = some (x, (needS l (actL l day) x.toNat).1) := by
    intro ns
    induction ns with
    | nil => intro h; cases h
    | cons z ns ih =>
      intro h
      rw [List.map_cons, List.find?_cons]
      by_cases e : z = x
      · subst e; rw [decide_eq_true rfl]
      · rw [decide_eq_false e]
        exact ih ((List.mem_cons.1 h).resolve_left fun h => e h.symm)
  rw [this _ hx]
end Go.Proofs.Ytcefhgomkehokaa
namespace Go.Proofs.Ytcefhgomkehokaa
structure SrtOk (n : Nat) (O : List Int) (Nd : Nat → List Int × Int) : Prop where
  len : O.length ≤ n
  bd : ∀ q, q < O.length → 0 ≤ lF 0 O q ∧ lF 0 O q < n
  nd : ∀ p q, p < q → q < O.length → lF 0 O p ≠ lF 0 O q
  at_ : ∀ i, i < n → (∃ p, p < O.length ∧ lF 0 O p = i ∧ (Nd i).2 = 0 ∧ (∀ m, m < (Nd i).1.length → ∃ s, s < p ∧ lF 0 O s = lF 0 (Nd i).1 m) ∧ ∀ q, q < p → (∀ m, m < (Nd i).1.length → ∃ s, s < q ∧ lF 0 O s = lF 0 (Nd i).1 m) → lF 0 O q ≤ i) ∨ ((∀ p, p < O.length → lF 0 O p ≠ i) ∧ (Nd i).2 ≠ 0)
  nl : ∀ i, (Nd i).1.length ≤ 1000000
theorem take_ix {O : List Int} {x : Int} {q : Nat} (h : x ∈ O.take q) : ∃ s, s < q ∧ s < O.length ∧ lF 0 O s = x := by
  obtain ⟨i, hi, e⟩ := List.mem_take_iff_getElem.1 h
  exact ⟨i, by omega, by omega, by rw [lF_get' (by omega)]; exact e⟩
theorem ix_take {O : List Int} {q s : Nat} (h1 : s < q) (h2 : s < O.length) : lF 0 O s ∈ O.take q := by
  rw [lF_get' h2]; exact List.mem_take_iff_getElem.2 ⟨s, by omega, rfl⟩
theorem mem_ix {L : List Int} {x : Int} (h : x ∈ L) : ∃ m, m < L.length ∧ lF 0 L m = x := by
  obtain ⟨m, hm, e⟩ := List.getElem_of_mem h
  exact ⟨m, hm, by rw [lF_get' hm]; exact e⟩
theorem ix_mem {L : List Int} {m : Nat} (h : m < L.length) : lF 0 L m ∈ L := by rw [lF_get' h]; exact List.getElem_mem h
theorem good_srt {hh : Nat} {l : List Df} (hA : AGood false hh l) {day : Int} (hday : 20459 ≤ day) (hd2 : day ≤ 84005) : ∃ O, OrdS n_metal l day = (O, 0) ∧ SrtOk l.length O (fun i => NeedsS n_metal l day i) := by
  obtain ⟨O, h1, h2, h3⟩ := good_ord hA hday hd2
  have hc := (good_gErr hA hday hd2).1
  have hN := nodS_as l day
  have hsub : ∀ x, x ∈ O → x ∈ nodS l day := fun x hx => by
    obtain ⟨m, hm, rfl⟩ := mem_ix hx
    exact (h2.at hm).1
  have hmem : ∀ x, x ∈ O ↔ x ∈ nodS l day := fun x => ⟨hsub x, fun hx => Classical.byContradiction fun hno => by
    have := nd_len (A := x :: O) (B := nodS l day) (List.nodup_cons.2 ⟨hno, h2.nd⟩) fun y hy => by
      rcases List.mem_cons.1 hy with rfl | hy
      · exact hx
      · exact hsub y hy
    rw [List.length_cons] at this
    omega⟩
  have hbd : ∀ x, x ∈ nodS l day → 0 ≤ x ∧ x < l.length := fun x hx => actL_in x (nodS_mem.1 hx).1
  refine ⟨O, h1, ?_, fun q hq => hbd _ (h2.at hq).1, fun p q hpq hq => h2.nodup hpq hq, fun i hi => ?_, fun i => ?_⟩
  · rw [h3]; exact nodS_len l day
  · by_cases hn : (i : Int) ∈ nodS l day
    · refine .inl ?_
      obtain ⟨p, hp, e⟩ := mem_ix ((hmem _).2 hn)
      obtain ⟨n1, n2⟩ := nodS_mem.1 hn
      have hNd : NeedsS n_metal l day i = needS l (actL l day) i := by
        unfold NeedsS
        rw [if_neg (fun h => h hc), if_pos ⟨n1, n2⟩, Int.toNat_natCast]
      have hsg : sget (mapS l day) (lF 0 O p) = (NeedsS n_metal l day i).1 := by
        rw [e, good_sget (hh := hh) hn, hNd, Int.toNat_natCast]
      refine ⟨p, hp, e, ?_, fun m hm => ?_, fun q hq hall => ?_⟩
      · show (NeedsS n_metal l day i).2 = 0
        rw [hNd]
        rw [Int.toNat_natCast] at n2
        rw [good_needs hA hday hi n2]
      · obtain ⟨s, hs, _, e2⟩ := take_ix ((h2.at hp).2.2 (lF 0 (NeedsS n_metal l day i).1 m) (by rw [hsg]; exact ix_mem hm))
        exact ⟨s, hs, e2⟩
      · have := h2.first hN hq hp fun y hy => by
          rw [hsg] at hy
          obtain ⟨m, hm, rfl⟩ := mem_ix hy
          obtain ⟨s, hs, e2⟩ := hall m hm
          show lF 0 (NeedsS n_metal l day i).1 m ∈ _
          rw [← e2]
          exact ix_take hs (by omega)
        rw [e] at this
        exact this
    · refine .inr ⟨fun p hp e => hn ?_, ?_⟩
      · rw [← e]; exact (h2.at hp).1
      · show (NeedsS n_metal l day i).2 ≠ 0
        unfold NeedsS
        rw [if_neg (fun h => h hc), if_neg (fun h => hn (nodS_mem.2 h))]
        decide
  · show (NeedsS n_metal l day i).1.length ≤ _
    have hlen := hA.len
    unfold NeedsS
    split
    · exact Nat.zero_le _
    · split
      · unfold needS
        split
        · have h5 := List.length_filter_le (fun j => comp (lF dD l j.toNat) && decide (j ∈ (refsE (lF dD l ((i : Int).toNat)).body).filterMap (meanI l (actL l day)))) (actL l day)
          have h6 := actL_len l day
          show (needL l (actL l day) (refsE (lF dD l ((i : Int).toNat)).body)).length ≤ _
          unfold needL
          omega
        · exact Nat.zero_le _
      · exact Nat.zero_le _
def PosOk (O : List Int) (q : Nat) (f : Nat → Int) : Prop := ∀ i : Nat, (∀ p, p < q → lF 0 O p = i → f i = p + 1) ∧ ((∀ p, p < q → lF 0 O p ≠ i) → f i = 0)
theorem PosOk.step {O : List Int} {q : Nat} {f : Nat → Int} (h : PosOk O q f) (hnd : ∀ p, p < q → lF 0 O p ≠ lF 0 O q) (h0 : 0 ≤ lF 0 O q) : PosOk O (q + 1) (upd f (lF 0 O q).toNat (q + 1)) := fun i => by
  refine ⟨fun p hp e => ?_, fun hno => ?_⟩
  · unfold upd
    by_cases e2 : p = q
    · subst e2; rw [if_pos (by omega)]
    · rw [if_neg (fun e3 => hnd p (by omega) (by omega)), (h i).1 p (by omega) e]
  · unfold upd
    rw [if_neg (fun e3 => hno q (by omega) (by omega)), (h i).2 fun p hp => hno p (by omega)]
def cntB (O : List Int) (i : Nat) : Nat := O.countP fun x => decide (x < (i : Int))
theorem cnt_all {n : Nat} {O : List Int} {Nd : Nat → List Int × Int} (h : SrtOk n O Nd) : cntB O n = O.length := by
  unfold cntB
  rw [List.countP_eq_length]
  intro x hx
  obtain ⟨m, hm, rfl⟩ := mem_ix hx
  exact decide_eq_true (h.bd m hm).2
theorem cnt_zero {n : Nat} {O : List Int} {Nd : Nat → List Int × Int} (h : SrtOk n O Nd) : cntB O 0 = 0 := by
  unfold cntB
  rw [List.countP_eq_zero]
  intro x hx
  obtain ⟨m, hm, rfl⟩ := mem_ix hx
  have := (h.bd m hm).1
  simp; omega
theorem cnt_le (O : List Int) (i : Nat) : cntB O i ≤ O.length := List.countP_le_length
theorem cnt_no {O : List Int} {i : Nat} (h : ∀ p, p < O.length → lF 0 O p ≠ i) : cntB O (i + 1) = cntB O i := by
  unfold cntB
  apply List.countP_congr
  intro x hx
  obtain ⟨m, hm, rfl⟩ := mem_ix hx
  have := h m hm
  simp; omega
theorem cnt_yes : ∀ {O : List Int} {i : Nat}, O.Nodup → (i : Int) ∈ O → cntB O (i + 1) = cntB O i + 1
  | [], i, _, h => by cases h
  | x :: O, i, hn, h => by
    rw [List.nodup_cons] at hn
    by_cases e : x = i
    · subst e
      have h1 : cntB O (i + 1) = cntB O i := cnt_no fun p hp e => hn.1 (by rw [← e]; exact ix_mem hp)
      unfold cntB at h1 ⊢
      rw [List.countP_cons_of_pos (by simp; omega), List.countP_cons_of_neg (by simp), h1]
    · have ih := cnt_yes hn.2 ((List.mem_cons.1 h).resolve_left fun e2 => e e2.symm)
      unfold cntB at ih ⊢
      by_cases hx : x < i
      · rw [List.countP_cons_of_pos (by simp; omega), List.countP_cons_of_pos (by simp; omega), ih]
      · rw [List.countP_cons_of_neg (by simp; omega), List.countP_cons_of_neg (by simp; omega), ih]
theorem SrtOk.nodup {n : Nat} {O : List Int} {Nd : Nat → List Int × Int} (h : SrtOk n O Nd) : O.Nodup := by
  rw [List.nodup_iff_pairwise_ne, List.pairwise_iff_getElem]
  intro i j hi hj hij
  have := h.nd i j hij hj
  rwa [lF_get' hi, lF_get' hj] at this
end Go.Proofs.Ytcefhgomkehokaa
namespace Go.Proofs.Ytcefhgomkehokaa
theorem iupd_eq {τ : Nat → Option Nat} {n j i : Nat} {f : Nat → Int} {x y : Int} (hj : j = i) (hx : x = y) : RowEq (Row.ren τ ⟨.own, false, n, 1, updR (tI f) j [vi x]⟩) (iRow n (upd f i y)) := by
  subst hj hx
  exact i_eq (Nat.le_refl _) fun a ha => upd_eq f j x a 0 rfl
set_option maxHeartbeats 16000000 in
theorem sorted21_c (n : Nat) (g : Nat → Int) (hn : n ≤ 9223372036854775807) : PureC G.P 3 [.vsl n 1 (tI g)] (fun r => r = vb true) := by
  refine pure_of (G := G.toPg) (fn := Try.f3) Try.func3 rfl rfl rfl ?_; intro Γ hk
  repeat' (first | refine yo ?_ ?_ | refine yw ?_ ?_ | refine yk ?_ ?_ | exact trivial | with_reducible refine wA ?_ ?_ | refine ys ?_ ?_ | refine xs_done ?_ | refine yl ?_ ?_ | refine w8 ?_ | refine w9 ?_ | refine w1 ?_ | refine w2 ?_ | refine w3 ?_ | refine w4 ?_ | refine w5 ?_ | refine w6 ?_ | refine w7 ?_ | refine yo0 ?_ ?_ | refine yw0 ?_ ?_ | exact qq | fail)
  refine pop_rowsc [] rfl rfl rfl rfl rfl rfl .nil (new_c n g) (by exact ⟨PEq.refl _, trivial⟩) ?_
  rintro r rows ⟨rfl, rfl⟩
  refine ⟨_, _, rfl, ⟨tape_cl _ _ _, trivial⟩, rfl, ?_⟩
  repeat' (first | refine yo ?_ ?_ | refine yw ?_ ?_ | refine yk ?_ ?_ | exact trivial | with_reducible refine wA ?_ ?_ | refine ys ?_ ?_ | refine xs_done ?_ | refine yl ?_ ?_ | refine w8 ?_ | refine w9 ?_ | refine w1 ?_ | refine w2 ?_ | refine w3 ?_ | refine w4 ?_ | refine w5 ?_ | refine w6 ?_ | refine w7 ?_ | refine yo0 ?_ ?_ | refine yw0 ?_ ?_ | exact qq | fail)
  refine pop_rowsd [0] rfl rfl rfl rfl rfl rfl (by exact .cons rfl trivial (RowEq.cl (tape_cl _ _ _)) .nil) (agreement4_r 2 (by omega) false n g 0 hn (by omega) (by omega)) (by exact ⟨PEq.refl _, PEq.refl _, PEq.refl _, trivial⟩) ?_
  rintro r rows ⟨at_, k, l, b1, b2, hlk, hA, rfl, rfl⟩
  refine ⟨[tapeRow n g at_, rA (k + 1) 2, oRow cD 21 (k + 1) (lF dD l)], _, .agg 2 (nthP [vs n_metal, .lsl 2 0 (k + 1)]), ⟨RowEq.cl (tape_cl _ _ _), rA_eq rfl, RowEq.cl (o_cl cD_cl _ _ _), trivial⟩, rfl, peqA rfl, ?_⟩
  have hk30 := hA.len
  have hag := good_ago hA (by omega)
  obtain ⟨O, hO, hs⟩ := good_srt hA (day := 20464) (by omega) (by omega)
  have cO := Order_c n_metal l 20464 hag (by omega)
  rw [hO] at cO
  have cN := fun i : Nat => Needs_c n_metal l 20464 (i : Int) hag (by omega)
  have hOl := hs.len
  repeat' (first | refine yo ?_ ?_ | refine yw ?_ ?_ | refine yk ?_ ?_ | exact trivial | with_reducible refine wA ?_ ?_ | refine ys ?_ ?_ | refine xs_done ?_ | refine yl ?_ ?_ | refine w8 ?_ | refine w9 ?_ | refine w1 ?_ | refine w2 ?_ | refine w3 ?_ | refine w4 ?_ | refine w5 ?_ | refine w6 ?_ | refine w7 ?_ | refine yo0 ?_ ?_ | refine yw0 ?_ ?_ | exact qq | fail)
  refine ocan0 (st' := ⟨[(4, .ptr 0 0 0), (5, vi 20464), (22, vA n_metal l), (23, vi 20464)], [rA1 n_metal l]⟩) ((can_frzb [2] 3 (fun _ => nthP [vs n_metal, vDs l]) (tm := [(4, .ptr 3 0 0), (5, vi 20464), (22, vA n_metal l), (23, vi 20464)]) (by intro l hl; rw [hk]; exact Nat.zero_le _) rfl rfl rfl (fun i hi j hj => by
    have hj : j < 2 := hj
    obtain rfl | rfl : j = 0 ∨ j = 1 := by omega
    · exact argVal
    · exact argDs hlk rfl (List.Mem.head _)) (by exact ⟨.inl rfl, .inl rfl, .inr (argAgr (argDs hlk rfl (List.Mem.head _))), .inl rfl, trivial⟩)).trans (can_rowsv [3] (k0_sel hk rfl) rfl (.cons rfl (RowEq.cl (rA1_cl _ _)) .nil) (by exact ⟨PEq.refl _, PEq.refl _, PEq.cl (vA n_metal l) (clA ⟨trivial, trivial, trivial⟩), PEq.refl _, trivial⟩))) ?_
  repeat' (first | refine yo ?_ ?_ | refine yw ?_ ?_ | refine yk ?_ ?_ | exact trivial | with_reducible refine wA ?_ ?_ | refine ys ?_ ?_ | refine xs_done ?_ | refine yl ?_ ?_ | (refine pop_callc [] rfl rfl rfl rfl rfl rfl (fun _ h => by cases h) (cO) (args_cl _ rfl) ?_; rintro _ rfl) | (exact ⟨by omega, by omega, by omega, by show (_ : Int) * 8 ≤ _; omega⟩) | refine w8 ?_ | refine w9 ?_ | refine w1 ?_ | refine w2 ?_ | refine w3 ?_ | refine w4 ?_ | refine w5 ?_ | refine w6 ?_ | refine w7 ?_ | refine yo0 ?_ ?_ | refine yw0 ?_ ?_ | exact qq | fail)
  refine pcan (st' := ⟨[(4, .ptr 0 0 0), (5, vi 20464), (6, sV O), (8, .lsl 1 0 l.length), (9, vi ((0 : Nat) : Int))], [rA1 n_metal l, iRow l.length (fun _ => 0)]⟩) (can_rowsv [0, 1] (k0_sel hk rfl) rfl (.cons rfl (RowEq.cl (rA1_cl _ _)) (.cons rfl (i_eq (Nat.le_refl _) fun a ha => rfl) .nil)) tmq) ?_
  refine ploop (fun q st => ∃ (i : Nat) (f : Nat → Int), i ≤ O.length ∧ PosOk O i f ∧ q = O.length - i ∧ st = ⟨[(4, .ptr 0 0 0), (5, vi 20464), (6, sV O), (8, .lsl 1 0 l.length), (9, vi i)], [rA1 n_metal l, iRow l.length f]⟩) O.length ⟨0, fun _ => 0, Nat.zero_le _, fun i => ⟨fun p hp => absurd hp (Nat.not_lt_zero p), fun _ => rfl⟩, rfl, rfl⟩ ?_
  rintro _ _ ⟨i, f, hi, hf, rfl, rfl⟩
  have hw1 : IntKind.i64.wrap ((i : Int) + 1) = ((i + 1 : Nat) : Int) := w64 (by omega) (by omega)
  repeat' (first | refine yo ?_ ?_ | refine yw ?_ ?_ | refine yk ?_ ?_ | exact trivial | with_reducible refine wA ?_ ?_ | refine ys ?_ ?_ | refine xs_done ?_ | refine yl ?_ ?_ | refine w8 ?_ | refine w9 ?_ | refine w1 ?_ | refine w2 ?_ | refine w3 ?_ | refine w4 ?_ | refine w5 ?_ | refine w6 ?_ | refine w7 ?_ | refine yo0 ?_ ?_ | refine yw0 ?_ ?_ | exact qq | fail)
  refine pcond rfl ?_ ?_ <;> intro hc
  · have hc : i < O.length := by have := of_decide_eq_true hc; omega
    have hb := hs.bd i hc
    have hnd := fun p (hp : p < i) => hs.nd p i hp hc
    have hf0 : f (lF 0 O i).toNat = 0 := (hf _).2 fun p hp e => hnd p hp (by omega)
    repeat' (first | refine yo ?_ ?_ | refine yw ?_ ?_ | refine yk ?_ ?_ | exact trivial | with_reducible refine wA ?_ ?_ | refine ys ?_ ?_ | refine xs_done ?_ | refine yl ?_ ?_ | refine w8 ?_ | refine w9 ?_ | refine w1 ?_ | refine w2 ?_ | refine w3 ?_ | refine w4 ?_ | refine w5 ?_ | refine w6 ?_ | refine w7 ?_ | refine yo0 ?_ ?_ | refine yw0 ?_ ?_ | exact qq | fail)
    · intro hh
      exact ⟨hh, (show 0 + (lF 0 O i).toNat < l.length by omega)⟩
    · intro hh
      exact ⟨hh, hh, hb⟩
    have hz2 : 0 + (lF 0 O i).toNat = (lF 0 O i).toNat := Nat.zero_add _
    refine pcond (b := false) ?_ ?_ ?_
    · refine eqB ?_
      rw [show (i : Int).toNat = i from rfl, hz2, hf0, decide_eq_false (by omega : ¬ lF 0 O i < 0), decide_eq_false (by omega : ¬ (l.length : Int) ≤ lF 0 O i)]; rfl
    · intro h3; cases h3
    · intro h3
      repeat' (first | refine yo ?_ ?_ | refine yw ?_ ?_ | refine yk ?_ ?_ | exact trivial | with_reducible refine wA ?_ ?_ | refine ys ?_ ?_ | refine xs_done ?_ | refine yl ?_ ?_ | (exact (show 0 + (lF 0 O i).toNat < l.length by omega)) | (exact hb) | refine w8 ?_ | refine w9 ?_ | refine w1 ?_ | refine w2 ?_ | refine w3 ?_ | refine w4 ?_ | refine w5 ?_ | refine w6 ?_ | refine w7 ?_ | refine yo0 ?_ ?_ | refine yw0 ?_ ?_ | exact qq | fail)
      refine xdone ?_
      rw [hw1]
      exact kloop_next (st' := ⟨[(4, .ptr 0 0 0), (5, vi 20464), (6, sV O), (8, .lsl 1 0 l.length), (9, vi ((i + 1 : Nat) : Int))], [rA1 n_metal l, iRow l.length (upd f (lF 0 O i).toNat (i + 1))]⟩) (O.length - (i + 1)) (can_rowsv [0, 1] (k0_sel hk rfl) rfl (.cons rfl (RowEq.cl (rA1_cl _ _)) (.cons rfl (iupd_eq hz2 rfl) .nil)) tmq) (by omega) ⟨i + 1, _, by omega, hf.step hnd hb.1, rfl, rfl⟩
  · have hil : i = O.length := by have := of_decide_eq_false hc; omega
    subst hil
    have hcz := cnt_zero hs
    repeat' (first | refine yo ?_ ?_ | refine yw ?_ ?_ | refine yk ?_ ?_ | exact trivial | with_reducible refine wA ?_ ?_ | refine ys ?_ ?_ | refine xs_done ?_ | refine yl ?_ ?_ | refine w8 ?_ | refine w9 ?_ | refine w1 ?_ | refine w2 ?_ | refine w3 ?_ | refine w4 ?_ | refine w5 ?_ | refine w6 ?_ | refine w7 ?_ | refine yo0 ?_ ?_ | refine yw0 ?_ ?_ | exact qq | fail)
    refine pcan (st' := ⟨[(4, .ptr 0 0 0), (5, vi 20464), (6, sV O), (8, .lsl 1 0 l.length), (10, vi (cntB O 0 : Nat)), (11, vi ((0 : Nat) : Int))], [rA1 n_metal l, iRow l.length f]⟩) (can_rowsv [0, 1] (k0_sel hk rfl) rfl (.cons rfl (RowEq.cl (rA1_cl _ _)) (.cons rfl (RowEq.cl (i_cl _ _)) .nil)) (by exact ⟨PEq.refl _, PEq.refl _, PEq.refl _, PEq.refl _, PEq.of (congrArg vi (by rw [hcz]; rfl)), PEq.refl _, trivial⟩)) ?_
    refine ploop (fun q st => ∃ i : Nat, i ≤ l.length ∧ q = l.length - i ∧ st = ⟨[(4, .ptr 0 0 0), (5, vi 20464), (6, sV O), (8, .lsl 1 0 l.length), (10, vi (cntB O i : Nat)), (11, vi i)], [rA1 n_metal l, iRow l.length f]⟩) l.length ⟨0, Nat.zero_le _, rfl, rfl⟩ ?_
    rintro _ _ ⟨i, hi, rfl, rfl⟩
    have hw1 : IntKind.i64.wrap ((i : Int) + 1) = ((i + 1 : Nat) : Int) := w64 (by omega) (by omega)
    repeat' (first | refine yo ?_ ?_ | refine yw ?_ ?_ | refine yk ?_ ?_ | exact trivial | with_reducible refine wA ?_ ?_ | refine ys ?_ ?_ | refine xs_done ?_ | refine yl ?_ ?_ | refine w8 ?_ | refine w9 ?_ | refine w1 ?_ | refine w2 ?_ | refine w3 ?_ | refine w4 ?_ | refine w5 ?_ | refine w6 ?_ | refine w7 ?_ | refine yo0 ?_ ?_ | refine yw0 ?_ ?_ | exact qq | fail)
    refine pcond rfl ?_ ?_ <;> intro hc2
    · have hc2 : i < l.length := by have := of_decide_eq_true hc2; omega
      have cNi := cN i
      have hnl := hs.nl i
      have hat := hs.at_ i hc2
      have hat : _ := hat
      generalize NeedsS n_metal l 20464 i = X at cNi hat hnl
      repeat' (first | refine yo ?_ ?_ | refine yw ?_ ?_ | refine yk ?_ ?_ | exact trivial | with_reducible refine wA ?_ ?_ | refine ys ?_ ?_ | refine xs_done ?_ | refine yl ?_ ?_ | (refine pop_callc [] rfl rfl rfl rfl rfl rfl (fun _ h => by cases h) (cNi) (args_cl _ rfl) ?_; rintro _ rfl) | refine w8 ?_ | refine w9 ?_ | refine w1 ?_ | refine w2 ?_ | refine w3 ?_ | refine w4 ?_ | refine w5 ?_ | refine w6 ?_ | refine w7 ?_ | refine yo0 ?_ ?_ | refine yw0 ?_ ?_ | exact qq | fail)
      have hz3 : 0 + (i : Int).toNat = i := by omega
      rcases hat with ⟨p, hp, hpe, h0, hlt, hfst⟩ | ⟨hno, h0⟩
      · have hfi : f i = p + 1 := (hf i).1 p hp hpe
        refine pcond (b := false) ?_ ?_ ?_
        · refine eqB ?_
          rw [hz3, hfi, h0, decide_eq_true (by omega : (0 : Int) < p + 1)]; rfl
        · intro h3; cases h3
        · intro h3
          repeat' (first | refine yo ?_ ?_ | refine yw ?_ ?_ | refine yk ?_ ?_ | exact trivial | with_reducible refine wA ?_ ?_ | refine ys ?_ ?_ | refine xs_done ?_ | refine yl ?_ ?_ | refine w8 ?_ | refine w9 ?_ | refine w1 ?_ | refine w2 ?_ | refine w3 ?_ | refine w4 ?_ | refine w5 ?_ | refine w6 ?_ | refine w7 ?_ | refine yo0 ?_ ?_ | refine yw0 ?_ ?_ | exact qq | fail)
          refine pcond (b := false) ?_ ?_ ?_
          · refine eqB ?_
            rw [h0]; rfl
          · intro h3; cases h3
          · intro h3
            have hcy := cnt_yes hs.nodup (i := i) (by rw [← hpe]; exact ix_mem hp)
            have hcl := cnt_le O i
            repeat' (first | refine yo ?_ ?_ | refine yw ?_ ?_ | refine yk ?_ ?_ | exact trivial | with_reducible refine wA ?_ ?_ | refine ys ?_ ?_ | refine xs_done ?_ | refine yl ?_ ?_ | refine w8 ?_ | refine w9 ?_ | refine w1 ?_ | refine w2 ?_ | refine w3 ?_ | refine w4 ?_ | refine w5 ?_ | refine w6 ?_ | refine w7 ?_ | refine yo0 ?_ ?_ | refine yw0 ?_ ?_ | exact qq | fail)
            rw [show IntKind.i64.wrap ((cntB O i : Int) + 1) = ((cntB O i + 1 : Nat) : Int) from w64 (by omega) (by omega), ← hcy]
            refine pcan (st' := ⟨[(4, .ptr 0 0 0), (5, vi 20464), (6, sV O), (8, .lsl 1 0 l.length), (10, vi (cntB O (i + 1) : Nat)), (11, vi i), (12, sV X.1), (14, vi 0), (15, vi ((0 : Nat) : Int))], [rA1 n_metal l, iRow l.length f]⟩) (can_rowsv [0, 1] (k0_sel hk rfl) rfl (.cons rfl (RowEq.cl (rA1_cl _ _)) (.cons rfl (RowEq.cl (i_cl _ _)) .nil)) (by exact ⟨PEq.refl _, PEq.refl _, PEq.refl _, PEq.refl _, PEq.refl _, PEq.refl _, PEq.refl _, PEq.refl _, PEq.refl _, trivial⟩)) ?_
            refine ploop (fun q st => ∃ (m : Nat) (r : Int), m ≤ X.1.length ∧ 0 ≤ r ∧ r ≤ p ∧ (∀ j, j < m → ∃ s, lF 0 O s = lF 0 X.1 j ∧ s < p ∧ (s : Int) + 1 ≤ r) ∧ q = X.1.length - m ∧ st = ⟨[(4, .ptr 0 0 0), (5, vi 20464), (6, sV O), (8, .lsl 1 0 l.length), (10, vi (cntB O (i + 1) : Nat)), (11, vi i), (12, sV X.1), (14, vi r), (15, vi m)], [rA1 n_metal l, iRow l.length f]⟩) X.1.length ⟨0, 0, Nat.zero_le _, by omega, by omega, fun j hj => absurd hj (Nat.not_lt_zero j), rfl, rfl⟩ ?_
            rintro _ _ ⟨m, r, hm, hr0, hrp, hrm, rfl, rfl⟩
            have hwm : IntKind.i64.wrap ((m : Int) + 1) = ((m + 1 : Nat) : Int) := w64 (by omega) (by omega)
            repeat' (first | refine yo ?_ ?_ | refine yw ?_ ?_ | refine yk ?_ ?_ | exact trivial | with_reducible refine wA ?_ ?_ | refine ys ?_ ?_ | refine xs_done ?_ | refine yl ?_ ?_ | refine w8 ?_ | refine w9 ?_ | refine w1 ?_ | refine w2 ?_ | refine w3 ?_ | refine w4 ?_ | refine w5 ?_ | refine w6 ?_ | refine w7 ?_ | refine yo0 ?_ ?_ | refine yw0 ?_ ?_ | exact qq | fail)
            refine pcond rfl ?_ ?_ <;> intro hc3
            · have hc3 : m < X.1.length := by have := of_decide_eq_true hc3; omega
              obtain ⟨s, hs1, hs2⟩ := hlt m hc3
              have hbs := hs.bd s (by omega)
              rw [hs2] at hbs
              have hfs : f (lF 0 X.1 m).toNat = s + 1 := (hf _).1 s (by omega) (by omega)
              have hb' : 0 + (lF 0 X.1 m).toNat < l.length := by omega
              have hi0 : 0 + (i : Int).toNat < l.length := by omega
              repeat' (first | refine yo ?_ ?_ | refine yw ?_ ?_ | refine yk ?_ ?_ | exact trivial | with_reducible refine wA ?_ ?_ | refine ys ?_ ?_ | refine xs_done ?_ | refine yl ?_ ?_ | refine xs_start (id := 26) true [.take 0, .take 1, .take 2, .take 3, .take 4, .take 5, .take 6, .take 7, .take 8, .take 9, .take 10, .take 11, .take 12, .take 13, .take 14, .take 15, .take 16, .take 17, .take 18, .take 19, .take 20, .take 21, .take 22, .take 23, .take 24, .take 25, .take 26, .take 27, .take 28, .take 29, .take 30, .take 31, .take 32, .take 33, .take 34, .take 35, .take 36, .take 37] 0 rfl rfl (by kernel_rfl) ?_ | (intro hh; exact ⟨hh, hb'⟩) | (intro hh; exact ⟨hh, hh, hbs⟩) | (intro hh; exact ⟨hh, hi0⟩) | (intro hh; exact ⟨hh, hh, hb'⟩) | refine w8 ?_ | refine w9 ?_ | refine w1 ?_ | refine w2 ?_ | refine w3 ?_ | refine w4 ?_ | refine w5 ?_ | refine w6 ?_ | refine w7 ?_ | refine yo0 ?_ ?_ | refine yw0 ?_ ?_ | exact qq | fail)
              refine pcond (b := false) ?_ ?_ ?_
              · refine eqB ?_
                have e1 : f (0 + (lF 0 X.1 (m : Int).toNat).toNat) = s + 1 := by rw [Nat.zero_add]; exact hfs
                have e2 : f (0 + (i : Int).toNat) = p + 1 := by rw [Nat.zero_add]; exact hfi
                have e3 : lF 0 X.1 (m : Int).toNat = lF 0 X.1 m := rfl
                rw [e1, e2, e3, decide_eq_false (by omega : ¬ lF 0 X.1 m < 0), decide_eq_false (by omega : ¬ (l.length : Int) ≤ lF 0 X.1 m), decide_eq_false (by omega : ¬ (p : Int) + 1 ≤ s + 1), show ((s : Int) + 1 == 0) = false from by simp; omega]; rfl
              · intro h3; cases h3
              · intro h3
                repeat' (first | refine yo ?_ ?_ | refine yw ?_ ?_ | refine yk ?_ ?_ | exact trivial | with_reducible refine wA ?_ ?_ | refine ys ?_ ?_ | refine xs_done ?_ | refine yl ?_ ?_ | (exact hb') | (exact hbs) | refine w8 ?_ | refine w9 ?_ | refine w1 ?_ | refine w2 ?_ | refine w3 ?_ | refine w4 ?_ | refine w5 ?_ | refine w6 ?_ | refine w7 ?_ | refine yo0 ?_ ?_ | refine yw0 ?_ ?_ | exact qq | fail)
                refine xdone ?_
                rw [hwm]
                exact kloop_next (st' := ⟨[(4, .ptr 0 0 0), (5, vi 20464), (6, sV O), (8, .lsl 1 0 l.length), (10, vi (cntB O (i + 1) : Nat)), (11, vi i), (12, sV X.1), (14, vi (max r (s + 1))), (15, vi ((m + 1 : Nat) : Int))], [rA1 n_metal l, iRow l.length f]⟩) (X.1.length - (m + 1)) (can_rowsv [0, 1] (k0_sel hk rfl) rfl (.cons rfl (RowEq.cl (rA1_cl _ _)) (.cons rfl (RowEq.cl (i_cl _ _)) .nil)) (by exact ⟨PEq.refl _, PEq.refl _, PEq.refl _, PEq.refl _, PEq.refl _, PEq.refl _, PEq.refl _, PEq.of (congrArg vi (by rw [show f (0 + (lF 0 X.1 (m : Int).toNat).toNat) = s + 1 by rw [Nat.zero_add]; exact hfs]; split <;> omega)), PEq.refl _, trivial⟩)) (by omega) ⟨m + 1, _, by omega, by omega, by omega, fun j hj => by
                  by_cases e : j = m
                  · subst e; exact ⟨s, hs2, hs1, by omega⟩
                  · obtain ⟨s', h1', h2', h3'⟩ := hrm j (by omega)
                    exact ⟨s', h1', h2', by omega⟩, rfl, rfl⟩
            · have hml : m = X.1.length := by have := of_decide_eq_false hc3; omega
              subst hml
              repeat' (first | refine yo ?_ ?_ | refine yw ?_ ?_ | refine yk ?_ ?_ | exact trivial | with_reducible refine wA ?_ ?_ | refine ys ?_ ?_ | refine xs_done ?_ | refine yl ?_ ?_ | refine w8 ?_ | refine w9 ?_ | refine w1 ?_ | refine w2 ?_ | refine w3 ?_ | refine w4 ?_ | refine w5 ?_ | refine w6 ?_ | refine w7 ?_ | refine yo0 ?_ ?_ | refine yw0 ?_ ?_ | exact qq | fail)
              refine pcan (st' := ⟨[(4, .ptr 0 0 0), (5, vi 20464), (6, sV O), (8, .lsl 1 0 l.length), (10, vi (cntB O (i + 1) : Nat)), (11, vi i), (16, vi r)], [rA1 n_metal l, iRow l.length f]⟩) (can_rowsv [0, 1] (k0_sel hk rfl) rfl (.cons rfl (RowEq.cl (rA1_cl _ _)) (.cons rfl (RowEq.cl (i_cl _ _)) .nil)) (by exact ⟨PEq.refl _, PEq.refl _, PEq.refl _, PEq.refl _, PEq.refl _, PEq.refl _, PEq.refl _, trivial⟩)) ?_
              refine ploop (fun q st => ∃ j : Int, r ≤ j ∧ j ≤ O.length ∧ q = (O.length - j).toNat ∧ st = ⟨[(4, .ptr 0 0 0), (5, vi 20464), (6, sV O), (8, .lsl 1 0 l.length), (10, vi (cntB O (i + 1) : Nat)), (11, vi i), (16, vi j)], [rA1 n_metal l, iRow l.length f]⟩) (O.length - r).toNat ⟨r, by omega, by omega, rfl, rfl⟩ ?_
              rintro _ _ ⟨j, hj0, hj1, rfl, rfl⟩
              have hi0 : 0 + (i : Int).toNat < l.length := by omega
              have e2 : f (0 + (i : Int).toNat) = p + 1 := by rw [Nat.zero_add]; exact hfi
              repeat' (first | refine yo ?_ ?_ | refine yw ?_ ?_ | refine yk ?_ ?_ | exact trivial | with_reducible refine wA ?_ ?_ | refine ys ?_ ?_ | refine xs_done ?_ | refine yl ?_ ?_ | (exact hi0) | refine w8 ?_ | refine w9 ?_ | refine w1 ?_ | refine w2 ?_ | refine w3 ?_ | refine w4 ?_ | refine w5 ?_ | refine w6 ?_ | refine w7 ?_ | refine yo0 ?_ ?_ | refine yw0 ?_ ?_ | exact qq | fail)
              refine pcond (b := decide (j < p ∧ j < O.length)) ?_ ?_ ?_
              · refine eqB ?_
                rw [e2, show IntKind.i64.wrap ((p : Int) + 1 - 1) = p from by rw [w64 (by omega) (by omega)]; omega]
                by_cases e1 : j < p <;> simp [e1]
              · intro h4
                have h4 := of_decide_eq_true h4
                obtain ⟨J, rfl⟩ := Int.eq_ofNat_of_zero_le (show 0 ≤ j by omega)
                have hle : lF 0 O J ≤ i := hfst J (by omega) fun m hm => by
                  obtain ⟨s, h5, h6, h7⟩ := hrm m hm
                  exact ⟨s, by omega, h5⟩
                have hwJ : IntKind.i64.wrap ((J : Int) + 1) = ((J + 1 : Nat) : Int) := w64 (by omega) (by omega)
                repeat' (first | refine yo ?_ ?_ | refine yw ?_ ?_ | refine yk ?_ ?_ | exact trivial | with_reducible refine wA ?_ ?_ | refine ys ?_ ?_ | refine xs_done ?_ | refine yl ?_ ?_ | (exact ⟨by omega, by omega⟩) | refine w8 ?_ | refine w9 ?_ | refine w1 ?_ | refine w2 ?_ | refine w3 ?_ | refine w4 ?_ | refine w5 ?_ | refine w6 ?_ | refine w7 ?_ | refine yo0 ?_ ?_ | refine yw0 ?_ ?_ | exact qq | fail)
                refine pcond (b := false) ?_ ?_ ?_
                · refine eqB ?_
                  exact decide_eq_false (by show ¬ (i : Int) < lF 0 O J; omega)
                · intro h5; cases h5
                · intro h5
                  repeat' (first | refine yo ?_ ?_ | refine yw ?_ ?_ | refine yk ?_ ?_ | exact trivial | with_reducible refine wA ?_ ?_ | refine ys ?_ ?_ | refine xs_done ?_ | refine yl ?_ ?_ | refine w8 ?_ | refine w9 ?_ | refine w1 ?_ | refine w2 ?_ | refine w3 ?_ | refine w4 ?_ | refine w5 ?_ | refine w6 ?_ | refine w7 ?_ | refine yo0 ?_ ?_ | refine yw0 ?_ ?_ | exact qq | fail)
                  refine xdone ?_
                  rw [hwJ]
                  exact kloop_next (st' := ⟨[(4, .ptr 0 0 0), (5, vi 20464), (6, sV O), (8, .lsl 1 0 l.length), (10, vi (cntB O (i + 1) : Nat)), (11, vi i), (16, vi ((J + 1 : Nat) : Int))], [rA1 n_metal l, iRow l.length f]⟩) (O.length - ((J + 1 : Nat) : Int)).toNat (can_rowsv [0, 1] (k0_sel hk rfl) rfl (.cons rfl (RowEq.cl (rA1_cl _ _)) (.cons rfl (RowEq.cl (i_cl _ _)) .nil)) (by exact ⟨PEq.refl _, PEq.refl _, PEq.refl _, PEq.refl _, PEq.refl _, PEq.refl _, PEq.refl _, trivial⟩)) (by omega) ⟨((J + 1 : Nat) : Int), by omega, by omega, rfl, rfl⟩
              · intro h4
                have h4 := of_decide_eq_false h4
                repeat' (first | refine yo ?_ ?_ | refine yw ?_ ?_ | refine yk ?_ ?_ | exact trivial | with_reducible refine wA ?_ ?_ | refine ys ?_ ?_ | refine xs_done ?_ | refine yl ?_ ?_ | refine w8 ?_ | refine w9 ?_ | refine w1 ?_ | refine w2 ?_ | refine w3 ?_ | refine w4 ?_ | refine w5 ?_ | refine w6 ?_ | refine w7 ?_ | refine yo0 ?_ ?_ | refine yw0 ?_ ?_ | exact qq | fail)
                refine xdone ?_
                rw [hw1]
                exact kloop_next (st' := ⟨[(4, .ptr 0 0 0), (5, vi 20464), (6, sV O), (8, .lsl 1 0 l.length), (10, vi (cntB O (i + 1) : Nat)), (11, vi ((i + 1 : Nat) : Int))], [rA1 n_metal l, iRow l.length f]⟩) (l.length - (i + 1)) (can_rowsv [0, 1] (k0_sel hk rfl) rfl (.cons rfl (RowEq.cl (rA1_cl _ _)) (.cons rfl (RowEq.cl (i_cl _ _)) .nil)) (by exact ⟨PEq.refl _, PEq.refl _, PEq.refl _, PEq.refl _, PEq.refl _, PEq.refl _, trivial⟩)) (by omega) ⟨i + 1, by omega, rfl, rfl⟩
      · have hfi : f i = 0 := (hf i).2 hno
        refine pcond (b := false) ?_ ?_ ?_
        · refine eqB ?_
          rw [hz3, hfi, show (X.2 == 0) = false from by simpa using h0]; rfl
        · intro h3; cases h3
        · intro h3
          repeat' (first | refine yo ?_ ?_ | refine yw ?_ ?_ | refine yk ?_ ?_ | exact trivial | with_reducible refine wA ?_ ?_ | refine ys ?_ ?_ | refine xs_done ?_ | refine yl ?_ ?_ | refine w8 ?_ | refine w9 ?_ | refine w1 ?_ | refine w2 ?_ | refine w3 ?_ | refine w4 ?_ | refine w5 ?_ | refine w6 ?_ | refine w7 ?_ | refine yo0 ?_ ?_ | refine yw0 ?_ ?_ | exact qq | fail)
          refine pcond (b := true) ?_ ?_ ?_
          · refine eqB ?_
            simpa using h0
          · intro h3
            have hcn := cnt_no hno
            repeat' (first | refine yo ?_ ?_ | refine yw ?_ ?_ | refine yk ?_ ?_ | exact trivial | with_reducible refine wA ?_ ?_ | refine ys ?_ ?_ | refine xs_done ?_ | refine yl ?_ ?_ | refine w8 ?_ | refine w9 ?_ | refine w1 ?_ | refine w2 ?_ | refine w3 ?_ | refine w4 ?_ | refine w5 ?_ | refine w6 ?_ | refine w7 ?_ | refine yo0 ?_ ?_ | refine yw0 ?_ ?_ | exact qq | fail)
            refine xdone ?_
            rw [hw1]
            exact kloop_next (st' := ⟨[(4, .ptr 0 0 0), (5, vi 20464), (6, sV O), (8, .lsl 1 0 l.length), (10, vi (cntB O (i + 1) : Nat)), (11, vi ((i + 1 : Nat) : Int))], [rA1 n_metal l, iRow l.length f]⟩) (l.length - (i + 1)) (can_rowsv [0, 1] (k0_sel hk rfl) rfl (.cons rfl (RowEq.cl (rA1_cl _ _)) (.cons rfl (RowEq.cl (i_cl _ _)) .nil)) (by exact ⟨PEq.refl _, PEq.refl _, PEq.refl _, PEq.refl _, PEq.of (congrArg vi (by rw [hcn])), PEq.refl _, trivial⟩)) (by omega) ⟨i + 1, by omega, rfl, rfl⟩
          · intro h3; cases h3
    · have hil : i = l.length := by have := of_decide_eq_false hc2; omega
      subst hil
      have hca := cnt_all hs
      rw [hca]
      repeat' (first | refine yo ?_ ?_ | refine yw ?_ ?_ | refine yk ?_ ?_ | exact trivial | with_reducible refine wA ?_ ?_ | refine ys ?_ ?_ | refine xs_done ?_ | refine yl ?_ ?_ | refine w8 ?_ | refine w9 ?_ | refine w1 ?_ | refine w2 ?_ | refine w3 ?_ | refine w4 ?_ | refine w5 ?_ | refine w6 ?_ | refine w7 ?_ | refine yo0 ?_ ?_ | refine yw0 ?_ ?_ | exact qq | fail)
      rw [show ((O.length : Int) == (O.length : Int)) = true from beq_self_eq_true _]
      refine pop_unguard rfl rfl ?_
      repeat' (first | refine yo ?_ ?_ | refine yw ?_ ?_ | refine yk ?_ ?_ | exact trivial | with_reducible refine wA ?_ ?_ | refine ys ?_ ?_ | refine xs_done ?_ | refine yl ?_ ?_ | refine z1 sane21_c ?_ | refine z2 sane21_c ?_ | refine z3 sane21_c ?_ | refine z4 sane21_c ?_ | refine z5 sane21_c ?_ | refine w8 ?_ | refine w9 ?_ | refine w1 ?_ | refine w2 ?_ | refine w3 ?_ | refine w4 ?_ | refine w5 ?_ | refine w6 ?_ | refine w7 ?_ | refine yo0 ?_ ?_ | refine yw0 ?_ ?_ | exact qq | fail)
      refine xdone ?_
      exact kretv rfl ⟨trivial, trivial⟩ rfl rfl
theorem depSorted_walk (v : Value) (l : List Int) (w : World) (h : IntsAt w v l) : Calls G.P 3 #[v] w fun e w' => e = .returned (.bool true) ∧ Ext w w' := by
  have hl : l.length ≤ 9223372036854775807 := by obtain ⟨_, _, _, _, h, _⟩ := h; exact h
  exact law_of (vs := [v]) (sorted21_c l.length _ hl) ⟨h.rel _, trivial⟩
end Go.Proofs.Ytcefhgomkehokaa
