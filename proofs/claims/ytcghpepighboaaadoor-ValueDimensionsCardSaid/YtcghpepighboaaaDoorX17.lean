/- payrollgen: expressions of any height up to 5. -/
import Derived.Test.YtcghpepighboaaaDoorX12
import Derived.Test.YtcghpepighboaaaDoorX13
import Derived.Test.YtcghpepighboaaaDoorX14
import Derived.Test.YtcghpepighboaaaDoorX15
import Derived.Test.YtcghpepighboaaaDoorX16
set_option linter.unusedSimpArgs false
set_option linter.unusedVariables false
set_option maxRecDepth 100000
namespace Go.Proofs.YtcghpepighboaaaDoor
set_option maxHeartbeats 4000000 in
theorem expr_one_t : XT 1 := by
  intro t ht rules
  simp only [tys5, List.mem_cons, List.not_mem_nil, or_false] at ht
  have l1 := leaf_number_t rules
  have l2 := leaf_money_t rules
  have l3 := leaf_hours_t rules
  have l4 := leaf_rate_t rules
  have l5 := leaf_truth_t rules
  intro n g at_ hn h1 h2
  rcases ht with rfl | rfl | rfl | rfl | rfl
  all_goals
    refine ptr_of (G := G.toPg) (fn := Tryd.f22) Tryd.func22 rfl rfl rfl ?_; intro Γ hk
    repeat' (first | refine yo ?_ ?_ | refine yw ?_ ?_ | refine yk ?_ ?_ | exact trivial | with_reducible refine wA ?_ ?_ | refine ys ?_ ?_ | refine xs_done ?_ | refine yl ?_ ?_ | refine w8 ?_ | refine w9 ?_ | refine w1 ?_ | refine w2 ?_ | refine w3 ?_ | refine w4 ?_ | refine w5 ?_ | refine w6 ?_ | refine w7 ?_ | refine yo0 ?_ ?_ | refine yw0 ?_ ?_ | exact qq | fail)
    rw [show decide (((1 : Nat) : Int) ≤ 1) = true from rfl]
    repeat' (first | refine yo ?_ ?_ | refine yw ?_ ?_ | refine yk ?_ ?_ | exact trivial | with_reducible refine wA ?_ ?_ | refine ys ?_ ?_ | refine xs_done ?_ | refine yl ?_ ?_ | (refine pop_gfalse rfl rfl rfl rfl ?_) | (refine t1 l1 hn ?_; rintro at_ _ b1 b2 ⟨e, rfl, he⟩) | (refine t2 l1 hn ?_; rintro at_ _ b1 b2 ⟨e, rfl, he⟩) | (refine t3 l1 hn ?_; rintro at_ _ b1 b2 ⟨e, rfl, he⟩) | (refine t1 l2 hn ?_; rintro at_ _ b1 b2 ⟨e, rfl, he⟩) | (refine t2 l2 hn ?_; rintro at_ _ b1 b2 ⟨e, rfl, he⟩) | (refine t3 l2 hn ?_; rintro at_ _ b1 b2 ⟨e, rfl, he⟩) | (refine t1 l3 hn ?_; rintro at_ _ b1 b2 ⟨e, rfl, he⟩) | (refine t2 l3 hn ?_; rintro at_ _ b1 b2 ⟨e, rfl, he⟩) | (refine t3 l3 hn ?_; rintro at_ _ b1 b2 ⟨e, rfl, he⟩) | (refine t1 l4 hn ?_; rintro at_ _ b1 b2 ⟨e, rfl, he⟩) | (refine t2 l4 hn ?_; rintro at_ _ b1 b2 ⟨e, rfl, he⟩) | (refine t3 l4 hn ?_; rintro at_ _ b1 b2 ⟨e, rfl, he⟩) | (refine t1 l5 hn ?_; rintro at_ _ b1 b2 ⟨e, rfl, he⟩) | (refine t2 l5 hn ?_; rintro at_ _ b1 b2 ⟨e, rfl, he⟩) | (refine t3 l5 hn ?_; rintro at_ _ b1 b2 ⟨e, rfl, he⟩) | refine w8 ?_ | refine w9 ?_ | refine w1 ?_ | refine w2 ?_ | refine w3 ?_ | refine w4 ?_ | refine w5 ?_ | refine w6 ?_ | refine w7 ?_ | refine yo0 ?_ ?_ | refine yw0 ?_ ?_ | exact qq | fail)
    refine xdone ?_
    exact ktap rfl b1 b2 rfl ⟨Nat.zero_lt_one, trivial⟩ rfl ⟨e, rfl, he⟩
theorem expr_up (k : Nat) (hk5 : k ≤ 100) (ih : XT (k + 1)) : XT (k + 2) := by
  intro t ht rules
  simp only [tys5, List.mem_cons, List.not_mem_nil, or_false] at ht
  rcases ht with rfl | rfl | rfl | rfl | rfl
  · exact expr_number_t k hk5 ih rules
  · exact expr_money_t k hk5 ih rules
  · exact expr_hours_t k hk5 ih rules
  · exact expr_rate_t k hk5 ih rules
  · exact expr_truth_t k hk5 ih rules
theorem expr_t : ∀ k, k ≤ 5 → XT (k + 1)
  | 0, _ => expr_one_t
  | k + 1, hk => expr_up k (by omega) (expr_t k (by omega))
end Go.Proofs.YtcghpepighboaaaDoor
