/- payrolllaw22: ValueEvals. -/
import Derived.Test.YtdifpajpheemaaaGreatDoorA12
import Derived.Test.YtdifpajpheemaaaGreatDoorA18
import Derived.Test.YtdifpajpheemaaaGreatDoorA19
import Derived.Test.YtdifpajpheemaaaGreatDoorA20
set_option linter.unusedSimpArgs false
set_option linter.unusedVariables false
set_option maxRecDepth 100000
namespace Go.Proofs.YtdifpajpheemaaaGreatDoor
theorem value22_c (N : List In) (S : List Df) (P : List Pa) (hB : BdV N S P) : ∀ (n : Nat) (e : Ex), Bd e → validS n e = true → ValC N S P n e
  | 0, e, hb, hv => by cases hv
  | n + 1, .nil, hb, hv => absurd (validS_nk hv) (by decide)
  | n + 1, .mk op vn vd um uh ud nm cnt mode nk kf, hb, hv => by
    have hnk : (nk : Int) = kidsN op := validS_nk hv
    have hfl := validS_f hv
    have hbv : -9223372036854775808 ≤ vn ∧ vn ≤ 9223372036854775807 := hb.v
    have hks : ∀ i, i < nk → validS n (kf i) = true := fun i hi => validS_k hv hi
    have ih : ∀ i, i < nk → ValC N S P n (kf i) := fun i hi => value22_c N S P hB n (kf i) (hb.k hi) (hks i hi)
    have iho : ∀ i, i < nk → OkE (evS N S P n (kf i)) := fun i hi => evS_ok N S P n (kf i) (hks i hi)
    have hop : 1 ≤ op ∧ op ≤ 21 := by
      by_cases h : 1 ≤ op ∧ op ≤ 21
      · exact h
      · exfalso
        unfold kidsN at hnk
        rw [if_neg (by omega), if_neg (by omega), if_neg (by omega), if_neg (by omega)] at hnk
        omega
    by_cases h2 : 5 ≤ op ∧ op ≤ 11 ∨ op = 14 ∨ op = 15
    · obtain rfl : nk = 2 := by
        unfold kidsN at hnk
        rw [if_neg (by omega), if_neg (by omega), if_pos (by omega)] at hnk
        omega
      exact val_two N S P hB n op vn vd um uh ud nm cnt mode kf h2 iho ih
    by_cases h0 : op = 3 ∨ op = 20 ∨ op = 21
    · obtain rfl : nk = 0 := by
        unfold kidsN at hnk
        rw [if_pos (by omega)] at hnk
        omega
      exact val_0 N S P hB n op vn vd um uh ud nm cnt mode kf h0
    rcases (by omega : op = 1 ∨ op = 2 ∨ op = 4 ∨ op = 12 ∨ op = 13 ∨ op = 16 ∨ op = 17 ∨ op = 18 ∨ op = 19) with rfl | rfl | rfl | rfl | rfl | rfl | rfl | rfl | rfl
    · obtain rfl : nk = 0 := by have : (nk : Int) = 0 := hnk; omega
      exact val_1 N S P hB n vn vd um uh ud nm cnt mode kf
    · obtain rfl : nk = 0 := by have : (nk : Int) = 0 := hnk; omega
      refine val_2 N S P hB n vn vd um uh ud nm cnt mode kf ?_
      unfold fieldS at hfl
      simp only [Bool.and_eq_true] at hfl
      have := hfl.2.2.2.1
      rw [if_pos (show (Ex.mk 2 vn vd um uh ud nm cnt mode 0 kf).op = 2 from rfl)] at this
      have := of_decide_eq_true this
      exact this
    · obtain rfl : nk = 1 := by have : (nk : Int) = 1 := hnk; omega
      exact val_one N S P hB n 4 vn vd um uh ud nm cnt mode kf (by omega) hbv (iho 0 (by omega)) (ih 0 (by omega))
    · obtain rfl : nk = 2 := by have : (nk : Int) = 2 := hnk; omega
      exact val_12 N S P hB n vn vd um uh ud nm cnt mode kf (iho 0 (by omega)) ih
    · obtain rfl : nk = 2 := by have : (nk : Int) = 2 := hnk; omega
      exact val_13 N S P hB n vn vd um uh ud nm cnt mode kf (iho 0 (by omega)) ih
    · obtain rfl : nk = 1 := by have : (nk : Int) = 1 := hnk; omega
      exact val_one N S P hB n 16 vn vd um uh ud nm cnt mode kf (by omega) hbv (iho 0 (by omega)) (ih 0 (by omega))
    · obtain rfl : nk = 1 := by have : (nk : Int) = 1 := hnk; omega
      exact val_one N S P hB n 17 vn vd um uh ud nm cnt mode kf (by omega) hbv (iho 0 (by omega)) (ih 0 (by omega))
    · obtain rfl : nk = 3 := by have : (nk : Int) = 3 := hnk; omega
      exact val_18 N S P hB n vn vd um uh ud nm cnt mode kf (iho 0 (by omega)) ih
    · obtain rfl : nk = 1 := by have : (nk : Int) = 1 := hnk; omega
      exact val_one N S P hB n 19 vn vd um uh ud nm cnt mode kf (by omega) hbv (iho 0 (by omega)) (ih 0 (by omega))
set_option maxHeartbeats 4000000 in
theorem refEval_c (N : List In) (S : List Df) (P : List Pa) (hB : BdV N S P) (e : Ex) (hb : Bd e) (hw : e.w ≤ 10000) : PureC G.P 10 [vX e, vIns N, vDs S, vPas P] (fun r => r = vRE (evalS N S P e)) := by
  have c1 := validExpr18_c e hb
  cases hv : validS 32 e with
  | false =>
    rw [hv] at c1
    refine pure_of (G := G.toPg) (fn := Tryz.f10) Tryz.func10 rfl rfl rfl ?_; intro Γ hk
    repeat' (first | refine yo ?_ ?_ | refine yw ?_ ?_ | refine yk ?_ ?_ | exact trivial | with_reducible refine wA ?_ ?_ | refine ys ?_ ?_ | refine xs_done ?_ | refine yl ?_ ?_ | refine z1 c1 ?_ | refine z2 c1 ?_ | refine z3 c1 ?_ | refine z4 c1 ?_ | refine z5 c1 ?_ | refine w8 ?_ | refine w9 ?_ | refine w1 ?_ | refine w2 ?_ | refine w3 ?_ | refine w4 ?_ | refine w5 ?_ | refine w6 ?_ | refine w7 ?_ | refine yo0 ?_ ?_ | refine yw0 ?_ ?_ | exact qq | fail)
    refine kretv rfl ⟨Nat.zero_lt_one, trivial, trivial⟩ rfl ?_
    unfold evalS; rw [if_neg (by rw [hv]; decide)]; rfl
  | true =>
    rw [hv] at c1
    have c2 := value22_c N S P hB 32 e hb hv 0 (fun _ => ⟨0, ⟨#[]⟩, 0, (0, 0), (0, 0)⟩) (by omega)
    refine pure_of (G := G.toPg) (fn := Tryz.f10) Tryz.func10 rfl rfl rfl ?_; intro Γ hk
    repeat' (first | refine yo ?_ ?_ | refine yw ?_ ?_ | refine yk ?_ ?_ | exact trivial | with_reducible refine wA ?_ ?_ | refine ys ?_ ?_ | refine xs_done ?_ | refine yl ?_ ?_ | refine z1 c1 ?_ | refine z2 c1 ?_ | refine z3 c1 ?_ | refine z4 c1 ?_ | refine z5 c1 ?_ | refine w8 ?_ | refine w9 ?_ | refine w1 ?_ | refine w2 ?_ | refine w3 ?_ | refine w4 ?_ | refine w5 ?_ | refine w6 ?_ | refine w7 ?_ | refine yo0 ?_ ?_ | refine yw0 ?_ ?_ | exact qq | fail)
    refine pop_callc [] rfl rfl rfl rfl rfl rfl (fun _ h => by cases h) c2 ⟨argCl (clB_spec _ rfl), argCl (fun i _ => clL_nth _ i (cX_cl e)), argNil, trivial⟩ ?_
    rintro _ ⟨k1, U1, hk1, rfl⟩
    repeat' (first | refine yo ?_ ?_ | refine yw ?_ ?_ | refine yk ?_ ?_ | exact trivial | with_reducible refine wA ?_ ?_ | refine ys ?_ ?_ | refine xs_done ?_ | refine yl ?_ ?_ | refine w8 ?_ | refine w9 ?_ | refine w1 ?_ | refine w2 ?_ | refine w3 ?_ | refine w4 ?_ | refine w5 ?_ | refine w6 ?_ | refine w7 ?_ | refine yo0 ?_ ?_ | refine yw0 ?_ ?_ | exact qq | fail)
    refine kretv rfl ⟨Nat.zero_lt_one, trivial, trivial⟩ rfl ?_
    unfold evalS; rw [if_pos hv]; rfl
set_option maxHeartbeats 8000000 in
theorem evals_c (n : Nat) (g : Nat → Int) (hn : n ≤ 9223372036854775807) : PureC G.P 3 [.vsl n 1 (tI g)] (fun r => r = vb true) := by
  have cs := sane22_c
  refine pure_of (G := G.toPg) (fn := Tryz.f3) Tryz.func3 rfl rfl rfl ?_; intro Γ hk
  repeat' (first | refine yo ?_ ?_ | refine yw ?_ ?_ | refine yk ?_ ?_ | exact trivial | with_reducible refine wA ?_ ?_ | refine ys ?_ ?_ | refine xs_done ?_ | refine yl ?_ ?_ | refine w8 ?_ | refine w9 ?_ | refine w1 ?_ | refine w2 ?_ | refine w3 ?_ | refine w4 ?_ | refine w5 ?_ | refine w6 ?_ | refine w7 ?_ | refine yo0 ?_ ?_ | refine yw0 ?_ ?_ | exact qq | fail)
  refine pop_rowsc [] rfl rfl rfl rfl rfl rfl .nil (new_c n g) (by exact ⟨PEq.refl _, trivial⟩) ?_
  rintro r rows ⟨rfl, rfl⟩
  refine ⟨_, _, rfl, ⟨tape_cl _ _ _, trivial⟩, rfl, ?_⟩
  have b1 : (0 : Int) ≤ 0 := Int.le_refl 0
  have b2 : (0 : Int) ≤ n := by omega
  repeat' (first | refine yo ?_ ?_ | refine yw ?_ ?_ | refine yk ?_ ?_ | exact trivial | with_reducible refine wA ?_ ?_ | refine ys ?_ ?_ | refine xs_done ?_ | refine yl ?_ ?_ | (refine t1 env_t hn ?_; rintro at_ _ b1 b2 ⟨N, S, P, rfl, hE⟩) | (refine t2 env_t hn ?_; rintro at_ _ b1 b2 ⟨N, S, P, rfl, hE⟩) | (refine t3 env_t hn ?_; rintro at_ _ b1 b2 ⟨N, S, P, rfl, hE⟩) | refine w8 ?_ | refine w9 ?_ | refine w1 ?_ | refine w2 ?_ | refine w3 ?_ | refine w4 ?_ | refine w5 ?_ | refine w6 ?_ | refine w7 ?_ | refine yo0 ?_ ?_ | refine yw0 ?_ ?_ | exact qq | fail)
  refine pcan (st' := ⟨[(3, .ptr 0 0 0), (4, vIns N), (5, vDs S), (6, vPas P), (7, vi ((0 : Nat) : Int))], [tapeRow n g at_]⟩) (can_rowsv [0] (k0_sel hk rfl) rfl (.cons rfl (RowEq.cl (tape_cl _ _ _)) .nil) tmq) ?_
  refine ploop (fun q st => ∃ (at' : Int) (i : Nat), 0 ≤ at' ∧ at' ≤ n ∧ i ≤ 5 ∧ q = 5 - i ∧ st = ⟨[(3, .ptr 0 0 0), (4, vIns N), (5, vDs S), (6, vPas P), (7, vi i)], [tapeRow n g at']⟩) 5 ⟨at_, 0, b1, b2, by omega, rfl, rfl⟩ ?_
  clear b1 b2
  rintro _ _ ⟨at', i, b1, b2, hi, rfl, rfl⟩
  repeat' (first | refine yo ?_ ?_ | refine yw ?_ ?_ | refine yk ?_ ?_ | exact trivial | with_reducible refine wA ?_ ?_ | refine ys ?_ ?_ | refine xs_done ?_ | refine yl ?_ ?_ | refine w8 ?_ | refine w9 ?_ | refine w1 ?_ | refine w2 ?_ | refine w3 ?_ | refine w4 ?_ | refine w5 ?_ | refine w6 ?_ | refine w7 ?_ | refine yo0 ?_ ?_ | refine yw0 ?_ ?_ | exact qq | fail)
  refine pcond rfl ?_ ?_ <;> intro hc
  · have hc : i < 5 := by have := of_decide_eq_true hc; omega
    repeat' (first | refine yo ?_ ?_ | refine yw ?_ ?_ | refine yk ?_ ?_ | exact trivial | with_reducible refine wA ?_ ?_ | refine ys ?_ ?_ | refine xs_done ?_ | refine yl ?_ ?_ | (refine t1 type_t hn ?_; rintro at_ _ b1 b2 ⟨t, rfl, ht⟩) | (refine t2 type_t hn ?_; rintro at_ _ b1 b2 ⟨t, rfl, ht⟩) | (refine t3 type_t hn ?_; rintro at_ _ b1 b2 ⟨t, rfl, ht⟩) | refine w8 ?_ | refine w9 ?_ | refine w1 ?_ | refine w2 ?_ | refine w3 ?_ | refine w4 ?_ | refine w5 ?_ | refine w6 ?_ | refine w7 ?_ | refine yo0 ?_ ?_ | refine yw0 ?_ ?_ | exact qq | fail)
    have ht5 : t ∈ tys5 := by rcases ht with rfl | rfl | rfl | rfl | rfl <;> simp [tys5]
    clear ht
    repeat' (first | refine yo ?_ ?_ | refine yw ?_ ?_ | refine yk ?_ ?_ | exact trivial | with_reducible refine wA ?_ ?_ | refine ys ?_ ?_ | refine xs_done ?_ | refine yl ?_ ?_ | (refine t1 ((expr_t 4 (by omega) t ht5 5)) hn ?_; rintro at_ _ b1 b2 ⟨e, rfl, he⟩) | (refine t2 ((expr_t 4 (by omega) t ht5 5)) hn ?_; rintro at_ _ b1 b2 ⟨e, rfl, he⟩) | (refine t3 ((expr_t 4 (by omega) t ht5 5)) hn ?_; rintro at_ _ b1 b2 ⟨e, rfl, he⟩) | refine w8 ?_ | refine w9 ?_ | refine w1 ?_ | refine w2 ?_ | refine w3 ?_ | refine w4 ?_ | refine w5 ?_ | refine w6 ?_ | refine w7 ?_ | refine yo0 ?_ ?_ | refine yw0 ?_ ?_ | exact qq | fail)
    have hbk := BK.of_valid 5 e (he.vl 5 (by decide)) he.bd
    have hew : e.w ≤ 121 := Nat.le_trans (w_valid 5 e (he.vl 5 (by decide))) (by decide)
    refine pcut (fun st => ∃ (at' : Int) (e : Ex), 0 ≤ at' ∧ at' ≤ n ∧ Bd e ∧ e.w ≤ 1000 ∧ st = ⟨[(3, .ptr 0 0 0), (4, vIns N), (5, vDs S), (6, vPas P), (7, vi i), (8, .ptr 1 0 0)], [tapeRow n g at', rXB e]⟩) ?_ ?_
    · refine pcond rfl ?_ ?_ <;> intro h4
      · repeat' (first | refine yo ?_ ?_ | refine yw ?_ ?_ | refine yk ?_ ?_ | exact trivial | with_reducible refine wA ?_ ?_ | refine ys ?_ ?_ | refine xs_done ?_ | refine yl ?_ ?_ | (refine t1 ((spoilW_t 3 (by omega) (by omega) e hbk)) hn ?_; rintro at_ _ b1 b2 ⟨e2, rfl, he2, hw2⟩) | (refine t2 ((spoilW_t 3 (by omega) (by omega) e hbk)) hn ?_; rintro at_ _ b1 b2 ⟨e2, rfl, he2, hw2⟩) | (refine t3 ((spoilW_t 3 (by omega) (by omega) e hbk)) hn ?_; rintro at_ _ b1 b2 ⟨e2, rfl, he2, hw2⟩) | refine w8 ?_ | refine w9 ?_ | refine w1 ?_ | refine w2 ?_ | refine w3 ?_ | refine w4 ?_ | refine w5 ?_ | refine w6 ?_ | refine w7 ?_ | refine yo0 ?_ ?_ | refine yw0 ?_ ?_ | exact qq | fail)
        refine xdone ?_
        exact kcut (st' := ⟨[(3, .ptr 0 0 0), (4, vIns N), (5, vDs S), (6, vPas P), (7, vi i), (8, .ptr 1 0 0)], [tapeRow n g at_, rXB e2]⟩) (can_rowsv [0, 1] (k0_sel hk rfl) rfl (.cons rfl (RowEq.cl (tape_cl _ _ _)) (.cons rfl (RowEq.cl (rXB_cl e2)) .nil)) tmq) ⟨_, e2, b1, b2, he2.bd, by omega, rfl⟩
      · repeat' (first | refine yo ?_ ?_ | refine yw ?_ ?_ | refine yk ?_ ?_ | exact trivial | with_reducible refine wA ?_ ?_ | refine ys ?_ ?_ | refine xs_done ?_ | refine yl ?_ ?_ | refine w8 ?_ | refine w9 ?_ | refine w1 ?_ | refine w2 ?_ | refine w3 ?_ | refine w4 ?_ | refine w5 ?_ | refine w6 ?_ | refine w7 ?_ | refine yo0 ?_ ?_ | refine yw0 ?_ ?_ | exact qq | fail)
        exact kcut (st' := ⟨[(3, .ptr 0 0 0), (4, vIns N), (5, vDs S), (6, vPas P), (7, vi i), (8, .ptr 1 0 0)], [tapeRow n g at_, rXB e]⟩) (can_rowsv [0, 1] (k0_sel hk rfl) rfl (.cons rfl (RowEq.cl (tape_cl _ _ _)) (.cons rfl (RowEq.cl (rXB_cl e)) .nil)) tmq) ⟨_, e, b1, b2, he.bd, by omega, rfl⟩
    clear b1 b2 hbk hew he
    rintro _ ⟨at', e, b1, b2, hb, hw, rfl⟩
    have eC := valEval_c N S P hE.bd e hb
    have rC := refEval_c N S P hE.bd e hb (by omega)
    generalize evalS N S P e = R at *
    repeat' (first | refine yo ?_ ?_ | refine yw ?_ ?_ | refine yk ?_ ?_ | exact trivial | with_reducible refine wA ?_ ?_ | refine ys ?_ ?_ | refine xs_done ?_ | refine yl ?_ ?_ | refine z1 eC ?_ | refine z2 eC ?_ | refine z3 eC ?_ | refine z4 eC ?_ | refine z5 eC ?_ | refine z1 rC ?_ | refine z2 rC ?_ | refine z3 rC ?_ | refine z4 rC ?_ | refine z5 rC ?_ | refine w8 ?_ | refine w9 ?_ | refine w1 ?_ | refine w2 ?_ | refine w3 ?_ | refine w4 ?_ | refine w5 ?_ | refine w6 ?_ | refine w7 ?_ | refine yo0 ?_ ?_ | refine yw0 ?_ ?_ | exact qq | fail)
    refine pcond (b := false) (eqB (by simp)) ?_ ?_ <;> intro h
    · cases h
    · repeat' (first | refine yo ?_ ?_ | refine yw ?_ ?_ | refine yk ?_ ?_ | exact trivial | with_reducible refine wA ?_ ?_ | refine ys ?_ ?_ | refine xs_done ?_ | refine yl ?_ ?_ | refine w8 ?_ | refine w9 ?_ | refine w1 ?_ | refine w2 ?_ | refine w3 ?_ | refine w4 ?_ | refine w5 ?_ | refine w6 ?_ | refine w7 ?_ | refine yo0 ?_ ?_ | refine yw0 ?_ ?_ | exact qq | fail)
      rw [show IntKind.i64.wrap ((i : Int) + 1) = ((i + 1 : Nat) : Int) from w64 (by omega) (by omega)]
      exact kloop_next (st' := ⟨[(3, .ptr 0 0 0), (4, vIns N), (5, vDs S), (6, vPas P), (7, vi ((i + 1 : Nat) : Int))], [tapeRow n g at']⟩) (5 - (i + 1)) (can_rowsv [0] (k0_sel hk rfl) rfl (.cons rfl (RowEq.cl (tape_cl _ _ _)) .nil) tmq) (by omega) ⟨at', i + 1, b1, b2, by omega, rfl, rfl⟩
  · repeat' (first | refine yo ?_ ?_ | refine yw ?_ ?_ | refine yk ?_ ?_ | exact trivial | with_reducible refine wA ?_ ?_ | refine ys ?_ ?_ | refine xs_done ?_ | refine yl ?_ ?_ | refine z1 cs ?_ | refine z2 cs ?_ | refine z3 cs ?_ | refine z4 cs ?_ | refine z5 cs ?_ | refine w8 ?_ | refine w9 ?_ | refine w1 ?_ | refine w2 ?_ | refine w3 ?_ | refine w4 ?_ | refine w5 ?_ | refine w6 ?_ | refine w7 ?_ | refine yo0 ?_ ?_ | refine yw0 ?_ ?_ | exact qq | fail)
    exact kretv rfl ⟨trivial, trivial⟩ rfl rfl
theorem evals_walk (v : Value) (l : List Int) (w : World) (h : IntsAt w v l) (hG : GOk (fun b => b < w.heap.size) w) : Calls G.P 3 #[v] w fun e w' => e = .returned (.bool true) ∧ Ext w w' := by
  have hl : l.length ≤ 9223372036854775807 := by obtain ⟨_, _, _, _, h, _⟩ := h; exact h
  exact law_of (vs := [v]) (evals_c l.length _ hl) ⟨h.rel _, trivial⟩ hG
end Go.Proofs.YtdifpajpheemaaaGreatDoor
