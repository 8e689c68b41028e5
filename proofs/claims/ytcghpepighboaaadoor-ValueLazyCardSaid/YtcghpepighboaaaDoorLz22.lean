/- payrolllaw22: ValueLazy. -/
import Derived.Test.YtcghpepighboaaaDoorEnv22
import Derived.Test.YtcghpepighboaaaDoorTy22
import Derived.Test.YtcghpepighboaaaDoorV22
import Derived.Test.YtcghpepighboaaaDoorVe0
import Derived.Test.YtcghpepighboaaaDoorPvF
import Derived.Test.YtcghpepighboaaaDoorBridge
import Derived.Test.YtcghpepighboaaaDoorGlo
set_option linter.unusedSimpArgs false
set_option linter.unusedVariables false
set_option maxRecDepth 100000
namespace Go.Proofs.YtcghpepighboaaaDoor
theorem ocanV {G : Pg} {N : Nat} {Γ : Fr} {st st' : PSt} {K : Exit → PSt → Prop} {ops : Array Oper} {l : List Oper} (hc : Can N Γ st st') (h : POps G N Γ ops l st' K) : POps G N Γ ops l st K := .mk fun ρ I a w hr => by
  obtain ⟨ρ', I', h1⟩ := hc ρ I a w hr
  exact h.go ρ' I' a w h1
theorem valid_op {n : Nat} {op : Int} {nk : Nat} {kf : Nat → Ex} (hop : 5 ≤ op ∧ op ≤ 18) (hk : (nk : Int) = kidsN op) (h : ∀ i, i < nk → validS n (kf i) = true) : validS (n + 1) (eOp op nk kf) = true := by
  have e1 : ¬ op = 1 := by omega
  have e2 : ¬ op = 2 := by omega
  have e3 : ¬ op = 3 := by omega
  have e4 : ¬ op = 4 := by omega
  have e5 : ¬ op = 19 := by omega
  have e6 : ¬ op = 20 := by omega
  have e7 : ¬ op = 21 := by omega
  have hd : decide (((nk : Nat) : Int) = kidsN op) = true := decide_eq_true hk
  have hf : fieldS (eOp op nk kf) = true := by simp [fieldS, Ex.op, Ex.vn, Ex.vd, Ex.um, Ex.uh, Ex.ud, Ex.nm, Ex.cnt, Ex.mode, e1, e2, e3, e4, e5, e6, e7]
  show (decide (((nk : Nat) : Int) = kidsN op) && (fieldS _ && allK nk (fun i => validS n (kf i)))) = true
  rw [hd, hf, allK_iff.2 h]; rfl
theorem bd_op {op : Int} {nk : Nat} {kf : Nat → Ex} (h : ∀ i, i < nk → Bd (kf i)) : Bd (eOp op nk kf) := .mk ⟨by decide, by decide, by decide⟩ h
theorem ev_ifS (N : List In) (S : List Df) (P : List Pa) (n : Nat) (c a b : Ex) : evS N S P (n + 1) (eOp 18 3 (k3 c a b)) = if (evS N S P n c).2 ≠ 0 then ((0, 0), (evS N S P n c).2) else if (evS N S P n c).1.1 ≠ 0 then evS N S P n a else evS N S P n b := by rw [evS_B]; rfl
theorem ev_and (N : List In) (S : List Df) (P : List Pa) (n : Nat) (c a : Ex) : evS N S P (n + 1) (eOp 12 2 (k2 c a)) = if (evS N S P n c).2 ≠ 0 then ((0, 0), (evS N S P n c).2) else if (evS N S P n c).1.1 = 0 then ((0, 1), 0) else evS N S P n a := by rw [evS_B]; rfl
theorem ev_or (N : List In) (S : List Df) (P : List Pa) (n : Nat) (c a : Ex) : evS N S P (n + 1) (eOp 13 2 (k2 c a)) = if (evS N S P n c).2 ≠ 0 then ((0, 0), (evS N S P n c).2) else if (evS N S P n c).1.1 ≠ 0 then ((1, 1), 0) else evS N S P n a := by rw [evS_B]; rfl
theorem ev_bad (N : List In) (S : List Df) (P : List Pa) (n : Nat) : evS N S P (n + 2) bdE = ((0, 0), 5) := by
  rw [evS_B]
  have h0 : (fun i => evS N S P (n + 1) (bdE.kf i)) 0 = ((1, 1), 0) := rfl
  have h1 : (fun i => evS N S P (n + 1) (bdE.kf i)) 1 = ((0, 1), 0) := rfl
  generalize (fun i => evS N S P (n + 1) (bdE.kf i)) = V at *
  unfold evB
  simp only [h0, h1, show bdE.op = 8 from rfl, Int.reduceEq, reduceIte, ne_eq, not_true_eq_false, combS, or_false]
  rfl
theorem argK2n {mem : List Row} {L : List Nat} {l : Nat} {a b : Ex} {p q : List PV} {op vn vd um uh ud : Int} {nm : ByteArray} {cnt mode : Int} (hr : rowAt mem l = some ⟨.own, false, 2, 10, fun x y => nthP (p ++ q) (x * 10 + y)⟩) (hp : p.length = 10) (hL : l ∈ L)
    (h0 : ∀ y, y < 10 → ArgOk mem L (nthP p y) (nthP (cX a) y)) (h1 : ∀ y, y < 10 → ArgOk mem L (nthP q y) (nthP (cX b) y)) : ArgOk mem L (.lsl l 0 2) (.vsl 2 10 (Ex.mk op vn vd um uh ud nm cnt mode 2 (k2 a b)).kc) :=
  argLsl' (r := ⟨.own, false, 2, 10, _⟩) hr trivial hL (by simp) fun x hx y hy => by
    have hy : y < 10 := hy
    show ArgOk mem L (nthP (p ++ q) ((0 + x) * 10 + y)) (nthP (cX (k2 a b x)) y)
    have app : ∀ (u v : List PV) (z : Nat), u.length = 10 → (z < 10 → nthP (u ++ v) z = nthP u z) ∧ nthP (u ++ v) (10 + z) = nthP v z := by
      intro u v z hu
      match u, hu with
      | [u0, u1, u2, u3, u4, u5, u6, u7, u8, u9], _ =>
        refine ⟨fun hz => ?_, ?_⟩
        · rcases c10 hz with rfl | rfl | rfl | rfl | rfl | rfl | rfl | rfl | rfl | rfl <;> rfl
        · rw [Nat.add_comm]; rfl
    rcases (by omega : x = 0 ∨ x = 1) with rfl | rfl
    · rw [show (0 + 0) * 10 + y = y by omega, (app p _ y hp).1 hy]; exact h0 y hy
    · rw [show (0 + 1) * 10 + y = 10 + y by omega, (app p _ y hp).2]; exact h1 y hy
abbrev rXE (e : Ex) : Row := ⟨.own, true, 1, 10, fun _ => nthP (cX e)⟩
theorem rXE_cl (e : Ex) : rowCl (rXE e) := fun i _ j _ => clL_nth _ j (cX_cl e)
set_option maxHeartbeats 8000000 in
theorem lazy_c (n : Nat) (g : Nat → Int) (hn : n ≤ 9223372036854775807) : PureC G.P 5 [.vsl n 1 (tI g)] (fun r => r = vb true) := by
  have cs := sane22_c
  have n1 := num22_c 1
  have n0 := num22_c 0
  refine pure_of (G := G.toPg) (fn := Tryd.f5) Tryd.func5 rfl rfl rfl ?_; intro Γ hk
  repeat' (first | refine yo ?_ ?_ | refine yw ?_ ?_ | refine yk ?_ ?_ | exact trivial | with_reducible refine wA ?_ ?_ | refine ys ?_ ?_ | refine xs_done ?_ | refine yl ?_ ?_ | refine w8 ?_ | refine w9 ?_ | refine w1 ?_ | refine w2 ?_ | refine w3 ?_ | refine w4 ?_ | refine w5 ?_ | refine w6 ?_ | refine w7 ?_ | refine yo0 ?_ ?_ | refine yw0 ?_ ?_ | exact qq | fail)
  refine pop_rowsc [] rfl rfl rfl rfl rfl rfl .nil (new_c n g) (by exact ⟨PEq.refl _, trivial⟩) ?_
  rintro r rows ⟨rfl, rfl⟩
  refine ⟨_, _, rfl, ⟨tape_cl _ _ _, trivial⟩, rfl, ?_⟩
  have b1 : (0 : Int) ≤ 0 := Int.le_refl 0
  have b2 : (0 : Int) ≤ n := by omega
  repeat' (first | refine yo ?_ ?_ | refine yw ?_ ?_ | refine yk ?_ ?_ | exact trivial | with_reducible refine wA ?_ ?_ | refine ys ?_ ?_ | refine xs_done ?_ | refine yl ?_ ?_ | (refine t1 env_t hn ?_; rintro at_ _ b1 b2 ⟨N, S, P, rfl, hE⟩) | (refine t2 env_t hn ?_; rintro at_ _ b1 b2 ⟨N, S, P, rfl, hE⟩) | (refine t3 env_t hn ?_; rintro at_ _ b1 b2 ⟨N, S, P, rfl, hE⟩) | (refine t1 ((expr_t 2 (by omega) tB (by simp [tys5]) 5)) hn ?_; rintro at_ _ b1 b2 ⟨c, rfl, hc⟩) | (refine t2 ((expr_t 2 (by omega) tB (by simp [tys5]) 5)) hn ?_; rintro at_ _ b1 b2 ⟨c, rfl, hc⟩) | (refine t3 ((expr_t 2 (by omega) tB (by simp [tys5]) 5)) hn ?_; rintro at_ _ b1 b2 ⟨c, rfl, hc⟩) | (refine t1 type_t hn ?_; rintro at_ _ b1 b2 ⟨t, rfl, ht⟩) | (refine t2 type_t hn ?_; rintro at_ _ b1 b2 ⟨t, rfl, ht⟩) | (refine t3 type_t hn ?_; rintro at_ _ b1 b2 ⟨t, rfl, ht⟩) | refine w8 ?_ | refine w9 ?_ | refine w1 ?_ | refine w2 ?_ | refine w3 ?_ | refine w4 ?_ | refine w5 ?_ | refine w6 ?_ | refine w7 ?_ | refine yo0 ?_ ?_ | refine yw0 ?_ ?_ | exact qq | fail)
  have ht5 : t ∈ tys5 := by rcases ht with rfl | rfl | rfl | rfl | rfl <;> simp [tys5]
  clear ht
  repeat' (first | refine yo ?_ ?_ | refine yw ?_ ?_ | refine yk ?_ ?_ | exact trivial | with_reducible refine wA ?_ ?_ | refine ys ?_ ?_ | refine xs_done ?_ | refine yl ?_ ?_ | (refine t1 ((expr_t 2 (by omega) t ht5 5)) hn ?_; rintro at_ _ b1 b2 ⟨x, rfl, hx⟩) | (refine t2 ((expr_t 2 (by omega) t ht5 5)) hn ?_; rintro at_ _ b1 b2 ⟨x, rfl, hx⟩) | (refine t3 ((expr_t 2 (by omega) t ht5 5)) hn ?_; rintro at_ _ b1 b2 ⟨x, rfl, hx⟩) | (refine pop_callc [] rfl rfl rfl rfl rfl rfl (fun _ h => by cases h) (n1) (args_cl _ rfl) ?_; rintro _ rfl) | (refine pop_callc [] rfl rfl rfl rfl rfl rfl (fun _ h => by cases h) (n0) (args_cl _ rfl) ?_; rintro _ rfl) | refine w8 ?_ | refine w9 ?_ | refine w1 ?_ | refine w2 ?_ | refine w3 ?_ | refine w4 ?_ | refine w5 ?_ | refine w6 ?_ | refine w7 ?_ | refine yo0 ?_ ?_ | refine yw0 ?_ ?_ | exact qq | fail)
  show POps _ _ _ _ (_ :: _) _ _
  refine ocanV (st' := ⟨[(3, .ptr 0 0 0), (4, vIns N), (5, vDs S), (6, vPas P), (7, .ptr 1 0 0), (8, .ptr 2 0 0), (9, .ptr 3 0 0), (44, vX c), (45, vIns N), (46, vDs S), (47, vPas P)], [tapeRow n g at_, rXE c, rXE x, rXE bdE]⟩) ((can_frzb [3] 4 (fun _ => nthP (cX bdE)) (tm := [(3, .ptr 0 0 0), (4, vIns N), (5, vDs S), (6, vPas P), (7, .ptr 1 0 0), (8, .ptr 2 0 0), (9, .ptr 4 0 0), (44, vX c), (45, vIns N), (46, vDs S), (47, vPas P)]) (by intro l hl; rw [show Γ.k0 = 0 from hk]; exact Nat.zero_le _) rfl rfl rfl (fun i hi j hj => by
    have hj : j < 10 := hj
    rcases c10 hj with rfl | rfl | rfl | rfl | rfl | rfl | rfl | rfl | rfl | rfl
    all_goals first
      | exact argVal
      | exact argK2 (op := 0) (vn := 0) (vd := 0) (um := 0) (uh := 0) (ud := 0) (nm := ⟨#[]⟩) (cnt := 0) (mode := 0) rfl (List.Mem.head _)) (by exact ⟨.inl rfl, .inl rfl, .inl rfl, .inl rfl, .inl rfl, .inl rfl, .inl rfl, .inl rfl, .inl rfl, .inl rfl, .inl rfl, trivial⟩)).trans (can_rowsv [0, 1, 2, 4] (k0_sel hk rfl) rfl (.cons rfl (RowEq.cl (tape_cl _ _ _)) (.cons rfl (RowEq.cl (rXE_cl c)) (.cons rfl (RowEq.cl (rXE_cl x)) (.cons rfl (RowEq.cl (rXE_cl bdE)) .nil)))) (by exact ⟨PEq.refl _, PEq.refl _, PEq.refl _, PEq.refl _, PEq.refl _, PEq.refl _, PEq.refl _, PEq.cl _ (clB_spec _ rfl), PEq.refl _, PEq.refl _, PEq.refl _, trivial⟩))) ?_
  have eC := valEval_c N S P hE.bd c hc.bd
  have eX := valEval_c N S P hE.bd x hx.bd
  obtain ⟨RC, hRC⟩ : ∃ RC, RC = evS N S P 31 c := ⟨_, rfl⟩
  obtain ⟨RX, hRX⟩ : ∃ RX, RX = evS N S P 31 x := ⟨_, rfl⟩
  have hC : evalS N S P c = RC := by unfold evalS; rw [if_pos (hc.vl 32 (by decide)), hRC, evS_succ N S P 31 c (hc.vl 31 (by decide))]
  have hX : evalS N S P x = RX := by unfold evalS; rw [if_pos (hx.vl 32 (by decide)), hRX, evS_succ N S P 31 x (hx.vl 31 (by decide))]
  have vb : validS 31 bdE = true := by decide +kernel
  have bb : Bd bdE := bd_op fun i hi => by unfold k2; split <;> exact .mk ⟨by decide, by decide, by decide⟩ fun i hi => absurd hi (Nat.not_lt_zero i)
  have hif : ∀ a b : Ex, validS 31 a = true → validS 31 b = true → evalS N S P (eOp 18 3 (k3 c a b)) = if RC.2 ≠ 0 then ((0, 0), RC.2) else if RC.1.1 ≠ 0 then evS N S P 31 a else evS N S P 31 b := fun a b ha hb => by
    unfold evalS
    rw [if_pos (valid_op (by decide) rfl fun i hi => by
      unfold k3; split
      · exact hc.vl 31 (by decide)
      split
      · exact ha
      · exact hb), ev_ifS, ← hRC]
  have hand : evalS N S P (eOp 12 2 (k2 c bdE)) = if RC.2 ≠ 0 then ((0, 0), RC.2) else if RC.1.1 = 0 then ((0, 1), 0) else ((0, 0), 5) := by
    unfold evalS
    rw [if_pos (valid_op (by decide) rfl fun i hi => by
      unfold k2; split
      · exact hc.vl 31 (by decide)
      · exact vb), ev_and, ← hRC, ev_bad]
  have hor : evalS N S P (eOp 13 2 (k2 c bdE)) = if RC.2 ≠ 0 then ((0, 0), RC.2) else if RC.1.1 ≠ 0 then ((1, 1), 0) else ((0, 0), 5) := by
    unfold evalS
    rw [if_pos (valid_op (by decide) rfl fun i hi => by
      unfold k2; split
      · exact hc.vl 31 (by decide)
      · exact vb), ev_or, ← hRC, ev_bad]
  rw [hC] at eC
  rw [hX] at eX
  have bIf : ∀ a b : Ex, Bd a → Bd b → Bd (eOp 18 3 (k3 c a b)) := fun a b ha hb => bd_op fun i hi => by
    unfold k3; split
    · exact hc.bd
    split
    · exact ha
    · exact hb
  have b2' : ∀ op : Int, Bd (eOp op 2 (k2 c bdE)) := fun op => bd_op fun i hi => by
    unfold k2; split
    · exact hc.bd
    · exact bb
  repeat' (first | refine yo ?_ ?_ | refine yw ?_ ?_ | refine yk ?_ ?_ | exact trivial | with_reducible refine wA ?_ ?_ | refine ys ?_ ?_ | refine xs_done ?_ | refine yl ?_ ?_ | refine z1 eC ?_ | refine z2 eC ?_ | refine z3 eC ?_ | refine z4 eC ?_ | refine z5 eC ?_ | refine z1 eX ?_ | refine z2 eX ?_ | refine z3 eX ?_ | refine z4 eX ?_ | refine z5 eX ?_ | refine w8 ?_ | refine w9 ?_ | refine w1 ?_ | refine w2 ?_ | refine w3 ?_ | refine w4 ?_ | refine w5 ?_ | refine w6 ?_ | refine w7 ?_ | refine yo0 ?_ ?_ | refine yw0 ?_ ?_ | exact qq | fail)
  refine pcond rfl ?_ ?_ <;> intro h0
  · have e1 := valEval_c N S P hE.bd _ (bIf x x hx.bd hx.bd)
    repeat' (first | refine yo ?_ ?_ | refine yw ?_ ?_ | refine yk ?_ ?_ | exact trivial | with_reducible refine wA ?_ ?_ | refine ys ?_ ?_ | refine xs_done ?_ | refine yl ?_ ?_ | refine w8 ?_ | refine w9 ?_ | refine w1 ?_ | refine w2 ?_ | refine w3 ?_ | refine w4 ?_ | refine w5 ?_ | refine w6 ?_ | refine w7 ?_ | refine yo0 ?_ ?_ | refine yw0 ?_ ?_ | exact qq | fail)
    refine pop_call [5] rfl rfl rfl rfl rfl e1 ⟨argEx (argK3n rfl rfl rfl (List.Mem.head _) (fun y hy => argCl (clL_nth _ y (cX_cl c))) (fun y hy => argCl (clL_nth _ y (cX_cl x))) (fun y hy => argCl (clL_nth _ y (cX_cl x)))), argCl (clB_spec _ rfl), argCl (clB_spec _ rfl), argCl (clB_spec _ rfl), trivial⟩ ?_
    rintro _ rfl
    refine ⟨scB_spec _ rfl, ?_⟩
    repeat' (first | refine yo ?_ ?_ | refine yw ?_ ?_ | refine yk ?_ ?_ | exact trivial | with_reducible refine wA ?_ ?_ | refine ys ?_ ?_ | refine xs_done ?_ | refine yl ?_ ?_ | refine z1 cs ?_ | refine z2 cs ?_ | refine z3 cs ?_ | refine z4 cs ?_ | refine z5 cs ?_ | refine w8 ?_ | refine w9 ?_ | refine w1 ?_ | refine w2 ?_ | refine w3 ?_ | refine w4 ?_ | refine w5 ?_ | refine w6 ?_ | refine w7 ?_ | refine yo0 ?_ ?_ | refine yw0 ?_ ?_ | exact qq | fail)
    refine xdone ?_
    refine kretv rfl ⟨trivial, trivial⟩ rfl (eqB ?_)
    have h0 : RC.2 ≠ 0 := by simpa using h0
    rw [hif x x (hx.vl 31 (by decide)) (hx.vl 31 (by decide)), if_pos h0]; simp
  · have h0 : RC.2 = 0 := by simpa using h0
    repeat' (first | refine yo ?_ ?_ | refine yw ?_ ?_ | refine yk ?_ ?_ | exact trivial | with_reducible refine wA ?_ ?_ | refine ys ?_ ?_ | refine xs_done ?_ | refine yl ?_ ?_ | refine z1 eC ?_ | refine z2 eC ?_ | refine z3 eC ?_ | refine z4 eC ?_ | refine z5 eC ?_ | refine z1 eX ?_ | refine z2 eX ?_ | refine z3 eX ?_ | refine z4 eX ?_ | refine z5 eX ?_ | refine w8 ?_ | refine w9 ?_ | refine w1 ?_ | refine w2 ?_ | refine w3 ?_ | refine w4 ?_ | refine w5 ?_ | refine w6 ?_ | refine w7 ?_ | refine yo0 ?_ ?_ | refine yw0 ?_ ?_ | exact qq | fail)
    refine pcond (b := decide (RC.1.1 = 0)) ?_ ?_ ?_
    · refine eqB ?_
      rw [Bool.eq_iff_iff]; simp
    · intro hy
      have hy := of_decide_eq_true hy
      have e1 := valEval_c N S P hE.bd _ (bIf bdE x bb hx.bd)
      have e2 := valEval_c N S P hE.bd _ (b2' 12)
      have e3 := valEval_c N S P hE.bd _ (b2' 13)
      rw [hif _ _ vb (hx.vl 31 (by decide)), if_neg (by simp [h0]), if_neg (by simp [hy]), ← hRX] at e1
      rw [hand, if_neg (by simp [h0]), if_pos hy] at e2
      rw [hor, if_neg (by simp [h0]), if_neg (by simp [hy])] at e3
      repeat' (first | refine yo ?_ ?_ | refine yw ?_ ?_ | refine yk ?_ ?_ | exact trivial | with_reducible refine wA ?_ ?_ | refine ys ?_ ?_ | refine xs_done ?_ | refine yl ?_ ?_ | refine w8 ?_ | refine w9 ?_ | refine w1 ?_ | refine w2 ?_ | refine w3 ?_ | refine w4 ?_ | refine w5 ?_ | refine w6 ?_ | refine w7 ?_ | refine yo0 ?_ ?_ | refine yw0 ?_ ?_ | exact qq | fail)
      refine pop_call [7] rfl rfl rfl rfl rfl e1 ⟨argEx (argK3n rfl rfl rfl (List.Mem.head _) (fun y hy => argCl (clL_nth _ y (cX_cl c))) (fun y hy => argCl (clL_nth _ y (cX_cl bdE))) (fun y hy => argCl (clL_nth _ y (cX_cl x)))), argCl (clB_spec _ rfl), argCl (clB_spec _ rfl), argCl (clB_spec _ rfl), trivial⟩ ?_
      rintro _ rfl
      refine ⟨scB_spec _ rfl, ?_⟩
      repeat' (first | refine yo ?_ ?_ | refine yw ?_ ?_ | refine yk ?_ ?_ | exact trivial | with_reducible refine wA ?_ ?_ | refine ys ?_ ?_ | refine xs_done ?_ | refine yl ?_ ?_ | refine w8 ?_ | refine w9 ?_ | refine w1 ?_ | refine w2 ?_ | refine w3 ?_ | refine w4 ?_ | refine w5 ?_ | refine w6 ?_ | refine w7 ?_ | refine yo0 ?_ ?_ | refine yw0 ?_ ?_ | exact qq | fail)
      refine pop_call [9] rfl rfl rfl rfl rfl e2 ⟨argEx (argK2n rfl rfl (List.Mem.head _) (fun y hy => argCl (clL_nth _ y (cX_cl c))) (fun y hy => argCl (clL_nth _ y (cX_cl bdE)))), argCl (clB_spec _ rfl), argCl (clB_spec _ rfl), argCl (clB_spec _ rfl), trivial⟩ ?_
      rintro _ rfl
      refine ⟨scB_spec _ rfl, ?_⟩
      repeat' (first | refine yo ?_ ?_ | refine yw ?_ ?_ | refine yk ?_ ?_ | exact trivial | with_reducible refine wA ?_ ?_ | refine ys ?_ ?_ | refine xs_done ?_ | refine yl ?_ ?_ | refine w8 ?_ | refine w9 ?_ | refine w1 ?_ | refine w2 ?_ | refine w3 ?_ | refine w4 ?_ | refine w5 ?_ | refine w6 ?_ | refine w7 ?_ | refine yo0 ?_ ?_ | refine yw0 ?_ ?_ | exact qq | fail)
      refine pop_call [11] rfl rfl rfl rfl rfl e3 ⟨argEx (argK2n rfl rfl (List.Mem.head _) (fun y hy => argCl (clL_nth _ y (cX_cl c))) (fun y hy => argCl (clL_nth _ y (cX_cl bdE)))), argCl (clB_spec _ rfl), argCl (clB_spec _ rfl), argCl (clB_spec _ rfl), trivial⟩ ?_
      rintro _ rfl
      refine ⟨scB_spec _ rfl, ?_⟩
      repeat' (first | refine yo ?_ ?_ | refine yw ?_ ?_ | refine yk ?_ ?_ | exact trivial | with_reducible refine wA ?_ ?_ | refine ys ?_ ?_ | refine xs_done ?_ | refine yl ?_ ?_ | refine z1 cs ?_ | refine z2 cs ?_ | refine z3 cs ?_ | refine z4 cs ?_ | refine z5 cs ?_ | refine w8 ?_ | refine w9 ?_ | refine w1 ?_ | refine w2 ?_ | refine w3 ?_ | refine w4 ?_ | refine w5 ?_ | refine w6 ?_ | refine w7 ?_ | refine yo0 ?_ ?_ | refine yw0 ?_ ?_ | (refine pcond rfl ?_ ?_ <;> intro hc) | exact qq | fail)
      · exfalso; simp [hy] at hc
      · refine xdone ?_
        refine kretv rfl ⟨trivial, trivial⟩ rfl (eqB ?_)
        simp [hy]
    · intro hy
      have hy := of_decide_eq_false hy
      have e1 := valEval_c N S P hE.bd _ (bIf x bdE hx.bd bb)
      have e2 := valEval_c N S P hE.bd _ (b2' 12)
      have e3 := valEval_c N S P hE.bd _ (b2' 13)
      rw [hif _ _ (hx.vl 31 (by decide)) vb, if_neg (by simp [h0]), if_pos hy, ← hRX] at e1
      rw [hand, if_neg (by simp [h0]), if_neg hy] at e2
      rw [hor, if_neg (by simp [h0]), if_pos hy] at e3
      repeat' (first | refine yo ?_ ?_ | refine yw ?_ ?_ | refine yk ?_ ?_ | exact trivial | with_reducible refine wA ?_ ?_ | refine ys ?_ ?_ | refine xs_done ?_ | refine yl ?_ ?_ | refine w8 ?_ | refine w9 ?_ | refine w1 ?_ | refine w2 ?_ | refine w3 ?_ | refine w4 ?_ | refine w5 ?_ | refine w6 ?_ | refine w7 ?_ | refine yo0 ?_ ?_ | refine yw0 ?_ ?_ | exact qq | fail)
      refine pop_call [6] rfl rfl rfl rfl rfl e1 ⟨argEx (argK3n rfl rfl rfl (List.Mem.head _) (fun y hy => argCl (clL_nth _ y (cX_cl c))) (fun y hy => argCl (clL_nth _ y (cX_cl x))) (fun y hy => argCl (clL_nth _ y (cX_cl bdE)))), argCl (clB_spec _ rfl), argCl (clB_spec _ rfl), argCl (clB_spec _ rfl), trivial⟩ ?_
      rintro _ rfl
      refine ⟨scB_spec _ rfl, ?_⟩
      repeat' (first | refine yo ?_ ?_ | refine yw ?_ ?_ | refine yk ?_ ?_ | exact trivial | with_reducible refine wA ?_ ?_ | refine ys ?_ ?_ | refine xs_done ?_ | refine yl ?_ ?_ | refine w8 ?_ | refine w9 ?_ | refine w1 ?_ | refine w2 ?_ | refine w3 ?_ | refine w4 ?_ | refine w5 ?_ | refine w6 ?_ | refine w7 ?_ | refine yo0 ?_ ?_ | refine yw0 ?_ ?_ | exact qq | fail)
      refine pop_call [8] rfl rfl rfl rfl rfl e2 ⟨argEx (argK2n rfl rfl (List.Mem.head _) (fun y hy => argCl (clL_nth _ y (cX_cl c))) (fun y hy => argCl (clL_nth _ y (cX_cl bdE)))), argCl (clB_spec _ rfl), argCl (clB_spec _ rfl), argCl (clB_spec _ rfl), trivial⟩ ?_
      rintro _ rfl
      refine ⟨scB_spec _ rfl, ?_⟩
      repeat' (first | refine yo ?_ ?_ | refine yw ?_ ?_ | refine yk ?_ ?_ | exact trivial | with_reducible refine wA ?_ ?_ | refine ys ?_ ?_ | refine xs_done ?_ | refine yl ?_ ?_ | refine w8 ?_ | refine w9 ?_ | refine w1 ?_ | refine w2 ?_ | refine w3 ?_ | refine w4 ?_ | refine w5 ?_ | refine w6 ?_ | refine w7 ?_ | refine yo0 ?_ ?_ | refine yw0 ?_ ?_ | exact qq | fail)
      refine pop_call [10] rfl rfl rfl rfl rfl e3 ⟨argEx (argK2n rfl rfl (List.Mem.head _) (fun y hy => argCl (clL_nth _ y (cX_cl c))) (fun y hy => argCl (clL_nth _ y (cX_cl bdE)))), argCl (clB_spec _ rfl), argCl (clB_spec _ rfl), argCl (clB_spec _ rfl), trivial⟩ ?_
      rintro _ rfl
      refine ⟨scB_spec _ rfl, ?_⟩
      repeat' (first | refine yo ?_ ?_ | refine yw ?_ ?_ | refine yk ?_ ?_ | exact trivial | with_reducible refine wA ?_ ?_ | refine ys ?_ ?_ | refine xs_done ?_ | refine yl ?_ ?_ | refine z1 cs ?_ | refine z2 cs ?_ | refine z3 cs ?_ | refine z4 cs ?_ | refine z5 cs ?_ | refine w8 ?_ | refine w9 ?_ | refine w1 ?_ | refine w2 ?_ | refine w3 ?_ | refine w4 ?_ | refine w5 ?_ | refine w6 ?_ | refine w7 ?_ | refine yo0 ?_ ?_ | refine yw0 ?_ ?_ | (refine pcond rfl ?_ ?_ <;> intro hc) | exact qq | fail)
      · exfalso; simp [hy] at hc
      · refine xdone ?_
        refine kretv rfl ⟨trivial, trivial⟩ rfl (eqB ?_)
        simp [hy]
theorem lazy_walk (v : Value) (l : List Int) (w : World) (h : IntsAt w v l) (hG : GOk (fun b => b < w.heap.size) w) : Calls G.P 5 #[v] w fun e w' => e = .returned (.bool true) ∧ Ext w w' := by
  have hl : l.length ≤ 9223372036854775807 := by obtain ⟨_, _, _, _, h, _⟩ := h; exact h
  exact law_of (vs := [v]) (lazy_c l.length _ hl) ⟨h.rel _, trivial⟩ hG
end Go.Proofs.YtcghpepighboaaaDoor
