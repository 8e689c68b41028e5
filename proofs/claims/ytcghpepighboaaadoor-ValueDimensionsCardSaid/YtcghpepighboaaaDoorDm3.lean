/- payrolllaw22: measured. -/
import Derived.Test.YtcghpepighboaaaDoorDm2
import Derived.Test.YtcghpepighboaaaDoorX11
set_option linter.unusedSimpArgs false
set_option linter.unusedVariables false
set_option maxRecDepth 100000
namespace Go.Proofs.YtcghpepighboaaaDoor
abbrev rXE (e : Ex) : Row := ⟨.own, true, 1, 10, fun _ => nthP (cX e)⟩
theorem rXE_cl (e : Ex) : rowCl (rXE e) := fun i _ j _ => clL_nth _ j (cX_cl e)
abbrev rZ : Row := ⟨.own, true, 1, 10, fun _ => nthP [vi 0, vi 0, vi 0, vi 0, vi 0, vi 0, vs ⟨#[]⟩, vi 0, vi 0, .val (.slice none 0 0)]⟩
theorem rZ_cl : rowCl rZ := fun i _ j _ => clL_nth _ j ⟨trivial, trivial, trivial, trivial, trivial, trivial, trivial, trivial, trivial, trivial, trivial⟩
theorem beqd3 (a b : Int) : (a == b) = decide (a = b) := by rw [Bool.eq_iff_iff]; simp
def kmS (n : Nat) (kf : Nat → Ex) (i a : Nat) : Ex := if a < i then meaS n (kf a) else kf a
theorem km0 {τ : Nat → Option Nat} {n nk : Nat} {kf : Nat → Ex} {r : Row} {u : Nat → Nat → PV} (hr : r = ⟨.own, false, 0 + nk, 10, appF 0 u (tF cX kf)⟩) : RowEq (Row.ren τ r) (oRow cX 10 nk (kmS n kf 0)) := by
  subst hr
  refine o_eq cX_cl (by omega) fun a ha b hb => ?_
  rw [appF_ge _ _ (Nat.zero_le _), Nat.sub_zero]
  unfold kmS; rw [if_neg (Nat.not_lt_zero _)]; rfl
theorem kmq {τ : Nat → Option Nat} {n nk i j : Nat} {kf : Nat → Ex} {r : Row} (hj : j = i) (hr : r = ⟨.own, false, nk, 10, updR (tF cX (kmS n kf i)) j (cX (meaS n (kf i)))⟩) : RowEq (Row.ren τ r) (oRow cX 10 nk (kmS n kf (i + 1))) := by
  subst hr hj
  refine o_eq cX_cl (Nat.le_refl _) fun a ha b hb => ?_
  unfold updR kmS
  cases hb : Nat.beq a j
  · have h0 := Nat.ne_of_beq_eq_false hb
    show nthP (cX (if a < j then _ else _)) b = _
    by_cases h1 : a < j
    · rw [if_pos h1, if_pos (by omega)]
    · rw [if_neg h1, if_neg (by omega)]
  · obtain rfl := Nat.eq_of_beq_eq_true hb
    rw [if_pos (by omega)]; rfl
theorem kmn {n i a b : Nat} {kf : Nat → Ex} (ha : a < i) : (oRow cX 10 i (kmS n kf i)).f (0 + a) b = tF cX (fun i => meaS n (kf i)) a b := by
  show nthP (cX (kmS n kf i (0 + a))) b = _
  rw [Nat.zero_add]
  unfold kmS; rw [if_pos ha]; rfl
set_option maxHeartbeats 8000000 in
theorem measured_c : ∀ (n : Nat) (e : Ex), Bd e → Lit e → validS n e = true → PureC G.P 31 [vX e] (fun r => r = vX (meaS n e))
  | 0, e, _, _, h => by cases h
  | n + 1, e, hb, hl, h => by
    have hf := validS_f h
    have hnk := validS_nk h
    have hu := unit_of hf
    have h3 : e.nk ≤ 3 := by have := kidsN_le e.op; omega
    have ih : ∀ i, i < e.nk → PureC G.P 31 [vX (e.kf i)] (fun r => r = vX (meaS n (e.kf i))) := fun i hi => measured_c n _ (hb.k hi) (hl.k hi) (validS_k h hi)
    obtain ⟨op, vn, vd, um, uh, ud, nm, cnt, mode, nk, kf, rfl⟩ : ∃ op vn vd um uh ud nm cnt mode nk kf, e = .mk op vn vd um uh ud nm cnt mode nk kf := by cases hl with | mk _ _ => exact ⟨_, _, _, _, _, _, _, _, _, _, _, rfl⟩
    have hl1 := hl.l
    replace hu : op = 1 ∨ op = 19 → -3 ≤ uh ∧ uh ≤ 3 := hu
    replace h3 : nk ≤ 3 := h3
    replace hl1 : op = 1 ∨ op = 19 → (vn, vd) ∈ decL := hl1
    replace ih : ∀ i, i < nk → PureC G.P 31 [vX (kf i)] (fun r => r = vX (meaS n (kf i))) := ih
    clear hf hnk h hb hl
    refine pure_of (G := G.toPg) (fn := Tryd.f31) Tryd.func31 rfl rfl rfl ?_; intro Γ hk
    repeat' (first | refine yo ?_ ?_ | refine yw ?_ ?_ | refine yk ?_ ?_ | exact trivial | with_reducible refine wA ?_ ?_ | refine ys ?_ ?_ | refine xs_done ?_ | refine yl ?_ ?_ | refine w8 ?_ | refine w9 ?_ | refine w1 ?_ | refine w2 ?_ | refine w3 ?_ | refine w4 ?_ | refine w5 ?_ | refine w6 ?_ | refine w7 ?_ | refine yo0 ?_ ?_ | refine yw0 ?_ ?_ | exact qq | fail)
    refine pcond (b := decide (op = 1 ∨ op = 19)) ?_ ?_ ?_
    · refine eqB ?_
      show (bif op == 1 then true else op == 19) = _
      rw [beqd3, beqd3]
      by_cases h1 : op = 1 <;> by_cases h2 : op = 19 <;> simp [h1, h2]
    focus
      intro hc
      replace hc := of_decide_eq_true hc
      obtain ⟨u1, u2⟩ := hu hc
      obtain ⟨l1, l2, l3, l4, l5⟩ := lit_at (hl1 hc) u1 u2
      have c1 := scaled_c vn vd uh l1 (by omega) (by omega)
      have hm : meaS (n + 1) (.mk op vn vd um uh ud nm cnt mode nk kf) = .mk op (scS (vn, vd) uh).1 (scS (vn, vd) uh).2 um uh ud nm cnt mode nk (fun i => meaS n (kf i)) := by
        show Ex.mk op (if op = 1 ∨ op = 19 then _ else _) (if op = 1 ∨ op = 19 then _ else _) _ _ _ _ _ _ _ _ = _; rw [if_pos hc, if_pos hc]
      rw [hm]
      generalize scS (vn, vd) uh = v at *
      repeat' (first | refine yo ?_ ?_ | refine yw ?_ ?_ | refine yk ?_ ?_ | exact trivial | with_reducible refine wA ?_ ?_ | refine ys ?_ ?_ | refine xs_done ?_ | refine yl ?_ ?_ | exact ⟨Nat.le_refl _, (by rw [hk]; exact Nat.le_of_ble_eq_true rfl), Nat.le_of_eq (Nat.zero_add _), (show (_ : Nat) * 104 ≤ 140737488355328 from by omega), (show (_ : Nat) ≤ 9223372036854775807 from by omega)⟩ | exact ⟨trivial, (by rw [hk]; exact Nat.le_of_ble_eq_true rfl), Nat.le_of_ble_eq_true rfl, (show (0 + nk) * 104 ≤ 140737488355328 from by omega), (show 0 + nk ≤ 9223372036854775807 from by omega)⟩ | refine z1 c1 ?_ | refine z2 c1 ?_ | refine z3 c1 ?_ | refine z4 c1 ?_ | refine z5 c1 ?_ | refine w8 ?_ | refine w9 ?_ | refine w1 ?_ | refine w2 ?_ | refine w3 ?_ | refine w4 ?_ | refine w5 ?_ | refine w6 ?_ | refine w7 ?_ | refine yo0 ?_ ?_ | refine yw0 ?_ ?_ | exact qq | fail)
      refine pcan (st' := ⟨[(1, .ptr 0 0 0), (2, .ptr 1 0 0), (3, .lsl 2 0 nk), (4, vi ((0 : Nat) : Int))], [rXE (.mk op v.1 v.2 um uh ud nm cnt mode nk kf), rZ, oRow cX 10 nk (kmS n kf 0)]⟩) (can_rowsv [0, 1, 3] (k0_sel hk rfl) rfl (.cons rfl (RowEq.cl (rXE_cl (.mk op v.1 v.2 um uh ud nm cnt mode nk kf))) (.cons rfl (RowEq.cl rZ_cl) (.cons rfl (km0 rfl) .nil))) (by exact ⟨PEq.refl _, PEq.refl _, PEq.of (by show PV.lsl 2 0 (0 + nk) = _; rw [Nat.zero_add]), PEq.refl _, trivial⟩)) ?_
      clear c1 hm l1 l2 l3 l4 l5 u1 u2 hu hl1 hc
      clear vn vd
      obtain ⟨vn, vd⟩ := v
    rotate_left
    focus
      intro hc
      replace hc := of_decide_eq_false hc
      have hm : meaS (n + 1) (.mk op vn vd um uh ud nm cnt mode nk kf) = .mk op vn vd um uh ud nm cnt mode nk (fun i => meaS n (kf i)) := by
        show Ex.mk op (if op = 1 ∨ op = 19 then _ else _) (if op = 1 ∨ op = 19 then _ else _) _ _ _ _ _ _ _ _ = _; rw [if_neg hc, if_neg hc]
      rw [hm]
      repeat' (first | refine yo ?_ ?_ | refine yw ?_ ?_ | refine yk ?_ ?_ | exact trivial | with_reducible refine wA ?_ ?_ | refine ys ?_ ?_ | refine xs_done ?_ | refine yl ?_ ?_ | exact ⟨Nat.le_refl _, (by rw [hk]; exact Nat.le_of_ble_eq_true rfl), Nat.le_of_eq (Nat.zero_add _), (show (_ : Nat) * 104 ≤ 140737488355328 from by omega), (show (_ : Nat) ≤ 9223372036854775807 from by omega)⟩ | exact ⟨trivial, (by rw [hk]; exact Nat.le_of_ble_eq_true rfl), Nat.le_of_ble_eq_true rfl, (show (0 + nk) * 104 ≤ 140737488355328 from by omega), (show 0 + nk ≤ 9223372036854775807 from by omega)⟩ | refine w8 ?_ | refine w9 ?_ | refine w1 ?_ | refine w2 ?_ | refine w3 ?_ | refine w4 ?_ | refine w5 ?_ | refine w6 ?_ | refine w7 ?_ | refine yo0 ?_ ?_ | refine yw0 ?_ ?_ | exact qq | fail)
      refine pcan (st' := ⟨[(1, .ptr 0 0 0), (2, .ptr 1 0 0), (3, .lsl 2 0 nk), (4, vi ((0 : Nat) : Int))], [rXE (.mk op vn vd um uh ud nm cnt mode nk kf), rZ, oRow cX 10 nk (kmS n kf 0)]⟩) (can_rowsv [0, 1, 3] (k0_sel hk rfl) rfl (.cons rfl (RowEq.cl (rXE_cl (.mk op vn vd um uh ud nm cnt mode nk kf))) (.cons rfl (RowEq.cl rZ_cl) (.cons rfl (km0 rfl) .nil))) (by exact ⟨PEq.refl _, PEq.refl _, PEq.of (by show PV.lsl 2 0 (0 + nk) = _; rw [Nat.zero_add]), PEq.refl _, trivial⟩)) ?_
      clear hm hu hl1 hc
    all_goals
      refine ploop (fun q st => ∃ i : Nat, i ≤ nk ∧ q = nk - i ∧ st = ⟨[(1, .ptr 0 0 0), (2, .ptr 1 0 0), (3, .lsl 2 0 nk), (4, vi i)], [rXE (.mk op vn vd um uh ud nm cnt mode nk kf), rZ, oRow cX 10 nk (kmS n kf i)]⟩) nk ⟨0, Nat.zero_le _, rfl, rfl⟩ ?_
      rintro _ _ ⟨i, hi, rfl, rfl⟩
      repeat' (first | refine yo ?_ ?_ | refine yw ?_ ?_ | refine yk ?_ ?_ | exact trivial | with_reducible refine wA ?_ ?_ | refine ys ?_ ?_ | refine xs_done ?_ | refine yl ?_ ?_ | refine w8 ?_ | refine w9 ?_ | refine w1 ?_ | refine w2 ?_ | refine w3 ?_ | refine w4 ?_ | refine w5 ?_ | refine w6 ?_ | refine w7 ?_ | refine yo0 ?_ ?_ | refine yw0 ?_ ?_ | exact qq | fail)
      refine pcond (b := decide (i < nk)) ?_ ?_ ?_
      · refine eqB ?_
        show decide ((i : Int) < (nk : Int)) = _
        rw [decide_eq_decide]; omega
      · intro hc
        replace hc := of_decide_eq_true hc
        have c1 : PureC G.P 31 [vX (kmS n kf i (0 + ((i : Nat) : Int).toNat))] (fun r => r = vX (meaS n (kf i))) := by
          rw [show 0 + ((i : Nat) : Int).toNat = i by omega]
          unfold kmS; rw [if_neg (Nat.lt_irrefl _)]; exact ih i hc
        repeat' (first | refine yo ?_ ?_ | refine yw ?_ ?_ | refine yk ?_ ?_ | exact trivial | with_reducible refine wA ?_ ?_ | refine ys ?_ ?_ | refine xs_done ?_ | refine yl ?_ ?_ | (refine pop_callc [] rfl rfl rfl rfl rfl rfl (fun _ h => by cases h) (c1) (args_cl _ rfl) ?_; rintro _ rfl) | refine w8 ?_ | refine w9 ?_ | refine w1 ?_ | refine w2 ?_ | refine w3 ?_ | refine w4 ?_ | refine w5 ?_ | refine w6 ?_ | refine w7 ?_ | refine yo0 ?_ ?_ | refine yw0 ?_ ?_ | exact qq | fail)
        rw [show IntKind.i64.wrap ((i : Int) + 1) = ((i + 1 : Nat) : Int) from w64 (by omega) (by omega)]
        exact kloop_next (st' := ⟨[(1, .ptr 0 0 0), (2, .ptr 1 0 0), (3, .lsl 2 0 nk), (4, vi ((i + 1 : Nat) : Int))], [rXE (.mk op vn vd um uh ud nm cnt mode nk kf), rZ, oRow cX 10 nk (kmS n kf (i + 1))]⟩) (nk - (i + 1)) (can_rowsv [0, 1, 2] (k0_sel hk rfl) rfl (.cons rfl (RowEq.cl (rXE_cl (.mk op vn vd um uh ud nm cnt mode nk kf))) (.cons rfl (RowEq.cl rZ_cl) (.cons rfl (kmq (j := 0 + ((i : Nat) : Int).toNat) (by omega) rfl) .nil))) tmq) (by omega) ⟨i + 1, by omega, rfl, rfl⟩
      · intro hc
        replace hc := of_decide_eq_false hc
        obtain rfl : i = nk := by omega
        repeat' (first | refine yo ?_ ?_ | refine yw ?_ ?_ | refine yk ?_ ?_ | exact trivial | with_reducible refine wA ?_ ?_ | refine ys ?_ ?_ | refine xs_done ?_ | refine yl ?_ ?_ | refine w8 ?_ | refine w9 ?_ | refine w1 ?_ | refine w2 ?_ | refine w3 ?_ | refine w4 ?_ | refine w5 ?_ | refine w6 ?_ | refine w7 ?_ | refine yo0 ?_ ?_ | refine yw0 ?_ ?_ | exact qq | fail)
        exact kret [2] rfl ⟨Nat.zero_lt_one, trivial⟩ (qs := [vX (.mk op vn vd um uh ud nm cnt mode i (fun i => meaS n (kf i)))]) ⟨argEx (argLsl (r := oRow cX 10 i (kmS n kf i)) rfl trivial (List.Mem.head _) (by rw [Nat.zero_add]; exact Nat.le_refl _) fun a ha b hb => ⟨kmn ha, tF_cl cX_cl (fun i => meaS n (kf i)) a b⟩), trivial⟩ rfl
end Go.Proofs.YtcghpepighboaaaDoor
