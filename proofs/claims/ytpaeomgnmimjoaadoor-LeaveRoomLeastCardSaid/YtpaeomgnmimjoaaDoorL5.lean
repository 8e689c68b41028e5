/- leave.Balance, leave.Room. -/
import Derived.Test.YtpaeomgnmimjoaaDoorL4
set_option linter.unusedSimpArgs false
set_option linter.unusedVariables false
set_option maxRecDepth 100000
namespace Go.Proofs.YtpaeomgnmimjoaaDoor
theorem lr_cl (r : LR) : Cl (vLR r) := fun i _ => clL_nth _ i ⟨trivial, trivial, trivial, trivial, trivial, trivial, trivial, trivial, trivial⟩
theorem rlr_cl (r : LR) : rowCl (rLR r) := fun _ _ j _ => clL_nth _ j ⟨trivial, trivial, trivial, trivial, trivial, trivial, trivial, trivial, trivial⟩
theorem rac_cl (a : Acc) : rowCl (rAc a) := fun _ _ j _ => clL_nth _ j ⟨trivial, trivial, trivial, trivial, trivial⟩
/-- bookings of a time of employment -/
structure BOk (r : LR) (l : List Bk) : Prop where
  day : ∀ b, b ∈ l → r.frm ≤ b.1 ∧ b.1 ≤ r.too
  min : ∀ b, b ∈ l → 0 ≤ b.2 ∧ b.2 ≤ 1000000
theorem ds_bd {r : LR} (hr : LOk r) {K : List Int} {last : Int} (h2 : last ≤ 84005) : ∀ d, d ∈ dsS r K last → 1 ≤ d ∧ d ≤ 84005 := fun d hd => by
  have := mem_ds.1 hd; have := hr.frm; omega
theorem within_f {n lo hi : Int} (h : ¬ (lo ≤ n ∧ n ≤ hi)) : PureC G.P 17 [vi n, vi lo, vi hi] (fun r => r = vb false) := by
  have := within_c n lo hi
  rw [show (decide (lo ≤ n) && decide (n ≤ hi)) = false from by rw [Bool.eq_false_iff]; intro hc; simp at hc; exact h hc] at this
  exact this
set_option maxHeartbeats 2000000 in
theorem balance_c (r : LR) (hr : LOk r) (l : List Bk) (hl : BOk r l) (hn : l.length ≤ 1024) (day : Int) (h1 : r.frm ≤ day) (h2 : day ≤ 84005) :
    PureC G.P 10 [vLR r, vBs l, vi day] (fun q => q = .tup 2 (nthP [vAc (balS r l day).1, vi (balS r l day).2])) := by
  have hf := hr.frm
  have k1 := lvalid_c r hr
  have k2 := within_t (n := day) (lo := 0) (hi := 84005) (by omega) h2
  have hB : ∀ d, 0 ≤ bkS l d ∧ bkS l d ≤ 2000000000 := fun d => by have := bkS_bd (x := d) hl.min; omega
  have hdl := ds_len r (l.map (·.1)) day
  have hdb := ds_bd hr (K := l.map (·.1)) h2
  unfold balS
  refine pure_of (G := G.toPg) (fn := Tryd.f10) Tryd.func10 rfl rfl rfl ?_; intro Γ hk
  repeat' (first | refine yo ?_ ?_ | refine yw ?_ ?_ | refine yk ?_ ?_ | exact trivial | with_reducible refine wA ?_ ?_ | refine ys ?_ ?_ | refine xs_done ?_ | refine yl ?_ ?_ | refine z1 k1 ?_ | refine z2 k1 ?_ | refine z3 k1 ?_ | refine z4 k1 ?_ | refine z5 k1 ?_ | refine z1 k2 ?_ | refine z2 k2 ?_ | refine z3 k2 ?_ | refine z4 k2 ?_ | refine z5 k2 ?_ | refine w8 ?_ | refine w9 ?_ | refine w1 ?_ | refine w2 ?_ | refine w3 ?_ | refine w4 ?_ | refine w5 ?_ | refine w6 ?_ | refine w7 ?_ | refine yo0 ?_ ?_ | refine yw0 ?_ ?_ | exact qq | fail)
  refine pcond (b := false) ?_ ?_ ?_
  · refine eqB ?_
    simp; omega
  · intro h; cases h
  intro _
  repeat' (first | refine yo ?_ ?_ | refine yw ?_ ?_ | refine yk ?_ ?_ | exact trivial | with_reducible refine wA ?_ ?_ | refine ys ?_ ?_ | refine xs_done ?_ | refine yl ?_ ?_ | refine w8 ?_ | refine w9 ?_ | refine w1 ?_ | refine w2 ?_ | refine w3 ?_ | refine w4 ?_ | refine w5 ?_ | refine w6 ?_ | refine w7 ?_ | refine yo0 ?_ ?_ | refine yw0 ?_ ?_ | exact qq | fail)
  refine pcan (st' := ⟨[(1, vBs l), (2, vi day), (3, .ptr 0 0 0), (6, .ptr 1 0 0), (28, vBs l), (29, vi l.length), (30, vi ((0 : Nat) : Int))], [rLR r, rAc ⟨0, 0, 0, 0⟩]⟩) (can_rowsv [0,1] (k0_sel hk rfl) rfl (by (repeat (refine SelV.cons rfl rqq ?_)); exact SelV.nil) tmq) ?_
  refine ploop (fun q st => ∃ i : Nat, i ≤ l.length ∧ q = l.length - i ∧ st = ⟨[(1, vBs l), (2, vi day), (3, .ptr 0 0 0), (6, .ptr 1 0 0), (28, vBs l), (29, vi l.length), (30, vi i)], [rLR r, rAc ⟨0, 0, 0, 0⟩]⟩) l.length ⟨0, by omega, rfl, rfl⟩ ?_
  rintro _ _ ⟨i, hi, rfl, rfl⟩
  repeat' (first | refine yo ?_ ?_ | refine yw ?_ ?_ | refine yk ?_ ?_ | exact trivial | with_reducible refine wA ?_ ?_ | refine ys ?_ ?_ | refine xs_done ?_ | refine yl ?_ ?_ | refine w8 ?_ | refine w9 ?_ | refine w1 ?_ | refine w2 ?_ | refine w3 ?_ | refine w4 ?_ | refine w5 ?_ | refine w6 ?_ | refine w7 ?_ | refine yo0 ?_ ?_ | refine yw0 ?_ ?_ | exact qq | fail)
  refine pcond rfl ?_ ?_ <;> intro hc <;> simp at hc
  · have hmem : lF dB l i ∈ l := by rw [lF_get hc]; exact List.getElem_mem _
    have hd := hl.day _ hmem
    have hm := hl.min _ hmem
    have k3 := within_t hd.1 hd.2
    have k4 := within_t hm.1 hm.2
    repeat' (first | refine yo ?_ ?_ | refine yw ?_ ?_ | refine yk ?_ ?_ | exact trivial | with_reducible refine wA ?_ ?_ | refine ys ?_ ?_ | refine xs_done ?_ | refine yl ?_ ?_ | refine z1 k3 ?_ | refine z2 k3 ?_ | refine z3 k3 ?_ | refine z4 k3 ?_ | refine z5 k3 ?_ | refine z1 k4 ?_ | refine z2 k4 ?_ | refine z3 k4 ?_ | refine z4 k4 ?_ | refine z5 k4 ?_ | refine w8 ?_ | refine w9 ?_ | refine w1 ?_ | refine w2 ?_ | refine w3 ?_ | refine w4 ?_ | refine w5 ?_ | refine w6 ?_ | refine w7 ?_ | refine yo0 ?_ ?_ | refine yw0 ?_ ?_ | exact qq | fail)
    rw [show IntKind.i64.wrap ((i : Int) + 1) = ((i + 1 : Nat) : Int) from w64 (by omega) (by omega)]
    exact kloop_next (st' := ⟨[(1, vBs l), (2, vi day), (3, .ptr 0 0 0), (6, .ptr 1 0 0), (28, vBs l), (29, vi l.length), (30, vi ((i + 1 : Nat) : Int))], [rLR r, rAc ⟨0, 0, 0, 0⟩]⟩) (l.length - (i + 1)) (can_rowsv [0,1] (k0_sel hk rfl) rfl (by (repeat (refine SelV.cons rfl rqq ?_)); exact SelV.nil) tmq) (by omega) ⟨i + 1, by omega, rfl, rfl⟩
  · repeat' (first | refine yo ?_ ?_ | refine yw ?_ ?_ | refine yk ?_ ?_ | exact trivial | with_reducible refine wA ?_ ?_ | refine ys ?_ ?_ | refine xs_done ?_ | refine yl ?_ ?_ | refine w8 ?_ | refine w9 ?_ | refine w1 ?_ | refine w2 ?_ | refine w3 ?_ | refine w4 ?_ | refine w5 ?_ | refine w6 ?_ | refine w7 ?_ | refine yo0 ?_ ?_ | refine yw0 ?_ ?_ | exact qq | fail)
    refine pcond (b := false) ?_ ?_ ?_
    · refine eqB ?_
      simp; omega
    · intro h; cases h
    intro _
    repeat' (first | refine yo ?_ ?_ | refine yw ?_ ?_ | refine yk ?_ ?_ | exact trivial | with_reducible refine wA ?_ ?_ | refine ys ?_ ?_ | refine xs_done ?_ | refine yl ?_ ?_ | refine w8 ?_ | refine w9 ?_ | refine w1 ?_ | refine w2 ?_ | refine w3 ?_ | refine w4 ?_ | refine w5 ?_ | refine w6 ?_ | refine w7 ?_ | refine yo0 ?_ ?_ | refine yw0 ?_ ?_ | exact qq | fail)
    refine pop_rowsc [] rfl rfl rfl rfl rfl rfl .nil (sums_r l (by omega) hl.min) (by exact ⟨PEq.refl _, trivial⟩) ?_
    rintro _ _ ⟨rfl, m, rfl, hM⟩
    refine ⟨_, _, rfl, ⟨m_cl _ _, trivial⟩, rfl, ?_⟩
    have hds : dsS r (m.map (·.1)) day = dsS r (l.map (·.1)) day := ds_congr hM.occ
    have e1 := eventful_r r hr m (by have := hM.len; omega) day h1 h2
    rw [hds] at e1
    have e2 := pass_r r hr m (bkS l) hM.val hB (dsS r (l.map (·.1)) day) (by omega) hdb
    obtain ⟨P, hP⟩ : ∃ P, P = passS r (bkS l) (acc0 r) (dsS r (l.map (·.1)) day) := ⟨_, rfl⟩
    rw [← hP] at e2 ⊢
    repeat' (first | refine yo ?_ ?_ | refine yw ?_ ?_ | refine yk ?_ ?_ | exact trivial | with_reducible refine wA ?_ ?_ | refine ys ?_ ?_ | refine xs_done ?_ | refine yl ?_ ?_ | refine w8 ?_ | refine w9 ?_ | refine w1 ?_ | refine w2 ?_ | refine w3 ?_ | refine w4 ?_ | refine w5 ?_ | refine w6 ?_ | refine w7 ?_ | refine yo0 ?_ ?_ | refine yw0 ?_ ?_ | exact qq | fail)
    refine pcan (st' := ⟨[(2, vi day), (3, .ptr 0 0 0), (6, .ptr 1 0 0), (11, .mref 2)], [rLR r, rAc ⟨0, 0, 0, 0⟩, mRow kI m]⟩) (can_rowsv [0, 1, 2] (k0_sel hk rfl) rfl (.cons rfl rqq (.cons rfl rqq (.cons rfl m_eq .nil))) tmq) ?_
    refine pcut (fun st => st = ⟨[(6, .ptr 1 0 0), (12, .ptr 2 0 0), (13, vb P.2)], [rLR r, rAc ⟨0, 0, 0, 0⟩, rAc P.1]⟩) ?_ ?_
    · (refine any_start [0] 13 rfl ?_); (first | refine any_take 0 rfl (by kernel_rfl) (by kernel_rfl) (by kernel_rfl) rfl rfl rfl rfl rfl qtk ?_ | refine any_take2 0 rfl (by kernel_rfl) (by kernel_rfl) (by kernel_rfl) rfl rfl rfl rfl trivial ?_ | (refine any_take 0 rfl (by kernel_rfl) (by kernel_rfl) (by kernel_rfl) rfl rfl rfl rfl rfl ?_ ?_; rotate_left)); (first | refine any_take 1 rfl (by kernel_rfl) (by kernel_rfl) (by kernel_rfl) rfl rfl rfl rfl rfl qtk ?_ | refine any_take2 1 rfl (by kernel_rfl) (by kernel_rfl) (by kernel_rfl) rfl rfl rfl rfl trivial ?_ | (refine any_take 1 rfl (by kernel_rfl) (by kernel_rfl) (by kernel_rfl) rfl rfl rfl rfl rfl ?_ ?_; rotate_left)); (first | refine any_take 2 rfl (by kernel_rfl) (by kernel_rfl) (by kernel_rfl) rfl rfl rfl rfl rfl qtk ?_ | refine any_take2 2 rfl (by kernel_rfl) (by kernel_rfl) (by kernel_rfl) rfl rfl rfl rfl trivial ?_ | (refine any_take 2 rfl (by kernel_rfl) (by kernel_rfl) (by kernel_rfl) rfl rfl rfl rfl rfl ?_ ?_; rotate_left)); (first | refine any_take 3 rfl (by kernel_rfl) (by kernel_rfl) (by kernel_rfl) rfl rfl rfl rfl rfl qtk ?_ | refine any_take2 3 rfl (by kernel_rfl) (by kernel_rfl) (by kernel_rfl) rfl rfl rfl rfl trivial ?_ | (refine any_take 3 rfl (by kernel_rfl) (by kernel_rfl) (by kernel_rfl) rfl rfl rfl rfl rfl ?_ ?_; rotate_left)); (first | refine any_take 4 rfl (by kernel_rfl) (by kernel_rfl) (by kernel_rfl) rfl rfl rfl rfl rfl qtk ?_ | refine any_take2 4 rfl (by kernel_rfl) (by kernel_rfl) (by kernel_rfl) rfl rfl rfl rfl trivial ?_ | (refine any_take 4 rfl (by kernel_rfl) (by kernel_rfl) (by kernel_rfl) rfl rfl rfl rfl rfl ?_ ?_; rotate_left)); (refine any_many [5, 10] (by kernel_rfl) (by decide) rfl ⟨?_, ?_, trivial⟩ <;> first | ((refine any_i 5 (ch := [2]) rfl rfl ( pst_rowsc [2] rfl rfl rfl rfl rfl rfl (.consm rfl rfl m_eq .nil) e1 (by exact ⟨PEq.cl _ (lr_cl r), PEq.refl _, PEq.refl _, trivial⟩) ?_)); (rintro r rows ⟨rfl, rfl⟩; refine ⟨_, _, rfl, ⟨m_cl _ _, trivial⟩, rfl, ?_⟩); (refine any_many [6, 10] (by kernel_rfl) (by decide) rfl ⟨?_, ?_, trivial⟩ <;> first | ((refine any_i 6 (ch := [2]) rfl rfl ( pst_rowsc [2] rfl rfl rfl rfl rfl rfl (.consm rfl rfl m_eq .nil) e2 (by exact ⟨PEq.cl _ (lr_cl r), PEq.refl _, PEq.refl _, trivial⟩) ?_)); (rintro r rows ⟨rfl, rfl⟩; refine ⟨_, _, rfl, ⟨m_cl _ _, rlr_cl r, rac_cl _, trivial⟩, rfl, ?_⟩); (first | refine any_take 7 rfl (by kernel_rfl) (by kernel_rfl) (by kernel_rfl) rfl rfl rfl rfl rfl qtk ?_ | refine any_take2 7 rfl (by kernel_rfl) (by kernel_rfl) (by kernel_rfl) rfl rfl rfl rfl trivial ?_ | (refine any_take 7 rfl (by kernel_rfl) (by kernel_rfl) (by kernel_rfl) rfl rfl rfl rfl rfl ?_ ?_; rotate_left)); (first | refine any_take 8 rfl (by kernel_rfl) (by kernel_rfl) (by kernel_rfl) rfl rfl rfl rfl rfl qtk ?_ | refine any_take2 8 rfl (by kernel_rfl) (by kernel_rfl) (by kernel_rfl) rfl rfl rfl rfl trivial ?_ | (refine any_take 8 rfl (by kernel_rfl) (by kernel_rfl) (by kernel_rfl) rfl rfl rfl rfl rfl ?_ ?_; rotate_left)); (first | refine any_take 9 rfl (by kernel_rfl) (by kernel_rfl) (by kernel_rfl) rfl rfl rfl rfl rfl qtk ?_ | refine any_take2 9 rfl (by kernel_rfl) (by kernel_rfl) (by kernel_rfl) rfl rfl rfl rfl trivial ?_ | (refine any_take 9 rfl (by kernel_rfl) (by kernel_rfl) (by kernel_rfl) rfl rfl rfl rfl rfl ?_ ?_; rotate_left)); (refine any_one 10 rfl (by kernel_rfl) (ch := []) rfl rfl (pst_new rfl rfl rfl rfl trivial ?_)); (refine any_one 11 rfl (by kernel_rfl) (ch := [_]) rfl rfl (pst_store rfl rfl rfl rfl Nat.zero_lt_one ?_)); (first | refine any_take 12 rfl (by kernel_rfl) (by kernel_rfl) (by kernel_rfl) rfl rfl rfl rfl rfl qtk ?_ | refine any_take2 12 rfl (by kernel_rfl) (by kernel_rfl) (by kernel_rfl) rfl rfl rfl rfl trivial ?_ | (refine any_take 12 rfl (by kernel_rfl) (by kernel_rfl) (by kernel_rfl) rfl rfl rfl rfl rfl ?_ ?_; rotate_left)); (refine any_done (by kernel_rfl) ?_)) | ((refine any_i 10 (ch := []) rfl rfl (pst_new rfl rfl rfl rfl trivial ?_)); (refine any_one 6 rfl (by kernel_rfl) (ch := [2]) rfl rfl ( pst_rowsc [2] rfl rfl rfl rfl rfl rfl (.consm rfl rfl m_eq .nil) e2 (by exact ⟨PEq.cl _ (lr_cl r), PEq.refl _, PEq.refl _, trivial⟩) ?_)); (rintro r rows ⟨rfl, rfl⟩; refine ⟨_, _, rfl, ⟨m_cl _ _, rlr_cl r, rac_cl _, trivial⟩, rfl, ?_⟩); (first | refine any_take 7 rfl (by kernel_rfl) (by kernel_rfl) (by kernel_rfl) rfl rfl rfl rfl rfl qtk ?_ | refine any_take2 7 rfl (by kernel_rfl) (by kernel_rfl) (by kernel_rfl) rfl rfl rfl rfl trivial ?_ | (refine any_take 7 rfl (by kernel_rfl) (by kernel_rfl) (by kernel_rfl) rfl rfl rfl rfl rfl ?_ ?_; rotate_left)); (first | refine any_take 8 rfl (by kernel_rfl) (by kernel_rfl) (by kernel_rfl) rfl rfl rfl rfl rfl qtk ?_ | refine any_take2 8 rfl (by kernel_rfl) (by kernel_rfl) (by kernel_rfl) rfl rfl rfl rfl trivial ?_ | (refine any_take 8 rfl (by kernel_rfl) (by kernel_rfl) (by kernel_rfl) rfl rfl rfl rfl rfl ?_ ?_; rotate_left)); (first | refine any_take 9 rfl (by kernel_rfl) (by kernel_rfl) (by kernel_rfl) rfl rfl rfl rfl rfl qtk ?_ | refine any_take2 9 rfl (by kernel_rfl) (by kernel_rfl) (by kernel_rfl) rfl rfl rfl rfl trivial ?_ | (refine any_take 9 rfl (by kernel_rfl) (by kernel_rfl) (by kernel_rfl) rfl rfl rfl rfl rfl ?_ ?_; rotate_left)); (refine any_one 11 rfl (by kernel_rfl) (ch := [_]) rfl rfl (pst_store rfl rfl rfl rfl Nat.zero_lt_one ?_)); (first | refine any_take 12 rfl (by kernel_rfl) (by kernel_rfl) (by kernel_rfl) rfl rfl rfl rfl rfl qtk ?_ | refine any_take2 12 rfl (by kernel_rfl) (by kernel_rfl) (by kernel_rfl) rfl rfl rfl rfl trivial ?_ | (refine any_take 12 rfl (by kernel_rfl) (by kernel_rfl) (by kernel_rfl) rfl rfl rfl rfl rfl ?_ ?_; rotate_left)); (refine any_done (by kernel_rfl) ?_)))) | ((refine any_i 10 (ch := []) rfl rfl (pst_new rfl rfl rfl rfl trivial ?_)); (refine any_one 5 rfl (by kernel_rfl) (ch := [2]) rfl rfl ( pst_rowsc [2] rfl rfl rfl rfl rfl rfl (.consm rfl rfl m_eq .nil) e1 (by exact ⟨PEq.cl _ (lr_cl r), PEq.refl _, PEq.refl _, trivial⟩) ?_)); (rintro r rows ⟨rfl, rfl⟩; refine ⟨_, _, rfl, ⟨m_cl _ _, trivial⟩, rfl, ?_⟩); (refine any_one 6 rfl (by kernel_rfl) (ch := [2]) rfl rfl ( pst_rowsc [2] rfl rfl rfl rfl rfl rfl (.consm rfl rfl m_eq .nil) e2 (by exact ⟨PEq.cl _ (lr_cl r), PEq.refl _, PEq.refl _, trivial⟩) ?_)); (rintro r rows ⟨rfl, rfl⟩; refine ⟨_, _, rfl, ⟨m_cl _ _, rlr_cl r, rac_cl _, trivial⟩, rfl, ?_⟩); (first | refine any_take 7 rfl (by kernel_rfl) (by kernel_rfl) (by kernel_rfl) rfl rfl rfl rfl rfl qtk ?_ | refine any_take2 7 rfl (by kernel_rfl) (by kernel_rfl) (by kernel_rfl) rfl rfl rfl rfl trivial ?_ | (refine any_take 7 rfl (by kernel_rfl) (by kernel_rfl) (by kernel_rfl) rfl rfl rfl rfl rfl ?_ ?_; rotate_left)); (first | refine any_take 8 rfl (by kernel_rfl) (by kernel_rfl) (by kernel_rfl) rfl rfl rfl rfl rfl qtk ?_ | refine any_take2 8 rfl (by kernel_rfl) (by kernel_rfl) (by kernel_rfl) rfl rfl rfl rfl trivial ?_ | (refine any_take 8 rfl (by kernel_rfl) (by kernel_rfl) (by kernel_rfl) rfl rfl rfl rfl rfl ?_ ?_; rotate_left)); (first | refine any_take 9 rfl (by kernel_rfl) (by kernel_rfl) (by kernel_rfl) rfl rfl rfl rfl rfl qtk ?_ | refine any_take2 9 rfl (by kernel_rfl) (by kernel_rfl) (by kernel_rfl) rfl rfl rfl rfl trivial ?_ | (refine any_take 9 rfl (by kernel_rfl) (by kernel_rfl) (by kernel_rfl) rfl rfl rfl rfl rfl ?_ ?_; rotate_left)); (refine any_one 11 rfl (by kernel_rfl) (ch := [_]) rfl rfl (pst_store rfl rfl rfl rfl Nat.zero_lt_one ?_)); (first | refine any_take 12 rfl (by kernel_rfl) (by kernel_rfl) (by kernel_rfl) rfl rfl rfl rfl rfl qtk ?_ | refine any_take2 12 rfl (by kernel_rfl) (by kernel_rfl) (by kernel_rfl) rfl rfl rfl rfl trivial ?_ | (refine any_take 12 rfl (by kernel_rfl) (by kernel_rfl) (by kernel_rfl) rfl rfl rfl rfl rfl ?_ ?_; rotate_left)); (refine any_done (by kernel_rfl) ?_)))
      all_goals first
        | exact kcut (can_rowsv [0, 1, 5] (k0_sel hk rfl) rfl (.cons rfl rqq (.cons rfl rqq (.cons rfl rqq .nil))) tmq) rfl
        | exact kcut (can_rowsv [0, 1, 3] (k0_sel hk rfl) rfl (.cons rfl rqq (.cons rfl rqq (.cons rfl rqq .nil))) tmq) rfl
    · rintro _ rfl
      cases hb : P.2 with
      | false =>
        repeat' (first | refine yo ?_ ?_ | refine yw ?_ ?_ | refine yk ?_ ?_ | exact trivial | with_reducible refine wA ?_ ?_ | refine ys ?_ ?_ | refine xs_done ?_ | refine yl ?_ ?_ | refine w8 ?_ | refine w9 ?_ | refine w1 ?_ | refine w2 ?_ | refine w3 ?_ | refine w4 ?_ | refine w5 ?_ | refine w6 ?_ | refine w7 ?_ | refine yo0 ?_ ?_ | refine yw0 ?_ ?_ | exact qq | fail)
        refine kretv rfl ⟨Nat.zero_lt_one, trivial, trivial⟩ rfl ?_
        rw [if_neg (by decide)]; rfl
      | true =>
        repeat' (first | refine yo ?_ ?_ | refine yw ?_ ?_ | refine yk ?_ ?_ | exact trivial | with_reducible refine wA ?_ ?_ | refine ys ?_ ?_ | refine xs_done ?_ | refine yl ?_ ?_ | refine w8 ?_ | refine w9 ?_ | refine w1 ?_ | refine w2 ?_ | refine w3 ?_ | refine w4 ?_ | refine w5 ?_ | refine w6 ?_ | refine w7 ?_ | refine yo0 ?_ ?_ | refine yw0 ?_ ?_ | exact qq | fail)
        refine kretv rfl ⟨Nat.zero_lt_one, trivial, trivial⟩ rfl ?_
        rw [if_pos rfl]; rfl
/-- the room of a day: what Room returns -/
structure RoomR (r : LR) (l : List Bk) (day n : Int) : Prop where
  n0 : 0 ≤ n
  n1 : n ≤ 1000000
  can : (balS r (l ++ [(day, n)]) r.too).2 = 0
  top : n = 1000000 ∨ (balS r (l ++ [(day, n + 1)]) r.too).2 = 20
theorem bal_plus (r : LR) (l : List Bk) (day n : Int) : balS r (l ++ [(day, n)]) r.too = (if (passS r (fun x => bkS l x + (if day = x then n else 0)) (acc0 r) (dsS r (day :: l.map (·.1)) r.too)).2 = true then ((passS r (fun x => bkS l x + (if day = x then n else 0)) (acc0 r) (dsS r (day :: l.map (·.1)) r.too)).1, 0) else (⟨0, 0, 0, 0⟩, 20)) := by
  have e1 : bkS (l ++ [(day, n)]) = fun x => bkS l x + (if day = x then n else 0) := by
    funext x; rw [bkS_app]; simp [bkS]
  have e2 : dsS r ((l ++ [(day, n)]).map (·.1)) r.too = dsS r (day :: l.map (·.1)) r.too := ds_congr fun x => by
    rw [List.map_append, List.mem_append]; simp [or_comm]
  unfold balS
  rw [e1, e2]
set_option maxHeartbeats 2000000 in
theorem room_c (r : LR) (hr : LOk r) (l : List Bk) (hl : BOk r l) (hn : l.length ≤ 1000) (day : Int) (h1 : r.frm ≤ day) (h2 : day ≤ r.too) :
    PureC G.P 14 [vLR r, vBs l, vi day] (fun q => ((balS r l r.too).2 = 20 ∧ q = .tup 2 (nthP [vi 0, vi 20])) ∨ ((balS r l r.too).2 = 0 ∧ ∃ n, RoomR r l day n ∧ q = .tup 2 (nthP [vi n, vi 0]))) := by
  have hf := hr.frm
  have ht := hr.too
  have k0 := balance_c r hr l hl (by omega) r.too hf.2 ht
  have hB : ∀ d, 0 ≤ bkS l d ∧ bkS l d ≤ 1000000000 := fun d => by have := bkS_bd (x := d) hl.min; omega
  have hidle := room_idle hr hl.min (by omega) h1 h2
  have hdl := ds_len r (day :: l.map (·.1)) r.too
  have hdb := ds_bd hr (K := day :: l.map (·.1)) ht
  have k1 := within_t h1 h2
  obtain ⟨X, hX⟩ : ∃ X, X = balS r l r.too := ⟨_, rfl⟩
  have hX2 : (X.2 = 20 ∧ (passS r (bkS l) (acc0 r) (dsS r (l.map (·.1)) r.too)).2 = false) ∨ (X.2 = 0 ∧ (passS r (bkS l) (acc0 r) (dsS r (l.map (·.1)) r.too)).2 = true) := by
    rw [hX]; unfold balS
    split
    · rename_i h; exact .inr ⟨rfl, h⟩
    · rename_i h; exact .inl ⟨rfl, by simpa using h⟩
  rw [← hX] at k0 ⊢
  refine pure_of (G := G.toPg) (fn := Tryd.f14) Tryd.func14 rfl rfl rfl ?_; intro Γ hk
  repeat' (first | refine yo ?_ ?_ | refine yw ?_ ?_ | refine yk ?_ ?_ | exact trivial | with_reducible refine wA ?_ ?_ | refine ys ?_ ?_ | refine xs_done ?_ | refine yl ?_ ?_ | refine z1 k0 ?_ | refine z2 k0 ?_ | refine z3 k0 ?_ | refine z4 k0 ?_ | refine z5 k0 ?_ | refine w8 ?_ | refine w9 ?_ | refine w1 ?_ | refine w2 ?_ | refine w3 ?_ | refine w4 ?_ | refine w5 ?_ | refine w6 ?_ | refine w7 ?_ | refine yo0 ?_ ?_ | refine yw0 ?_ ?_ | exact qq | fail)
  rcases hX2 with ⟨e, hp⟩ | ⟨e, hp⟩
  · rw [e]
    repeat' (first | refine yo ?_ ?_ | refine yw ?_ ?_ | refine yk ?_ ?_ | exact trivial | with_reducible refine wA ?_ ?_ | refine ys ?_ ?_ | refine xs_done ?_ | refine yl ?_ ?_ | refine w8 ?_ | refine w9 ?_ | refine w1 ?_ | refine w2 ?_ | refine w3 ?_ | refine w4 ?_ | refine w5 ?_ | refine w6 ?_ | refine w7 ?_ | refine yo0 ?_ ?_ | refine yw0 ?_ ?_ | exact qq | fail)
    exact kret [] rfl ⟨trivial, trivial, trivial⟩ (qs := [vi 0, vi 20]) ⟨argVal, argVal, trivial⟩ (.inl ⟨rfl, rfl⟩)
  · rw [e]
    repeat' (first | refine yo ?_ ?_ | refine yw ?_ ?_ | refine yk ?_ ?_ | exact trivial | with_reducible refine wA ?_ ?_ | refine ys ?_ ?_ | refine xs_done ?_ | refine yl ?_ ?_ | refine z1 k1 ?_ | refine z2 k1 ?_ | refine z3 k1 ?_ | refine z4 k1 ?_ | refine z5 k1 ?_ | refine w8 ?_ | refine w9 ?_ | refine w1 ?_ | refine w2 ?_ | refine w3 ?_ | refine w4 ?_ | refine w5 ?_ | refine w6 ?_ | refine w7 ?_ | refine yo0 ?_ ?_ | refine yw0 ?_ ?_ | exact qq | fail)
    refine pop_rowsc [] rfl rfl rfl rfl rfl rfl .nil (sums_r l (by omega) hl.min) (by exact ⟨PEq.refl _, trivial⟩) ?_
    rintro _ _ ⟨rfl, m, rfl, hM⟩
    refine ⟨_, _, rfl, ⟨m_cl _ _, trivial⟩, rfl, ?_⟩
    repeat' (first | refine yo ?_ ?_ | refine yw ?_ ?_ | refine yk ?_ ?_ | exact trivial | with_reducible refine wA ?_ ?_ | refine ys ?_ ?_ | refine xs_done ?_ | refine yl ?_ ?_ | refine w8 ?_ | refine w9 ?_ | refine w1 ?_ | refine w2 ?_ | refine w3 ?_ | refine w4 ?_ | refine w5 ?_ | refine w6 ?_ | refine w7 ?_ | refine yo0 ?_ ?_ | refine yw0 ?_ ?_ | exact qq | fail)
    refine pop_look mapII false day rfl rfl rfl rfl rfl rfl rfl ?_
    rw [hM.val]
    repeat' (first | refine yo ?_ ?_ | refine yw ?_ ?_ | refine yk ?_ ?_ | exact trivial | with_reducible refine wA ?_ ?_ | refine ys ?_ ?_ | refine xs_done ?_ | refine yl ?_ ?_ | refine w8 ?_ | refine w9 ?_ | refine w1 ?_ | refine w2 ?_ | refine w3 ?_ | refine w4 ?_ | refine w5 ?_ | refine w6 ?_ | refine w7 ?_ | refine yo0 ?_ ?_ | refine yw0 ?_ ?_ | exact qq | fail)
    refine pop_mset mapII day (bkS l day) rfl rfl rfl rfl rfl rfl rfl (by rw [hk]; exact Nat.zero_le _) rfl rfl ?_
    have hds : dsS r ((mset m day (bkS l day)).map (·.1)) r.too = dsS r (day :: l.map (·.1)) r.too := ds_congr fun x => by
      rw [mem_mset_keys, List.mem_cons, hM.occ]
    have hlen := len_mset day (bkS l day) m
    have hml := hM.len
    have e1 := eventful_r r hr (mset m day (bkS l day)) (by omega) r.too hf.2 ht
    rw [hds] at e1
    have hval : ∀ x, x ≠ day → (mget (mset m day (bkS l day)) x).getD 0 = bkS l x := fun x hx => by rw [mget_mset, if_neg (Ne.symm hx), hM.val]
    obtain ⟨L, hL⟩ : ∃ L, L = dsS r (day :: l.map (·.1)) r.too := ⟨_, rfl⟩
    rw [← hL] at e1 hdl hdb hidle
    generalize mset m day (bkS l day) = m1 at *
    repeat' (first | refine yo ?_ ?_ | refine yw ?_ ?_ | refine yk ?_ ?_ | exact trivial | with_reducible refine wA ?_ ?_ | refine ys ?_ ?_ | refine xs_done ?_ | refine yl ?_ ?_ | refine w8 ?_ | refine w9 ?_ | refine w1 ?_ | refine w2 ?_ | refine w3 ?_ | refine w4 ?_ | refine w5 ?_ | refine w6 ?_ | refine w7 ?_ | refine yo0 ?_ ?_ | refine yw0 ?_ ?_ | exact qq | fail)
    refine pop_rowsc [2] rfl rfl rfl rfl rfl rfl (.consm rfl rfl m_eq .nil) e1 (by exact ⟨PEq.cl _ (lr_cl r), PEq.refl _, PEq.refl _, trivial⟩) ?_
    rintro _ _ ⟨rfl, rfl⟩
    refine ⟨_, _, rfl, ⟨m_cl _ _, trivial⟩, rfl, ?_⟩
    repeat' (first | refine yo ?_ ?_ | refine yw ?_ ?_ | refine yk ?_ ?_ | exact trivial | with_reducible refine wA ?_ ?_ | refine ys ?_ ?_ | refine xs_done ?_ | refine yl ?_ ?_ | refine w8 ?_ | refine w9 ?_ | refine w1 ?_ | refine w2 ?_ | refine w3 ?_ | refine w4 ?_ | refine w5 ?_ | refine w6 ?_ | refine w7 ?_ | refine yo0 ?_ ?_ | refine yw0 ?_ ?_ | exact qq | fail)
    let cov : Int → Bool := fun n => (passS r (fun x => bkS l x + (if day = x then n else 0)) (acc0 r) L).2
    have hcov0 : cov 0 = true := by
      show (passS r (fun x => bkS l x + (if day = x then 0 else 0)) (acc0 r) L).2 = true
      rw [show (fun x => bkS l x + (if day = x then (0 : Int) else 0)) = bkS l from by funext x; simp, hidle]; exact hp
    have hyes : ∀ n, cov n = true → (balS r (l ++ [(day, n)]) r.too).2 = 0 := fun n h => by
      rw [bal_plus, ← hL, if_pos h]
    have hno : ∀ n, cov n = false → (balS r (l ++ [(day, n)]) r.too).2 = 20 := fun n h => by
      rw [bal_plus, ← hL, if_neg (by rw [show (passS r (fun x => bkS l x + (if day = x then n else 0)) (acc0 r) L).2 = false from h]; decide)]
    refine pcan (st' := ⟨[(2, vi day), (3, .ptr 0 0 0), (10, .mref 1), (11, vi (bkS l day)), (12, vDay L), (13, vi 0), (14, vi 1000001)], [rLR r, mRow kI m1]⟩) (can_rowsv [0, 2] (k0_sel hk rfl) rfl (.cons rfl rqq (.cons rfl m_eq .nil)) tmq) ?_
    refine ploop (fun q st => ∃ (lo hi : Int) (m' : List (Int × Int)), 0 ≤ lo ∧ lo < hi ∧ hi ≤ 1000001 ∧ cov lo = true ∧ (hi = 1000001 ∨ cov hi = false) ∧ (∀ x, x ≠ day → (mget m' x).getD 0 = bkS l x) ∧ q = (hi - lo).toNat ∧ st = ⟨[(2, vi day), (3, .ptr 0 0 0), (10, .mref 1), (11, vi (bkS l day)), (12, vDay L), (13, vi lo), (14, vi hi)], [rLR r, mRow kI m']⟩) 1000001 ⟨0, 1000001, m1, by omega, by omega, by omega, hcov0, .inl rfl, hval, rfl, rfl⟩ ?_
    rintro _ _ ⟨lo, hi, m', a1, a2, a3, a4, a5, a6, rfl, rfl⟩
    have hw1 : IntKind.i64.wrap (hi - lo) = hi - lo := w64 (by omega) (by omega)
    repeat' (first | refine yo ?_ ?_ | refine yw ?_ ?_ | refine yk ?_ ?_ | exact trivial | with_reducible refine wA ?_ ?_ | refine ys ?_ ?_ | refine xs_done ?_ | refine yl ?_ ?_ | refine w8 ?_ | refine w9 ?_ | refine w1 ?_ | refine w2 ?_ | refine w3 ?_ | refine w4 ?_ | refine w5 ?_ | refine w6 ?_ | refine w7 ?_ | refine yo0 ?_ ?_ | refine yw0 ?_ ?_ | exact qq | fail)
    rw [hw1]
    refine pcond rfl ?_ ?_ <;> intro hc <;> simp at hc
    · have hq : (lo + hi).tdiv 2 = (lo + hi) / 2 := Int.tdiv_eq_ediv_of_nonneg (by omega)
      have hw2 : IntKind.i64.wrap ((IntKind.i64.wrap (lo + hi)).tdiv 2) = (lo + hi) / 2 := by rw [w64 (n := lo + hi) (by omega) (by omega), hq, w64 (by omega) (by omega)]
      obtain ⟨mid, hmid⟩ : ∃ x, x = (lo + hi) / 2 := ⟨_, rfl⟩
      have hm1 : lo < mid ∧ mid < hi := by omega
      have hBd := hB day
      have hw3 : IntKind.i64.wrap (bkS l day + mid) = bkS l day + mid := w64 (by omega) (by omega)
      have e2 := pass_r r hr (mset m' day (bkS l day + mid)) (fun x => bkS l x + (if day = x then mid else 0)) (fun d => by
        rw [mget_mset]
        by_cases h : day = d
        · subst h; rw [if_pos rfl]; simp
        · rw [if_neg h, a6 d (Ne.symm h)]; simp [h]) (fun d => by have := hB d; split <;> omega) L (by omega) hdb
      have hcm : (passS r (fun x => bkS l x + (if day = x then mid else 0)) (acc0 r) L).2 = cov mid := rfl
      have hval' : ∀ x, x ≠ day → (mget (mset m' day (bkS l day + mid)) x).getD 0 = bkS l x := fun x hx => by rw [mget_mset, if_neg (Ne.symm hx), a6 x hx]
      rw [hcm] at e2
      generalize (passS r (fun x => bkS l x + (if day = x then mid else 0)) (acc0 r) L).1 = A at e2
      repeat' (first | refine yo ?_ ?_ | refine yw ?_ ?_ | refine yk ?_ ?_ | exact trivial | with_reducible refine wA ?_ ?_ | refine ys ?_ ?_ | refine xs_done ?_ | refine yl ?_ ?_ | refine w8 ?_ | refine w9 ?_ | refine w1 ?_ | refine w2 ?_ | refine w3 ?_ | refine w4 ?_ | refine w5 ?_ | refine w6 ?_ | refine w7 ?_ | refine yo0 ?_ ?_ | refine yw0 ?_ ?_ | exact qq | fail)
      · exact (show (2 : Int) ≠ 0 from by decide)
      rw [hw2, ← hmid, hw3]
      refine pop_mset mapII day (bkS l day + mid) rfl rfl rfl rfl rfl rfl rfl (by rw [hk]; exact Nat.zero_le _) rfl rfl ?_
      generalize mset m' day (bkS l day + mid) = m2 at *
      repeat' (first | refine yo ?_ ?_ | refine yw ?_ ?_ | refine yk ?_ ?_ | exact trivial | with_reducible refine wA ?_ ?_ | refine ys ?_ ?_ | refine xs_done ?_ | refine yl ?_ ?_ | refine w8 ?_ | refine w9 ?_ | refine w1 ?_ | refine w2 ?_ | refine w3 ?_ | refine w4 ?_ | refine w5 ?_ | refine w6 ?_ | refine w7 ?_ | refine yo0 ?_ ?_ | refine yw0 ?_ ?_ | exact qq | fail)
      refine pop_rowsc [1] rfl rfl rfl rfl rfl rfl (.consm rfl rfl m_eq .nil) e2 (by exact ⟨PEq.cl _ (lr_cl r), PEq.refl _, PEq.refl _, trivial⟩) ?_
      rintro _ _ ⟨rfl, rfl⟩
      refine ⟨_, _, rfl, ⟨m_cl _ _, rlr_cl r, rac_cl _, trivial⟩, rfl, ?_⟩
      cases hcv : cov mid with
      | true =>
        repeat' (first | refine yo ?_ ?_ | refine yw ?_ ?_ | refine yk ?_ ?_ | exact trivial | with_reducible refine wA ?_ ?_ | refine ys ?_ ?_ | refine xs_done ?_ | refine yl ?_ ?_ | refine w8 ?_ | refine w9 ?_ | refine w1 ?_ | refine w2 ?_ | refine w3 ?_ | refine w4 ?_ | refine w5 ?_ | refine w6 ?_ | refine w7 ?_ | refine yo0 ?_ ?_ | refine yw0 ?_ ?_ | exact qq | fail)
        exact kloop_next (st' := ⟨[(2, vi day), (3, .ptr 0 0 0), (10, .mref 1), (11, vi (bkS l day)), (12, vDay L), (13, vi mid), (14, vi hi)], [rLR r, mRow kI m2]⟩) (hi - mid).toNat (can_rowsv [0, 1] (k0_sel hk rfl) rfl (.cons rfl rqq (.cons rfl m_eq .nil)) tmq) (by omega) ⟨mid, hi, m2, by omega, by omega, a3, hcv, a5, hval', rfl, rfl⟩
      | false =>
        repeat' (first | refine yo ?_ ?_ | refine yw ?_ ?_ | refine yk ?_ ?_ | exact trivial | with_reducible refine wA ?_ ?_ | refine ys ?_ ?_ | refine xs_done ?_ | refine yl ?_ ?_ | refine w8 ?_ | refine w9 ?_ | refine w1 ?_ | refine w2 ?_ | refine w3 ?_ | refine w4 ?_ | refine w5 ?_ | refine w6 ?_ | refine w7 ?_ | refine yo0 ?_ ?_ | refine yw0 ?_ ?_ | exact qq | fail)
        exact kloop_next (st' := ⟨[(2, vi day), (3, .ptr 0 0 0), (10, .mref 1), (11, vi (bkS l day)), (12, vDay L), (13, vi lo), (14, vi mid)], [rLR r, mRow kI m2]⟩) (mid - lo).toNat (can_rowsv [0, 1] (k0_sel hk rfl) rfl (.cons rfl rqq (.cons rfl m_eq .nil)) tmq) (by omega) ⟨lo, mid, m2, a1, by omega, by omega, a4, .inr hcv, hval', rfl, rfl⟩
    · repeat' (first | refine yo ?_ ?_ | refine yw ?_ ?_ | refine yk ?_ ?_ | exact trivial | with_reducible refine wA ?_ ?_ | refine ys ?_ ?_ | refine xs_done ?_ | refine yl ?_ ?_ | refine w8 ?_ | refine w9 ?_ | refine w1 ?_ | refine w2 ?_ | refine w3 ?_ | refine w4 ?_ | refine w5 ?_ | refine w6 ?_ | refine w7 ?_ | refine yo0 ?_ ?_ | refine yw0 ?_ ?_ | exact qq | fail)
      refine xdone ?_
      refine kret [] rfl ⟨trivial, trivial, trivial⟩ (qs := [vi lo, vi 0]) ⟨argVal, argVal, trivial⟩ (.inr ⟨rfl, lo, ⟨a1, by omega, hyes lo a4, ?_⟩, rfl⟩)
      rcases a5 with h | h
      · exact .inl (by omega)
      · exact .inr (by rw [show lo + 1 = hi by omega]; exact hno hi h)
end Go.Proofs.YtpaeomgnmimjoaaDoor
