/- payrolllaw22: ValueReference. -/
import Derived.Test.YtcghpepighboaaaDoorPer3
import Derived.Test.YtcghpepighboaaaDoorV22
import Derived.Test.YtcghpepighboaaaDoorBridge
import Derived.Test.YtcghpepighboaaaDoorGlo
set_option linter.unusedSimpArgs false
set_option linter.unusedVariables false
set_option maxRecDepth 100000
namespace Go.Proofs.YtcghpepighboaaaDoor
theorem calendar_t : TapC G.P 17 [vb true] (fun r => ∃ k a : Int, r = vC k a) := by
  intro n g at_ hn h1 h2
  refine ptr_of (G := G.toPg) (fn := Tryd.f17) Tryd.func17 rfl rfl rfl ?_; intro Γ hk
  repeat' (first | refine yo ?_ ?_ | refine yw ?_ ?_ | refine yk ?_ ?_ | exact trivial | with_reducible refine wA ?_ ?_ | refine ys ?_ ?_ | refine xs_done ?_ | refine yl ?_ ?_ | (refine tn1 hn ?_; rintro at_ b1 b2 x hx1 hx2) | (refine pop_tapl (G := G) rfl rfl rfl rfl rfl rfl rfl rfl rfl rfl rfl (by omega) rfl (fun _ => rfl) rfl (pick_t _ _ rfl (by decide) (by decide)) hn (by assumption) (by assumption) ?_; rintro at_ _ b1 b2 ⟨x, rfl, hx⟩; simp only [unL, List.mem_cons, List.not_mem_nil, or_false] at hx) | (refine pop_opt 23 rfl rfl ?_) | (refine pop_unguard rfl rfl ?_) | refine w8 ?_ | refine w9 ?_ | refine w1 ?_ | refine w2 ?_ | refine w3 ?_ | refine w4 ?_ | refine w5 ?_ | refine w6 ?_ | refine w7 ?_ | refine yo0 ?_ ?_ | refine yw0 ?_ ?_ | (refine pcond rfl ?_ ?_ <;> intro hc) | exact qq | fail)
  all_goals
    refine xdone ?_
    exact ktap rfl (by assumption) (by assumption) rfl ⟨Nat.zero_lt_one, trivial⟩ rfl ⟨_, _, rfl⟩
theorem refS_len (k a n count : Int) (m : Nat) (x : Nat → Int) : (refS k a n count m x).1.length ≤ 120 := by
  unfold refS
  split
  · simp
  split
  · simp
  · have := refL_len (exI m x) n.toNat count.toNat
    dsimp only
    omega
abbrev rCl (k a : Int) : Row := ⟨.own, true, 1, 2, fun _ => nthP [vi k, vi a]⟩
set_option maxHeartbeats 8000000 in
theorem reference_c (n : Nat) (g : Nat → Int) (per count : Int) (m : Nat) (h : Nat → Int) (hn : n ≤ 9223372036854775807) : PureC G.P 4 [.vsl n 1 (tI g), vi per, vi count, .vsl m 1 (tI h)] (fun r => r = vb true) := by
  have cs := sane22_c
  refine pure_of (G := G.toPg) (fn := Tryd.f4) Tryd.func4 rfl rfl rfl ?_; intro Γ hk
  repeat' (first | refine yo ?_ ?_ | refine yw ?_ ?_ | refine yk ?_ ?_ | exact trivial | with_reducible refine wA ?_ ?_ | refine ys ?_ ?_ | refine xs_done ?_ | refine yl ?_ ?_ | refine w8 ?_ | refine w9 ?_ | refine w1 ?_ | refine w2 ?_ | refine w3 ?_ | refine w4 ?_ | refine w5 ?_ | refine w6 ?_ | refine w7 ?_ | refine yo0 ?_ ?_ | refine yw0 ?_ ?_ | exact qq | fail)
  refine pop_rowsc [] rfl rfl rfl rfl rfl rfl .nil (new_c n g) (by exact ⟨PEq.refl _, trivial⟩) ?_
  rintro r rows ⟨rfl, rfl⟩
  refine ⟨_, _, rfl, ⟨tape_cl _ _ _, trivial⟩, rfl, ?_⟩
  repeat' (first | refine yo ?_ ?_ | refine yw ?_ ?_ | refine yk ?_ ?_ | exact trivial | with_reducible refine wA ?_ ?_ | refine ys ?_ ?_ | refine xs_done ?_ | refine yl ?_ ?_ | refine w8 ?_ | refine w9 ?_ | refine w1 ?_ | refine w2 ?_ | refine w3 ?_ | refine w4 ?_ | refine w5 ?_ | refine w6 ?_ | refine w7 ?_ | refine yo0 ?_ ?_ | refine yw0 ?_ ?_ | exact qq | fail)
  refine pcan (st' := ⟨[(1, vi per), (2, vi count), (3, .vsl m 1 (tI h)), (9, .ptr 0 0 0), (10, vi ((0 : Nat) : Int))], [tapeRow n g 0]⟩) (can_rowsv [0] (k0_sel hk rfl) rfl (.cons rfl (RowEq.cl (tape_cl _ _ _)) .nil) tmq) ?_
  refine ploop (fun q st => ∃ (at' : Int) (i : Nat), 0 ≤ at' ∧ at' ≤ n ∧ i ≤ 3 ∧ q = 3 - i ∧ st = ⟨[(1, vi per), (2, vi count), (3, .vsl m 1 (tI h)), (9, .ptr 0 0 0), (10, vi i)], [tapeRow n g at']⟩) 3 ⟨0, 0, by omega, by omega, by omega, rfl, rfl⟩ ?_
  rintro _ _ ⟨at', i, b1, b2, hi, rfl, rfl⟩
  have hwi : IntKind.i64.wrap ((i : Int) + 1) = ((i + 1 : Nat) : Int) := w64 (by omega) (by omega)
  repeat' (first | refine yo ?_ ?_ | refine yw ?_ ?_ | refine yk ?_ ?_ | exact trivial | with_reducible refine wA ?_ ?_ | refine ys ?_ ?_ | refine xs_done ?_ | refine yl ?_ ?_ | refine w8 ?_ | refine w9 ?_ | refine w1 ?_ | refine w2 ?_ | refine w3 ?_ | refine w4 ?_ | refine w5 ?_ | refine w6 ?_ | refine w7 ?_ | refine yo0 ?_ ?_ | refine yw0 ?_ ?_ | exact qq | fail)
  refine pcond rfl ?_ ?_ <;> intro hc <;> simp at hc
  · repeat' (first | refine yo ?_ ?_ | refine yw ?_ ?_ | refine yk ?_ ?_ | exact trivial | with_reducible refine wA ?_ ?_ | refine ys ?_ ?_ | refine xs_done ?_ | refine yl ?_ ?_ | (refine t1 calendar_t hn ?_; rintro at_ _ b1 b2 ⟨k, a, rfl⟩) | (refine t2 calendar_t hn ?_; rintro at_ _ b1 b2 ⟨k, a, rfl⟩) | (refine t3 calendar_t hn ?_; rintro at_ _ b1 b2 ⟨k, a, rfl⟩) | (refine tn1 hn ?_; rintro at_ b1 b2 x hx1 hx2) | (refine pop_tapl (G := G) rfl rfl rfl rfl rfl rfl rfl rfl rfl rfl rfl (by omega) rfl (fun _ => rfl) rfl (pick_t _ _ rfl (by decide) (by decide)) hn (by assumption) (by assumption) ?_; rintro at_ _ b1 b2 ⟨x, rfl, hx⟩; simp only [unL, List.mem_cons, List.not_mem_nil, or_false] at hx) | refine w8 ?_ | refine w9 ?_ | refine w1 ?_ | refine w2 ?_ | refine w3 ?_ | refine w4 ?_ | refine w5 ?_ | refine w6 ?_ | refine w7 ?_ | refine yo0 ?_ ?_ | refine yw0 ?_ ?_ | exact qq | fail)
    rename_i M hM1 hM2 _ _ _ y
    have hw1 : IntKind.i64.wrap (M - 1) = M - 1 := w64 (by omega) (by omega)
    have hw2 : IntKind.i64.wrap (M - 1 + 2) = M + 1 := by rw [w64 (by omega) (by omega)]; omega
    have hw3 : IntKind.i64.wrap (M - 1 - 1) = M - 2 := by rw [w64 (by omega) (by omega)]; omega
    have hw4 : IntKind.i64.wrap (M - 1 - 3) = M - 4 := by rw [w64 (by omega) (by omega)]; omega
    rw [hw1, hw2]
    refine tn1 hn ?_
    intro at1 c1 c2 z hz1 hz2
    repeat' (first | refine yo ?_ ?_ | refine yw ?_ ?_ | refine yk ?_ ?_ | exact trivial | with_reducible refine wA ?_ ?_ | refine ys ?_ ?_ | refine xs_done ?_ | refine yl ?_ ?_ | refine w8 ?_ | refine w9 ?_ | refine w1 ?_ | refine w2 ?_ | refine w3 ?_ | refine w4 ?_ | refine w5 ?_ | refine w6 ?_ | refine w7 ?_ | refine yo0 ?_ ?_ | refine yw0 ?_ ?_ | exact qq | fail)
    refine pcut (fun st => ∃ (p c : Int) (m' : Nat) (h' : Nat → Int), m' ≤ 1024 ∧ st = ⟨[(1, vi per), (2, vi count), (3, .vsl m 1 (tI h)), (9, .ptr 0 0 0), (10, vi i), (11, .ptr 1 0 0), (12, vi p), (13, vi c), (14, .vsl m' 1 (tI h'))], [tapeRow n g at1, rCl k a]⟩) ?_ ?_
    · refine pcond rfl ?_ ?_ <;> intro hq
      · have hm : m ≤ 100 := by
          cases h2 : ((i : Int) == 2) with
          | false => rw [h2] at hq; cases hq
          | true => rw [h2] at hq; have := of_decide_eq_true (show decide ((m : Int) ≤ 100) = true from hq); omega
        repeat' (first | refine yo ?_ ?_ | refine yw ?_ ?_ | refine yk ?_ ?_ | exact trivial | with_reducible refine wA ?_ ?_ | refine ys ?_ ?_ | refine xs_done ?_ | refine yl ?_ ?_ | refine w8 ?_ | refine w9 ?_ | refine w1 ?_ | refine w2 ?_ | refine w3 ?_ | refine w4 ?_ | refine w5 ?_ | refine w6 ?_ | refine w7 ?_ | refine yo0 ?_ ?_ | refine yw0 ?_ ?_ | exact qq | fail)
        exact kcut (st' := ⟨[(1, vi per), (2, vi count), (3, .vsl m 1 (tI h)), (9, .ptr 0 0 0), (10, vi i), (11, .ptr 1 0 0), (12, vi per), (13, vi count), (14, .vsl m 1 (tI h))], [tapeRow n g at1, rCl k a]⟩) (can_rowsv [0, 1] (k0_sel hk rfl) rfl (.cons rfl (RowEq.cl (tape_cl _ _ _)) (.cons rfl rqq .nil)) tmq) ⟨_, _, m, h, by omega, rfl⟩
      · rw [hw3, hw4]
        repeat' (first | refine yo ?_ ?_ | refine yw ?_ ?_ | refine yk ?_ ?_ | exact trivial | with_reducible refine wA ?_ ?_ | refine ys ?_ ?_ | refine xs_done ?_ | refine yl ?_ ?_ | refine w8 ?_ | refine w9 ?_ | refine w1 ?_ | refine w2 ?_ | refine w3 ?_ | refine w4 ?_ | refine w5 ?_ | refine w6 ?_ | refine w7 ?_ | refine yo0 ?_ ?_ | refine yw0 ?_ ?_ | exact qq | fail)
        refine kcut ((can_frz [3] (by intro l hl; rw [hk]; exact Nat.zero_le _) rfl (tm := [(1, vi per), (2, vi count), (3, .vsl m 1 (tI h)), (9, .ptr 0 0 0), (10, vi i), (11, .ptr 1 0 0), (12, vi (M - 1)), (13, vi x), (14, .vsl 3 1 (tI (lF 0 [M - 2, z, M - 4])))]) (by exact ⟨.inl rfl, .inl rfl, .inl rfl, .inl rfl, .inl rfl, .inl rfl, .inl rfl, .inl rfl, .inr (argLsl (r := ⟨.own, false, 3, 1, _⟩) rfl trivial (List.Mem.head _) (Nat.le_refl _) fun a ha b hb => ⟨by
          have hb : b < 1 := hb
          obtain rfl : b = 0 := by omega
          rcases (by omega : a = 0 ∨ a = 1 ∨ a = 2) with rfl | rfl | rfl <;> rfl, trivial⟩), trivial⟩)).trans (can_rowsv [0, 1] (rows := [tapeRow n g at1, rCl k a]) (tm := [(1, vi per), (2, vi count), (3, .vsl m 1 (tI h)), (9, .ptr 0 0 0), (10, vi i), (11, .ptr 1 0 0), (12, vi (M - 1)), (13, vi x), (14, .vsl 3 1 (tI (lF 0 [M - 2, z, M - 4])))]) (k0_sel hk rfl) rfl (.cons rfl (RowEq.cl (tape_cl _ _ _)) (.cons rfl rqq .nil)) tmq)) ⟨_, _, 3, _, by omega, rfl⟩
    rintro _ ⟨p, c, m', h', hm', rfl⟩
    have eV := refV_c k a p c m' h' hm'
    have eR := refR_c k a p c m' h' hm'
    have hRl := refS_len k a p c m' h'
    generalize refS k a p c m' h' = R at *
    obtain ⟨R, E⟩ := R
    have hRl : R.length ≤ 120 := hRl
    repeat' (first | refine yo ?_ ?_ | refine yw ?_ ?_ | refine yk ?_ ?_ | exact trivial | with_reducible refine wA ?_ ?_ | refine ys ?_ ?_ | refine xs_done ?_ | refine yl ?_ ?_ | (refine pop_callc [] rfl rfl rfl rfl rfl rfl (fun _ h => by cases h) (eV) (args_cl _ rfl) ?_; rintro _ rfl) | (refine pop_callc [] rfl rfl rfl rfl rfl rfl (fun _ h => by cases h) (eR) (args_cl _ rfl) ?_; rintro _ rfl) | refine w8 ?_ | refine w9 ?_ | refine w1 ?_ | refine w2 ?_ | refine w3 ?_ | refine w4 ?_ | refine w5 ?_ | refine w6 ?_ | refine w7 ?_ | refine yo0 ?_ ?_ | refine yw0 ?_ ?_ | exact qq | fail)
    refine pcond_n rfl (by simp) ?_
    repeat' (first | refine yo ?_ ?_ | refine yw ?_ ?_ | refine yk ?_ ?_ | exact trivial | with_reducible refine wA ?_ ?_ | refine ys ?_ ?_ | refine xs_done ?_ | refine yl ?_ ?_ | refine w8 ?_ | refine w9 ?_ | refine w1 ?_ | refine w2 ?_ | refine w3 ?_ | refine w4 ?_ | refine w5 ?_ | refine w6 ?_ | refine w7 ?_ | refine yo0 ?_ ?_ | refine yw0 ?_ ?_ | exact qq | fail)
    refine pcan (st' := ⟨[(1, vi per), (2, vi count), (3, .vsl m 1 (tI h)), (9, .ptr 0 0 0), (10, vi i), (15, vLi R), (17, vLi R), (19, vi ((0 : Nat) : Int))], [tapeRow n g at1]⟩) (can_rowsv [0] (k0_sel hk rfl) rfl (.cons rfl (RowEq.cl (tape_cl _ _ _)) .nil) tmq) ?_
    refine ploop (fun q st => ∃ j : Nat, j ≤ R.length ∧ q = R.length - j ∧ st = ⟨[(1, vi per), (2, vi count), (3, .vsl m 1 (tI h)), (9, .ptr 0 0 0), (10, vi i), (15, vLi R), (17, vLi R), (19, vi j)], [tapeRow n g at1]⟩) R.length ⟨0, by omega, rfl, rfl⟩ ?_
    rintro _ _ ⟨j, hj, rfl, rfl⟩
    have hwj : IntKind.i64.wrap ((j : Int) + 1) = ((j + 1 : Nat) : Int) := w64 (by omega) (by omega)
    repeat' (first | refine yo ?_ ?_ | refine yw ?_ ?_ | refine yk ?_ ?_ | exact trivial | with_reducible refine wA ?_ ?_ | refine ys ?_ ?_ | refine xs_done ?_ | refine yl ?_ ?_ | refine w8 ?_ | refine w9 ?_ | refine w1 ?_ | refine w2 ?_ | refine w3 ?_ | refine w4 ?_ | refine w5 ?_ | refine w6 ?_ | refine w7 ?_ | refine yo0 ?_ ?_ | refine yw0 ?_ ?_ | exact qq | fail)
    refine pcond rfl ?_ ?_ <;> intro hc2 <;> simp at hc2
    · repeat' (first | refine yo ?_ ?_ | refine yw ?_ ?_ | refine yk ?_ ?_ | exact trivial | with_reducible refine wA ?_ ?_ | refine ys ?_ ?_ | refine xs_done ?_ | refine yl ?_ ?_ | refine xs_start (id := 16) true [.take 0, .take 1, .take 2, .take 3, .take 4, .take 5, .take 6, .take 7, .take 8] 0 rfl rfl (by kernel_rfl) ?_ | refine w8 ?_ | refine w9 ?_ | refine w1 ?_ | refine w2 ?_ | refine w3 ?_ | refine w4 ?_ | refine w5 ?_ | refine w6 ?_ | refine w7 ?_ | refine yo0 ?_ ?_ | refine yw0 ?_ ?_ | exact qq | fail)
      refine pcond_n rfl (by simp) ?_
      repeat' (first | refine yo ?_ ?_ | refine yw ?_ ?_ | refine yk ?_ ?_ | exact trivial | with_reducible refine wA ?_ ?_ | refine ys ?_ ?_ | refine xs_done ?_ | refine yl ?_ ?_ | refine w8 ?_ | refine w9 ?_ | refine w1 ?_ | refine w2 ?_ | refine w3 ?_ | refine w4 ?_ | refine w5 ?_ | refine w6 ?_ | refine w7 ?_ | refine yo0 ?_ ?_ | refine yw0 ?_ ?_ | exact qq | fail)
      refine xdone ?_
      rw [hwj]
      exact kloop_next (st' := ⟨[(1, vi per), (2, vi count), (3, .vsl m 1 (tI h)), (9, .ptr 0 0 0), (10, vi i), (15, vLi R), (17, vLi R), (19, vi ((j + 1 : Nat) : Int))], [tapeRow n g at1]⟩) (R.length - (j + 1)) (can_rowsv [0] (k0_sel hk rfl) rfl (.cons rfl (RowEq.cl (tape_cl _ _ _)) .nil) tmq) (by omega) ⟨j + 1, by omega, rfl, rfl⟩
    · repeat' (first | refine yo ?_ ?_ | refine yw ?_ ?_ | refine yk ?_ ?_ | exact trivial | with_reducible refine wA ?_ ?_ | refine ys ?_ ?_ | refine xs_done ?_ | refine yl ?_ ?_ | refine w8 ?_ | refine w9 ?_ | refine w1 ?_ | refine w2 ?_ | refine w3 ?_ | refine w4 ?_ | refine w5 ?_ | refine w6 ?_ | refine w7 ?_ | refine yo0 ?_ ?_ | refine yw0 ?_ ?_ | exact qq | fail)
      refine xdone ?_
      rw [hwi]
      exact kloop_next (st' := ⟨[(1, vi per), (2, vi count), (3, .vsl m 1 (tI h)), (9, .ptr 0 0 0), (10, vi ((i + 1 : Nat) : Int))], [tapeRow n g at1]⟩) (3 - (i + 1)) (can_rowsv [0] (k0_sel hk rfl) rfl (.cons rfl (RowEq.cl (tape_cl _ _ _)) .nil) tmq) (by omega) ⟨_, i + 1, c1, c2, by omega, rfl, rfl⟩
  · repeat' (first | refine yo ?_ ?_ | refine yw ?_ ?_ | refine yk ?_ ?_ | exact trivial | with_reducible refine wA ?_ ?_ | refine ys ?_ ?_ | refine xs_done ?_ | refine yl ?_ ?_ | refine z1 cs ?_ | refine z2 cs ?_ | refine z3 cs ?_ | refine z4 cs ?_ | refine z5 cs ?_ | refine w8 ?_ | refine w9 ?_ | refine w1 ?_ | refine w2 ?_ | refine w3 ?_ | refine w4 ?_ | refine w5 ?_ | refine w6 ?_ | refine w7 ?_ | refine yo0 ?_ ?_ | refine yw0 ?_ ?_ | exact qq | fail)
    refine xdone ?_
    exact kretv rfl ⟨trivial, trivial⟩ rfl rfl
theorem reference_walk (v : Value) (l : List Int) (per count : Int) (v2 : Value) (l2 : List Int) (w : World) (h : IntsAt w v l) (h2 : IntsAt w v2 l2) (hG : GOk (fun b => b < w.heap.size) w) : Calls G.P 4 #[v, .int .i64 per, .int .i64 count, v2] w fun e w' => e = .returned (.bool true) ∧ Ext w w' := by
  have hl : l.length ≤ 9223372036854775807 := by obtain ⟨_, _, _, _, h, _⟩ := h; exact h
  exact law_of (vs := [v, .int .i64 per, .int .i64 count, v2]) (reference_c l.length _ per count l2.length _ hl) ⟨h.rel _, rfl, rfl, h2.rel _, trivial⟩ hG
end Go.Proofs.YtcghpepighboaaaDoor
