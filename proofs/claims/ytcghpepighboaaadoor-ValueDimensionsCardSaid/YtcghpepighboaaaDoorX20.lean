/- payrollgen: scales. -/
import Derived.Test.YtcghpepighboaaaDoorX11
import Derived.Test.YtcghpepighboaaaDoorX9
import Derived.Test.YtcghpepighboaaaDoorPvF
set_option linter.unusedSimpArgs false
set_option linter.unusedVariables false
set_option maxRecDepth 100000
namespace Go.Proofs.YtcghpepighboaaaDoor
abbrev dE : En := (0, 0, 0)
structure EnOk (E : List En) (key : Int) : Prop where
  asc : E.Pairwise (fun a b => a.1 < b.1)
  all : ∀ e, e ∈ E → 0 ≤ e.1 ∧ e.1 < key ∧ e.2 ∈ decL
theorem EnOk.snoc {E : List En} {key : Int} (h : EnOk E key) (h0 : 0 ≤ key) {x : Int × Int} (hx : x ∈ decL) {k' : Int} (hk : key < k') : EnOk (E ++ [(key, x)]) k' := by
  refine ⟨List.pairwise_append.2 ⟨h.asc, by simp, fun a ha b hb => ?_⟩, fun e he => ?_⟩
  · obtain rfl : b = (key, x) := by simpa using hb
    exact (h.all a ha).2.1
  · rcases List.mem_append.1 he with he | he
    · have := h.all e he; exact ⟨this.1, by omega, this.2.2⟩
    · obtain rfl : e = (key, x) := by simpa using he
      exact ⟨h0, hk, hx⟩
theorem dec_ok : ∀ x ∈ decL, -9223372036854775808 ≤ x.1 ∧ x.1 ≤ 9223372036854775807 ∧ decS x.1 x.2 = true := by decide +kernel
theorem EnOk.ents {E : List En} {key : Int} (h : EnOk E key) (hk : key ≤ 1000000) (h1 : 1 ≤ E.length) (h2 : E.length ≤ 64) : entsS E.length (lF dE E) = true := by
  have hg : ∀ i (hi : i < E.length), lF dE E i = E[i] := fun i hi => by unfold lF; rw [List.getD_eq_getElem?_getD, List.getElem?_eq_getElem hi]; rfl
  unfold entsS
  rw [decide_eq_true (by omega : 1 ≤ E.length ∧ E.length ≤ 64), Bool.true_and, allK_iff]
  intro i hi
  have ha := h.all _ (List.getElem_mem hi)
  have hd := (dec_ok _ ha.2.2).2.2
  rw [hg i hi, hd, Bool.and_true, decide_eq_true_eq]
  refine ⟨?_, by omega⟩
  by_cases h0 : i = 0
  · rw [if_pos h0]; omega
  · rw [if_neg h0, hg (i - 1) (by omega)]
    exact List.pairwise_iff_getElem.1 h.asc (i - 1) i (by omega) hi (by omega)
structure ScOk (nm : ByteArray) (t : Ty) (day : Int) (d : Df) : Prop where
  eq : d = ⟨2, nm, t, day, d.ne, d.ef, .nil, 0, 0, 0⟩
  en : entsS d.ne d.ef = true
  ef : ∀ i, i < d.ne → -9223372036854775808 ≤ (d.ef i).2.1 ∧ (d.ef i).2.1 ≤ 9223372036854775807
  ne : d.ne ≤ 64
  dl : ∀ i, i < d.ne → (d.ef i).2 ∈ decL ∧ -1000000000000 ≤ (d.ef i).1 ∧ (d.ef i).1 ≤ 1000000000000
abbrev rScl (nm : ByteArray) (t : Ty) (day : Int) (k l : Nat) : List PV := [vi 2, vs nm, vb t.b, vi t.m, vi t.h, vi t.d, vi day, slP k l, vi 0, vi 0, vi 0, vi 0, vi 0, vi 0, vs ⟨#[]⟩, vi 0, vi 0, .val (.slice none 0 0), vi 0, vi 0, vi 0]
abbrev zD : List PV := [vi 0, vs ⟨#[]⟩, vb false, vi 0, vi 0, vi 0, vi 0, .val (.slice none 0 0), vi 0, vi 0, vi 0, vi 0, vi 0, vi 0, vs ⟨#[]⟩, vi 0, vi 0, .val (.slice none 0 0), vi 0, vi 0, vi 0]
theorem argSc19 {mem : List Row} {L : List Nat} {nm : ByteArray} {t : Ty} {day : Int} {p : PV} {ne : Nat} {ef : Nat → En} (h : ArgOk mem L p (.vsl ne 3 (tF cN3 ef))) : ArgOk mem L (.agg 21 (nthP [vi 2, vs nm, vb t.b, vi t.m, vi t.h, vi t.d, vi day, p, vi 0, vi 0, vi 0, vi 0, vi 0, vi 0, vs ⟨#[]⟩, vi 0, vi 0, .val (.slice none 0 0), vi 0, vi 0, vi 0])) (vD ⟨2, nm, t, day, ne, ef, .nil, 0, 0, 0⟩) := argAggL fun i hi => by
  rcases (by omega : i = 0 ∨ i = 1 ∨ i = 2 ∨ i = 3 ∨ i = 4 ∨ i = 5 ∨ i = 6 ∨ i = 7 ∨ i = 8 ∨ i = 9 ∨ i = 10 ∨ i = 11 ∨ i = 12 ∨ i = 13 ∨ i = 14 ∨ i = 15 ∨ i = 16 ∨ i = 17 ∨ i = 18 ∨ i = 19 ∨ i = 20) with rfl | rfl | rfl | rfl | rfl | rfl | rfl | rfl | rfl | rfl | rfl | rfl | rfl | rfl | rfl | rfl | rfl | rfl | rfl | rfl | rfl
  · exact argVal
  · exact argVal
  · exact argVal
  · exact argVal
  · exact argVal
  · exact argVal
  · exact argVal
  · exact h
  · exact argVal
  · exact argVal
  · exact argVal
  · exact argVal
  · exact argVal
  · exact argVal
  · exact argVal
  · exact argVal
  · exact argVal
  · exact argNil
  · exact argVal
  · exact argVal
  · exact argVal
set_option maxHeartbeats 4000000 in
theorem scale_t (nm : ByteArray) (t : Ty) (day : Int) : TapC G.P 27 [vs nm, vT t, vi day] (fun r => ∃ d : Df, r = vD d ∧ ScOk nm t day d) := by
  intro n g at_ hn h1 h2
  refine ptr_of (G := G.toPg) (fn := Tryd.f27) Tryd.func27 rfl rfl rfl ?_; intro Γ hk
  repeat' (first | refine yo ?_ ?_ | refine yw ?_ ?_ | refine yk ?_ ?_ | exact trivial | with_reducible refine wA ?_ ?_ | refine ys ?_ ?_ | refine xs_done ?_ | refine yl ?_ ?_ | (refine tn1 hn ?_; rintro at_ b1 b2 x hx1 hx2) | refine w8 ?_ | refine w9 ?_ | refine w1 ?_ | refine w2 ?_ | refine w3 ?_ | refine w4 ?_ | refine w5 ?_ | refine w6 ?_ | refine w7 ?_ | refine yo0 ?_ ?_ | refine yw0 ?_ ?_ | exact qq | fail)
  rename_i key hk1 hk2
  obtain ⟨X, rfl⟩ := Int.eq_ofNat_of_zero_le hx1
  have hw : IntKind.i64.wrap (1 + (X : Int)) = ((X + 1 : Nat) : Int) := by rw [w64 (by omega) (by omega)]; omega
  rw [hw]
  refine pcan (can_virt (vRow cN3 3 0 (lF dE [])) rfl) ?_
  refine pcan (st' := ⟨[(0, .ptr 0 0 0), (8, .ptr 1 0 0), (9, .ptr 2 0 0), (10, vi key), (11, vi ((X + 1 : Nat) : Int))], [tapeRow n g at_, ⟨.own, true, 1, 21, fun _ => nthP zD⟩, ⟨.own, true, 1, 21, fun _ => nthP (rScl nm t day 0 3)⟩, vRow cN3 3 0 (lF dE [])]⟩) (can_rowsv [0, 2, 3, 4] (k0_sel hk rfl) rfl (.cons rfl (RowEq.cl (tape_cl _ _ _)) (.cons rfl rqq (.cons rfl rqq (.cons rfl (RowEq.cl (v_cl cN3_cl _ _ _)) .nil)))) (by (repeat refine ⟨PEq.refl _, ?_⟩); exact trivial)) ?_
  refine ploop (fun q st => ∃ (at' : Int) (i k : Nat) (E : List En) (ky : Int), 0 ≤ at' ∧ at' ≤ n ∧ E.length = k ∧ k + i = X + 1 ∧ q = i ∧ EnOk E ky ∧ 0 ≤ ky ∧ ky ≤ 1 + 4 * k ∧ st = ⟨[(0, .ptr 0 0 0), (8, .ptr 1 0 0), (9, .ptr 2 0 0), (10, vi ky), (11, vi i)], [tapeRow n g at', ⟨.own, true, 1, 21, fun _ => nthP zD⟩, ⟨.own, true, 1, 21, fun _ => nthP (rScl nm t day k 3)⟩, vRow cN3 3 k (lF dE E)]⟩) (X + 1) ⟨at_, X + 1, 0, [], key, b1, b2, rfl, by omega, rfl, ⟨List.Pairwise.nil, by simp⟩, hk1, by omega, rfl⟩ ?_
  rintro i _ ⟨at', _, k, E, ky, b1, b2, hEk, hki, rfl, hE, hky0, hky1, rfl⟩
  repeat' (first | refine yo ?_ ?_ | refine yw ?_ ?_ | refine yk ?_ ?_ | exact trivial | with_reducible refine wA ?_ ?_ | refine ys ?_ ?_ | refine xs_done ?_ | refine yl ?_ ?_ | refine w8 ?_ | refine w9 ?_ | refine w1 ?_ | refine w2 ?_ | refine w3 ?_ | refine w4 ?_ | refine w5 ?_ | refine w6 ?_ | refine w7 ?_ | refine yo0 ?_ ?_ | refine yw0 ?_ ?_ | exact qq | fail)
  refine pcond rfl ?_ ?_ <;> intro hc <;> simp at hc
  · have hwi : IntKind.i64.wrap ((i : Int) - 1) = ((i - 1 : Nat) : Int) := by rw [w64 (by omega) (by omega)]; omega
    rcases k with _ | k
    · repeat' (first | refine yo ?_ ?_ | refine yw ?_ ?_ | refine yk ?_ ?_ | exact trivial | with_reducible refine wA ?_ ?_ | refine ys ?_ ?_ | refine xs_done ?_ | refine yl ?_ ?_ | refine xs_startH (id := 6) [1,2] true [.take 0, .take 1, .take 2, .take 3, .one 4, .take 5, .one 6, .one 7, .take 8, .one 9] 0 rfl (by kernel_rfl) ?_ | (refine t1 decimal_t hn ?_; rintro at_ _ b1 b2 ⟨y, rfl, hy⟩) | (refine t2 decimal_t hn ?_; rintro at_ _ b1 b2 ⟨y, rfl, hy⟩) | (refine t3 decimal_t hn ?_; rintro at_ _ b1 b2 ⟨y, rfl, hy⟩) | exact ⟨Nat.le_refl _, (by rw [hk]; exact Nat.le_of_ble_eq_true rfl), Nat.le_of_eq (Nat.zero_add _), (show (_ : Nat) * 24 ≤ 140737488355328 from by omega), (show (_ : Nat) ≤ 9223372036854775807 from by omega)⟩ | (refine tn1 hn ?_; rintro at_ b1 b2 x hx1 hx2) | refine w8 ?_ | refine w9 ?_ | refine w1 ?_ | refine w2 ?_ | refine w3 ?_ | refine w4 ?_ | refine w5 ?_ | refine w6 ?_ | refine w7 ?_ | refine yo0 ?_ ?_ | refine yw0 ?_ ?_ | exact qq | fail)
      refine xdone ?_
      have hwz : IntKind.i64.wrap (ky + IntKind.i64.wrap (1 + x)) = ky + (1 + x) := by rw [w64 (n := 1 + x) (by omega) (by omega), w64 (by omega) (by omega)]
      rw [hwz, hwi]
      exact kloop_next (st' := ⟨[(0, .ptr 0 0 0), (8, .ptr 1 0 0), (9, .ptr 2 0 0), (10, vi (ky + (1 + x))), (11, vi ((i - 1 : Nat) : Int))], [tapeRow n g _, ⟨.own, true, 1, 21, fun _ => nthP zD⟩, ⟨.own, true, 1, 21, fun _ => nthP (rScl nm t day (0 + 1) 3)⟩, vRow cN3 3 (0 + 1) (lF dE (E ++ [(ky, y)]))]⟩) (i - 1) (can_rowsv [0, 1, 2, 5] (k0_sel hk rfl) rfl (.cons rfl (RowEq.cl (tape_cl _ _ _)) (.cons rfl rqq (.cons rfl rqq (.cons rfl (by first | exact app_l cN3_cl (by assumption) rfl rfl | exact app_l0 cN3_cl (by assumption) rfl) .nil)))) tmq) (by omega) ⟨_, i - 1, 0 + 1, _, _, b1, b2, by rw [List.length_append, hEk]; rfl, by omega, rfl, hE.snoc hky0 hy (by omega), by omega, by omega, rfl⟩
    · repeat' (first | refine yo ?_ ?_ | refine yw ?_ ?_ | refine yk ?_ ?_ | exact trivial | with_reducible refine wA ?_ ?_ | refine ys ?_ ?_ | refine xs_done ?_ | refine yl ?_ ?_ | refine xs_startH (id := 6) [1,2] true [.take 0, .take 1, .take 2, .take 3, .one 4, .take 5, .one 6, .one 7, .take 8, .one 9] 0 rfl (by kernel_rfl) ?_ | (refine t1 decimal_t hn ?_; rintro at_ _ b1 b2 ⟨y, rfl, hy⟩) | (refine t2 decimal_t hn ?_; rintro at_ _ b1 b2 ⟨y, rfl, hy⟩) | (refine t3 decimal_t hn ?_; rintro at_ _ b1 b2 ⟨y, rfl, hy⟩) | exact ⟨Nat.le_refl _, (by rw [hk]; exact Nat.le_of_ble_eq_true rfl), Nat.le_of_eq (Nat.zero_add _), (show (_ : Nat) * 24 ≤ 140737488355328 from by omega), (show (_ : Nat) ≤ 9223372036854775807 from by omega)⟩ | (refine tn1 hn ?_; rintro at_ b1 b2 x hx1 hx2) | refine w8 ?_ | refine w9 ?_ | refine w1 ?_ | refine w2 ?_ | refine w3 ?_ | refine w4 ?_ | refine w5 ?_ | refine w6 ?_ | refine w7 ?_ | refine yo0 ?_ ?_ | refine yw0 ?_ ?_ | exact qq | fail)
      refine xdone ?_
      have hwz : IntKind.i64.wrap (ky + IntKind.i64.wrap (1 + x)) = ky + (1 + x) := by rw [w64 (n := 1 + x) (by omega) (by omega), w64 (by omega) (by omega)]
      rw [hwz, hwi]
      exact kloop_next (st' := ⟨[(0, .ptr 0 0 0), (8, .ptr 1 0 0), (9, .ptr 2 0 0), (10, vi (ky + (1 + x))), (11, vi ((i - 1 : Nat) : Int))], [tapeRow n g _, ⟨.own, true, 1, 21, fun _ => nthP zD⟩, ⟨.own, true, 1, 21, fun _ => nthP (rScl nm t day ((k + 1) + 1) 3)⟩, vRow cN3 3 ((k + 1) + 1) (lF dE (E ++ [(ky, y)]))]⟩) (i - 1) (can_rowsv [0, 1, 2, 5] (k0_sel hk rfl) rfl (.cons rfl (RowEq.cl (tape_cl _ _ _)) (.cons rfl rqq (.cons rfl rqq (.cons rfl (by first | exact app_l cN3_cl (by assumption) rfl rfl | exact app_l0 cN3_cl (by assumption) rfl) .nil)))) tmq) (by omega) ⟨_, i - 1, (k + 1) + 1, _, _, b1, b2, by rw [List.length_append, hEk]; rfl, by omega, rfl, hE.snoc hky0 hy (by omega), by omega, by omega, rfl⟩
  · obtain rfl : i = 0 := by omega
    rcases k with _ | k
    · omega
    · repeat' (first | refine yo ?_ ?_ | refine yw ?_ ?_ | refine yk ?_ ?_ | exact trivial | with_reducible refine wA ?_ ?_ | refine ys ?_ ?_ | refine xs_done ?_ | refine yl ?_ ?_ | refine w8 ?_ | refine w9 ?_ | refine w1 ?_ | refine w2 ?_ | refine w3 ?_ | refine w4 ?_ | refine w5 ?_ | refine w6 ?_ | refine w7 ?_ | refine yo0 ?_ ?_ | refine yw0 ?_ ?_ | exact qq | fail)
      refine ktapL [3] (qs := [vD ⟨2, nm, t, day, k + 1, lF dE E, .nil, 0, 0, 0⟩]) rfl b1 b2 (by simp) rfl ⟨Nat.zero_lt_one, trivial⟩ ⟨argSc19 (arg_o (s := .own) cN3_cl rfl trivial (List.Mem.head _)), trivial⟩ ⟨_, rfl, rfl, ?_, ?_, ?_, ?_⟩
      · show entsS (k + 1) _ = true
        rw [← hEk]; exact hE.ents (by omega) (by omega) (by omega)
      · intro i hi
        have hi : i < k + 1 := hi
        have hm : lF dE E i ∈ E := by unfold lF; rw [List.getD_eq_getElem?_getD, List.getElem?_eq_getElem (by omega)]; exact List.getElem_mem _
        have := dec_ok _ (hE.all _ hm).2.2
        exact ⟨this.1, this.2.1⟩
      · show k + 1 ≤ 64; omega
      · intro i hi
        have hi : i < k + 1 := hi
        have hm : lF dE E i ∈ E := by unfold lF; rw [List.getD_eq_getElem?_getD, List.getElem?_eq_getElem (by omega)]; exact List.getElem_mem _
        obtain ⟨e1, e2, e3⟩ := hE.all _ hm
        exact ⟨e3, show -1000000000000 ≤ (lF dE E i).1 by omega, show (lF dE E i).1 ≤ 1000000000000 by omega⟩
end Go.Proofs.YtcghpepighboaaaDoor
