/- payrollgen: scales. -/
import Derived.Test.YtcghpepighboaaaDoorX11
import Derived.Test.YtcghpepighboaaaDoorX9
import Derived.Test.YtcghpepighboaaaDoorPvF
set_option linter.unusedSimpArgs false
set_option linter.unusedVariables false
set_option maxRecDepth 100000
namespace Go.Proofs.YtcghpepighboaaaDoor
abbrev dE : En := (0, 0, 0)
structure EnOk (E : List En) (key : Int) : Prop where
  asc : E.Pairwise (fun a b => a.1 < b.1)
  all : ∀ e, e ∈ E → 0 ≤ e.1 ∧ e.1 < key ∧ e.2 ∈ decL
theorem EnOk.snoc {E : List En} {key : Int} (h : EnOk E key) (h0 : 0 ≤ key) {x : Int × Int} (hx : x ∈ decL) {k' : Int} (hk : key < k') : EnOk (E ++ [(key, x)]) k' := by
  refine ⟨List.pairwise_append.2 ⟨h.asc, by simp, fun a ha b hb => ?_⟩, fun e he => ?_⟩
  · obtain rfl : b = (key, x) := by simpa using hb
    exact (h.all a ha).2.1
  · rcases List.mem_append.1 he with he | he
    · have := h.all e he; exact ⟨this.1, by omega, this.2.2⟩
    · obtain rfl : e = (key, x) := by simpa using he
      exact ⟨h0, hk, hx⟩
theorem dec_ok : ∀ x ∈ decL, -9223372036854775808 ≤ x.1 ∧ x.1 ≤ 9223372036854775807 ∧ decS x.1 x.2 = true := by decide +kernel
theorem EnOk.ents {E : List En} {key : Int} (h : EnOk E key) (hk : key ≤ 1000000) (h1 : 1 ≤ E.length) (h2 : E.length ≤ 64) : entsS E.length (lF dE E) = true := by
  have hg : ∀ i (hi : i < E.length), lF dE E i = E[i] := fun i hi => by unfold lF; rw [List.getD_eq_getElem?_getD, List.getElem?_eq_getElem hi]; rfl
  unfold entsS
  rw [decide_eq_true (by omega : 1 ≤ E.length ∧ E.length ≤ 64), Bool.true_and, allK_iff]
  intro i hi
  have ha := h.all _ (List.getElem_mem hi)
  have hd := (dec_ok _ ha.2.2).2.2
  rw [hg i hi, hd, Bool.and_true, decide_eq_true_eq]
  refine ⟨?_, by omega⟩
  by_cases h0 : i = 0
  · rw [if_pos h0]; omega
  · rw [if_neg h0, hg (i - 1) (by omega)]
    exact List.pairwise_iff_getElem.1 h.asc (i - 1) i (by omega) hi (by omega)
structure ScOk (nm : ByteArray) (t : Ty) (day : Int) (d : Df) : Prop where
  eq : d = ⟨2, nm, t, day, d.ne, d.ef, .nil, 0, 0, 0⟩
  en : entsS d.ne d.ef = true
  ef : ∀ i, i < d.ne → -9223372036854775808 ≤ (d.ef i).2.1 ∧ (d.ef i).2.1 ≤ 9223372036854775807
  ne : d.ne ≤ 64
abbrev rScl (nm : ByteArray) (t : Ty) (day : Int) (k l : Nat) : List PV := [vi 2, vs nm, vb t.b, vi t.m, vi t.h, vi t.d, vi day, slP k l, vi 0, vi 0, vi 0, vi 0, vi 0, vi 0, vs ⟨#[]⟩, vi 0, vi 0, .val (.slice none 0 0), vi 0, vi 0, vi 0]
abbrev zD : List PV := [vi 0, vs ⟨#[]⟩, vb false, vi 0, vi 0, vi 0, vi 0, .val (.slice none 0 0), vi 0, vi 0, vi 0, vi 0, vi 0, vi 0, vs ⟨#[]⟩, vi 0, vi 0, .val (.slice none 0 0), vi 0, vi 0, vi 0]
theorem argSc19 {mem : List Row} {L : List Nat} {nm : ByteArray} {t : Ty} {day : Int} {p : PV} {ne : Nat} {ef : Nat → En} (h : ArgOk mem L p (.vsl ne 3 (tF cN3 ef))) : ArgOk mem L (.agg 21 (nthP [vi 2, vs nm, vb t.b, vi t.m, vi t.h, vi t.d, vi day, p, vi 0, vi 0, vi 0, vi 0, vi 0, vi 0, vs ⟨#[]⟩, vi 0, vi 0, .val (.slice none 0 0), vi 0, vi 0, vi 0])) (vD ⟨2, nm, t, day, ne, ef, .nil, 0, 0, 0⟩) := argAggL fun i hi => by
  rcases (by omega : i = 0 ∨ i = 1 ∨ i = 2 ∨ i = 3 ∨ i = 4 ∨ i = 5 ∨ i = 6 ∨ i = 7 ∨ i = 8 ∨ i = 9 ∨ i = 10 ∨ i = 11 ∨ i = 12 ∨ i = 13 ∨ i = 14 ∨ i = 15 ∨ i = 16 ∨ i = 17 ∨ i = 18 ∨ i = 19 ∨ i = 20) with rfl | rfl | rfl | rfl | rfl | rfl | rfl | rfl | rfl | rfl | rfl | rfl | rfl | rfl | rfl | rfl | rfl | rfl | rfl | rfl | rfl
  · exact argVal
  · exact argVal
  · exact argVal
  · exact argVal
  · exact argVal
  · exact argVal
  · exact argVal
  · exact h
  · exact argVal
  · exact argVal
  · exact argVal
  · exact argVal
  · exact argVal
  · exact argVal
  · exact argVal
  · exact argVal
  · exact argVal
  · exact argNil
  · exact argVal
  · exact argVal
  · exact argVal
set_option maxHeartbeats 4000000 in
theorem scale_t (nm : ByteArray) (t : Ty) (day : Int) : TapC G.P 27 [vs nm, vT t, vi day] (fun r => ∃ d : Df, r = vD d ∧ ScOk nm t day d) := by
  intro n g at_ hn h1 h2
  refine ptr_of (G := G.toPg) (fn := Tryd.f27) Tryd.func27 rfl rfl rfl ?_; intro Γ hk
  repeat' (first | refine yo ?_ ?_ | refine yw ?_ ?_ | refine yk ?_ ?_ | exact trivial | with_reducible refine wA ?_ ?_ | refine ys ?_ ?_ | refine xs_done ?_ | refine yl ?_ ?_ | (refine tn1 hn ?_; rintro at_ b1 b2 x hx1 hx2) | refine w8 ?_ | refine w9 ?_ | refine w1 ?_ | refine w2 ?_ | refine w3 ?_ | refine w4 ?_ | refine w5 ?_ | refine w6 ?_ | refine w7 ?_ | refine yo0 ?_ ?_ | refine yw0 ?_ ?_ | exact qq | fail)
  rename_i key hk1 hk2
  obtain ⟨X, rfl⟩ := Int.eq_ofNat_of_zero_le hx1
  have hw : IntKind.i64.wrap (1 + (X : Int)) = ((X + 1 : Nat) : Int) := by rw [w64 (by omega) (by omega)]; omega
  rw [hw]
  refine pcan (can_virt (vRow cN3 3 0 (lF dE [])) rfl) ?_
  refine pcan (st' := ⟨[(0, .ptr 0 0 0), (8, .ptr 1 0 0), (9, .ptr 2 0 0), (10, vi key), (11, vi ((X + 1 : Nat) : Int))], [tapeRow n g at_, ⟨.own, true, 1, 21, fun _ => nthP zD⟩, ⟨.own, true, 1, 21, fun _ => nthP (rScl nm t day 0 3)⟩, vRow cN3 3 0 (lF dE [])]⟩) (can_rowsv [0, 2, 3, 4] (k0_sel hk rfl) rfl (.cons rfl (RowEq.cl (tape_cl _ _ _)) (.cons rfl rqq (.cons rfl rqq (.cons rfl (RowEq.cl (v_cl cN3_cl _ _ _)) .nil)))) (by (repeat refine ⟨PEq.refl _, ?_⟩); exact trivial)) ?_
  refine ploop (fun q st => ∃ (at' : Int) (i k : Nat) (E : List En) (ky : Int), 0 ≤ at' ∧ at' ≤ n ∧ E.length = k ∧ k + i = X + 1 ∧ q = i ∧ EnOk E ky ∧ 0 ≤ ky ∧ ky ≤ 1 + 4 * k ∧ st = ⟨[(0, .ptr 0 0 0), (8, .ptr 1 0 0), (9, .ptr 2 0 0), (10, vi ky), (11, vi i)], [tapeRow n g at', ⟨.own, true, 1, 21, fun _ => nthP zD⟩, ⟨.own, true, 1, 21, fun _ => nthP (rScl nm t day k 3)⟩, vRow cN3 3 k (lF dE E)]⟩) (X + 1) ⟨at_, X + 1, 0, [], key, b1, b2, rfl, by omega, rfl, ⟨List.Pairwise.nil, by simp⟩, hk1, by omega, rfl⟩ ?_
  rintro i _ ⟨at', _, k, E, ky, b1, b2, hEk, hki, rfl, hE, hky0, hky1, rfl⟩
  repeat' (first | refine yo ?_ ?_ | refine yw ?_ ?_ | refine yk ?_ ?_ | exact trivial | with_reducible refine wA ?_ ?_ | refine ys ?_ ?_ | refine xs_done ?_ | refine yl ?_ ?_ | refine w8 ?_ | refine w9 ?_ | refine w1 ?_ | refine w2 ?_ | refine w3 ?_ | refine w4 ?_ | refine w5 ?_ | refine w6 ?_ | refine w7 ?_ | refine yo0 ?_ ?_ | refine yw0 ?_ ?_ | exact qq | fail)
  refine pcond rfl ?_ ?_ <;> intro hc <;> simp at hc
  · have hwi : IntKind.i64.wrap ((i : Int) - 1) = ((i - 1 : Nat) : Int) := by rw [w64 (by omega) (by omega)]; omega
    rcases k with _ | k
    · repeat' (first | refine yo ?_ ?_ | refine yw ?_ ?_ | refine yk ?_ ?_ | exact trivial | with_reducible refine wA ?_ ?_ | refine ys ?_ ?_ | refine xs_done ?_ | refine yl ?_ ?_ | refine xs_startH (id := 6) [1,2] true [.take 0, .take 1, .take 2, .take 3, .one 4, .take 5, .one 6, .one 7, .take 8, .one 9] 0 rfl (by kernel_rfl) ?_ | (refine t1 decimal_t hn ?_; rintro at_ _ b1 b2 ⟨y, rfl, hy⟩) | (refine t2 decimal_t hn ?_; rintro at_ _ b1 b2 ⟨y, rfl, hy⟩) | (refine t3 decimal_t hn ?_; rintro at_ _ b1 b2 ⟨y, rfl, hy⟩) | exact ⟨Nat.le_refl _, (by rw [hk]; exact Nat.le_of_ble_eq_true rfl), Nat.le_of_eq (Nat.zero_add _), (show (_ : Nat) * 24 ≤ 140737488355328 from by omega), (show (_ : Nat) ≤ 9223372036854775807 from by omega)⟩ | (refine tn1 hn ?_; rintro at_ b1 b2 x hx1 hx2) | refine w8 ?_ | refine w9 ?_ | refine w1 ?_ | refine w2 ?_ | refine w3 ?_ | refine w4 ?_ | refine w5 ?_ | refine w6 ?_ | refine w7 ?_ | refine yo0 ?_ ?_ | refine yw0 ?_ ?_ | exact qq | fail)
      refine xdone ?_
      have hwz : IntKind.i64.wrap (ky + IntKind.i64.wrap (1 + x)) = ky + (1 + x) := by rw [w64 (n := 1 + x) (by omega) (by omega), w64 (by omega) (by omega)]
      rw [hwz, hwi]
      exact kloop_next (st' := ⟨[(0, .ptr 0 0 0), (8, .ptr 1 0 0), (9, .ptr 2 0 0), (10, vi (ky + (1 + x))), (11, vi ((i - 1 : Nat) : Int))], [tapeRow n g _, ⟨.own, true, 1, 21, fun _ => nthP zD⟩, ⟨.own, true, 1, 21, fun _ => nthP (rScl nm t day (0 + 1) 3)⟩, vRow cN3 3 (0 + 1) (lF dE (E ++ [(ky, y)]))]⟩) (i - 1) (can_rowsv [0, 1, 2, 5] (k0_sel hk rfl) rfl (.cons rfl (RowEq.cl (tape_cl _ _ _)) (.cons rfl rqq (.cons rfl rqq (.cons rfl (by first | exact app_l cN3_cl (by assumption) rfl rfl | exact app_l0 cN3_cl (by assumption) rfl) .nil)))) tmq) (by omega) ⟨_, i - 1, 0 + 1, _, _, b1, b2, by rw [List.length_append, hEk]; rfl, by omega, rfl, hE.snoc hky0 hy (by omega), by omega, by omega, rfl⟩
    · repeat' (first | refine yo ?_ ?_ | refine yw ?_ ?_ | refine yk ?_ ?_ | exact trivial | with_reducible refine wA ?_ ?_ | refine ys ?_ ?_ | refine xs_done ?_ | refine yl ?_ ?_ | refine xs_startH (id := 6) [1,2] true [.take 0, .take 1, .take 2, .take 3, .one 4, .take 5, .one 6, .one 7, .take 8, .one 9] 0 rfl (by kernel_rfl) ?_ | (refine t1 decimal_t hn ?_; rintro at_ _ b1 b2 ⟨y, rfl, hy⟩) | (refine t2 decimal_t hn ?_; rintro at_ _ b1 b2 ⟨y, rfl, hy⟩) | (refine t3 decimal_t hn ?_; rintro at_ _ b1 b2 ⟨y, rfl, hy⟩) | exact ⟨Nat.le_refl _, (by rw [hk]; exact Nat.le_of_ble_eq_true rfl), Nat.le_of_eq (Nat.zero_add _), (show (_ : Nat) * 24 ≤ 140737488355328 from by omega), (show (_ : Nat) ≤ 9223372036854775807 from by omega)⟩ | (refine tn1 hn ?_; rintro at_ b1 b2 x hx1 hx2) | refine w8 ?_ | refine w9 ?_ | refine w1 ?_ | refine w2 ?_ | refine w3 ?_ | refine w4 ?_ | refine w5 ?_ | refine w6 ?_ | refine w7 ?_ | refine yo0 ?_ ?_ | refine yw0 ?_ ?_ | exact qq | fail)
      refine xdone ?_
      have hwz : IntKind.i64.wrap (ky + IntKind.i64.wrap (1 + x)) = ky + (1 + x) := by rw [w64 (n := 1 + x) (by omega) (by omega), w64 (by omega) (by omega)]
      rw [hwz, hwi]
      exact kloop_next (st' := ⟨[(0, .ptr 0 0 0), (8, .ptr 1 0 0), (9, .ptr 2 0 0), (10, vi (ky + (1 + x))), (11, vi ((i - 1 : Nat) : Int))], [tapeRow n g _, ⟨.own, true, 1, 21, fun _ => nthP zD⟩, ⟨.own, true, 1, 21, fun _ => nthP (rScl nm t day ((k + 1) + 1) 3)⟩, vRow cN3 3 ((k + 1) + 1) (lF dE (E ++ [(ky, y)]))]⟩) (i - 1) (can_rowsv [0, 1, 2, 5] (k0_sel hk rfl) rfl (.cons rfl (RowEq.cl (tape_cl _ _ _)) (.cons rfl rqq (.cons rfl rqq (.cons rfl (by first | exact app_l cN3_cl (by assumption) rfl rfl | exact app_l0 cN3_cl (by assumption) rfl) .nil)))) tmq) (by omega) ⟨_, i - 1, (k + 1) + 1, _, _, b1, b2, by rw [List.length_append, hEk]; rfl, by omega, rfl, hE.snoc hky0 hy (by omega), by omega, by omega, rfl⟩
  · obtain rfl : i = 0 := by omega
    rcases k with _ | k
    · omega
    · repeat' (first | refine yo ?_ ?_ | refine yw ?_ ?_ | refine yk ?_ ?_ | exact trivial | with_reducible refine wA ?_ ?_ | refine ys ?_ ?_ | refine xs_done ?_ | refine yl ?_ ?_ | refine w8 ?_ | refine w9 ?_ | refine w1 ?_ | refine w2 ?_ | refine w3 ?_ | refine w4 ?_ | refine w5 ?_ | refine w6 ?_ | refine w7 ?_ | refine yo0 ?_ ?_ | refine yw0 ?_ ?_ | exact qq | fail)
      refine ktapL [3] (qs := [vD ⟨2, nm, t, day, k + 1, lF dE E, .nil, 0, 0, 0⟩]) rfl b1 b2 (by simp) rfl ⟨Nat.zero_lt_one, trivial⟩ ⟨argSc19 (arg_o (s := .own) cN3_cl rfl trivial (List.Mem.head _)), trivial⟩ ⟨_, rfl, rfl, ?_, ?_, ?_⟩
      · show entsS (k + 1) _ = true
        rw [← hEk]; exact hE.ents (by omega) (by omega) (by omega)
      · intro i hi
        have hi : i < k + 1 := hi
        have hm : lF dE E i ∈ E := by unfold lF; rw [List.getD_eq_getElem?_getD, List.getElem?_eq_getElem (by omega)]; exact List.getElem_mem _
        have := dec_ok _ (hE.all _ hm).2.2
        exact ⟨this.1, this.2.1⟩
      · show k + 1 ≤ 64; omega
abbrev dK : ByteArray × Int := (⟨#[]⟩, 0)
def KS : List (ByteArray × Int) := [(n_h, 0), (n_g, 0), (n_f, 0), (n_gross, 0), (n_time, 0), (n_w, 20454), (n_s, 20454), (n_w, 20459), (n_r1, 20454), (n_r1, 20459), (n_r2, 20454), (n_r2, 20459), (n_r3, 20454), (n_r3, 20459), (n_r4, 20454), (n_r4, 20459), (n_a, 20454), (n_b, 20454)]
def keyD (d : Df) : ByteArray × Int := (d.nm, d.day)
structure AB (hh n : Nat) (l : List Df) : Prop where
  sub : (l.map keyD).Sublist (KS.take n)
  gd : ∀ d, d ∈ l → GD hh d
  has : ∀ x, x ∈ KS.take (min n 17) → x.1 ∈ l.map Df.nm
theorem take_snoc {α : Type} {d : α} {l : List α} {n : Nat} (h : n < l.length) : l.take (n + 1) = l.take n ++ [lF d l n] := by
  rw [List.take_succ_eq_append_getElem h]
  unfold lF; rw [List.getD_eq_getElem?_getD, List.getElem?_eq_getElem h]; rfl
theorem AB.skip {hh n : Nat} {l : List Df} (h : AB hh n l) (hn : n < 18) (hs : (lF dK KS n).1 ∈ (KS.take (min n 17)).map Prod.fst ∨ n = 17) : AB hh (n + 1) l := by
  refine ⟨h.sub.trans (List.take_sublist_take_left (by omega)), h.gd, fun x hx => ?_⟩
  by_cases h17 : n = 17
  · subst h17; exact h.has x hx
  · have hn17 : n < 17 := by omega
    rw [show min (n + 1) 17 = n + 1 by omega, take_snoc (d := dK) (by show n < 18; omega)] at hx
    rcases List.mem_append.1 hx with hx | hx
    · exact h.has x (by rw [show min n 17 = n by omega]; exact hx)
    · have : x = lF dK KS n := by simpa using hx
      subst this
      obtain ⟨y, hy, he⟩ := List.mem_map.1 (hs.resolve_right h17)
      rw [← he]; exact h.has y hy
theorem AB.snoc {hh n : Nat} {l : List Df} (h : AB hh n l) (hn : n < 18) {d : Df} (hk : keyD d = lF dK KS n) (hd : GD hh d) : AB hh (n + 1) (l ++ [d]) := by
  refine ⟨?_, fun x hx => ?_, fun x hx => ?_⟩
  · rw [take_snoc (d := dK) (by show n < 18; omega), List.map_append, List.map_cons, List.map_nil, hk]
    exact h.sub.append (List.Sublist.refl _)
  · rcases List.mem_append.1 hx with hx | hx
    · exact h.gd x hx
    · obtain rfl : x = d := by simpa using hx
      exact hd
  · rw [List.map_append, List.mem_append]
    by_cases h17 : n = 17
    · subst h17; exact .inl (h.has x hx)
    · rw [show min (n + 1) 17 = n + 1 by omega, take_snoc (d := dK) (by show n < 18; omega)] at hx
      rcases List.mem_append.1 hx with hx | hx
      · exact .inl (h.has x (by rw [show min n 17 = n by omega]; exact hx))
      · have : x = lF dK KS n := by simpa using hx
        subst this
        refine .inr ?_
        rw [← hk]; simp [keyD]
theorem KS_nodup : (KS.map fun x => (x.1.toList, x.2)).Nodup := by decide +kernel
theorem neds_KS : ∀ n, n ∈ neds → n ∈ (KS.take 17).map Prod.fst := by
  intro n hn
  unfold neds at hn
  simp only [List.mem_cons, List.not_mem_nil, or_false] at hn
  rcases hn with rfl | rfl | rfl | rfl | rfl | rfl | rfl | rfl | rfl | rfl | rfl | rfl <;> (unfold KS; simp only [List.take_succ_cons, List.take_zero, List.map_cons, List.map_nil]; repeat' (first | exact List.Mem.head _ | refine List.Mem.tail _ ?_))
theorem AB.good {hh : Nat} {l : List Df} (h : AB hh 18 l) : AGood hh l := by
  refine ⟨h.gd, ?_, fun n hn => ?_, ?_⟩
  · have e : (l.map fun d => (d.nm.toList, d.day)) = (l.map keyD).map (fun x => (x.1.toList, x.2)) := by rw [List.map_map]; rfl
    rw [e]
    exact (h.sub.map _).nodup KS_nodup
  · obtain ⟨x, hx, he⟩ := List.mem_map.1 (neds_KS n hn)
    rw [← he]; exact h.has x hx
  · have := h.sub.length_le
    simp [KS] at this
    omega
abbrev dI (k : Int) (nm : ByteArray) (t : Ty) : Df := ⟨k, nm, t, 0, 0, fun _ => (0, 0, 0), .nil, 0, 0, 0⟩
theorem zero_nil : zeroX .nil = true := by decide +kernel
theorem gd_in {hh : Nat} {k : Int} {nm : ByteArray} {t : Ty} (ht : (nm, k, t) ∈ tabL) (hk : k = 1 ∨ k = 5) (hs : nm.size ≤ 100) (h1 : typS t = true) (h2 : k = 5 → t.b = false) : GD hh (dI k nm t) := by
  have n3 : ¬ k = 3 := by omega
  have n4 : ¬ k = 4 := by omega
  refine ⟨ht, ?_, ⟨Nat.le_trans hs (by decide), fun i hi => absurd hi (Nat.not_lt_zero i), Nat.zero_le _, .nil, ?_⟩, fun h => ?_, fun h => absurd h n3⟩
  · rcases hk with rfl | rfl
    · simp [defS, h1, zero_nil]
    · simp [defS, h1, zero_nil, h2 rfl]
  · exact ⟨by show (-9223372036854775808 : Int) ≤ 0; decide, by show (0 : Int) ≤ 9223372036854775807; decide⟩
  · rcases h with h | h
    · exact absurd h n3
    · exact absurd h n4
theorem gd_sc {hh : Nat} {nm : ByteArray} {t : Ty} {day : Int} {d : Df} (h : ScOk nm t day d) (ht : (nm, (2 : Int), t) ∈ tabL) (hs : nm.size ≤ 100) (h1 : typS t = true) (h2 : t.b = false) (h3 : dayS day = true) : GD hh d := by
  obtain ⟨kind, nm', ty, day', ne, ef, body, mode, sn, sd⟩ := d
  obtain ⟨e, hen, hef, hne⟩ := h
  simp only [Df.mk.injEq] at e hen hef hne
  obtain ⟨rfl, rfl, rfl, rfl, -, -, rfl, rfl, rfl, rfl⟩ := e
  refine ⟨ht, ?_, ⟨Nat.le_trans hs (by decide), hef, Nat.le_trans hne (by decide), .nil, ?_⟩, fun h => ?_, fun h => ?_⟩
  · simp [defS, h1, h2, h3, hen, zero_nil]
  · exact ⟨by show (-9223372036854775808 : Int) ≤ 0; decide, by show (0 : Int) ≤ 9223372036854775807; decide⟩
  · have h : (2 : Int) = 3 ∨ (2 : Int) = 4 := h
    rcases h with h | h <;> exact absurd h (by decide)
  · have h : (2 : Int) = 3 := h
    exact absurd h (by decide)
abbrev dR (nm : ByteArray) (t : Ty) (day : Int) (e : Ex) : Df := ⟨3, nm, t, day, 0, fun _ => (0, 0, 0), e, 0, 0, 0⟩
theorem gd_rule {hh : Nat} {nm : ByteArray} {t : Ty} {day : Int} {e : Ex} (he : EOk hh t e) (h32 : hh ≤ 32) (ht : (nm, (3 : Int), t) ∈ tabL) (hs : nm.size ≤ 100) (h1 : typS t = true) (h3 : day = 20454 ∨ day = 20459) : GD hh (dR nm t day e) := by
  refine ⟨ht, ?_, ⟨Nat.le_trans hs (by decide), fun i hi => absurd hi (Nat.not_lt_zero i), Nat.zero_le _, he.bd, ?_⟩, fun h => ?_, fun h => h3⟩
  · have hd : dayS day = true := by rcases h3 with rfl | rfl <;> decide
    simp [defS, h1, hd, he.vl 32 h32]
  · exact ⟨by show (-9223372036854775808 : Int) ≤ 0; decide, by show (0 : Int) ≤ 9223372036854775807; decide⟩
  · show EOk hh (if (3 : Int) = 4 then tM else t) e
    rw [if_neg (by decide)]; exact he
abbrev dP (nm : ByteArray) (e : Ex) (mode : Int) (x : Int × Int) : Df := ⟨4, nm, t0, 20454, 0, fun _ => (0, 0, 0), e, mode, x.1, x.2⟩
def stepL : List (Int × Int) := [(1, 100), (1, 20), (1, 1)]
theorem gd_pay {hh : Nat} {nm : ByteArray} {e : Ex} {mode : Int} {x : Int × Int} (he : EOk hh tM e) (h32 : hh ≤ 32) (ht : (nm, (4 : Int), t0) ∈ tabL) (hs : nm.size ≤ 100) (hm : 0 ≤ mode ∧ mode ≤ 6) (hx : x ∈ stepL) : GD hh (dP nm e mode x) := by
  have key : ∀ x ∈ stepL, -9223372036854775808 ≤ x.1 ∧ x.1 ≤ 9223372036854775807 ∧ stepS x.1 x.2 = true := by decide +kernel
  obtain ⟨k1, k2, k3⟩ := key x hx
  have hd : dayS 20454 = true := by decide
  have hmo : modeB mode = true := by simp [modeB]; omega
  refine ⟨ht, ?_, ⟨Nat.le_trans hs (by decide), fun i hi => absurd hi (Nat.not_lt_zero i), Nat.zero_le _, he.bd, k1, k2⟩, fun h => he, fun h => ?_⟩
  · simp [defS, tz, hd, hmo, k3, he.vl 32 h32]
  · have h : (4 : Int) = 3 := h
    exact absurd h (by decide)
def ins5 : List Df := [dI 1 n_h tH, dI 1 n_g t0, dI 1 n_f tB, dI 5 n_gross tM, dI 5 n_time tH]
theorem ab_nil (hh : Nat) : AB hh 0 [] := ⟨List.Sublist.refl _, fun d hd => absurd hd (List.not_mem_nil), fun x hx => absurd hx (by simp)⟩
theorem ab5 (hh : Nat) : AB hh 5 ins5 := by
  have h1 := (ab_nil hh).snoc (by omega) (d := dI 1 n_h tH) rfl (gd_in mm (.inl rfl) (by decide) (by decide) (fun h => by cases h))
  have h2 := h1.snoc (by omega) (d := dI 1 n_g t0) rfl (gd_in mm (.inl rfl) (by decide) (by decide) (fun h => by cases h))
  have h3 := h2.snoc (by omega) (d := dI 1 n_f tB) rfl (gd_in mm (.inl rfl) (by decide) (by decide) (fun h => by cases h))
  have h4 := h3.snoc (by omega) (d := dI 5 n_gross tM) rfl (gd_in mm (.inr rfl) (by decide) (by decide) (fun h => rfl))
  exact h4.snoc (by omega) (d := dI 5 n_time tH) rfl (gd_in mm (.inr rfl) (by decide) (by decide) (fun h => rfl))
def nmsR : List ByteArray := [n_r1, n_r2, n_r3, n_r4]
def tysR : List Ty := [tR, tM, tB, t0]
theorem ks_rule {i v : Nat} (hi : i < 4) (hv : v < 2) : lF dK KS (8 + 2 * i + v) = (lF ⟨#[]⟩ nmsR i, 20454 + 5 * (v : Int)) := by
  rcases (by omega : i = 0 ∨ i = 1 ∨ i = 2 ∨ i = 3) with rfl | rfl | rfl | rfl <;> rcases (by omega : v = 0 ∨ v = 1) with rfl | rfl <;> rfl
theorem rule_tab {i : Nat} (hi : i < 4) : (lF ⟨#[]⟩ nmsR i, (3 : Int), lF t0 tysR i) ∈ tabL ∧ (lF ⟨#[]⟩ nmsR i).size ≤ 100 ∧ typS (lF t0 tysR i) = true := by
  rcases (by omega : i = 0 ∨ i = 1 ∨ i = 2 ∨ i = 3) with rfl | rfl | rfl | rfl
  · exact ⟨show (n_r1, (3 : Int), tR) ∈ tabL from mm, by decide, by decide⟩
  · exact ⟨show (n_r2, (3 : Int), tM) ∈ tabL from mm, by decide, by decide⟩
  · exact ⟨show (n_r3, (3 : Int), tB) ∈ tabL from mm, by decide, by decide⟩
  · exact ⟨show (n_r4, (3 : Int), t0) ∈ tabL from mm, by decide, by decide⟩
theorem ks_skip {i : Nat} (hi : i < 4) : (lF dK KS (8 + 2 * i + 1)).1 ∈ (KS.take (min (8 + 2 * i + 1) 17)).map Prod.fst := by
  refine List.mem_map.2 ⟨lF dK KS (8 + 2 * i), ?_, ?_⟩
  · rw [show min (8 + 2 * i + 1) 17 = 8 + 2 * i + 1 by omega, take_snoc (d := dK) (by show 8 + 2 * i < 18; omega)]
    exact List.mem_append_right _ (List.mem_singleton.2 rfl)
  · rcases (by omega : i = 0 ∨ i = 1 ∨ i = 2 ∨ i = 3) with rfl | rfl | rfl | rfl <;> rfl
theorem ks_w : (lF dK KS 7).1 ∈ (KS.take (min 7 17)).map Prod.fst := by
  refine List.mem_map.2 ⟨lF dK KS 5, ?_, rfl⟩
  show lF dK KS 5 ∈ KS.take 7
  rw [take_snoc (d := dK) (by decide : 6 < 18), take_snoc (d := dK) (by decide : 5 < 18)]
  simp
def nmsP : List ByteArray := [n_a, n_b]
theorem pay_tab {i : Nat} (hi : i < 2) : (lF ⟨#[]⟩ nmsP i, (4 : Int), t0) ∈ tabL ∧ (lF ⟨#[]⟩ nmsP i).size ≤ 100 ∧ lF dK KS (16 + i) = (lF ⟨#[]⟩ nmsP i, 20454) := by
  rcases (by omega : i = 0 ∨ i = 1) with rfl | rfl
  · exact ⟨show (n_a, (4 : Int), t0) ∈ tabL from mm, by decide, rfl⟩
  · exact ⟨show (n_b, (4 : Int), t0) ∈ tabL from mm, by decide, rfl⟩
end Go.Proofs.YtcghpepighboaaaDoor
