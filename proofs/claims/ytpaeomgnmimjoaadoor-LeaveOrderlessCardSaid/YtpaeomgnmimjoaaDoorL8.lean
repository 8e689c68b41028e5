/- payrolllaw15: LeaveOrderless. -/
import Derived.Test.YtpaeomgnmimjoaaDoorL7
set_option linter.unusedSimpArgs false
set_option linter.unusedVariables false
set_option maxRecDepth 100000
namespace Go.Proofs.YtpaeomgnmimjoaaDoor
theorem rot_at {d : Int × Int} {l : List (Int × Int)} {x a : Nat} (hx : x < l.length) (ha : a < l.length) : lF d (l.drop x ++ l.take x) a = if a < l.length - x then lF d l (x + a) else lF d l (a - (l.length - x)) := by
  unfold lF
  rw [List.getD_eq_getElem?_getD, List.getElem?_append, List.length_drop]
  split
  · rw [List.getElem?_drop, List.getD_eq_getElem?_getD]
  · rw [List.getElem?_take, if_pos (by omega), List.getD_eq_getElem?_getD]
theorem rot_row {l : List (Int × Int)} {x z r : Nat} (F : Nat → Nat → PV) (hx : x < l.length) (hz : z = 0) (hr : r = l.length - x) : ∀ a, a < l.length → ∀ b, b < 2 → appF r (fun y => appF 0 F (fun a => tF cP (lF dB l) (x + a)) (0 + y)) (fun a => tF cP (lF dB l) (z + a)) a b = nthP (cP (lF dB (l.drop x ++ l.take x) a)) b := fun a ha b hb => by
  subst hz hr
  rw [rot_at hx ha]
  by_cases h : a < l.length - x
  · rw [appF_lt _ _ h, appF_ge _ _ (Nat.zero_le _), if_pos h, show 0 + a - 0 = a by omega]; rfl
  · rw [appF_ge _ _ (by omega), if_neg h, Nat.zero_add]; rfl
theorem rot_bk (l : List (Int × Int)) (x : Nat) (d : Int) : bkS (l.drop x ++ l.take x) d = bkS l d := by
  have h := congrArg (fun l => bkS l d) (List.take_append_drop x l)
  rw [bkS_app] at h ⊢
  omega
theorem rot_mem (l : List (Int × Int)) (x : Nat) (b : Int × Int) : b ∈ l.drop x ++ l.take x ↔ b ∈ l := by
  have h : b ∈ l ↔ b ∈ l.take x ++ l.drop x := by rw [List.take_append_drop]
  rw [h, List.mem_append, List.mem_append, or_comm]
theorem half_row {M : List (Int × Int)} {bd bm hf q1 q2 : Int} (h1 : q1 = hf) (h2 : q2 = bm - hf) (a : Nat) (ha : a < M.length + 2) (b : Nat) (hb : b < 2) : updR (appF (M.length + 1) (fun x => tF cP (lF dB ((bd, bm) :: M)) (0 + x)) (fun x b => nthP [vi bd, vi q1] ((0 + x) * 2 + b))) 0 [vi bd, vi q2] a b = nthP (cP (lF dB ((bd, bm - hf) :: M ++ [(bd, hf)]) a)) b := by
  subst h1 h2
  rcases a with _ | k
  · rfl
  · have e : updR (appF (M.length + 1) (fun x => tF cP (lF dB ((bd, bm) :: M)) (0 + x)) (fun x b => nthP [vi bd, vi q1] ((0 + x) * 2 + b))) 0 [vi bd, vi (bm - q1)] (k + 1) = appF (M.length + 1) (fun x => tF cP (lF dB ((bd, bm) :: M)) (0 + x)) (fun x b => nthP [vi bd, vi q1] ((0 + x) * 2 + b)) (k + 1) := rfl
    rw [e]
    by_cases hk : k < M.length
    · rw [appF_lt _ _ (by omega), Nat.zero_add]
      show nthP (cP (lF dB M k)) b = nthP (cP (lF dB (M ++ [(bd, q1)]) k)) b
      rw [show lF dB (M ++ [(bd, q1)]) k = lF dB M k from by unfold lF; rw [List.getD_eq_getElem?_getD, List.getD_eq_getElem?_getD, List.getElem?_append_left hk]]
    · obtain rfl : k = M.length := by omega
      rw [appF_ge _ _ (Nat.le_refl _), Nat.sub_self]
      show nthP [vi bd, vi q1] ((0 + 0) * 2 + b) = nthP (cP (lF dB (M ++ [(bd, q1)]) M.length)) b
      rw [show lF dB (M ++ [(bd, q1)]) M.length = (bd, q1) from by unfold lF; rw [List.getD_eq_getElem?_getD, List.getElem?_append_right (Nat.le_refl _)]; simp]
      rw [show (0 + 0) * 2 + b = b by omega]
set_option maxHeartbeats 4000000 in
theorem orderless_c (n : Nat) (g : Nat → Int) (hn : n ≤ 9223372036854775807) : PureC G.P 4 [.vsl n 1 (tI g)] (fun r => r = vb true) := by
  have cs := sane15_c
  refine pure_of (G := G.toPg) (fn := Tryd.f4) Tryd.func4 rfl rfl rfl ?_; intro Γ hk
  repeat' (first | refine yo ?_ ?_ | refine yw ?_ ?_ | refine yk ?_ ?_ | exact trivial | with_reducible refine wA ?_ ?_ | refine ys ?_ ?_ | refine xs_done ?_ | refine yl ?_ ?_ | refine w8 ?_ | refine w9 ?_ | refine w1 ?_ | refine w2 ?_ | refine w3 ?_ | refine w4 ?_ | refine w5 ?_ | refine w6 ?_ | refine w7 ?_ | refine yo0 ?_ ?_ | refine yw0 ?_ ?_ | exact qq | fail)
  refine pop_rowsc [] rfl rfl rfl rfl rfl rfl .nil (new_c n g) (by exact ⟨PEq.refl _, trivial⟩) ?_
  rintro r rows ⟨rfl, rfl⟩
  refine ⟨_, _, rfl, ⟨tape_cl _ _ _, trivial⟩, rfl, ?_⟩
  have b1 : (0 : Int) ≤ 0 := by omega
  have b2 : (0 : Int) ≤ n := by omega
  repeat' (first | refine yo ?_ ?_ | refine yw ?_ ?_ | refine yk ?_ ?_ | exact trivial | with_reducible refine wA ?_ ?_ | refine ys ?_ ?_ | refine xs_done ?_ | refine yl ?_ ?_ | (refine t1 leave_t hn ?_; rintro at_ _ b1 b2 ⟨r, rfl, hr⟩) | (refine t2 leave_t hn ?_; rintro at_ _ b1 b2 ⟨r, rfl, hr⟩) | (refine t3 leave_t hn ?_; rintro at_ _ b1 b2 ⟨r, rfl, hr⟩) | refine w8 ?_ | refine w9 ?_ | refine w1 ?_ | refine w2 ?_ | refine w3 ?_ | refine w4 ?_ | refine w5 ?_ | refine w6 ?_ | refine w7 ?_ | refine yo0 ?_ ?_ | refine yw0 ?_ ?_ | exact qq | fail)
  have tb := bookings_t r hr 5 (by omega)
  repeat' (first | refine yo ?_ ?_ | refine yw ?_ ?_ | refine yk ?_ ?_ | exact trivial | with_reducible refine wA ?_ ?_ | refine ys ?_ ?_ | refine xs_done ?_ | refine yl ?_ ?_ | refine xs_start (id := 4) true [.take 0, .take 1, .take 2, .one 3, .take 4, .take 5] 0 rfl rfl (by kernel_rfl) ?_ | refine xs_start (id := 8) true [.take 1, .take 2, .take 3, .take 5, .take 6, .take 7, .one 0, .one 4, .one 8, .take 9] 0 rfl rfl (by kernel_rfl) ?_ | (refine t1 tb hn ?_; rintro at_ _ b1 b2 ⟨l, rfl, hl, hln⟩) | (refine t2 tb hn ?_; rintro at_ _ b1 b2 ⟨l, rfl, hl, hln⟩) | (refine t3 tb hn ?_; rintro at_ _ b1 b2 ⟨l, rfl, hl, hln⟩) | (refine tn2 hn ?_; rintro at_ b1 b2 x hx1 hx2) | refine w8 ?_ | refine w9 ?_ | refine w1 ?_ | refine w2 ?_ | refine w3 ?_ | refine w4 ?_ | refine w5 ?_ | refine w6 ?_ | refine w7 ?_ | refine yo0 ?_ ?_ | refine yw0 ?_ ?_ | exact qq | fail)
  have hlo := hr.toLOk
  have hf0 := hr.f0
  have hf1 := hr.f1
  rw [w64 (n := r.frm + x) (by omega) (by omega)]
  obtain ⟨d, hd⟩ : ∃ d, d = r.frm + x := ⟨_, rfl⟩
  rw [← hd]
  refine pcond (b := decide (l.length = 0)) ?_ ?_ ?_
  · refine eqB ?_
    rw [Bool.eq_iff_iff]; simp
  · intro h
    repeat' (first | refine yo ?_ ?_ | refine yw ?_ ?_ | refine yk ?_ ?_ | exact trivial | with_reducible refine wA ?_ ?_ | refine ys ?_ ?_ | refine xs_done ?_ | refine yl ?_ ?_ | refine z1 cs ?_ | refine z2 cs ?_ | refine z3 cs ?_ | refine z4 cs ?_ | refine z5 cs ?_ | refine w8 ?_ | refine w9 ?_ | refine w1 ?_ | refine w2 ?_ | refine w3 ?_ | refine w4 ?_ | refine w5 ?_ | refine w6 ?_ | refine w7 ?_ | refine yo0 ?_ ?_ | refine yw0 ?_ ?_ | exact qq | fail)
    exact kretv rfl ⟨trivial, trivial⟩ rfl rfl
  · intro h
    have h := of_decide_eq_false h
    repeat' (first | refine yo ?_ ?_ | refine yw ?_ ?_ | refine yk ?_ ?_ | exact trivial | with_reducible refine wA ?_ ?_ | refine ys ?_ ?_ | refine xs_done ?_ | refine yl ?_ ?_ | refine xs_start (id := 4) true [.take 0, .take 1, .take 2, .one 3, .take 4, .take 5] 0 rfl rfl (by kernel_rfl) ?_ | refine xs_start (id := 8) true [.take 1, .take 2, .take 3, .take 5, .take 6, .take 7, .one 0, .one 4, .one 8, .take 9] 0 rfl rfl (by kernel_rfl) ?_ | (refine tn1 hn ?_; rintro at_ b1 b2 x hx1 hx2) | refine w8 ?_ | refine w9 ?_ | refine w1 ?_ | refine w2 ?_ | refine w3 ?_ | refine w4 ?_ | refine w5 ?_ | refine w6 ?_ | refine w7 ?_ | refine yo0 ?_ ?_ | refine yw0 ?_ ?_ | exact qq | fail)
    · exact ⟨trivial, (by rw [hk]; exact Nat.zero_le _), Nat.le_of_eq (Nat.zero_add _), (show (_ : Nat) * 16 ≤ 140737488355328 from by omega), (show (_ : Nat) ≤ 9223372036854775807 from by omega)⟩
    · exact ⟨trivial, (by rw [hk]; exact Nat.zero_le _), Nat.le_refl _, (show (_ : Nat) * 16 ≤ 140737488355328 from by omega), (show (_ : Nat) ≤ 9223372036854775807 from by omega)⟩
    · exact ⟨trivial, trivial, by omega, by omega, by omega⟩
    · exact ⟨trivial, trivial, by omega, by omega, by omega⟩
    refine kseq_normal ?_
    have hxl : x.toNat < l.length := by omega
    refine pcan (st' := ⟨[(4, .ptr 0 0 0), (5, vBs l), (6, vi d), (8, .lsl 1 0 l.length)], [rLR r, oRow cP 2 l.length (lF dB (l.drop x.toNat ++ l.take x.toNat))]⟩) (can_rowsv [1, 4] (k0_sel hk rfl) rfl (.cons rfl rqq (.cons rfl (o_eq cP_cl ?_ ?_) .nil)) (by exact ⟨PEq.refl _, PEq.refl _, PEq.refl _, PEq.of (congrArg (PV.lsl 1 0) (show 0 + ((l.length : Int) - x).toNat + (x - ((0 : Nat) : Int)).toNat = l.length by omega)), trivial⟩)) ?_
    · show l.length ≤ 0 + ((l.length : Int) - x).toNat + (x - ((0 : Nat) : Int)).toNat; omega
    · have e : 0 + ((l.length : Int) - x).toNat = l.length - x.toNat := by omega
      exact fun a ha b hb => (rot_row (r := 0 + ((l.length : Int) - x).toNat) (z := ((0 : Nat) : Int).toNat) (fun y => fun b => nthP (repL 0 [PV.val (Value.int IntKind.i64 0), PV.val (Value.int IntKind.i64 0)]) ((0 + y) * 2 + b)) hxl rfl e a ha b hb)
    have hM : ∀ b, b ∈ l.drop x.toNat ++ l.take x.toNat ↔ b ∈ l := rot_mem l _
    have hB : ∀ d, bkS (l.drop x.toNat ++ l.take x.toNat) d = bkS l d := rot_bk l _
    have hMl : (l.drop x.toNat ++ l.take x.toNat).length = l.length := by simp; omega
    generalize l.drop x.toNat ++ l.take x.toNat = M at *
    rcases M with _ | ⟨⟨bd, bm⟩, M⟩
    · simp at hMl; omega
    have h0 := hl.day (bd, bm) ((hM _).1 (by simp))
    have h1 := hl.min (bd, bm) ((hM _).1 (by simp))
    rw [← hMl]
    repeat' (first | refine yo ?_ ?_ | refine yw ?_ ?_ | refine yk ?_ ?_ | exact trivial | with_reducible refine wA ?_ ?_ | refine ys ?_ ?_ | refine xs_done ?_ | refine yl ?_ ?_ | exact ⟨Nat.le_refl _, (by rw [hk]; exact Nat.le_of_ble_eq_true rfl), Nat.le_of_eq (Nat.zero_add _), (show (_ : Nat) * 16 ≤ 140737488355328 from by omega), (show (_ : Nat) ≤ 9223372036854775807 from by omega)⟩ | refine w8 ?_ | refine w9 ?_ | refine w1 ?_ | refine w2 ?_ | refine w3 ?_ | refine w4 ?_ | refine w5 ?_ | refine w6 ?_ | refine w7 ?_ | refine yo0 ?_ ?_ | refine yw0 ?_ ?_ | exact qq | fail)
    · exact (show (3 : Int) ≠ 0 from by decide)
    obtain ⟨hf, hhf⟩ : ∃ hf, hf = bm / 3 := ⟨_, rfl⟩
    have hq : IntKind.i64.wrap (bm.tdiv 3) = hf := by rw [hhf, Int.tdiv_eq_ediv_of_nonneg h1.1]; exact w64 (by omega) (by omega)
    have hq2 : IntKind.i64.wrap (bm - hf) = bm - hf := w64 (by omega) (by omega)
    refine ocan0 (st' := ⟨[(4, .ptr 0 0 0), (5, vBs l), (6, vi d), (8, .lsl 1 0 (M.length + 2)), (66, vLR r), (67, vBs l), (68, vi d)], [rLR r, oRow cP 2 (M.length + 2) (lF dB ((bd, bm - hf) :: M ++ [(bd, hf)]))]⟩) (can_rowsv [0, 3] (k0_sel hk rfl) rfl (.cons rfl rqq (.cons rfl (o_eq cP_cl ?_ ?_) .nil)) (by exact ⟨PEq.refl _, PEq.refl _, PEq.refl _, PEq.refl _, PEq.cl _ (lr_cl r), PEq.refl _, PEq.refl _, trivial⟩)) ?_
    · exact Nat.le_refl _
    · exact fun a ha b hb => half_row hq (by rw [← hq2, ← hq]; rfl) a ha b hb
    have hbal : balS r ((bd, bm - hf) :: M ++ [(bd, hf)]) d = balS r l d := bal_congr (fun e => by
      rw [← hB e, List.cons_append, bkS, bkS, bkS_app]
      simp only [bkS]
      split <;> omega) fun e => by
      simp only [List.cons_append, List.map_cons, List.map_append, List.mem_cons, List.mem_append, List.mem_map]
      constructor
      · rintro (rfl | ⟨b, hb, rfl⟩ | h)
        · exact ⟨(e, bm), (hM _).1 (by simp), rfl⟩
        · exact ⟨b, (hM _).1 (by simp [hb]), rfl⟩
        · simp at h; subst h; exact ⟨(e, bm), (hM _).1 (by simp), rfl⟩
      · rintro ⟨b, hb, rfl⟩
        rcases List.mem_cons.1 ((hM _).2 hb) with rfl | hb
        · exact .inl rfl
        · exact .inr (.inl ⟨b, hb, rfl⟩)
    have hl2 : BOk r ((bd, bm - hf) :: M ++ [(bd, hf)]) := ⟨fun b hb => by
      rw [List.cons_append] at hb
      simp only [List.mem_cons, List.mem_append, List.not_mem_nil, or_false] at hb
      rcases hb with rfl | hb | rfl
      · exact h0
      · exact hl.day b ((hM _).1 (by simp [hb]))
      · exact h0, fun b hb => by
      rw [List.cons_append] at hb
      simp only [List.mem_cons, List.mem_append, List.not_mem_nil, or_false] at hb
      dsimp only at h1
      rcases hb with rfl | hb | rfl
      · dsimp only; omega
      · exact hl.min b ((hM _).1 (by simp [hb]))
      · dsimp only; omega⟩
    have hlen2 : ((bd, bm - hf) :: M ++ [(bd, hf)]).length = M.length + 2 := by simp
    have hMl' : M.length + 1 = l.length := by rw [← hMl]; rfl
    have cb := balance_c r hlo l hl (by omega) d (by omega) (by omega)
    have cb2 := balance_c r hlo _ hl2 (by omega) d (by omega) (by omega)
    rw [hbal] at cb2
    generalize (bd, bm - hf) :: M ++ [(bd, hf)] = M2 at *
    rw [← hlen2]
    generalize balS r l d = X at *
    repeat' (first | refine yo ?_ ?_ | refine yw ?_ ?_ | refine yk ?_ ?_ | exact trivial | with_reducible refine wA ?_ ?_ | refine ys ?_ ?_ | refine xs_done ?_ | refine yl ?_ ?_ | refine z1 cb ?_ | refine z2 cb ?_ | refine z3 cb ?_ | refine z4 cb ?_ | refine z5 cb ?_ | refine w8 ?_ | refine w9 ?_ | refine w1 ?_ | refine w2 ?_ | refine w3 ?_ | refine w4 ?_ | refine w5 ?_ | refine w6 ?_ | refine w7 ?_ | refine yo0 ?_ ?_ | refine yw0 ?_ ?_ | exact qq | fail)
    refine pop_call [1] rfl rfl rfl rfl rfl cb2 ⟨argCl (lr_cl r), arg_o (s := .own) cP_cl rfl trivial (List.Mem.head _), argVal, trivial⟩ ?_
    rintro _ rfl
    refine ⟨scB_spec _ rfl, ?_⟩
    repeat' (first | refine yo ?_ ?_ | refine yw ?_ ?_ | refine yk ?_ ?_ | exact trivial | with_reducible refine wA ?_ ?_ | refine ys ?_ ?_ | refine xs_done ?_ | refine yl ?_ ?_ | refine z1 cs ?_ | refine z2 cs ?_ | refine z3 cs ?_ | refine z4 cs ?_ | refine z5 cs ?_ | refine w8 ?_ | refine w9 ?_ | refine w1 ?_ | refine w2 ?_ | refine w3 ?_ | refine w4 ?_ | refine w5 ?_ | refine w6 ?_ | refine w7 ?_ | refine yo0 ?_ ?_ | refine yw0 ?_ ?_ | exact qq | fail)
    refine kretv rfl ⟨trivial, trivial⟩ rfl (eqB ?_)
    simp
theorem orderless_walk (v : Value) (l : List Int) (w : World) (h : IntsAt w v l) (hG : GOk (fun b => b < w.heap.size) w) : Calls G.P 4 #[v] w fun e w' => e = .returned (.bool true) ∧ Ext w w' := by
  have hl : l.length ≤ 9223372036854775807 := by obtain ⟨_, _, _, _, h, _⟩ := h; exact h
  exact law_of (vs := [v]) (orderless_c l.length _ hl) ⟨h.rel _, trivial⟩ hG
end Go.Proofs.YtpaeomgnmimjoaaDoor
