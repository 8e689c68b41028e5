/- ValueLocal: the given statement, for every input: the law returns true and leaves its arguments alone. No conditions. -/
import Derived.Test.YtcghpepighboaaaDoorLc0
import Derived.Test.YtcghpepighboaaaDoorTy22
import Derived.Test.YtcghpepighboaaaDoorV22
import Derived.Test.YtcghpepighboaaaDoorLc21
import Derived.Test.YtcghpepighboaaaDoorBridge
import Derived.Test.YtcghpepighboaaaDoorGlo
import Derived.SizedLaws
import Derived.ChangeMaps5
import Derived.ProofKit
import Derived.OpenShut
import Derived.ShutString
import Derived.ChangeOld
import Derived.Lib.SmallJoins
import Derived.Test.YtcghpepighboaaaDoorTie
import Derived.Test.YtcghpepighboaaaDoorCards
import Derived.LaidMore
set_option linter.unusedSimpArgs false
set_option linter.unusedVariables false
set_option maxRecDepth 100000
namespace Go.Proofs.YtcghpepighboaaaDoor
theorem ba_toList (a : ByteArray) : a.toList = a.data.toList := by
  unfold ByteArray.toList
  rw [ba_loop _ _ 0 [] rfl]; simp
theorem zz : n_z.toList.head? = some 122 := by decide +kernel
theorem z_head (nm : ByteArray) : (n_z ++ nm).toList.head? = some 122 := by
  rw [ba_toList, ByteArray.data_append, Array.toList_append]; rfl
theorem front_f {N : List In} {x : In} {M : Nat} {L : List PV} {f : Nat → Nat → PV} (hL : L = cIn x) (hM : N.length = M) (hf : ∀ a, a < M → ∀ b, b < 3 → f a b = nthP (cIn (lF dIn N a)) b) (a : Nat) (ha : a < 1 + M) (b : Nat) (hb : b < 3) : appF 1 (fun y b => nthP L ((0 + y) * 3 + b)) (fun y => f (0 + y)) a b = nthP (cIn (lF dIn (x :: N) a)) b := by
  subst hL
  rcases a with _ | a
  · rw [appF_lt _ _ (by omega)]
    show nthP (cIn x) ((0 + 0) * 3 + b) = _
    rw [show (0 + 0) * 3 + b = b by omega]; rfl
  · rw [appF_ge _ _ (by omega)]
    show f (0 + (a + 1 - 1)) b = _
    rw [show 0 + (a + 1 - 1) = a by omega, hf a (by omega) b hb]
    rfl
set_option maxHeartbeats 8000000 in
theorem local_c (n : Nat) (g : Nat → Int) (nm : ByteArray) (hn : n ≤ 9223372036854775807) (hnm : nm.size ≤ 140737488351232) : PureC G.P 6 [.vsl n 1 (tI g), vs nm] (fun r => r = vb true) := by
  have cs := sane22_c
  refine pure_of (G := G.toPg) (fn := Tryd.f6) Tryd.func6 rfl rfl rfl ?_; intro Γ hk
  repeat' (first | refine yo ?_ ?_ | refine yw ?_ ?_ | refine yk ?_ ?_ | exact trivial | with_reducible refine wA ?_ ?_ | refine ys ?_ ?_ | refine xs_done ?_ | refine yl ?_ ?_ | refine w8 ?_ | refine w9 ?_ | refine w1 ?_ | refine w2 ?_ | refine w3 ?_ | refine w4 ?_ | refine w5 ?_ | refine w6 ?_ | refine w7 ?_ | refine yo0 ?_ ?_ | refine yw0 ?_ ?_ | exact qq | fail)
  refine pop_rowsc [] rfl rfl rfl rfl rfl rfl .nil (new_c n g) (by exact ⟨PEq.refl _, trivial⟩) ?_
  rintro r rows ⟨rfl, rfl⟩
  refine ⟨_, _, rfl, ⟨tape_cl _ _ _, trivial⟩, rfl, ?_⟩
  have b1 : (0 : Int) ≤ 0 := Int.le_refl 0
  have b2 : (0 : Int) ≤ n := by omega
  repeat' (first | refine yo ?_ ?_ | refine yw ?_ ?_ | refine yk ?_ ?_ | exact trivial | with_reducible refine wA ?_ ?_ | refine ys ?_ ?_ | refine xs_done ?_ | refine yl ?_ ?_ | (refine t1 env_t hn ?_; rintro at_ _ b1 b2 ⟨N, S, P, rfl, hE⟩) | (refine t2 env_t hn ?_; rintro at_ _ b1 b2 ⟨N, S, P, rfl, hE⟩) | (refine t3 env_t hn ?_; rintro at_ _ b1 b2 ⟨N, S, P, rfl, hE⟩) | (refine t1 type_t hn ?_; rintro at_ _ b1 b2 ⟨t, rfl, ht⟩) | (refine t2 type_t hn ?_; rintro at_ _ b1 b2 ⟨t, rfl, ht⟩) | (refine t3 type_t hn ?_; rintro at_ _ b1 b2 ⟨t, rfl, ht⟩) | refine w8 ?_ | refine w9 ?_ | refine w1 ?_ | refine w2 ?_ | refine w3 ?_ | refine w4 ?_ | refine w5 ?_ | refine w6 ?_ | refine w7 ?_ | refine yo0 ?_ ?_ | refine yw0 ?_ ?_ | exact qq | fail)
  have ht5 : t ∈ tys5 := by rcases ht with rfl | rfl | rfl | rfl | rfl <;> simp [tys5]
  clear ht
  repeat' (first | refine yo ?_ ?_ | refine yw ?_ ?_ | refine yk ?_ ?_ | exact trivial | with_reducible refine wA ?_ ?_ | refine ys ?_ ?_ | refine xs_done ?_ | refine yl ?_ ?_ | (refine t1 ((expr_t 3 (by omega) t ht5 5)) hn ?_; rintro at_ _ b1 b2 ⟨e, rfl, he⟩) | (refine t2 ((expr_t 3 (by omega) t ht5 5)) hn ?_; rintro at_ _ b1 b2 ⟨e, rfl, he⟩) | (refine t3 ((expr_t 3 (by omega) t ht5 5)) hn ?_; rintro at_ _ b1 b2 ⟨e, rfl, he⟩) | refine w8 ?_ | refine w9 ?_ | refine w1 ?_ | refine w2 ?_ | refine w3 ?_ | refine w4 ?_ | refine w5 ?_ | refine w6 ?_ | refine w7 ?_ | refine yo0 ?_ ?_ | refine yw0 ?_ ?_ | exact qq | fail)
  have eE := valEval_c N S P hE.bd e he.bd
  have hNl := hE.len
  have hSl := hE.slen
  obtain ⟨EV, hEV⟩ : ∃ EV, EV = evalS N S P e := ⟨_, rfl⟩
  rw [← hEV] at eE
  repeat' (first | refine yo ?_ ?_ | refine yw ?_ ?_ | refine yk ?_ ?_ | exact trivial | with_reducible refine wA ?_ ?_ | refine ys ?_ ?_ | refine xs_done ?_ | refine yl ?_ ?_ | exact ⟨Nat.le_refl _, (by rw [hk]; exact Nat.le_of_ble_eq_true rfl), Nat.le_of_eq (Nat.zero_add _), (show (_ : Nat) * 32 ≤ 140737488355328 from by omega), (show (_ : Nat) ≤ 9223372036854775807 from by omega)⟩ | (refine t1 fraction_t hn ?_; rintro at_ _ b1 b2 ⟨u, v, rfl, hu, hv⟩) | (refine t2 fraction_t hn ?_; rintro at_ _ b1 b2 ⟨u, v, rfl, hu, hv⟩) | (refine t3 fraction_t hn ?_; rintro at_ _ b1 b2 ⟨u, v, rfl, hu, hv⟩) | exact ⟨trivial, (by rw [hk]; exact Nat.le_of_ble_eq_true rfl), Nat.le_of_ble_eq_true rfl, (show (0 + N.length) * 32 ≤ 140737488355328 from by omega), (show 0 + N.length ≤ 9223372036854775807 from by omega)⟩ | refine z1 eE ?_ | refine z2 eE ?_ | refine z3 eE ?_ | refine z4 eE ?_ | refine z5 eE ?_ | refine w8 ?_ | refine w9 ?_ | refine w1 ?_ | refine w2 ?_ | refine w3 ?_ | refine w4 ?_ | refine w5 ?_ | refine w6 ?_ | refine w7 ?_ | refine yo0 ?_ ?_ | refine yw0 ?_ ?_ | exact qq | fail)
  refine pcond_y rfl (decide_eq_true (show (0 : Int) < N.length by have := hE.pos; omega)) ?_
  refine pcan (st' := ⟨[(1, vs nm), (5, .ptr 0 0 0), (6, vIns N), (7, vDs S), (8, vPas P), (9, .ptr 1 0 0), (10, .ptr 2 0 0), (11, vi EV.2), (12, .lsl 3 0 (N.length + 1))], [tapeRow n g at_, rXE e, rRt EV.1.1 EV.1.2, oRow cIn 3 (N.length + 1) (lF dIn (N ++ [⟨n_z, u, v⟩]))]⟩) (can_rowsv [0, 1, 2, 6] (k0_sel hk rfl) rfl (.cons rfl (RowEq.cl (tape_cl _ _ _)) (.cons rfl (RowEq.cl (rXE_cl e)) (.cons rfl rqq (.cons rfl (o_eq cIn_cl (by omega) (fun a ha b hb => ?_)) .nil)))) (by exact ⟨PEq.refl _, PEq.refl _, PEq.refl _, PEq.refl _, PEq.refl _, PEq.refl _, PEq.refl _, PEq.refl _, PEq.of (by rw [← Nat.zero_add (N.length + 1), ← Nat.add_assoc]; rfl), trivial⟩)) ?_
  · by_cases e1 : a < N.length
    · rw [appF_lt _ _ (by omega)]
      rw [lF_lt e1]
      show tF cIn (lF dIn N) (0 + a - 0) b = _
      rw [show 0 + a - 0 = a by omega]; rfl
    · obtain rfl : a = N.length := by omega
      rw [appF_ge _ _ (by omega), lF_at]
      show nthP _ ((0 + (N.length - (0 + N.length))) * _ + b) = _
      rw [show 0 + (N.length - (0 + N.length)) = 0 by omega, Nat.zero_mul, Nat.zero_add]
  have hz : 0 < N.length := hE.pos
  have hlz : (N ++ [(⟨n_z, u, v⟩ : In)]).length = N.length + 1 := by rw [List.length_append]; rfl
  repeat' (first | refine yo ?_ ?_ | refine yw ?_ ?_ | refine yk ?_ ?_ | exact trivial | with_reducible refine wA ?_ ?_ | refine ys ?_ ?_ | refine xs_done ?_ | refine yl ?_ ?_ | refine xs_startH (id := 7) [1,2] true [.take 0, .take 1, .take 2, .take 3, .take 4, .take 5, .one 6, .take 7, .one 8, .one 9, .take 10] 0 rfl (by kernel_rfl) ?_ | exact ⟨Nat.le_refl _, (by rw [hk]; exact Nat.le_of_ble_eq_true rfl), Nat.le_of_eq (Nat.zero_add _), (show (_ : Nat) * 32 ≤ 140737488355328 from by omega), (show (_ : Nat) ≤ 9223372036854775807 from by omega)⟩ | (refine t1 fraction_t hn ?_; rintro at_ _ b1 b2 ⟨u2, v2, rfl, hu2, hv2⟩) | (refine t2 fraction_t hn ?_; rintro at_ _ b1 b2 ⟨u2, v2, rfl, hu2, hv2⟩) | (refine t3 fraction_t hn ?_; rintro at_ _ b1 b2 ⟨u2, v2, rfl, hu2, hv2⟩) | exact (show ((1 + nm.size : Nat) : Int) ≤ 9223372036854775807 from by omega) | exact ⟨Nat.le_of_eq (Nat.zero_add _), (by rw [hk]; exact Nat.le_of_ble_eq_true rfl), Nat.le_of_ble_eq_true rfl, (show (1 + (N.length + 1 + 1)) * 32 ≤ 140737488355328 from by omega), (show 1 + (N.length + 1 + 1) ≤ 9223372036854775807 from by omega)⟩ | refine w8 ?_ | refine w9 ?_ | refine w1 ?_ | refine w2 ?_ | refine w3 ?_ | refine w4 ?_ | refine w5 ?_ | refine w6 ?_ | refine w7 ?_ | refine yo0 ?_ ?_ | refine yw0 ?_ ?_ | exact qq | fail)
  rename_i u1 v1 hu1 hv1
  obtain ⟨N1, hN1⟩ : ∃ N1, N1 = N ++ [(⟨n_z, u, v⟩ : In)] ++ [(⟨(lF dIn N 0).nm, u1, v1⟩ : In)] := ⟨_, rfl⟩
  have hl1 : N1.length = N.length + 1 + 1 := by rw [hN1, List.length_append, hlz]; rfl
  have hf1 : ∀ a, a < N.length + 1 + 1 → ∀ b, b < 3 → appF (N.length + 1) (fun x => tF cIn (lF dIn (N ++ [⟨n_z, u, v⟩])) (0 + x)) (fun x b => nthP (cIn ⟨(lF dIn N 0).nm, u1, v1⟩) ((0 + x) * 3 + b)) a b = nthP (cIn (lF dIn N1 a)) b := fun a ha b _ => by
    rw [hN1]; exact appf_l (c := cIn) (sz := 3) (d := dIn) hlz rfl a ha b
  refine pcan ((can_frz [5, 7] (by intro l hl; rw [show Γ.k0 = 0 from hk]; exact Nat.zero_le _) rfl (tm := [(5, .ptr 0 0 0), (7, vDs S), (8, vPas P), (9, .ptr 1 0 0), (10, .ptr 2 0 0), (11, vi EV.2), (12, vIns N1), (13, vIns (⟨n_z ++ nm, u2, v2⟩ :: N1))]) (by exact ⟨.inl rfl, .inl rfl, .inl rfl, .inl rfl, .inl rfl, .inl rfl, .inr (argIn rfl hl1 (Nat.le_refl _) (List.Mem.head _) hf1), .inr (argIn rfl (by rw [List.length_cons, hl1]; omega) (Nat.le_refl _) (List.Mem.tail _ (List.Mem.head _)) (fun a ha b hb => by exact front_f (x := ⟨n_z ++ nm, u2, v2⟩) rfl hl1 hf1 a ha b hb)), trivial⟩)).trans (can_rowsv [0, 1, 2] (rows := [tapeRow n g at_, rXE e, rRt EV.1.1 EV.1.2]) (tm := [(5, .ptr 0 0 0), (7, vDs S), (8, vPas P), (9, .ptr 1 0 0), (10, .ptr 2 0 0), (11, vi EV.2), (12, vIns N1), (13, vIns (⟨n_z ++ nm, u2, v2⟩ :: N1))]) (k0_sel hk rfl) rfl (.cons rfl (RowEq.cl (tape_cl _ _ _)) (.cons rfl (RowEq.cl (rXE_cl e)) (.cons rfl rqq .nil))) tmq)) ?_
  have hP2 : P.length = 2 := by obtain ⟨_, _, _, _, h, _⟩ := hE.p; rw [h]; rfl
  have hy : ∃ x, x ∈ N ∧ x.nm = (⟨(lF dIn N 0).nm, u1, v1⟩ : In).nm := ⟨lF dIn N 0, by unfold lF; rw [List.getD_eq_getElem?_getD, List.getElem?_eq_getElem hz]; exact List.getElem_mem hz, rfl⟩
  have bn1 : ∀ x, x ∈ N1 → -9223372036854775808 ≤ x.n ∧ x.n ≤ 9223372036854775807 := by
    rw [hN1]; exact bn_snoc (bn_snoc hE.bn ⟨hu, hv⟩) ⟨hu1, hv1⟩
  have hB := hE.bd
  have e1 : ∀ d, ScOk n_s t0 0 d → PureC G.P 25 [vX e, vIns N1, vDs (S ++ [d]), vPas (P ++ [pGr])] (fun r => r = vRE EV) := fun d hd => by
    have := valEval_c N1 (S ++ [d]) (P ++ [pGr]) ⟨by omega, by rw [List.length_append, List.length_singleton]; omega, by rw [List.length_append, List.length_singleton]; omega, bn1, fun x hx => by
      rcases List.mem_append.1 hx with hx | hx
      · exact hB.bs x hx
      · obtain rfl : x = d := by simpa using hx
        exact ⟨by have := hd.ne; omega, hd.ef⟩, fun x hx => by
      rcases List.mem_append.1 hx with hx | hx
      · exact hB.bp x hx
      · obtain rfl : x = pGr := by simpa using hx
        exact bdp_0 _ _⟩ e he.bd
    rw [hN1, local_1 hE he (by decide) zz hy (by rw [hd.eq]) rfl, ← hEV, ← hN1] at this
    exact this
  have e2 : PureC G.P 25 [vX e, vIns (⟨n_z ++ nm, u2, v2⟩ :: N1), vDs S, vPas P] (fun r => r = vRE EV) := by
    have := valEval_c (⟨n_z ++ nm, u2, v2⟩ :: N1) S P ⟨by rw [List.length_cons]; omega, hB.s, hB.p, fun x hx => by
      rcases List.mem_cons.1 hx with rfl | hx
      · exact ⟨hu2, hv2⟩
      · exact bn1 x hx, hB.bs, hB.bp⟩ e he.bd
    rw [hN1, local_2 he (by decide) zz hy (z_head nm), ← hEV, ← hN1] at this
    exact this
  refine xs_startH (id := 9) [1] false [.take 0, .take 1, .take 3, .take 5, .take 6, .take 11, .take 13] 16 rfl (by kernel_rfl) ?_
  repeat' (first | refine xs rfl ?_ ?_ | exact trivial | ((with_reducible (show AllP (_ :: _))); refine And.intro ?_ ?_) | exact qq | fail)
  refine pc [0, 1, 2] (r9_all n g hn Γ hk N1 _ S P e EV hSl hP2 e1 _ ?_ 11 0 false false false (Nat.le_refl _) rfl at_ dD b1 b2 n3)
  intro at2 c1 c2 st hcan
  refine kseq_normal (pcan hcan ?_)
  repeat' (first | refine yo ?_ ?_ | refine yw ?_ ?_ | refine yk ?_ ?_ | exact trivial | with_reducible refine wA ?_ ?_ | refine ys ?_ ?_ | refine xs_done ?_ | refine yl ?_ ?_ | refine z1 e2 ?_ | refine z2 e2 ?_ | refine z3 e2 ?_ | refine z4 e2 ?_ | refine z5 e2 ?_ | refine z1 cs ?_ | refine z2 cs ?_ | refine z3 cs ?_ | refine z4 cs ?_ | refine z5 cs ?_ | refine w8 ?_ | refine w9 ?_ | refine w1 ?_ | refine w2 ?_ | refine w3 ?_ | refine w4 ?_ | refine w5 ?_ | refine w6 ?_ | refine w7 ?_ | refine yo0 ?_ ?_ | refine yw0 ?_ ?_ | exact qq | fail)
  refine xdone ?_
  refine kretv rfl ⟨trivial, trivial⟩ rfl (eqB ?_)
  simp
theorem local_walk (v : Value) (l : List Int) (nm : ByteArray) (w : World) (h : IntsAt w v l) (hnm : nm.size ≤ 140737488351232) (hG : GOk (fun b => b < w.heap.size) w) : Calls G.P 6 #[v, .string nm] w fun e w' => e = .returned (.bool true) ∧ Ext w w' := by
  have hl : l.length ≤ 9223372036854775807 := by obtain ⟨_, _, _, _, h, _⟩ := h; exact h
  exact law_of (vs := [v, .string nm]) (local_c l.length _ nm hl hnm) ⟨h.rel _, rfl, trivial⟩ hG
open Go.ChangeShapes Go.WideShapes Go.ChangeAt Go.RowKit Go.Joins
open Go.ChangeMaps (open_string shut_string)
theorem valueLocal_own : ownKnob Tryd.prog.godebug = none := by kernel_rfl
theorem valueLocal_laidOut : laidOutB Tryd.prog = true := by kernel_rfl
theorem valueLocal_bd {n : Int} (h : (Lit.int .i64 n).wf = true) : -9223372036854775808 ≤ n ∧ n ≤ 9223372036854775807 := bounds_i64 h
set_option maxRecDepth 100000 in
theorem valueLocal_lifted (os : Os) (started : os.Started) (H : Type) (enc : TypeId × Value → H) :
    ReturnsInHanded {} Tryd.checked os 6 .any (fun w args => (Rows.valueLocalSpec.pre enc Tryd.prog Tryd.f6 [] false w args ∧ laidMetH Tryd.prog [("payroll/calendar.lengths", Rows.laid_payroll_calendar_lengths)] w) ∧ sizedMet enc Tryd.prog Tryd.f6 (OpenSpec.ofChange Rows.valueLocalSpec) false w args)
      (Rows.valueLocalSpec.post enc Tryd.prog Tryd.f6 false true false false) := by
  refine returnsInHanded_of_change_and (C := Tryd.checked) (X := fun w _ => laidMetH Tryd.prog [("payroll/calendar.lengths", Rows.laid_payroll_calendar_lengths)] w) (fun _ _ _ hh h => h.of_heap hh) valueLocal_own started (by kernel_rfl) Tryd.func6
    (ChangeSpec.witness_shaped (enc := enc) (C := Tryd.checked) (os := os) (X := fun w _ => laidMetH Tryd.prog [("payroll/calendar.lengths", Rows.laid_payroll_calendar_lengths)] w) false (World.doorLaid Tryd.prog 400 os) #[.slice none 0 0, .string ⟨#[]⟩] 8 rfl (World.shaped_of_RefB (by kernel_rfl) (by kernel_rfl)) (by kernel_rfl) (by kernel_rfl) (by kernel_rfl) (door_met os _)) ?_
  intro W base args ds gs before hval0 hW hcnd hsz hL _
  have hval : ∀ (j : Nat) t v, Tryd.f6.params[j]? = some t → args[j]? = some v → Value.okWide Tryd.prog W .any base t v := hval0
  have hW' := hW
  obtain ⟨p, q, hA0, hV, rfl, hfz, hnd⟩ := hW
  have hA : DataW.TrodAll enc Tryd.prog W 0 (fun _ => true) true Tryd.f6.params.toList args.toList ds p := hA0
  rw [Tryd.params6] at hA hval
  obtain ⟨v0, vs0, d0, ds0, p0, q0, hargs, rfl, rfl, h0, r0⟩ := trodAll_cons hA
  obtain ⟨v1, vs1, d1, ds1, p1, q1, rfl, rfl, rfl, h1, r1⟩ := trodAll_cons r0
  obtain ⟨rfl, rfl, rfl⟩ := trodAll_nil r1
  obtain rfl : args = #[v0, v1] := by cases args; simp_all
  obtain ⟨rfl, rfl⟩ := trodVars_none hV
  have k0 := h0
  have lt0 : ∀ x ∈ p0, x.block < W.heap.size := by obtain ⟨m, hm⟩ := k0; exact DataW.trod_lt m _ _ _ hm
  have k1 := h1
  have lt1 : ∀ x ∈ p1, x.block < W.heap.size := by obtain ⟨m, hm⟩ := k1; exact DataW.trod_lt m _ _ _ hm
  obtain ⟨a0, len0, cap0, rfl⟩ := okWide_slice Tryd.underlying29 (hval 0 29 v0 rfl rfl)
  obtain ⟨z0, w0⟩ : ∃ zs : List Int, IntsAt W (.slice a0 len0 cap0) zs := by
    obtain ⟨fuel, hf⟩ := h0
    rcases open_ints Tryd.underlying29 Tryd.underlying3 (by kernel_rfl) hf with ⟨hcs, _⟩ | ⟨x, l, c, zs, hcs, _, hl, hm, hz, _, hcell, hwz⟩
    · simp [Value.cells] at hcs
      obtain ⟨rfl, rfl, rfl⟩ := hcs
      exact ⟨[], intsAt_of_row (zs := []) (.inl ⟨rfl, rfl, rfl, rfl⟩)⟩
    · simp [Value.cells] at hcs
      obtain ⟨rfl, rfl, rfl⟩ := hcs
      exact ⟨zs.take _, intsAt_of_row (.inr ⟨_, rfl, hl, hm, by simpa using hz, hcell, hwz⟩)⟩
  obtain ⟨s1, rfl, rfl, _, _⟩ := Go.ChangeMaps.open_string Tryd.underlying9 (hval 1 9 v1 rfl rfl) h1
  have sz1 : s1.size ≤ 140737488351232 := by
    have h := sized_string hsz (j := 1) (t := 9) (bytes := s1.data.toList) (by rfl) (by rfl)
    have h2 : s1.size = s1.data.toList.length := (Array.length_toList (xs := s1.data)).symm
    unfold reachBytes at h; omega
  clear hA0 hval0
  refine (local_walk _ z0 s1 W w0 sz1 (glo_of hL)).mono fun e W' ⟨he, bel⟩ => ?_
  subst he
  exact ⟨_, rfl, _, _, _, [], _, [], hW', trodAll_mk1 (shut_bool Tryd.underlying4 _), (trodAll_cons_mk (Below.trod valueLocal_laidOut (by kernel_rfl) (of_decide_eq_true (by kernel_rfl)) k0 bel lt0) (trodAll_cons_mk (Below.trod valueLocal_laidOut (by kernel_rfl) (of_decide_eq_true (by kernel_rfl)) k1 bel lt1) trodAll_mk0)), rfl, bel.frame _, fun h => by cases h⟩

theorem valueLocal_row : Rows.ValueLocalSaid :=
  OpenClaim.holds_of_wide 6 Tryd.f6 rfl rfl rfl rfl rfl rfl rfl ⟨rfl, rfl, rfl, rfl, rfl⟩ rfl rfl rfl rfl rfl (by kernel_rfl) Tryd.func6 (by kernel_rfl)
    (of_decide_eq_true (by kernel_rfl)) (by unfold Func.isWrapper; first | (rw [if_pos (by decide +kernel)]; kernel_rfl) | (rw [if_neg (by decide +kernel)]; exact ⟨rfl, rfl⟩))
    (fun os started H enc _ => valueLocal_lifted os started H enc)
set_option maxRecDepth 100000 in
theorem valueLocal_proved : Rows.ValueLocalCardSaid :=
  Claim7.holds_tied_plain_at .later [] [.data] true (true, "79681ba0f93811b419d357366bb2f2afe1925af78223a0a5cee879e9a60a0b40") false
    valueLocal_row (fun _ h => by cases h) (by kernel_rfl) (fun _ h => by cases h) valueLocal_row_tie rfl ⟨rfl, rfl⟩ (by kernel_rfl) rfl
    (fun f fn hf hfn => by
      obtain rfl : f = 6 := Option.some.inj ((show Tryd.prog.funcNamed "payroll/payrolllaw22.ValueLocal" = some 6 by kernel_rfl).symm.trans hf) |>.symm
      obtain rfl : fn = Tryd.f6 := (Option.some.inj (Tryd.func6.symm.trans hfn)).symm
      exact ⟨by kernel_rfl, fun j t ht => by
        rw [Tryd.params6] at ht
        have ht := Array.mem_of_getElem? ht
        have hall : (Tryd.f6.params.all fun u => !Tryd.prog.wantsStandIn u) = true := by kernel_rfl
        rw [Tryd.params6] at hall
        exact (show Tryd.prog.wantsStandIn t = false by simpa using Array.all_eq_true_iff_forall_mem.1 hall t ht)⟩)
    (by kernel_rfl)
#print axioms valueLocal_proved
end Go.Proofs.YtcghpepighboaaaDoor
