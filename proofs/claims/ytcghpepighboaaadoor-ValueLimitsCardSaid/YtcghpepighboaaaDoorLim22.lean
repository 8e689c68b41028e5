/- payrolllaw22: ValueLimits. -/
import Derived.Test.YtcghpepighboaaaDoorV22
import Derived.Test.YtcghpepighboaaaDoorPvTap
import Derived.Test.YtcghpepighboaaaDoorBridge
import Derived.Test.YtcghpepighboaaaDoorGlo
set_option linter.unusedSimpArgs false
set_option linter.unusedVariables false
set_option maxRecDepth 100000
namespace Go.Proofs.YtcghpepighboaaaDoor
abbrev n_p : ByteArray := ⟨#[112]⟩
def fL (n : Nat) (j : Nat) : Int × Int := ((n : Int) - j, 1)
def eL (n : Nat) (j : Nat) : En := (2 * (j : Int), (n : Int) - j, 1)
theorem cPr_cl : CellsCl cPr := fun _ => ⟨trivial, trivial, trivial⟩
theorem mean_L : ((meanS 119 (fL 119)).2 = 0 ∧ (meanS 120 (fL 120)).2 = 0) ∧ (meanS 121 (fL 121)).2 = 3 := by decide +kernel
theorem bestS_ge {ef : Nat → En} {a b : Int} (h : cmpR (ef 0).1 1 a b ≤ 0) : ∀ n, 0 ≤ bestS ef a b (n + 1)
  | 0 => by
    rw [bestS, if_pos ⟨h, .inl (by show (-1 : Int) < 0; decide)⟩]; decide
  | n + 1 => by
    have ih := bestS_ge h n
    rw [bestS]; split
    · omega
    · exact ih
theorem ent_L : allK 63 (fun i => entB (eL 63 i)) = true ∧ allK 64 (fun i => entB (eL 64 i)) = true := by decide +kernel
theorem look_L {n : Nat} {key : Int} (h0 : 0 ≤ key) (h1 : key < 140) (hn : n = 63 ∨ n = 64) : (lookS n (eL n) key 1).2 = 0 := by
  have hk : okR key 1 = true := by simp [okR]; omega
  have hc : cmpR (eL n 0).1 1 key 1 ≤ 0 := by
    unfold eL cmpR
    split
    · split
      · decide
      split
      · rename_i h1 h2; simp at h2; omega
      · decide
    · decide
  unfold lookS
  rcases hn with rfl | rfl
  · rw [if_neg (by decide), if_neg (by rw [hk, ent_L.1]; simp), if_neg (Int.not_lt.2 (bestS_ge hc 62))]
  · rw [if_neg (by decide), if_neg (by rw [hk, ent_L.2]; simp), if_neg (Int.not_lt.2 (bestS_ge hc 63))]
theorem look_L2 {ef : Nat → En} {key : Int} : (lookS 65 ef key 1).2 = 3 := by unfold lookS; rw [if_pos (by decide)]
theorem argPaF {mem : List Row} {L : List Nat} {l n : Nat} {nm : ByteArray} {f : Nat → Int × Int} (hr : rowAt mem l = some ⟨.own, false, 1, 2, fun x y => nthP [vs nm, .vsl n 2 (tF cPr f)] (x * 2 + y)⟩) (hL : l ∈ L) : ArgOk mem L (.lsl l 0 1) (vPas [⟨nm, n, f⟩]) :=
  argLsl (r := ⟨.own, false, 1, 2, _⟩) hr trivial hL (Nat.le_refl _) fun x hx y hy => ⟨by
    obtain rfl : x = 0 := by omega
    have hy : y < 2 := hy
    rcases (by omega : y = 0 ∨ y = 1) with rfl | rfl <;> rfl, clL_nth _ y ⟨trivial, trivial, trivial⟩⟩
theorem ref_big (a b n count : Int) (m : Nat) (x : Nat → Int) (d1 d2 : Int) (hs : PureC G.P 41 [vC a b, vi n] (fun r => r = .tup 2 (nthP [vC d1 d2, vi 0]))) (hc1 : 1 ≤ count) (hc2 : count ≤ 120) (hm : 1024 < m) :
    PureC G.P 13 [vC a b, vi n, vi count, .vsl m 1 (tI x)] (fun r => r = .tup 2 (nthP [vLi [], vi 3])) := by
  refine pure_of (G := G.toPg) (fn := Tryd.f13) Tryd.func13 rfl rfl rfl ?_; intro Γ hk
  repeat' (first | refine yo ?_ ?_ | refine yw ?_ ?_ | refine yk ?_ ?_ | exact trivial | with_reducible refine wA ?_ ?_ | refine ys ?_ ?_ | refine xs_done ?_ | refine yl ?_ ?_ | refine z1 hs ?_ | refine z2 hs ?_ | refine z3 hs ?_ | refine z4 hs ?_ | refine z5 hs ?_ | refine w8 ?_ | refine w9 ?_ | refine w1 ?_ | refine w2 ?_ | refine w3 ?_ | refine w4 ?_ | refine w5 ?_ | refine w6 ?_ | refine w7 ?_ | refine yo0 ?_ ?_ | refine yw0 ?_ ?_ | exact qq | fail)
  refine pcond (b := false) ?_ ?_ ?_
  · refine eqB ?_
    rw [Bool.eq_iff_iff]; simp; omega
  · intro h; cases h
  intro _
  repeat' (first | refine yo ?_ ?_ | refine yw ?_ ?_ | refine yk ?_ ?_ | exact trivial | with_reducible refine wA ?_ ?_ | refine ys ?_ ?_ | refine xs_done ?_ | refine yl ?_ ?_ | refine w8 ?_ | refine w9 ?_ | refine w1 ?_ | refine w2 ?_ | refine w3 ?_ | refine w4 ?_ | refine w5 ?_ | refine w6 ?_ | refine w7 ?_ | refine yo0 ?_ ?_ | refine yw0 ?_ ?_ | exact qq | fail)
  refine pcond (b := true) ?_ ?_ ?_
  · refine eqB ?_
    rw [Bool.eq_iff_iff]; simp; omega
  · intro _
    repeat' (first | refine yo ?_ ?_ | refine yw ?_ ?_ | refine yk ?_ ?_ | exact trivial | with_reducible refine wA ?_ ?_ | refine ys ?_ ?_ | refine xs_done ?_ | refine yl ?_ ?_ | refine w8 ?_ | refine w9 ?_ | refine w1 ?_ | refine w2 ?_ | refine w3 ?_ | refine w4 ?_ | refine w5 ?_ | refine w6 ?_ | refine w7 ?_ | refine yo0 ?_ ?_ | refine yw0 ?_ ?_ | exact qq | fail)
    refine xdone ?_
    exact kret [] rfl ⟨trivial, trivial, trivial⟩ (qs := [vLi [], vi 3]) ⟨argNil, argVal, trivial⟩ rfl
  · intro h; cases h
set_option maxHeartbeats 4000000 in
theorem lim_at (n at_ k : Int) (hkn : k = n % 3) (h3 : k = 0 ∨ k = 1 ∨ k = 2) : PureC G.P 3 [vi n, vi at_] (fun r => r = vb true) := by
  have cs := sane22_c
  have cm := mod_c n 3 (by omega) (by omega)
  rw [← hkn] at cm
  refine pure_of (G := G.toPg) (fn := Tryd.f3) Tryd.func3 rfl rfl rfl ?_; intro Γ hk
  repeat' (first | refine yo ?_ ?_ | refine yw ?_ ?_ | refine yk ?_ ?_ | exact trivial | with_reducible refine wA ?_ ?_ | refine ys ?_ ?_ | refine xs_done ?_ | refine yl ?_ ?_ | refine z1 cm ?_ | refine z2 cm ?_ | refine z3 cm ?_ | refine z4 cm ?_ | refine z5 cm ?_ | refine w8 ?_ | refine w9 ?_ | refine w1 ?_ | refine w2 ?_ | refine w3 ?_ | refine w4 ?_ | refine w5 ?_ | refine w6 ?_ | refine w7 ?_ | refine yo0 ?_ ?_ | refine yw0 ?_ ?_ | exact qq | fail)
  obtain ⟨N, hN⟩ : ∃ N : Nat, (N : Int) = 119 + k := ⟨(119 + k).toNat, by omega⟩
  rw [w64 (n := 119 + k) (by omega) (by omega), ← hN]
  refine pcan (can_virt (vRow cPr 2 0 (fL N)) rfl) ?_
  refine pcan (st' := ⟨[(1, vi at_), (5, vi k), (6, slP 0 0), (7, vi ((N - 0 : Nat) : Int))], [vRow cPr 2 0 (fL N)]⟩) (can_rowsv [0] (k0_sel hk rfl) rfl (.cons rfl (RowEq.cl (v_cl cPr_cl _ _ _)) .nil) (by exact ⟨PEq.refl _, PEq.refl _, PEq.refl _, PEq.of (by rw [Nat.sub_zero]; rfl), trivial⟩)) ?_
  refine ploop (fun q st => ∃ c : Nat, c ≤ N ∧ q = N - c ∧ st = ⟨[(1, vi at_), (5, vi k), (6, slP c 0), (7, vi ((N - c : Nat) : Int))], [vRow cPr 2 c (fL N)]⟩) N ⟨0, by omega, rfl, rfl⟩ ?_
  rintro _ _ ⟨c, hc, rfl, rfl⟩
  repeat' (first | refine yo ?_ ?_ | refine yw ?_ ?_ | refine yk ?_ ?_ | exact trivial | with_reducible refine wA ?_ ?_ | refine ys ?_ ?_ | refine xs_done ?_ | refine yl ?_ ?_ | refine w8 ?_ | refine w9 ?_ | refine w1 ?_ | refine w2 ?_ | refine w3 ?_ | refine w4 ?_ | refine w5 ?_ | refine w6 ?_ | refine w7 ?_ | refine yo0 ?_ ?_ | refine yw0 ?_ ?_ | exact qq | fail)
  refine pcond rfl ?_ ?_ <;> intro hc2 <;> simp at hc2
  · have hw : IntKind.i64.wrap (((N - c : Nat) : Int) - 1) = ((N - (c + 1) : Nat) : Int) := by rw [w64 (by omega) (by omega)]; omega
    rcases c with _ | c
    · repeat' (first | refine yo ?_ ?_ | refine yw ?_ ?_ | refine yk ?_ ?_ | exact trivial | with_reducible refine wA ?_ ?_ | refine ys ?_ ?_ | refine xs_done ?_ | refine yl ?_ ?_ | refine w8 ?_ | refine w9 ?_ | refine w1 ?_ | refine w2 ?_ | refine w3 ?_ | refine w4 ?_ | refine w5 ?_ | refine w6 ?_ | refine w7 ?_ | refine yo0 ?_ ?_ | refine yw0 ?_ ?_ | exact qq | fail)
      rw [hw]
      exact kloop_next (st' := ⟨[(1, vi at_), (5, vi k), (6, slP (0 + 1) 0), (7, vi ((N - (0 + 1) : Nat) : Int))], [vRow cPr 2 (0 + 1) (fL N)]⟩) (N - (0 + 1)) (can_rowsv [2] (k0_sel hk rfl) rfl (.cons rfl (app_g0 cPr_cl (by unfold fL; rw [Nat.sub_zero]; rfl)) .nil) tmq) (by omega) ⟨0 + 1, by omega, rfl, rfl⟩
    · repeat' (first | refine yo ?_ ?_ | refine yw ?_ ?_ | refine yk ?_ ?_ | exact trivial | with_reducible refine wA ?_ ?_ | refine ys ?_ ?_ | refine xs_done ?_ | refine yl ?_ ?_ | exact ⟨Nat.le_refl _, (by rw [hk]; exact Nat.zero_le _), Nat.le_of_eq (Nat.zero_add _), (show (c + 1 : Nat) * 16 ≤ 140737488355328 from by omega), (show (c + 1 : Nat) ≤ 9223372036854775807 from by omega)⟩ | refine w8 ?_ | refine w9 ?_ | refine w1 ?_ | refine w2 ?_ | refine w3 ?_ | refine w4 ?_ | refine w5 ?_ | refine w6 ?_ | refine w7 ?_ | refine yo0 ?_ ?_ | refine yw0 ?_ ?_ | exact qq | fail)
      rw [hw]
      exact kloop_next (st' := ⟨[(1, vi at_), (5, vi k), (6, slP (c + 1 + 1) 0), (7, vi ((N - (c + 1 + 1) : Nat) : Int))], [vRow cPr 2 (c + 1 + 1) (fL N)]⟩) (N - (c + 1 + 1)) (can_rowsv [2] (k0_sel hk rfl) rfl (.cons rfl (app_g cPr_cl (by unfold fL; rw [show ((N - (c + 1) : Nat) : Int) = (N : Int) - ((c + 1 : Nat) : Int) by omega]) rfl) .nil) tmq) (by omega) ⟨c + 1 + 1, by omega, rfl, rfl⟩
  · obtain rfl : c = N := by omega
    rcases c with _ | c
    · omega
    repeat' (first | refine yo ?_ ?_ | refine yw ?_ ?_ | refine yk ?_ ?_ | exact trivial | with_reducible refine wA ?_ ?_ | refine ys ?_ ?_ | refine xs_done ?_ | refine yl ?_ ?_ | refine w8 ?_ | refine w9 ?_ | refine w1 ?_ | refine w2 ?_ | refine w3 ?_ | refine w4 ?_ | refine w5 ?_ | refine w6 ?_ | refine w7 ?_ | refine yo0 ?_ ?_ | refine yw0 ?_ ?_ | exact qq | fail)
    obtain ⟨M, hM⟩ : ∃ M : Nat, (M : Int) = 63 + k := ⟨(63 + k).toNat, by omega⟩
    rw [w64 (n := 63 + k) (by omega) (by omega), ← hM]
    obtain ⟨N, hNc⟩ : ∃ N, N = c + 1 := ⟨_, rfl⟩
    rw [← hNc] at hN ⊢
    refine pcan (can_virt (vRow cN3 3 0 (eL M)) rfl) ?_
    refine pcan (st' := ⟨[(1, vi at_), (5, vi k), (6, .lsl 0 0 N), (8, slP 0 1), (9, vi ((M - 0 : Nat) : Int))], [oRow cPr 2 N (fL N), vRow cN3 3 0 (eL M)]⟩) (can_rowsv [0, 1] (k0_sel hk rfl) rfl (.cons rfl (by rw [hNc]; exact RowEq.cl (o_cl cPr_cl _ _ _)) (.cons rfl (RowEq.cl (v_cl cN3_cl _ _ _)) .nil)) (by exact ⟨PEq.refl _, PEq.refl _, PEq.of (by rw [hNc]; rfl), PEq.refl _, PEq.of (by rw [Nat.sub_zero]; rfl), trivial⟩)) ?_
    clear hNc hc hc2
    refine ploop (fun q st => ∃ c : Nat, c ≤ M ∧ q = M - c ∧ st = ⟨[(1, vi at_), (5, vi k), (6, .lsl 0 0 N), (8, slP c 1), (9, vi ((M - c : Nat) : Int))], [oRow cPr 2 N (fL N), vRow cN3 3 c (eL M)]⟩) M ⟨0, by omega, rfl, rfl⟩ ?_
    rintro _ _ ⟨c, hc, rfl, rfl⟩
    repeat' (first | refine yo ?_ ?_ | refine yw ?_ ?_ | refine yk ?_ ?_ | exact trivial | with_reducible refine wA ?_ ?_ | refine ys ?_ ?_ | refine xs_done ?_ | refine yl ?_ ?_ | refine w8 ?_ | refine w9 ?_ | refine w1 ?_ | refine w2 ?_ | refine w3 ?_ | refine w4 ?_ | refine w5 ?_ | refine w6 ?_ | refine w7 ?_ | refine yo0 ?_ ?_ | refine yw0 ?_ ?_ | exact qq | fail)
    refine pcond rfl ?_ ?_ <;> intro hc2 <;> simp at hc2
    · have hw : IntKind.i64.wrap (((M - c : Nat) : Int) - 1) = ((M - (c + 1) : Nat) : Int) := by rw [w64 (by omega) (by omega)]; omega
      rcases c with _ | c
      · repeat' (first | refine yo ?_ ?_ | refine yw ?_ ?_ | refine yk ?_ ?_ | exact trivial | with_reducible refine wA ?_ ?_ | refine ys ?_ ?_ | refine xs_done ?_ | refine yl ?_ ?_ | refine w8 ?_ | refine w9 ?_ | refine w1 ?_ | refine w2 ?_ | refine w3 ?_ | refine w4 ?_ | refine w5 ?_ | refine w6 ?_ | refine w7 ?_ | refine yo0 ?_ ?_ | refine yw0 ?_ ?_ | exact qq | fail)
        rw [hw]
        exact kloop_next (st' := ⟨[(1, vi at_), (5, vi k), (6, .lsl 0 0 N), (8, slP (0 + 1) 1), (9, vi ((M - (0 + 1) : Nat) : Int))], [oRow cPr 2 N (fL N), vRow cN3 3 (0 + 1) (eL M)]⟩) (M - (0 + 1)) (can_rowsv [0, 3] (k0_sel hk rfl) rfl (.cons rfl (RowEq.cl (o_cl cPr_cl _ _ _)) (.cons rfl (app_g0 cN3_cl (by unfold eL; rw [Nat.sub_zero]; rfl)) .nil)) tmq) (by omega) ⟨0 + 1, by omega, rfl, rfl⟩
      · repeat' (first | refine yo ?_ ?_ | refine yw ?_ ?_ | refine yk ?_ ?_ | exact trivial | with_reducible refine wA ?_ ?_ | refine ys ?_ ?_ | refine xs_done ?_ | refine yl ?_ ?_ | refine w8 ?_ | refine w9 ?_ | refine w1 ?_ | refine w2 ?_ | refine w3 ?_ | refine w4 ?_ | refine w5 ?_ | refine w6 ?_ | refine w7 ?_ | refine yo0 ?_ ?_ | refine yw0 ?_ ?_ | exact qq | fail)
        have hw2 : IntKind.i64.wrap (2 * ((c + 1 : Nat) : Int)) = 2 * ((c + 1 : Nat) : Int) := w64 (by omega) (by omega)
        have hw3 : ((M - (c + 1) : Nat) : Int) = (M : Int) - ((c + 1 : Nat) : Int) := by omega
        have e3 : [vi (IntKind.i64.wrap (2 * ((c + 1 : Nat) : Int))), vi ((M - (c + 1) : Nat) : Int), vi 1] = cN3 (eL M (c + 1)) := by rw [hw2, hw3]; rfl
        rw [hw]
        exact kloop_next (st' := ⟨[(1, vi at_), (5, vi k), (6, .lsl 0 0 N), (8, slP (c + 1 + 1) 1), (9, vi ((M - (c + 1 + 1) : Nat) : Int))], [oRow cPr 2 N (fL N), vRow cN3 3 (c + 1 + 1) (eL M)]⟩) (M - (c + 1 + 1)) (can_rowsv [0, 3] (k0_sel hk rfl) rfl (.cons rfl (RowEq.cl (o_cl cPr_cl _ _ _)) (.cons rfl (app_g cN3_cl e3 rfl) .nil)) tmq) (by omega) ⟨c + 1 + 1, by omega, rfl, rfl⟩
    · obtain rfl : c = M := by omega
      rcases c with _ | c
      · omega
      obtain ⟨M, hMc⟩ : ∃ M, M = c + 1 := ⟨_, rfl⟩
      refine pcan ((can_frz [0, 1] (by intro l hl; rw [hk]; exact Nat.zero_le _) rfl (tm := [(1, vi at_), (5, vi k), (6, .vsl N 2 (tF cPr (fL N))), (8, .vsl M 3 (tF cN3 (eL M)))]) (by rw [hMc]; exact ⟨.inl rfl, .inl rfl, .inr (arg_o (s := .own) cPr_cl rfl trivial (List.Mem.head _)), .inr (arg_o (s := .own) cN3_cl rfl trivial (List.Mem.tail _ (List.Mem.head _))), trivial⟩)).trans (can_rowsv [] (rows := []) (tm := [(1, vi at_), (5, vi k), (6, .vsl N 2 (tF cPr (fL N))), (8, .vsl M 3 (tF cN3 (eL M)))]) (k0_sel hk rfl) rfl .nil tmq)) ?_
      rw [← hMc] at hM
      clear hc hc2 hMc
      have c1 := mean_c N (fL N) (by omega) (fun i hi => by unfold fL; dsimp only; omega)
      have c2 := mean22_c N (fL N) (by omega) (fun i hi => by unfold fL; dsimp only; omega)
      have hmd := Int.emod_nonneg at_ (show (140 : Int) ≠ 0 by decide)
      have hmd2 := Int.emod_lt_of_pos at_ (show (0 : Int) < 140 by decide)
      have c3 := mod_c at_ 140 (by omega) (by omega)
      generalize at_ % 140 = key at *
      have c4 := lookup_c M (eL M) key 1 (by omega) (fun i hi => by unfold eL; dsimp only; omega) (by omega)
      have c5 := lookup22_c M (eL M) key 1 (by omega) (fun i hi => by unfold eL; dsimp only; omega) (by omega)
      have hX : (meanS N (fL N)).2 = if k < 2 then 0 else 3 := by
        rcases h3 with rfl | rfl | rfl
        · obtain rfl : N = 119 := by omega
          exact mean_L.1.1
        · obtain rfl : N = 120 := by omega
          exact mean_L.1.2
        · obtain rfl : N = 121 := by omega
          exact mean_L.2
      have hY : (lookS M (eL M) key 1).2 = if k < 2 then 0 else 3 := by
        rcases h3 with rfl | rfl | rfl
        · exact look_L hmd hmd2 (.inl (by omega))
        · exact look_L hmd hmd2 (.inr (by omega))
        · obtain rfl : M = 65 := by omega
          exact look_L2
      have c6 := average_c [⟨n_p, N, fL N⟩] n_p N (by show 1 ≤ 1000000000; omega) (by
        intro p hp
        simp only [List.mem_cons, List.not_mem_nil, or_false] at hp
        subst hp
        exact ⟨by dsimp only; omega, fun i hi => by unfold fL; dsimp only at hi ⊢; omega⟩)
      have hZ : (avgS [⟨n_p, N, fL N⟩] n_p N).2 = if k < 2 then 0 else 2 := by
        unfold avgS
        by_cases h2 : k < 2
        · rw [if_neg (by omega), if_pos h2]
          have e : findPa [⟨n_p, N, fL N⟩] n_p = some ⟨n_p, N, fL N⟩ := by unfold findPa; simp
          rw [e]
          show (meanS (min (N : Int).toNat N) (fL N)).2 = 0
          rw [show min (N : Int).toNat N = N by omega, hX, if_pos h2]
        · rw [if_pos (by omega), if_neg h2]
      generalize meanS N (fL N) = X at *
      generalize lookS M (eL M) key 1 = Y at *
      generalize avgS [⟨n_p, N, fL N⟩] n_p N = Z at *
      have hw1 : IntKind.i64.wrap (1023 + k) = 1023 + k := w64 (by omega) (by omega)
      obtain ⟨R, E, hE, c7⟩ : ∃ (R : List Int) (E : Int), (E = if k < 2 then 0 else 3) ∧ PureC G.P 13 [vC 0 0, vi 10, vi 3, .vsl (1023 + k).toNat 1 (tI fun _ => 0)] (fun r => r = .tup 2 (nthP [vLi R, vi E])) := by
        by_cases h2 : k < 2
        · exact ⟨_, 0, by rw [if_pos h2], ref_ok 0 0 10 3 (1023 + k).toNat (fun _ => 0) _ _ (span0_c 10 (by decide) (by decide)) (by decide) (by decide) (by decide) (by decide) (by omega)⟩
        · exact ⟨[], 3, by rw [if_neg h2], ref_big 0 0 10 3 (1023 + k).toNat (fun _ => 0) _ _ (span0_c 10 (by decide) (by decide)) (by decide) (by decide) (by omega)⟩
      have hw2 : IntKind.i64.wrap (119 + k) = (N : Int) := by rw [w64 (by omega) (by omega), hN]
      repeat' (first | refine yo ?_ ?_ | refine yw ?_ ?_ | refine yk ?_ ?_ | exact trivial | with_reducible refine wA ?_ ?_ | refine ys ?_ ?_ | refine xs_done ?_ | refine yl ?_ ?_ | refine z1 c1 ?_ | refine z2 c1 ?_ | refine z3 c1 ?_ | refine z4 c1 ?_ | refine z5 c1 ?_ | refine z1 c2 ?_ | refine z2 c2 ?_ | refine z3 c2 ?_ | refine z4 c2 ?_ | refine z5 c2 ?_ | refine z1 c3 ?_ | refine z2 c3 ?_ | refine z3 c3 ?_ | refine z4 c3 ?_ | refine z5 c3 ?_ | refine z1 c4 ?_ | refine z2 c4 ?_ | refine z3 c4 ?_ | refine z4 c4 ?_ | refine z5 c4 ?_ | refine z1 c5 ?_ | refine z2 c5 ?_ | refine z3 c5 ?_ | refine z4 c5 ?_ | refine z5 c5 ?_ | refine w8 ?_ | refine w9 ?_ | refine w1 ?_ | refine w2 ?_ | refine w3 ?_ | refine w4 ?_ | refine w5 ?_ | refine w6 ?_ | refine w7 ?_ | refine yo0 ?_ ?_ | refine yw0 ?_ ?_ | exact qq | fail)
      rw [hw1]
      refine pop_callc [0] rfl rfl rfl rfl rfl rfl (fun l' _ => by rw [hk]; exact Nat.zero_le _) c7 ⟨argCl (clA ⟨trivial, trivial, trivial⟩), argVal, argVal, argLsl (r := ⟨.own, false, _, 1, _⟩) rfl trivial (List.Mem.head _) (Nat.le_of_eq (Nat.zero_add _)) (fun a ha b hb => ⟨by
        have hb : b < 1 := hb
        obtain rfl : b = 0 := by omega
        rfl, trivial⟩), trivial⟩ ?_
      rintro _ rfl
      repeat' (first | refine yo ?_ ?_ | refine yw ?_ ?_ | refine yk ?_ ?_ | exact trivial | with_reducible refine wA ?_ ?_ | refine ys ?_ ?_ | refine xs_done ?_ | refine yl ?_ ?_ | refine w8 ?_ | refine w9 ?_ | refine w1 ?_ | refine w2 ?_ | refine w3 ?_ | refine w4 ?_ | refine w5 ?_ | refine w6 ?_ | refine w7 ?_ | refine yo0 ?_ ?_ | refine yw0 ?_ ?_ | exact qq | fail)
      rw [hw2]
      refine pop_call [6] rfl rfl rfl rfl rfl c6 ⟨argPaF rfl (List.Mem.head _), argVal, argVal, trivial⟩ ?_
      rintro _ rfl
      refine ⟨scB_spec _ rfl, ?_⟩
      repeat' (first | refine yo ?_ ?_ | refine yw ?_ ?_ | refine yk ?_ ?_ | exact trivial | with_reducible refine wA ?_ ?_ | refine ys ?_ ?_ | refine xs_done ?_ | refine yl ?_ ?_ | refine z1 cs ?_ | refine z2 cs ?_ | refine z3 cs ?_ | refine z4 cs ?_ | refine z5 cs ?_ | refine w8 ?_ | refine w9 ?_ | refine w1 ?_ | refine w2 ?_ | refine w3 ?_ | refine w4 ?_ | refine w5 ?_ | refine w6 ?_ | refine w7 ?_ | refine yo0 ?_ ?_ | refine yw0 ?_ ?_ | exact qq | fail)
      · exact fun h => ⟨h, fun h2 => by rw [h, h2]; rfl⟩
      · exact fun h => ⟨h, fun h2 => by rw [h, h2]; rfl⟩
      refine kretv rfl ⟨trivial, trivial⟩ rfl (eqB ?_)
      rw [hX, hY, hZ, hE]
      by_cases h2 : k < 2
      · simp [h2]
      · simp [h2]
theorem limits_c (n at_ : Int) : PureC G.P 3 [vi n, vi at_] (fun r => r = vb true) := lim_at n at_ (n % 3) rfl (by omega)
theorem limits_walk (n x : Int) (w : World) (hG : GOk (fun b => b < w.heap.size) w) : Calls G.P 3 #[.int .i64 n, .int .i64 x] w fun e w' => e = .returned (.bool true) ∧ Ext w w' :=
  law_of (vs := [.int .i64 n, .int .i64 x]) (limits_c n x) ⟨rfl, rfl, trivial⟩ hG
end Go.Proofs.YtcghpepighboaaaDoor
