/- CheckFine: the given statement, for every input: the law returns true and leaves its arguments alone. No conditions. -/
import Derived.Test.YtnlcenlamkfmnaaY1
import Derived.ProofKit
import Derived.OpenShut
import Derived.ShutString
import Derived.ChangeOld
import Derived.Lib.SmallJoins
set_option linter.unusedSimpArgs false
set_option linter.unusedVariables false
set_option maxRecDepth 100000
namespace Go.Proofs.Ytnlcenlamkfmnaa
theorem nameS_metal : nameS n_metal = true := by decide +kernel
theorem AGood.bd {h : Nat} {l : List Df} (hA : AGood h l) : ∀ d, d ∈ l → BdD d := fun d hd => (hA.all d hd).bd
/-- an agreement without problems is checked -/
theorem checkG_f {h : Nat} {l : List Df} (hA : AGood h l) (h32 : h ≤ 32) : PureF G.P 8 [vA n_metal l] (fun r => r = .tup 2 (nthP [vPr [], vi 0])) := (check_f n_metal l (by decide) hA.bd).mono (by rintro r rfl; rw [hA.chk h32 nameS_metal])
theorem argAd {mem : List Row} {L : List Nat} {l k : Nat} {D : List Df} (hr : rowAt mem l = some (oRow cD 21 (k + 1) (lF dD D))) (hk : D.length = k + 1) (hL : l ∈ L) : ArgOk mem L (.agg 2 (nthP [vs n_metal, .lsl l 0 (k + 1)])) (vA n_metal D) := argAgr (by have := arg_o (s := .own) (L := L) cD_cl hr trivial hL; rw [← hk] at this ⊢; exact this)
set_option maxHeartbeats 8000000 in
theorem fine_c (n : Nat) (g : Nat → Int) (hn : n ≤ 9223372036854775807) : PureC G.P 3 [.vsl n 1 (tI g)] (fun r => r = vb true) := by
  refine pure_of (G := G.toPg) (fn := Try.f3) Try.func3 rfl rfl rfl ?_; intro Γ hk
  repeat' (first | refine xo 4000 rfl ?_ ?_ | refine xw 4000 rfl ?_ ?_ | refine xk 4000 rfl ?_ ?_ | exact trivial | ((with_reducible (show AllP (_ :: _))); refine And.intro ?_ ?_) | refine xs rfl ?_ ?_ | refine xs_done ?_ | refine xs_last rfl rfl (stepOp_pst rfl ?_ ?_) | refine pcond_t rfl ?_ | refine pcond_f rfl ?_ | refine kround_exit ?_ | refine kround_ret ?_ | refine kround_next ?_ | refine kloop_ret ?_ | refine kloop_exit ?_ | refine kcut_ret ?_ | refine kcut_exit ?_ | refine xo0 4000 rfl ?_ ?_ | refine xw0 4000 rfl ?_ ?_ | exact qq | fail)
  refine pop_rowsc [] rfl rfl rfl rfl rfl rfl .nil (new_c n g) (by exact ⟨PEq.refl _, trivial⟩) ?_
  rintro r rows ⟨rfl, rfl⟩
  refine ⟨_, _, rfl, ⟨tape_cl _ _ _, trivial⟩, rfl, ?_⟩
  repeat' (first | refine xo 4000 rfl ?_ ?_ | refine xw 4000 rfl ?_ ?_ | refine xk 4000 rfl ?_ ?_ | exact trivial | ((with_reducible (show AllP (_ :: _))); refine And.intro ?_ ?_) | refine xs rfl ?_ ?_ | refine xs_done ?_ | refine xs_last rfl rfl (stepOp_pst rfl ?_ ?_) | refine pcond_t rfl ?_ | refine pcond_f rfl ?_ | refine kround_exit ?_ | refine kround_ret ?_ | refine kround_next ?_ | refine kloop_ret ?_ | refine kloop_exit ?_ | refine kcut_ret ?_ | refine kcut_exit ?_ | refine xo0 4000 rfl ?_ ?_ | refine xw0 4000 rfl ?_ ?_ | exact qq | fail)
  refine pop_rowsd [0] rfl rfl rfl rfl rfl rfl (by exact .cons rfl trivial (RowEq.cl (tape_cl _ _ _)) .nil) (agreement4_r 3 (by omega) true n g 0 hn (by omega) (by omega)) (by exact ⟨PEq.refl _, PEq.refl _, PEq.refl _, trivial⟩) ?_
  rintro r rows ⟨at_, k, l, b1, b2, hlk, hA, rfl, rfl⟩
  refine ⟨[tapeRow n g at_, rA (k + 1) 2, oRow cD 21 (k + 1) (lF dD l)], _, .agg 2 (nthP [vs n_metal, .lsl 2 0 (k + 1)]), ⟨RowEq.cl (tape_cl _ _ _), rA_eq rfl, RowEq.cl (o_cl cD_cl _ _ _), trivial⟩, rfl, peqA rfl, ?_⟩
  repeat' (first | refine xo 4000 rfl ?_ ?_ | refine xw 4000 rfl ?_ ?_ | refine xk 4000 rfl ?_ ?_ | exact trivial | ((with_reducible (show AllP (_ :: _))); refine And.intro ?_ ?_) | refine xs rfl ?_ ?_ | refine xs_done ?_ | refine xs_last rfl rfl (stepOp_pst rfl ?_ ?_) | refine pcond_t rfl ?_ | refine pcond_f rfl ?_ | refine kround_exit ?_ | refine kround_ret ?_ | refine kround_next ?_ | refine kloop_ret ?_ | refine kloop_exit ?_ | refine kcut_ret ?_ | refine kcut_exit ?_ | refine xo0 4000 rfl ?_ ?_ | refine xw0 4000 rfl ?_ ?_ | exact qq | fail)
  refine pop_callF [2] rfl rfl rfl rfl rfl (checkG_f hA (by omega)) ⟨argAd rfl hlk (List.Mem.head _), trivial⟩ ?_
  rintro _ rfl
  repeat' (first | refine xo 4000 rfl ?_ ?_ | refine xw 4000 rfl ?_ ?_ | refine xk 4000 rfl ?_ ?_ | exact trivial | ((with_reducible (show AllP (_ :: _))); refine And.intro ?_ ?_) | refine xs rfl ?_ ?_ | refine xs_done ?_ | refine xs_last rfl rfl (stepOp_pst rfl ?_ ?_) | refine pcond_t rfl ?_ | refine pcond_f rfl ?_ | refine kround_exit ?_ | refine kround_ret ?_ | refine kround_next ?_ | refine kloop_ret ?_ | refine kloop_exit ?_ | refine kcut_ret ?_ | refine kcut_exit ?_ | refine xo0 4000 rfl ?_ ?_ | refine xw0 4000 rfl ?_ ?_ | exact qq | fail)
  have hk30 := hA.l1
  have hwk : IntKind.i64.wrap (((k + 1 : Nat) : Int) - 1) = (k : Int) := by rw [w64 (by omega) (by omega)]; omega
  rw [hwk]
  refine pcan (st' := ⟨[(3, .ptr 0 0 0), (4, .ptr 2 0 0), (5, vPr []), (6, vi 0), (7, vi k)], [tapeRow n g at_, oRow cD 21 (k + 1) (lF dD l), rA (k + 1) 1]⟩) (can_rowsv [0, 2, 3] (k0_sel hk rfl) rfl (.cons rfl (RowEq.cl (tape_cl _ _ _)) (.cons rfl (RowEq.cl (o_cl cD_cl _ _ _)) (.cons rfl rqq .nil))) tmq) ?_
  refine ploop (fun q st => ∃ (at' : Int) (y : Nat) (l : List Df), 0 ≤ at' ∧ at' ≤ n ∧ y ≤ k ∧ q = y ∧ l.length = k + 1 ∧ AGood 4 l ∧ st = ⟨[(3, .ptr 0 0 0), (4, .ptr 2 0 0), (5, vPr []), (6, vi 0), (7, vi y)], [tapeRow n g at', oRow cD 21 (k + 1) (lF dD l), rA (k + 1) 1]⟩) k ⟨at_, k, l, b1, b2, Nat.le_refl _, rfl, hlk, hA, rfl⟩ ?_
  clear hlk hA b1 b2 hk30
  rintro q _ ⟨at', y, l, b1, b2, hyk, hq, hlk, hA, rfl⟩
  have hq := hq.symm
  subst hq
  have hk30 := hA.l1
  have hw1 : IntKind.i64.wrap ((y : Int) + 1) = (y : Int) + 1 := w64 (by omega) (by omega)
  repeat' (first | refine xo 4000 rfl ?_ ?_ | refine xw 4000 rfl ?_ ?_ | refine xk 4000 rfl ?_ ?_ | exact trivial | ((with_reducible (show AllP (_ :: _))); refine And.intro ?_ ?_) | refine xs rfl ?_ ?_ | refine xs_done ?_ | refine xs_last rfl rfl (stepOp_pst rfl ?_ ?_) | refine pcond_t rfl ?_ | refine pcond_f rfl ?_ | refine kround_exit ?_ | refine kround_ret ?_ | refine kround_next ?_ | refine kloop_ret ?_ | refine kloop_exit ?_ | refine kcut_ret ?_ | refine kcut_exit ?_ | refine xo0 4000 rfl ?_ ?_ | refine xw0 4000 rfl ?_ ?_ | exact qq | fail)
  refine pcond rfl ?_ ?_ <;> intro hc <;> simp at hc
  · have hwy : IntKind.i64.wrap ((y : Int) - 1) = ((y - 1 : Nat) : Int) := by rw [w64 (by omega) (by omega)]; omega
    repeat' (first | refine xo 4000 rfl ?_ ?_ | refine xw 4000 rfl ?_ ?_ | refine xk 4000 rfl ?_ ?_ | exact trivial | ((with_reducible (show AllP (_ :: _))); refine And.intro ?_ ?_) | refine xs rfl ?_ ?_ | refine xs_done ?_ | refine xs_last rfl rfl (stepOp_pst rfl ?_ ?_) | refine xs_startH (id := 8) [2] false [.take 0, .take 1, .take 2, .take 3, .take 4, .take 5, .take 6, .take 7, .take 8, .take 11, .take 12, .take 13] 8 rfl (by kernel_rfl) ?_ | refine BrAll.cons ?_ ?_ | exact BrAll.nil | refine xs_brT (n := 20) [0, 1, 2, 3, 4, 5, 6, 7, 8, 11, 12, 13] [(9, [], false, 7), (14, [], false, 7)] (by decide +kernel) rfl (by kernel_rfl) (by kernel_rfl) ?_ | refine xs_brT (n := 20) [0, 1, 2, 3, 4, 5, 6, 7, 8, 11, 12, 13, 14] [(9, [], false, 6), (15, [.one 9, .one 10, .one 16, .one 17, .one 18, .one 19], true, 0)] (by decide +kernel) rfl (by kernel_rfl) (by kernel_rfl) ?_ | refine xs_brT (n := 20) [0, 1, 2, 3, 4, 5, 6, 7, 8, 9, 11, 12, 13, 14] [(10, [.one 15, .one 16, .one 17, .one 18, .one 19], true, 0), (15, [.one 10, .one 16, .one 17, .one 18, .one 19], true, 0)] (by decide +kernel) rfl (by kernel_rfl) (by kernel_rfl) ?_ | refine xs_brT (n := 20) [0, 1, 2, 3, 4, 5, 6, 7, 8, 9, 11, 12, 13] [(10, [.one 14, .one 15, .one 16, .one 17, .one 18, .one 19], true, 0), (14, [], false, 6)] (by decide +kernel) rfl (by kernel_rfl) (by kernel_rfl) ?_ | refine ⟨_, [], true, rfl, rfl, stepOp_pst rfl ?_ ?_⟩ | (refine pop_tap (G := G) rfl rfl rfl rfl rfl rfl rfl rfl (fun _ => rfl) (next_t _ (by omega)) hn (by assumption) (by assumption) rfl rfl ?_; rintro at_ _ b1 b2 ⟨x, rfl, hx1, hx2⟩) | refine pcond_t rfl ?_ | refine pcond_f rfl ?_ | refine kround_exit ?_ | refine kround_ret ?_ | refine kround_next ?_ | refine kloop_ret ?_ | refine kloop_exit ?_ | refine kcut_ret ?_ | refine kcut_exit ?_ | refine xo0 4000 rfl ?_ ?_ | refine xw0 4000 rfl ?_ ?_ | exact qq | fail)
    all_goals
      have e1 : y < l.length := by omega
      have e2 : x.toNat < l.length := by omega
      refine xdone ?_
      rw [hwy]
      exact kloop_next (st' := ⟨[(3, .ptr 0 0 0), (4, .ptr 2 0 0), (5, vPr []), (6, vi 0), (7, vi ((y - 1 : Nat) : Int))], [tapeRow n g _, oRow cD 21 (k + 1) (lF dD (swpL l y x.toNat)), rA (k + 1) 1]⟩) (y - 1) (can_rowsv [0, 1, 2] (k0_sel hk rfl) rfl (.cons rfl (RowEq.cl (tape_cl _ _ _)) (.cons rfl (swp_eq e1 e2 (by omega) (by omega) rfl rfl) (.cons rfl rqq .nil))) tmq) (by omega) ⟨_, y - 1, _, by assumption, by assumption, by omega, rfl, by rw [swpL_len]; exact hlk, hA.perm (swpL_perm e1 e2), rfl⟩
  · repeat' (first | refine xo 4000 rfl ?_ ?_ | refine xw 4000 rfl ?_ ?_ | refine xk 4000 rfl ?_ ?_ | exact trivial | ((with_reducible (show AllP (_ :: _))); refine And.intro ?_ ?_) | refine xs rfl ?_ ?_ | refine xs_done ?_ | refine xs_last rfl rfl (stepOp_pst rfl ?_ ?_) | refine pcond_t rfl ?_ | refine pcond_f rfl ?_ | refine kround_exit ?_ | refine kround_ret ?_ | refine kround_next ?_ | refine kloop_ret ?_ | refine kloop_exit ?_ | refine kcut_ret ?_ | refine kcut_exit ?_ | refine xo0 4000 rfl ?_ ?_ | refine xw0 4000 rfl ?_ ?_ | exact qq | fail)
    refine pop_callF [1] rfl rfl rfl rfl rfl (checkG_f hA (by omega)) ⟨argAd rfl hlk (List.Mem.head _), trivial⟩ ?_
    rintro _ rfl
    repeat' (first | refine xo 4000 rfl ?_ ?_ | refine xw 4000 rfl ?_ ?_ | refine xk 4000 rfl ?_ ?_ | exact trivial | ((with_reducible (show AllP (_ :: _))); refine And.intro ?_ ?_) | refine xs rfl ?_ ?_ | refine xs_done ?_ | refine xs_last rfl rfl (stepOp_pst rfl ?_ ?_) | refine xs_start (id := 8) true [.take 0, .take 1, .take 2, .take 3, .take 4, .take 5, .take 6, .take 7, .take 8, .take 9, .take 11, .take 12, .take 13, .take 14, .two 10 15, .take 16, .one 17, .take 18, .one 19] 0 rfl rfl (by kernel_rfl) ?_ | refine pop_callv rfl rfl rfl rfl rfl (sane20_c) rfl rfl rfl ?_ | refine xs_call rfl rfl rfl rfl rfl rfl (sane20_c) rfl rfl rfl ?_ | refine xs_one (ch := []) rfl rfl rfl (pst_callv rfl rfl rfl rfl rfl (sane20_c) rfl rfl rfl ?_) | refine pop_callgv rfl rfl rfl rfl rfl rfl (fun _ => sane20_c) (by first | exact fun h => ⟨h, trivial⟩ | exact fun _ => trivial | exact fun h => ⟨h, h, trivial⟩) rfl rfl rfl ?_ | refine xs_one (ch := []) rfl rfl rfl (pst_callgv rfl rfl rfl rfl rfl rfl (fun _ => sane20_c) (by first | exact fun h => ⟨h, trivial⟩ | exact fun _ => trivial | exact fun h => ⟨h, h, trivial⟩) rfl rfl rfl ?_) | refine pcond_t rfl ?_ | refine pcond_f rfl ?_ | refine kround_exit ?_ | refine kround_ret ?_ | refine kround_next ?_ | refine kloop_ret ?_ | refine kloop_exit ?_ | refine kcut_ret ?_ | refine kcut_exit ?_ | refine xo0 4000 rfl ?_ ?_ | refine xw0 4000 rfl ?_ ?_ | exact qq | fail)
    refine xdone ?_
    refine kretv rfl ⟨trivial, trivial⟩ rfl (eqB ?_)
    rfl
theorem fine_walk (v : Value) (l : List Int) (w : World) (h : IntsAt w v l) : Calls G.P 3 #[v] w fun e w' => e = .returned (.bool true) ∧ Ext w w' := by
  have hl : l.length ≤ 9223372036854775807 := by obtain ⟨_, _, _, _, h, _⟩ := h; exact h
  exact law_of (vs := [v]) (fine_c l.length _ hl) ⟨h.rel _, trivial⟩
open Go.ChangeShapes Go.WideShapes Go.ChangeAt Go.RowKit Go.Joins
open Go.ChangeMaps (open_string shut_string)
theorem checkFine_own : ownKnob Try.prog.godebug = none := by kernel_rfl
theorem checkFine_laidOut : laidOutB Try.prog = true := by kernel_rfl
theorem checkFine_bd {n : Int} (h : (Lit.int .i64 n).wf = true) : -9223372036854775808 ≤ n ∧ n ≤ 9223372036854775807 := bounds_i64 h
set_option maxRecDepth 100000 in
theorem checkFine_lifted (os : Os) (started : os.Started) (H : Type) (enc : TypeId × Value → H) :
    ReturnsInHanded {} Try.checked os 3 .any (Rows.checkFineSpec.pre6 enc Try.prog Try.f3 Rows.checkFineRow.domain false) (Rows.checkFineSpec.post enc Try.prog Try.f3 false true false false) := by
  refine returnsInHanded_of_change (C := Try.checked) checkFine_own started (by kernel_rfl) Try.func3
    (ChangeSpec.witness6 (enc := enc) (C := Try.checked) false ⟨#[], #[.slice none 0 0], []⟩ 8 (by kernel_rfl) (by kernel_rfl) (by kernel_rfl) (by kernel_rfl)) ?_
  intro W base args ds gs before hval0 hW hcnd _
  have hval : ∀ (j : Nat) t v, Try.f3.params[j]? = some t → args[j]? = some v → Value.okWide Try.prog W .any base t v := hval0
  have hW' := hW
  obtain ⟨p, q, hA0, hV, rfl, hfz, hnd⟩ := hW
  have hA : DataW.TrodAll enc Try.prog W 0 (fun _ => true) true Try.f3.params.toList args.toList ds p := hA0
  rw [Try.params3] at hA hval
  obtain ⟨v0, vs0, d0, ds0, p0, q0, hargs, rfl, rfl, h0, r0⟩ := trodAll_cons hA
  obtain ⟨rfl, rfl, rfl⟩ := trodAll_nil r0
  obtain rfl : args = #[v0] := by cases args; simp_all
  obtain ⟨rfl, rfl⟩ := trodVars_none hV
  have k0 := h0
  have lt0 : ∀ x ∈ p0, x.block < W.heap.size := by obtain ⟨m, hm⟩ := k0; exact DataW.trod_lt m _ _ _ hm
  obtain ⟨a0, len0, cap0, rfl⟩ := okWide_slice Try.underlying22 (hval 0 22 v0 rfl rfl)
  obtain ⟨z0, w0⟩ : ∃ zs : List Int, IntsAt W (.slice a0 len0 cap0) zs := by
    obtain ⟨fuel, hf⟩ := h0
    rcases open_ints Try.underlying22 Try.underlying3 (by kernel_rfl) hf with ⟨hcs, _⟩ | ⟨x, l, c, zs, hcs, _, hl, hm, hz, _, hcell, hwz⟩
    · simp [Value.cells] at hcs
      obtain ⟨rfl, rfl, rfl⟩ := hcs
      exact ⟨[], intsAt_of_row (zs := []) (.inl ⟨rfl, rfl, rfl, rfl⟩)⟩
    · simp [Value.cells] at hcs
      obtain ⟨rfl, rfl, rfl⟩ := hcs
      exact ⟨zs.take _, intsAt_of_row (.inr ⟨_, rfl, hl, hm, by simpa using hz, hcell, hwz⟩)⟩
  clear hA0 hval0
  refine (fine_walk _ z0 W w0).mono fun e W' ⟨he, bel⟩ => ?_
  subst he
  exact ⟨_, rfl, _, _, _, [], _, [], hW', trodAll_mk1 (shut_bool Try.underlying4 _), (trodAll_cons_mk (Below.trod checkFine_laidOut (by kernel_rfl) (of_decide_eq_true (by kernel_rfl)) k0 bel lt0) trodAll_mk0), rfl, bel.frame _, fun h => by cases h⟩

theorem checkFine_proved : Rows.CheckFineSaid :=
  OpenClaim.holds_of_wide 3 Try.f3 rfl rfl rfl rfl rfl rfl rfl ⟨rfl, rfl, rfl, rfl, rfl⟩ rfl rfl rfl rfl rfl (by kernel_rfl) Try.func3 (by kernel_rfl)
    (of_decide_eq_true (by kernel_rfl)) (by unfold Func.isWrapper; first | (rw [if_pos (by decide +kernel)]; kernel_rfl) | (rw [if_neg (by decide +kernel)]; exact ⟨rfl, rfl⟩))
    (fun os started H enc _ => checkFine_lifted os started H enc)
#print axioms checkFine_proved
end Go.Proofs.Ytnlcenlamkfmnaa
