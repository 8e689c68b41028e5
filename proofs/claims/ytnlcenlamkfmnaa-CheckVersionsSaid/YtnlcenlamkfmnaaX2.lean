/- syntax.ValidExpr: kids. -/
import Derived.Test.YtnlcenlamkfmnaaX1
import Derived.Test.YtnlcenlamkfmnaaX0c
set_option linter.unusedSimpArgs false
set_option linter.unusedVariables false
set_option maxRecDepth 100000
namespace Go.Proofs.Ytnlcenlamkfmnaa
theorem peqK (e : Ex) : PEq (.vsl e.nk 10 e.kc) (.vsl e.nk 10 (tF cX e.kf)) := peq_vsl rfl fun i hi j hj => by rw [kc_eq (by omega)]
theorem validExpr_c : ∀ (n : Nat) (e : Ex), n ≤ 1000 → Bd e → PureC G.P 57 [vX e, vi n] (fun r => r = vb (validS n e))
  | 0, e, _, hb => by
    have c1 := kids_c e.op
    have c2 := validFields_c e hb.v hb.s
    refine pure_of (G := G.toPg) (fn := Try.f57) Try.func57 rfl rfl rfl ?_; intro Γ hk
    repeat' (first | refine xo 4000 rfl ?_ ?_ | refine xw 4000 rfl ?_ ?_ | refine xk 4000 rfl ?_ ?_ | exact trivial | ((with_reducible (show AllP (_ :: _))); refine And.intro ?_ ?_) | refine xs rfl ?_ ?_ | refine xs_done ?_ | refine xs_last rfl rfl (stepOp_pst rfl ?_ ?_) | refine xs_start (id := 1) true [.take 0, .take 1, .take 2, .take 3, .take 4, .take 5, .take 6, .take 7, .one 8, .take 9, .take 10, .take 11, .take 12, .one 13, .take 14, .take 15] 0 rfl rfl (by kernel_rfl) ?_ | refine pop_callv rfl rfl rfl rfl rfl (c1) rfl rfl rfl ?_ | refine xs_call rfl rfl rfl rfl rfl rfl (c1) rfl rfl rfl ?_ | refine xs_one (ch := []) rfl rfl rfl (pst_callv rfl rfl rfl rfl rfl (c1) rfl rfl rfl ?_) | refine pop_callgv rfl rfl rfl rfl rfl rfl (fun _ => c1) (by first | exact fun h => ⟨h, trivial⟩ | exact fun _ => trivial | exact fun h => ⟨h, h, trivial⟩) rfl rfl rfl ?_ | refine xs_one (ch := []) rfl rfl rfl (pst_callgv rfl rfl rfl rfl rfl rfl (fun _ => c1) (by first | exact fun h => ⟨h, trivial⟩ | exact fun _ => trivial | exact fun h => ⟨h, h, trivial⟩) rfl rfl rfl ?_) | refine pop_callv rfl rfl rfl rfl rfl (c2) rfl rfl rfl ?_ | refine xs_call rfl rfl rfl rfl rfl rfl (c2) rfl rfl rfl ?_ | refine xs_one (ch := []) rfl rfl rfl (pst_callv rfl rfl rfl rfl rfl (c2) rfl rfl rfl ?_) | refine pop_callgv rfl rfl rfl rfl rfl rfl (fun _ => c2) (by first | exact fun h => ⟨h, trivial⟩ | exact fun _ => trivial | exact fun h => ⟨h, h, trivial⟩) rfl rfl rfl ?_ | refine xs_one (ch := []) rfl rfl rfl (pst_callgv rfl rfl rfl rfl rfl rfl (fun _ => c2) (by first | exact fun h => ⟨h, trivial⟩ | exact fun _ => trivial | exact fun h => ⟨h, h, trivial⟩) rfl rfl rfl ?_) | refine pcond_t rfl ?_ | refine pcond_f rfl ?_ | refine kround_exit ?_ | refine kround_ret ?_ | refine kround_next ?_ | refine kloop_ret ?_ | refine kloop_exit ?_ | refine kcut_ret ?_ | refine kcut_exit ?_ | refine xo0 4000 rfl ?_ ?_ | refine xw0 4000 rfl ?_ ?_ | exact qq | fail)
    exact kretv rfl ⟨trivial, trivial⟩ rfl rfl
  | n + 1, e, hn, hb => by
    have c1 := kids_c e.op
    have c2 := validFields_c e hb.v hb.s
    have hw : IntKind.i64.wrap (((n + 1 : Nat) : Int) - 1) = n := by rw [w64 (by omega) (by omega)]; omega
    have c3 : ∀ i, i < e.nk → PureC G.P 57 [vX (e.kf i), vi (IntKind.i64.wrap (((n + 1 : Nat) : Int) - 1))] (fun r => r = vb (validS n (e.kf i))) := fun i hi => by
      rw [hw]; exact validExpr_c n (e.kf i) (by omega) (hb.k hi)
    have hk3 := kidsN_le e.op
    refine pure_of (G := G.toPg) (fn := Try.f57) Try.func57 rfl rfl rfl ?_; intro Γ hk
    repeat' (first | refine xo 4000 rfl ?_ ?_ | refine xw 4000 rfl ?_ ?_ | refine xk 4000 rfl ?_ ?_ | exact trivial | ((with_reducible (show AllP (_ :: _))); refine And.intro ?_ ?_) | refine xs rfl ?_ ?_ | refine xs_done ?_ | refine xs_last rfl rfl (stepOp_pst rfl ?_ ?_) | refine xs_start (id := 1) true [.take 0, .take 1, .take 2, .take 3, .take 4, .take 5, .take 6, .take 7, .one 8, .take 9, .take 10, .take 11, .take 12, .one 13, .take 14, .take 15] 0 rfl rfl (by kernel_rfl) ?_ | refine pop_callv rfl rfl rfl rfl rfl (c1) rfl rfl rfl ?_ | refine xs_call rfl rfl rfl rfl rfl rfl (c1) rfl rfl rfl ?_ | refine xs_one (ch := []) rfl rfl rfl (pst_callv rfl rfl rfl rfl rfl (c1) rfl rfl rfl ?_) | refine pop_callgv rfl rfl rfl rfl rfl rfl (fun _ => c1) (by first | exact fun h => ⟨h, trivial⟩ | exact fun _ => trivial | exact fun h => ⟨h, h, trivial⟩) rfl rfl rfl ?_ | refine xs_one (ch := []) rfl rfl rfl (pst_callgv rfl rfl rfl rfl rfl rfl (fun _ => c1) (by first | exact fun h => ⟨h, trivial⟩ | exact fun _ => trivial | exact fun h => ⟨h, h, trivial⟩) rfl rfl rfl ?_) | refine pop_callv rfl rfl rfl rfl rfl (c2) rfl rfl rfl ?_ | refine xs_call rfl rfl rfl rfl rfl rfl (c2) rfl rfl rfl ?_ | refine xs_one (ch := []) rfl rfl rfl (pst_callv rfl rfl rfl rfl rfl (c2) rfl rfl rfl ?_) | refine pop_callgv rfl rfl rfl rfl rfl rfl (fun _ => c2) (by first | exact fun h => ⟨h, trivial⟩ | exact fun _ => trivial | exact fun h => ⟨h, h, trivial⟩) rfl rfl rfl ?_ | refine xs_one (ch := []) rfl rfl rfl (pst_callgv rfl rfl rfl rfl rfl rfl (fun _ => c2) (by first | exact fun h => ⟨h, trivial⟩ | exact fun _ => trivial | exact fun h => ⟨h, h, trivial⟩) rfl rfl rfl ?_) | refine pcond_t rfl ?_ | refine pcond_f rfl ?_ | refine kround_exit ?_ | refine kround_ret ?_ | refine kround_next ?_ | refine kloop_ret ?_ | refine kloop_exit ?_ | refine kcut_ret ?_ | refine kcut_exit ?_ | refine xo0 4000 rfl ?_ ?_ | refine xw0 4000 rfl ?_ ?_ | exact qq | fail)
    refine pcond (b := !(decide ((e.nk : Int) = kidsN e.op) && fieldS e)) ?_ ?_ ?_
    · refine eqB ?_
      rw [decide_eq_false (show ¬ (((n + 1 : Nat) : Int) < 1) by omega), show ((e.nk : Int) != kidsN e.op) = !decide ((e.nk : Int) = kidsN e.op) from by rw [← bqd]; rfl]
      cases decide ((e.nk : Int) = kidsN e.op) <;> cases fieldS e <;> rfl
    · intro h
      repeat' (first | refine xo 4000 rfl ?_ ?_ | refine xw 4000 rfl ?_ ?_ | refine xk 4000 rfl ?_ ?_ | exact trivial | ((with_reducible (show AllP (_ :: _))); refine And.intro ?_ ?_) | refine xs rfl ?_ ?_ | refine xs_done ?_ | refine xs_last rfl rfl (stepOp_pst rfl ?_ ?_) | refine pcond_t rfl ?_ | refine pcond_f rfl ?_ | refine kround_exit ?_ | refine kround_ret ?_ | refine kround_next ?_ | refine kloop_ret ?_ | refine kloop_exit ?_ | refine kcut_ret ?_ | refine kcut_exit ?_ | refine xo0 4000 rfl ?_ ?_ | refine xw0 4000 rfl ?_ ?_ | exact qq | fail)
      refine kretv rfl ⟨trivial, trivial⟩ rfl (eqB ?_)
      rw [validS]
      revert h
      cases decide ((e.nk : Int) = kidsN e.op) <;> cases fieldS e <;> simp
    · intro h
      have h1 : (e.nk : Int) = kidsN e.op ∧ fieldS e = true := by
        revert h
        by_cases hn : (e.nk : Int) = kidsN e.op <;> cases fieldS e <;> simp [hn]
      obtain ⟨h1, h2⟩ := h1
      repeat' (first | refine xo 4000 rfl ?_ ?_ | refine xw 4000 rfl ?_ ?_ | refine xk 4000 rfl ?_ ?_ | exact trivial | ((with_reducible (show AllP (_ :: _))); refine And.intro ?_ ?_) | refine xs rfl ?_ ?_ | refine xs_done ?_ | refine xs_last rfl rfl (stepOp_pst rfl ?_ ?_) | refine pcond_t rfl ?_ | refine pcond_f rfl ?_ | refine kround_exit ?_ | refine kround_ret ?_ | refine kround_next ?_ | refine kloop_ret ?_ | refine kloop_exit ?_ | refine kcut_ret ?_ | refine kcut_exit ?_ | refine xo0 4000 rfl ?_ ?_ | refine xw0 4000 rfl ?_ ?_ | exact qq | fail)
      refine pcan (st' := ⟨[(1, vi ((n + 1 : Nat) : Int)), (24, .vsl e.nk 10 (tF cX e.kf)), (25, vi e.nk), (26, vi ((0 : Nat) : Int))], []⟩) (can_rowsv [] (k0_sel hk rfl) rfl .nil (by exact ⟨PEq.refl _, peqK e, PEq.refl _, PEq.refl _, trivial⟩)) ?_
      refine ploop (fun q st => ∃ i : Nat, i ≤ e.nk ∧ (∀ j, j < i → validS n (e.kf j) = true) ∧ q = e.nk - i ∧ st = ⟨[(1, vi ((n + 1 : Nat) : Int)), (24, .vsl e.nk 10 (tF cX e.kf)), (25, vi e.nk), (26, vi i)], []⟩) e.nk ⟨0, by omega, fun j hj => by omega, by omega, rfl⟩ ?_
      rintro _ _ ⟨i, hi, hv, rfl, rfl⟩
      repeat' (first | refine xo 4000 rfl ?_ ?_ | refine xw 4000 rfl ?_ ?_ | refine xk 4000 rfl ?_ ?_ | exact trivial | ((with_reducible (show AllP (_ :: _))); refine And.intro ?_ ?_) | refine xs rfl ?_ ?_ | refine xs_done ?_ | refine xs_last rfl rfl (stepOp_pst rfl ?_ ?_) | refine pcond_t rfl ?_ | refine pcond_f rfl ?_ | refine kround_exit ?_ | refine kround_ret ?_ | refine kround_next ?_ | refine kloop_ret ?_ | refine kloop_exit ?_ | refine kcut_ret ?_ | refine kcut_exit ?_ | refine xo0 4000 rfl ?_ ?_ | refine xw0 4000 rfl ?_ ?_ | exact qq | fail)
      refine pcond rfl ?_ ?_ <;> intro hc <;> simp at hc
      · have c4 := c3 i hc
        repeat' (first | refine xo 4000 rfl ?_ ?_ | refine xw 4000 rfl ?_ ?_ | refine xk 4000 rfl ?_ ?_ | exact trivial | ((with_reducible (show AllP (_ :: _))); refine And.intro ?_ ?_) | refine xs rfl ?_ ?_ | refine xs_done ?_ | refine xs_last rfl rfl (stepOp_pst rfl ?_ ?_) | refine pop_callv rfl rfl rfl rfl rfl (c4) rfl rfl rfl ?_ | refine xs_call rfl rfl rfl rfl rfl rfl (c4) rfl rfl rfl ?_ | refine xs_one (ch := []) rfl rfl rfl (pst_callv rfl rfl rfl rfl rfl (c4) rfl rfl rfl ?_) | refine pop_callgv rfl rfl rfl rfl rfl rfl (fun _ => c4) (by first | exact fun h => ⟨h, trivial⟩ | exact fun _ => trivial | exact fun h => ⟨h, h, trivial⟩) rfl rfl rfl ?_ | refine xs_one (ch := []) rfl rfl rfl (pst_callgv rfl rfl rfl rfl rfl rfl (fun _ => c4) (by first | exact fun h => ⟨h, trivial⟩ | exact fun _ => trivial | exact fun h => ⟨h, h, trivial⟩) rfl rfl rfl ?_) | refine pcond_t rfl ?_ | refine pcond_f rfl ?_ | refine kround_exit ?_ | refine kround_ret ?_ | refine kround_next ?_ | refine kloop_ret ?_ | refine kloop_exit ?_ | refine kcut_ret ?_ | refine kcut_exit ?_ | refine xo0 4000 rfl ?_ ?_ | refine xw0 4000 rfl ?_ ?_ | exact qq | fail)
        refine pcond rfl ?_ ?_ <;> intro hc2
        · have hf : validS n (e.kf i) = false := by simpa using hc2
          repeat' (first | refine xo 4000 rfl ?_ ?_ | refine xw 4000 rfl ?_ ?_ | refine xk 4000 rfl ?_ ?_ | exact trivial | ((with_reducible (show AllP (_ :: _))); refine And.intro ?_ ?_) | refine xs rfl ?_ ?_ | refine xs_done ?_ | refine xs_last rfl rfl (stepOp_pst rfl ?_ ?_) | refine pcond_t rfl ?_ | refine pcond_f rfl ?_ | refine kround_exit ?_ | refine kround_ret ?_ | refine kround_next ?_ | refine kloop_ret ?_ | refine kloop_exit ?_ | refine kcut_ret ?_ | refine kcut_exit ?_ | refine xo0 4000 rfl ?_ ?_ | refine xw0 4000 rfl ?_ ?_ | exact qq | fail)
          refine kretv rfl ⟨trivial, trivial⟩ rfl (eqB ?_)
          rw [validS, allK_no hc hf]; simp
        · have hf : validS n (e.kf i) = true := by simpa using hc2
          repeat' (first | refine xo 4000 rfl ?_ ?_ | refine xw 4000 rfl ?_ ?_ | refine xk 4000 rfl ?_ ?_ | exact trivial | ((with_reducible (show AllP (_ :: _))); refine And.intro ?_ ?_) | refine xs rfl ?_ ?_ | refine xs_done ?_ | refine xs_last rfl rfl (stepOp_pst rfl ?_ ?_) | refine pcond_t rfl ?_ | refine pcond_f rfl ?_ | refine kround_exit ?_ | refine kround_ret ?_ | refine kround_next ?_ | refine kloop_ret ?_ | refine kloop_exit ?_ | refine kcut_ret ?_ | refine kcut_exit ?_ | refine xo0 4000 rfl ?_ ?_ | refine xw0 4000 rfl ?_ ?_ | exact qq | fail)
          rw [show IntKind.i64.wrap ((i : Int) + 1) = ((i + 1 : Nat) : Int) from w64 (by omega) (by omega)]
          exact kloop_next (st' := ⟨[(1, vi ((n + 1 : Nat) : Int)), (24, .vsl e.nk 10 (tF cX e.kf)), (25, vi e.nk), (26, vi ((i + 1 : Nat) : Int))], []⟩) (e.nk - (i + 1)) (can_rowsv [] (k0_sel hk rfl) rfl .nil tmq) (by omega) ⟨i + 1, by omega, fun j hj => by
            by_cases e : j = i
            · subst e; exact hf
            · exact hv j (by omega), rfl, rfl⟩
      · repeat' (first | refine xo 4000 rfl ?_ ?_ | refine xw 4000 rfl ?_ ?_ | refine xk 4000 rfl ?_ ?_ | exact trivial | ((with_reducible (show AllP (_ :: _))); refine And.intro ?_ ?_) | refine xs rfl ?_ ?_ | refine xs_done ?_ | refine xs_last rfl rfl (stepOp_pst rfl ?_ ?_) | refine pcond_t rfl ?_ | refine pcond_f rfl ?_ | refine kround_exit ?_ | refine kround_ret ?_ | refine kround_next ?_ | refine kloop_ret ?_ | refine kloop_exit ?_ | refine kcut_ret ?_ | refine kcut_exit ?_ | refine xo0 4000 rfl ?_ ?_ | refine xw0 4000 rfl ?_ ?_ | exact qq | fail)
        refine kretv rfl ⟨trivial, trivial⟩ rfl (eqB ?_)
        rw [validS, decide_eq_true h1, h2, allK_iff.2 fun j hj => hv j (by omega)]; rfl
end Go.Proofs.Ytnlcenlamkfmnaa
