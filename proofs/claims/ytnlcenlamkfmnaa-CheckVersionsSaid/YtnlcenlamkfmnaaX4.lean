/- syntax.Valid: definitions. -/
import Derived.Test.YtnlcenlamkfmnaaX3
set_option linter.unusedSimpArgs false
set_option linter.unusedVariables false
set_option maxRecDepth 100000
namespace Go.Proofs.Ytnlcenlamkfmnaa
theorem tz_eq (t : Ty) : tz t = (!t.b && (decide (t.m = 0) && (decide (t.h = 0) && decide (t.d = 0)))) := by
  obtain ⟨b, m, h, d⟩ := t
  unfold tz
  rw [Bool.eq_iff_iff]; simp
theorem stepS_eq (n d : Int) : stepS n d = (decS n d && (decide (0 < n) && (decide (0 < d) && decide (Int.tmod 100 d = 0)))) := by
  unfold stepS
  cases h : decS n d
  · rfl
  · have : okR n d = true := by unfold decS at h; cases ho : okR n d; rw [ho] at h; cases h; rfl
    have := okR_bd this
    rw [decide_eq_true (show 0 < d by omega)]; rfl
set_option maxHeartbeats 4000000 in
theorem validDef_c (d : Df) (hb : BdD d) : PureC G.P 33 [.agg 21 (nthP (cD d))] (fun r => r = vb (defS d)) := by
  have c1 := validType_c d.ty
  have c2 := isDay_c d.day
  have c3 := isCents_c d.sn d.sd
  have c4 := isZero_c d.body
  have c5 := validExpr0_c d.body hb.body
  have c6 := validEntries_c d.ne d.ef hb.ne hb.ef
  have c7 := isMode18_c d.mode
  have c8 := isStep_c d.sn d.sd hb.st.1 hb.st.2
  refine pure_of (G := G.toPg) (fn := Try.f33) Try.func33 rfl rfl rfl ?_; intro Γ hk
  by_cases hr : d.kind = 1 ∨ d.kind = 5 ∨ d.kind = 2 ∨ d.kind = 3 ∨ d.kind = 4
  · rcases hr with h | h | h | h | h
    all_goals
      repeat' (first | refine xo 4000 rfl ?_ ?_ | refine xw 4000 rfl ?_ ?_ | refine xk 4000 rfl ?_ ?_ | exact trivial | ((with_reducible (show AllP (_ :: _))); refine And.intro ?_ ?_) | refine xs rfl ?_ ?_ | refine xs_done ?_ | refine xs_last rfl rfl (stepOp_pst rfl ?_ ?_) | refine xs_start (id := 2) true [.take 0, .take 1, .take 2, .take 3, .take 4, .take 5, .take 6, .take 7, .take 8, .take 10, .take 11, .take 12, .one 9, .take 13, .take 14, .take 15, .take 16] 0 rfl rfl (by kernel_rfl) ?_ | refine xs_start (id := 12) true [.take 0, .take 1, .take 3, .take 4, .one 2, .one 5, .take 6, .take 7] 0 rfl rfl (by kernel_rfl) ?_ | refine xs_start (id := 15) true [.take 0, .take 1, .take 3, .take 4, .one 2, .one 5, .take 6, .take 7] 0 rfl rfl (by kernel_rfl) ?_ | refine xs_start (id := 17) true [.take 0, .take 1, .take 3, .take 4, .one 2, .one 5, .take 6, .take 7] 0 rfl rfl (by kernel_rfl) ?_ | refine xs_start (id := 18) true [.take 0, .take 1, .take 3, .take 4, .one 2, .one 5, .take 6, .take 7, .take 8, .one 9, .take 10, .take 11, .take 12] 0 rfl rfl (by kernel_rfl) ?_ | (refine pcond_y rfl (by rw [h]; rfl) ?_) | (refine pcond_n rfl (by rw [h]; rfl) ?_) | refine pop_callv rfl rfl rfl rfl rfl (c1) rfl rfl rfl ?_ | refine xs_call rfl rfl rfl rfl rfl rfl (c1) rfl rfl rfl ?_ | refine xs_one (ch := []) rfl rfl rfl (pst_callv rfl rfl rfl rfl rfl (c1) rfl rfl rfl ?_) | refine pop_callgv rfl rfl rfl rfl rfl rfl (fun _ => c1) (by first | exact fun h => ⟨h, trivial⟩ | exact fun _ => trivial | exact fun h => ⟨h, h, trivial⟩) rfl rfl rfl ?_ | refine xs_one (ch := []) rfl rfl rfl (pst_callgv rfl rfl rfl rfl rfl rfl (fun _ => c1) (by first | exact fun h => ⟨h, trivial⟩ | exact fun _ => trivial | exact fun h => ⟨h, h, trivial⟩) rfl rfl rfl ?_) | refine pop_callv rfl rfl rfl rfl rfl (c2) rfl rfl rfl ?_ | refine xs_call rfl rfl rfl rfl rfl rfl (c2) rfl rfl rfl ?_ | refine xs_one (ch := []) rfl rfl rfl (pst_callv rfl rfl rfl rfl rfl (c2) rfl rfl rfl ?_) | refine pop_callgv rfl rfl rfl rfl rfl rfl (fun _ => c2) (by first | exact fun h => ⟨h, trivial⟩ | exact fun _ => trivial | exact fun h => ⟨h, h, trivial⟩) rfl rfl rfl ?_ | refine xs_one (ch := []) rfl rfl rfl (pst_callgv rfl rfl rfl rfl rfl rfl (fun _ => c2) (by first | exact fun h => ⟨h, trivial⟩ | exact fun _ => trivial | exact fun h => ⟨h, h, trivial⟩) rfl rfl rfl ?_) | refine pop_callv rfl rfl rfl rfl rfl (c3) rfl rfl rfl ?_ | refine xs_call rfl rfl rfl rfl rfl rfl (c3) rfl rfl rfl ?_ | refine xs_one (ch := []) rfl rfl rfl (pst_callv rfl rfl rfl rfl rfl (c3) rfl rfl rfl ?_) | refine pop_callgv rfl rfl rfl rfl rfl rfl (fun _ => c3) (by first | exact fun h => ⟨h, trivial⟩ | exact fun _ => trivial | exact fun h => ⟨h, h, trivial⟩) rfl rfl rfl ?_ | refine xs_one (ch := []) rfl rfl rfl (pst_callgv rfl rfl rfl rfl rfl rfl (fun _ => c3) (by first | exact fun h => ⟨h, trivial⟩ | exact fun _ => trivial | exact fun h => ⟨h, h, trivial⟩) rfl rfl rfl ?_) | refine pop_callv rfl rfl rfl rfl rfl (c4) rfl rfl rfl ?_ | refine xs_call rfl rfl rfl rfl rfl rfl (c4) rfl rfl rfl ?_ | refine xs_one (ch := []) rfl rfl rfl (pst_callv rfl rfl rfl rfl rfl (c4) rfl rfl rfl ?_) | refine pop_callgv rfl rfl rfl rfl rfl rfl (fun _ => c4) (by first | exact fun h => ⟨h, trivial⟩ | exact fun _ => trivial | exact fun h => ⟨h, h, trivial⟩) rfl rfl rfl ?_ | refine xs_one (ch := []) rfl rfl rfl (pst_callgv rfl rfl rfl rfl rfl rfl (fun _ => c4) (by first | exact fun h => ⟨h, trivial⟩ | exact fun _ => trivial | exact fun h => ⟨h, h, trivial⟩) rfl rfl rfl ?_) | refine pop_callv rfl rfl rfl rfl rfl (c5) rfl rfl rfl ?_ | refine xs_call rfl rfl rfl rfl rfl rfl (c5) rfl rfl rfl ?_ | refine xs_one (ch := []) rfl rfl rfl (pst_callv rfl rfl rfl rfl rfl (c5) rfl rfl rfl ?_) | refine pop_callgv rfl rfl rfl rfl rfl rfl (fun _ => c5) (by first | exact fun h => ⟨h, trivial⟩ | exact fun _ => trivial | exact fun h => ⟨h, h, trivial⟩) rfl rfl rfl ?_ | refine xs_one (ch := []) rfl rfl rfl (pst_callgv rfl rfl rfl rfl rfl rfl (fun _ => c5) (by first | exact fun h => ⟨h, trivial⟩ | exact fun _ => trivial | exact fun h => ⟨h, h, trivial⟩) rfl rfl rfl ?_) | refine pop_callv rfl rfl rfl rfl rfl (c6) rfl rfl rfl ?_ | refine xs_call rfl rfl rfl rfl rfl rfl (c6) rfl rfl rfl ?_ | refine xs_one (ch := []) rfl rfl rfl (pst_callv rfl rfl rfl rfl rfl (c6) rfl rfl rfl ?_) | refine pop_callgv rfl rfl rfl rfl rfl rfl (fun _ => c6) (by first | exact fun h => ⟨h, trivial⟩ | exact fun _ => trivial | exact fun h => ⟨h, h, trivial⟩) rfl rfl rfl ?_ | refine xs_one (ch := []) rfl rfl rfl (pst_callgv rfl rfl rfl rfl rfl rfl (fun _ => c6) (by first | exact fun h => ⟨h, trivial⟩ | exact fun _ => trivial | exact fun h => ⟨h, h, trivial⟩) rfl rfl rfl ?_) | refine pop_callv rfl rfl rfl rfl rfl (c7) rfl rfl rfl ?_ | refine xs_call rfl rfl rfl rfl rfl rfl (c7) rfl rfl rfl ?_ | refine xs_one (ch := []) rfl rfl rfl (pst_callv rfl rfl rfl rfl rfl (c7) rfl rfl rfl ?_) | refine pop_callgv rfl rfl rfl rfl rfl rfl (fun _ => c7) (by first | exact fun h => ⟨h, trivial⟩ | exact fun _ => trivial | exact fun h => ⟨h, h, trivial⟩) rfl rfl rfl ?_ | refine xs_one (ch := []) rfl rfl rfl (pst_callgv rfl rfl rfl rfl rfl rfl (fun _ => c7) (by first | exact fun h => ⟨h, trivial⟩ | exact fun _ => trivial | exact fun h => ⟨h, h, trivial⟩) rfl rfl rfl ?_) | refine pop_callv rfl rfl rfl rfl rfl (c8) rfl rfl rfl ?_ | refine xs_call rfl rfl rfl rfl rfl rfl (c8) rfl rfl rfl ?_ | refine xs_one (ch := []) rfl rfl rfl (pst_callv rfl rfl rfl rfl rfl (c8) rfl rfl rfl ?_) | refine pop_callgv rfl rfl rfl rfl rfl rfl (fun _ => c8) (by first | exact fun h => ⟨h, trivial⟩ | exact fun _ => trivial | exact fun h => ⟨h, h, trivial⟩) rfl rfl rfl ?_ | refine xs_one (ch := []) rfl rfl rfl (pst_callgv rfl rfl rfl rfl rfl rfl (fun _ => c8) (by first | exact fun h => ⟨h, trivial⟩ | exact fun _ => trivial | exact fun h => ⟨h, h, trivial⟩) rfl rfl rfl ?_) | refine pcond_t rfl ?_ | refine pcond_f rfl ?_ | refine kround_exit ?_ | refine kround_ret ?_ | refine kround_next ?_ | refine kloop_ret ?_ | refine kloop_exit ?_ | refine kcut_ret ?_ | refine kcut_exit ?_ | refine xo0 4000 rfl ?_ ?_ | refine xw0 4000 rfl ?_ ?_ | exact qq | fail)
      refine kretv rfl ⟨trivial, trivial⟩ rfl (eqB ?_)
      first
        | (simp [defS, h, bqd, Bool.and_assoc]; done)
        | (rw [show defS d = (tz d.ty && (dayS d.day && (decide (d.ne = 0) && (validS 32 d.body && (modeB d.mode && stepS d.sn d.sd))))) from by simp [defS, h], tz_eq d.ty, stepS_eq]; simp [bqd, Bool.and_assoc])
  · repeat' (first | refine xo 4000 rfl ?_ ?_ | refine xw 4000 rfl ?_ ?_ | refine xk 4000 rfl ?_ ?_ | exact trivial | ((with_reducible (show AllP (_ :: _))); refine And.intro ?_ ?_) | refine xs rfl ?_ ?_ | refine xs_done ?_ | refine xs_last rfl rfl (stepOp_pst rfl ?_ ?_) | refine xs_start (id := 2) true [.take 0, .take 1, .take 2, .take 3, .take 4, .take 5, .take 6, .take 7, .take 8, .take 10, .take 11, .take 12, .one 9, .take 13, .take 14, .take 15, .take 16] 0 rfl rfl (by kernel_rfl) ?_ | refine xs_start (id := 12) true [.take 0, .take 1, .take 3, .take 4, .one 2, .one 5, .take 6, .take 7] 0 rfl rfl (by kernel_rfl) ?_ | refine xs_start (id := 15) true [.take 0, .take 1, .take 3, .take 4, .one 2, .one 5, .take 6, .take 7] 0 rfl rfl (by kernel_rfl) ?_ | refine xs_start (id := 17) true [.take 0, .take 1, .take 3, .take 4, .one 2, .one 5, .take 6, .take 7] 0 rfl rfl (by kernel_rfl) ?_ | refine xs_start (id := 18) true [.take 0, .take 1, .take 3, .take 4, .one 2, .one 5, .take 6, .take 7, .take 8, .one 9, .take 10, .take 11, .take 12] 0 rfl rfl (by kernel_rfl) ?_ | (refine pcond_n rfl (by simp; omega) ?_) | refine pop_callv rfl rfl rfl rfl rfl (c4) rfl rfl rfl ?_ | refine xs_call rfl rfl rfl rfl rfl rfl (c4) rfl rfl rfl ?_ | refine xs_one (ch := []) rfl rfl rfl (pst_callv rfl rfl rfl rfl rfl (c4) rfl rfl rfl ?_) | refine pop_callgv rfl rfl rfl rfl rfl rfl (fun _ => c4) (by first | exact fun h => ⟨h, trivial⟩ | exact fun _ => trivial | exact fun h => ⟨h, h, trivial⟩) rfl rfl rfl ?_ | refine xs_one (ch := []) rfl rfl rfl (pst_callgv rfl rfl rfl rfl rfl rfl (fun _ => c4) (by first | exact fun h => ⟨h, trivial⟩ | exact fun _ => trivial | exact fun h => ⟨h, h, trivial⟩) rfl rfl rfl ?_) | refine pcond_t rfl ?_ | refine pcond_f rfl ?_ | refine kround_exit ?_ | refine kround_ret ?_ | refine kround_next ?_ | refine kloop_ret ?_ | refine kloop_exit ?_ | refine kcut_ret ?_ | refine kcut_exit ?_ | refine xo0 4000 rfl ?_ ?_ | refine xw0 4000 rfl ?_ ?_ | exact qq | fail)
    refine kretv rfl ⟨trivial, trivial⟩ rfl (eqB ?_)
    have e1 : ¬ d.kind = 1 := by omega
    have e2 : ¬ d.kind = 2 := by omega
    have e3 : ¬ d.kind = 3 := by omega
    have e4 : ¬ d.kind = 4 := by omega
    have e5 : ¬ d.kind = 5 := by omega
    simp [defS, e1, e2, e3, e4, e5]
theorem validAgr_c (nm : ByteArray) (l : List Df) (hs : nm.size ≤ 9223372036854775807) (hb : ∀ d, d ∈ l → BdD d) : PureC G.P 20 [vA nm l] (fun r => r = vb (agrS nm l)) := by
  have c1 := isName_c nm hs
  have at_ : ∀ i, i < l.length → lF dD l i ∈ l := fun i hi => by
    unfold lF; rw [List.getD_eq_getElem?_getD, List.getElem?_eq_getElem hi]; exact List.getElem_mem _
  refine pure_of (G := G.toPg) (fn := Try.f20) Try.func20 rfl rfl rfl ?_; intro Γ hk
  repeat' (first | refine xo 4000 rfl ?_ ?_ | refine xw 4000 rfl ?_ ?_ | refine xk 4000 rfl ?_ ?_ | exact trivial | ((with_reducible (show AllP (_ :: _))); refine And.intro ?_ ?_) | refine xs rfl ?_ ?_ | refine xs_done ?_ | refine xs_last rfl rfl (stepOp_pst rfl ?_ ?_) | refine pop_callv rfl rfl rfl rfl rfl (c1) rfl rfl rfl ?_ | refine xs_call rfl rfl rfl rfl rfl rfl (c1) rfl rfl rfl ?_ | refine xs_one (ch := []) rfl rfl rfl (pst_callv rfl rfl rfl rfl rfl (c1) rfl rfl rfl ?_) | refine pop_callgv rfl rfl rfl rfl rfl rfl (fun _ => c1) (by first | exact fun h => ⟨h, trivial⟩ | exact fun _ => trivial | exact fun h => ⟨h, h, trivial⟩) rfl rfl rfl ?_ | refine xs_one (ch := []) rfl rfl rfl (pst_callgv rfl rfl rfl rfl rfl rfl (fun _ => c1) (by first | exact fun h => ⟨h, trivial⟩ | exact fun _ => trivial | exact fun h => ⟨h, h, trivial⟩) rfl rfl rfl ?_) | refine pcond_t rfl ?_ | refine pcond_f rfl ?_ | refine kround_exit ?_ | refine kround_ret ?_ | refine kround_next ?_ | refine kloop_ret ?_ | refine kloop_exit ?_ | refine kcut_ret ?_ | refine kcut_exit ?_ | refine xo0 4000 rfl ?_ ?_ | refine xw0 4000 rfl ?_ ?_ | exact qq | fail)
  refine pcond (b := !(nameS nm && decide (l.length ≤ 128))) ?_ ?_ ?_
  · refine eqB ?_
    show (bif !nameS nm then true else decide ((128 : Int) < (l.length : Int))) = _
    cases nameS nm
    · rfl
    · rw [Bool.eq_iff_iff]; simp; omega
  · intro h
    repeat' (first | refine xo 4000 rfl ?_ ?_ | refine xw 4000 rfl ?_ ?_ | refine xk 4000 rfl ?_ ?_ | exact trivial | ((with_reducible (show AllP (_ :: _))); refine And.intro ?_ ?_) | refine xs rfl ?_ ?_ | refine xs_done ?_ | refine xs_last rfl rfl (stepOp_pst rfl ?_ ?_) | refine pcond_t rfl ?_ | refine pcond_f rfl ?_ | refine kround_exit ?_ | refine kround_ret ?_ | refine kround_next ?_ | refine kloop_ret ?_ | refine kloop_exit ?_ | refine kcut_ret ?_ | refine kcut_exit ?_ | refine xo0 4000 rfl ?_ ?_ | refine xw0 4000 rfl ?_ ?_ | exact qq | fail)
    refine kretv rfl ⟨trivial, trivial⟩ rfl (eqB ?_)
    have := nb_t h
    unfold agrS
    revert this
    cases nameS nm <;> cases decide (l.length ≤ 128) <;> simp
  · intro h
    have h2 := nb_f h
    have h3 : nameS nm = true ∧ l.length ≤ 128 := by simpa using h2
    repeat' (first | refine xo 4000 rfl ?_ ?_ | refine xw 4000 rfl ?_ ?_ | refine xk 4000 rfl ?_ ?_ | exact trivial | ((with_reducible (show AllP (_ :: _))); refine And.intro ?_ ?_) | refine xs rfl ?_ ?_ | refine xs_done ?_ | refine xs_last rfl rfl (stepOp_pst rfl ?_ ?_) | refine pcond_t rfl ?_ | refine pcond_f rfl ?_ | refine kround_exit ?_ | refine kround_ret ?_ | refine kround_next ?_ | refine kloop_ret ?_ | refine kloop_exit ?_ | refine kcut_ret ?_ | refine kcut_exit ?_ | refine xo0 4000 rfl ?_ ?_ | refine xw0 4000 rfl ?_ ?_ | exact qq | fail)
    refine pcan (st' := ⟨[(16, vDs l), (17, vi l.length), (18, vi ((0 : Nat) : Int))], []⟩) (can_rowsv [] (k0_sel hk rfl) rfl .nil tmq) ?_
    refine ploop (fun q st => ∃ i : Nat, i ≤ l.length ∧ (∀ j, j < i → (nameS (lF dD l j).nm && defS (lF dD l j)) = true) ∧ q = l.length - i ∧ st = ⟨[(16, vDs l), (17, vi l.length), (18, vi i)], []⟩) l.length ⟨0, by omega, fun j hj => by omega, by omega, rfl⟩ ?_
    rintro _ _ ⟨i, hi, hv, rfl, rfl⟩
    repeat' (first | refine xo 4000 rfl ?_ ?_ | refine xw 4000 rfl ?_ ?_ | refine xk 4000 rfl ?_ ?_ | exact trivial | ((with_reducible (show AllP (_ :: _))); refine And.intro ?_ ?_) | refine xs rfl ?_ ?_ | refine xs_done ?_ | refine xs_last rfl rfl (stepOp_pst rfl ?_ ?_) | refine pcond_t rfl ?_ | refine pcond_f rfl ?_ | refine kround_exit ?_ | refine kround_ret ?_ | refine kround_next ?_ | refine kloop_ret ?_ | refine kloop_exit ?_ | refine kcut_ret ?_ | refine kcut_exit ?_ | refine xo0 4000 rfl ?_ ?_ | refine xw0 4000 rfl ?_ ?_ | exact qq | fail)
    refine pcond rfl ?_ ?_ <;> intro hc <;> simp at hc
    · have hbd := hb _ (at_ i hc)
      have c2 := isName_c (lF dD l i).nm hbd.nm
      have c3 := validDef_c (lF dD l i) hbd
      repeat' (first | refine xo 4000 rfl ?_ ?_ | refine xw 4000 rfl ?_ ?_ | refine xk 4000 rfl ?_ ?_ | exact trivial | ((with_reducible (show AllP (_ :: _))); refine And.intro ?_ ?_) | refine xs rfl ?_ ?_ | refine xs_done ?_ | refine xs_last rfl rfl (stepOp_pst rfl ?_ ?_) | refine pop_callv rfl rfl rfl rfl rfl (c2) rfl rfl rfl ?_ | refine xs_call rfl rfl rfl rfl rfl rfl (c2) rfl rfl rfl ?_ | refine xs_one (ch := []) rfl rfl rfl (pst_callv rfl rfl rfl rfl rfl (c2) rfl rfl rfl ?_) | refine pop_callgv rfl rfl rfl rfl rfl rfl (fun _ => c2) (by first | exact fun h => ⟨h, trivial⟩ | exact fun _ => trivial | exact fun h => ⟨h, h, trivial⟩) rfl rfl rfl ?_ | refine xs_one (ch := []) rfl rfl rfl (pst_callgv rfl rfl rfl rfl rfl rfl (fun _ => c2) (by first | exact fun h => ⟨h, trivial⟩ | exact fun _ => trivial | exact fun h => ⟨h, h, trivial⟩) rfl rfl rfl ?_) | refine pop_callv rfl rfl rfl rfl rfl (c3) rfl rfl rfl ?_ | refine xs_call rfl rfl rfl rfl rfl rfl (c3) rfl rfl rfl ?_ | refine xs_one (ch := []) rfl rfl rfl (pst_callv rfl rfl rfl rfl rfl (c3) rfl rfl rfl ?_) | refine pop_callgv rfl rfl rfl rfl rfl rfl (fun _ => c3) (by first | exact fun h => ⟨h, trivial⟩ | exact fun _ => trivial | exact fun h => ⟨h, h, trivial⟩) rfl rfl rfl ?_ | refine xs_one (ch := []) rfl rfl rfl (pst_callgv rfl rfl rfl rfl rfl rfl (fun _ => c3) (by first | exact fun h => ⟨h, trivial⟩ | exact fun _ => trivial | exact fun h => ⟨h, h, trivial⟩) rfl rfl rfl ?_) | refine pcond_t rfl ?_ | refine pcond_f rfl ?_ | refine kround_exit ?_ | refine kround_ret ?_ | refine kround_next ?_ | refine kloop_ret ?_ | refine kloop_exit ?_ | refine kcut_ret ?_ | refine kcut_exit ?_ | refine xo0 4000 rfl ?_ ?_ | refine xw0 4000 rfl ?_ ?_ | exact qq | fail)
      refine pcond (b := !(nameS (lF dD l i).nm && defS (lF dD l i))) ?_ ?_ ?_
      · refine eqB ?_
        show (bif !nameS (lF dD l i).nm then true else !defS (lF dD l i)) = _
        cases nameS (lF dD l i).nm <;> rfl
      · intro h4
        have h5 := nb_t h4
        repeat' (first | refine xo 4000 rfl ?_ ?_ | refine xw 4000 rfl ?_ ?_ | refine xk 4000 rfl ?_ ?_ | exact trivial | ((with_reducible (show AllP (_ :: _))); refine And.intro ?_ ?_) | refine xs rfl ?_ ?_ | refine xs_done ?_ | refine xs_last rfl rfl (stepOp_pst rfl ?_ ?_) | refine pcond_t rfl ?_ | refine pcond_f rfl ?_ | refine kround_exit ?_ | refine kround_ret ?_ | refine kround_next ?_ | refine kloop_ret ?_ | refine kloop_exit ?_ | refine kcut_ret ?_ | refine kcut_exit ?_ | refine xo0 4000 rfl ?_ ?_ | refine xw0 4000 rfl ?_ ?_ | exact qq | fail)
        refine kretv rfl ⟨trivial, trivial⟩ rfl (eqB ?_)
        unfold agrS
        have : l.all (fun d => nameS d.nm && defS d) = false := by
          rw [List.all_eq_false]
          exact ⟨_, at_ i hc, by rw [h5]; simp⟩
        rw [this]; simp
      · intro h4
        have h5 := nb_f h4
        repeat' (first | refine xo 4000 rfl ?_ ?_ | refine xw 4000 rfl ?_ ?_ | refine xk 4000 rfl ?_ ?_ | exact trivial | ((with_reducible (show AllP (_ :: _))); refine And.intro ?_ ?_) | refine xs rfl ?_ ?_ | refine xs_done ?_ | refine xs_last rfl rfl (stepOp_pst rfl ?_ ?_) | refine pcond_t rfl ?_ | refine pcond_f rfl ?_ | refine kround_exit ?_ | refine kround_ret ?_ | refine kround_next ?_ | refine kloop_ret ?_ | refine kloop_exit ?_ | refine kcut_ret ?_ | refine kcut_exit ?_ | refine xo0 4000 rfl ?_ ?_ | refine xw0 4000 rfl ?_ ?_ | exact qq | fail)
        rw [show IntKind.i64.wrap ((i : Int) + 1) = ((i + 1 : Nat) : Int) from w64 (by omega) (by omega)]
        exact kloop_next (st' := ⟨[(16, vDs l), (17, vi l.length), (18, vi ((i + 1 : Nat) : Int))], []⟩) (l.length - (i + 1)) (can_rowsv [] (k0_sel hk rfl) rfl .nil tmq) (by omega) ⟨i + 1, by omega, fun j hj => by
          by_cases e : j = i
          · subst e; exact h5
          · exact hv j (by omega), rfl, rfl⟩
    · repeat' (first | refine xo 4000 rfl ?_ ?_ | refine xw 4000 rfl ?_ ?_ | refine xk 4000 rfl ?_ ?_ | exact trivial | ((with_reducible (show AllP (_ :: _))); refine And.intro ?_ ?_) | refine xs rfl ?_ ?_ | refine xs_done ?_ | refine xs_last rfl rfl (stepOp_pst rfl ?_ ?_) | refine pcond_t rfl ?_ | refine pcond_f rfl ?_ | refine kround_exit ?_ | refine kround_ret ?_ | refine kround_next ?_ | refine kloop_ret ?_ | refine kloop_exit ?_ | refine kcut_ret ?_ | refine kcut_exit ?_ | refine xo0 4000 rfl ?_ ?_ | refine xw0 4000 rfl ?_ ?_ | exact qq | fail)
      refine kretv rfl ⟨trivial, trivial⟩ rfl (eqB ?_)
      unfold agrS
      have : l.all (fun d => nameS d.nm && defS d) = true := by
        rw [List.all_eq_true]
        intro d hd
        obtain ⟨j, hj, e⟩ := List.getElem_of_mem hd
        have := hv j (by omega)
        unfold lF at this
        rw [List.getD_eq_getElem?_getD, List.getElem?_eq_getElem hj, e] at this
        exact this
      rw [h3.1, decide_eq_true h3.2, this]; rfl
end Go.Proofs.Ytnlcenlamkfmnaa
