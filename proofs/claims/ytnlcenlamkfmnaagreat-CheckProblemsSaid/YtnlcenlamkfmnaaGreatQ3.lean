/- The reference's checks of agreements: definitions. -/
import Derived.Test.YtnlcenlamkfmnaaGreatQ2
set_option linter.unusedSimpArgs false
set_option linter.unusedVariables false
set_option maxRecDepth 100000
namespace Go.Proofs.YtnlcenlamkfmnaaGreat
theorem typ18_eq (t : Ty) : typS t = (unitS t.m t.h t.d && (!t.b || (decide (t.m = 0) && (decide (t.h = 0) && decide (t.d = 0))))) := by
  unfold typS
  cases t.b
  · simp
  · rw [if_pos rfl, Bool.eq_iff_iff]
    simp [unitS]
    omega
set_option maxHeartbeats 8000000 in
theorem vd1 (d : Df) (hb : BdD d) (h : d.kind = 1) : PureC G.P 47 [.agg 21 (nthP (cD d))] (fun r => r = vb (nameS d.nm && defS d)) := by
  have c_u := isUnit18_c d.ty.m d.ty.h d.ty.d
  have c_z := same0_c d.body
  have c_nm := isName17_c d.nm hb.nm
  refine pure_of (G := G.toPg) (fn := Tryz.f47) Tryz.func47 rfl rfl rfl ?_; intro Γ hk
  repeat' (first | refine yo ?_ ?_ | refine yw ?_ ?_ | refine yk ?_ ?_ | exact trivial | with_reducible refine wA ?_ ?_ | refine ys ?_ ?_ | refine xs_done ?_ | refine yl ?_ ?_ | refine xs_start (id := 2) true [.take 0, .take 1, .take 2, .take 3, .take 4, .take 5, .take 6, .take 7, .take 8, .take 9, .one 10, .take 11, .take 12, .take 13] 0 rfl rfl (by kernel_rfl) ?_ | refine xs_start (id := 10) true [.take 0, .take 1, .take 2, .take 3, .take 4, .take 5, .take 6, .take 7, .take 8, .take 10, .take 11, .one 9, .one 12, .take 13, .take 14, .take 15] 0 rfl rfl (by kernel_rfl) ?_ | refine xs_start (id := 12) true [.take 0, .take 1, .take 3, .take 4, .one 2, .one 5, .take 6, .take 7] 0 rfl rfl (by kernel_rfl) ?_ | refine xs_start (id := 14) true [.take 0, .take 1, .take 2, .take 3, .take 4, .take 5, .take 7, .take 8, .one 6, .one 9, .take 10, .take 11, .take 12] 0 rfl rfl (by kernel_rfl) ?_ | (refine pcond_y rfl (by rw [h]; rfl) ?_) | (refine pcond_n rfl (by rw [h]; rfl) ?_) | refine z1 c_u ?_ | refine z2 c_u ?_ | refine z3 c_u ?_ | refine z4 c_u ?_ | refine z5 c_u ?_ | refine z1 c_z ?_ | refine z2 c_z ?_ | refine z3 c_z ?_ | refine z4 c_z ?_ | refine z5 c_z ?_ | refine z1 c_nm ?_ | refine z2 c_nm ?_ | refine z3 c_nm ?_ | refine z4 c_nm ?_ | refine z5 c_nm ?_ | refine w8 ?_ | refine w9 ?_ | refine w1 ?_ | refine w2 ?_ | refine w3 ?_ | refine w4 ?_ | refine w5 ?_ | refine w6 ?_ | refine w7 ?_ | refine yo0 ?_ ?_ | refine yw0 ?_ ?_ | exact qq | fail)
  refine kretv rfl ⟨trivial, trivial⟩ rfl (eqB ?_)
  rw [show defS d = (typS d.ty && (decide (d.day = 0) && (decide (d.ne = 0) && (zeroX d.body && (decide (d.mode = 0) && decide (d.sn = 0 ∧ d.sd = 0)))))) from by simp [defS, h], typ18_eq d.ty]
  simp [bqd, Bool.and_assoc] <;> ac_rfl
set_option maxHeartbeats 8000000 in
theorem vd5 (d : Df) (hb : BdD d) (h : d.kind = 5) : PureC G.P 47 [.agg 21 (nthP (cD d))] (fun r => r = vb (nameS d.nm && defS d)) := by
  have c_u := isUnit18_c d.ty.m d.ty.h d.ty.d
  have c_z := same0_c d.body
  have c_nm := isName17_c d.nm hb.nm
  refine pure_of (G := G.toPg) (fn := Tryz.f47) Tryz.func47 rfl rfl rfl ?_; intro Γ hk
  repeat' (first | refine yo ?_ ?_ | refine yw ?_ ?_ | refine yk ?_ ?_ | exact trivial | with_reducible refine wA ?_ ?_ | refine ys ?_ ?_ | refine xs_done ?_ | refine yl ?_ ?_ | refine xs_start (id := 2) true [.take 0, .take 1, .take 2, .take 3, .take 4, .take 5, .take 6, .take 7, .take 8, .take 9, .one 10, .take 11, .take 12, .take 13] 0 rfl rfl (by kernel_rfl) ?_ | refine xs_start (id := 10) true [.take 0, .take 1, .take 2, .take 3, .take 4, .take 5, .take 6, .take 7, .take 8, .take 10, .take 11, .one 9, .one 12, .take 13, .take 14, .take 15] 0 rfl rfl (by kernel_rfl) ?_ | refine xs_start (id := 12) true [.take 0, .take 1, .take 3, .take 4, .one 2, .one 5, .take 6, .take 7] 0 rfl rfl (by kernel_rfl) ?_ | refine xs_start (id := 14) true [.take 0, .take 1, .take 2, .take 3, .take 4, .take 5, .take 7, .take 8, .one 6, .one 9, .take 10, .take 11, .take 12] 0 rfl rfl (by kernel_rfl) ?_ | (refine pcond_y rfl (by rw [h]; rfl) ?_) | (refine pcond_n rfl (by rw [h]; rfl) ?_) | refine z1 c_u ?_ | refine z2 c_u ?_ | refine z3 c_u ?_ | refine z4 c_u ?_ | refine z5 c_u ?_ | refine z1 c_z ?_ | refine z2 c_z ?_ | refine z3 c_z ?_ | refine z4 c_z ?_ | refine z5 c_z ?_ | refine z1 c_nm ?_ | refine z2 c_nm ?_ | refine z3 c_nm ?_ | refine z4 c_nm ?_ | refine z5 c_nm ?_ | refine w8 ?_ | refine w9 ?_ | refine w1 ?_ | refine w2 ?_ | refine w3 ?_ | refine w4 ?_ | refine w5 ?_ | refine w6 ?_ | refine w7 ?_ | refine yo0 ?_ ?_ | refine yw0 ?_ ?_ | exact qq | fail)
  refine kretv rfl ⟨trivial, trivial⟩ rfl (eqB ?_)
  rw [show defS d = ((typS d.ty && !d.ty.b) && (decide (d.day = 0) && (decide (d.ne = 0) && (zeroX d.body && (decide (d.mode = 0) && decide (d.sn = 0 ∧ d.sd = 0)))))) from by simp [defS, h], typ18_eq d.ty]
  simp [bqd, Bool.and_assoc] <;> ac_rfl
set_option maxHeartbeats 8000000 in
theorem vd2 (d : Df) (hb : BdD d) (h : d.kind = 2) : PureC G.P 47 [.agg 21 (nthP (cD d))] (fun r => r = vb (nameS d.nm && defS d)) := by
  have c_u := isUnit18_c d.ty.m d.ty.h d.ty.d
  have c_z := same0_c d.body
  have c_nm := isName17_c d.nm hb.nm
  have c_day := inDays_c d.day
  have c_en := entries18_c d.ne d.ef hb.ne hb.ef
  refine pure_of (G := G.toPg) (fn := Tryz.f47) Tryz.func47 rfl rfl rfl ?_; intro Γ hk
  repeat' (first | refine yo ?_ ?_ | refine yw ?_ ?_ | refine yk ?_ ?_ | exact trivial | with_reducible refine wA ?_ ?_ | refine ys ?_ ?_ | refine xs_done ?_ | refine yl ?_ ?_ | refine xs_start (id := 2) true [.take 0, .take 1, .take 2, .take 3, .take 4, .take 5, .take 6, .take 7, .take 8, .take 9, .one 10, .take 11, .take 12, .take 13] 0 rfl rfl (by kernel_rfl) ?_ | refine xs_start (id := 10) true [.take 0, .take 1, .take 2, .take 3, .take 4, .take 5, .take 6, .take 7, .take 8, .take 10, .take 11, .one 9, .one 12, .take 13, .take 14, .take 15] 0 rfl rfl (by kernel_rfl) ?_ | refine xs_start (id := 12) true [.take 0, .take 1, .take 3, .take 4, .one 2, .one 5, .take 6, .take 7] 0 rfl rfl (by kernel_rfl) ?_ | refine xs_start (id := 14) true [.take 0, .take 1, .take 2, .take 3, .take 4, .take 5, .take 7, .take 8, .one 6, .one 9, .take 10, .take 11, .take 12] 0 rfl rfl (by kernel_rfl) ?_ | (refine pcond_y rfl (by rw [h]; rfl) ?_) | (refine pcond_n rfl (by rw [h]; rfl) ?_) | refine z1 c_u ?_ | refine z2 c_u ?_ | refine z3 c_u ?_ | refine z4 c_u ?_ | refine z5 c_u ?_ | refine z1 c_z ?_ | refine z2 c_z ?_ | refine z3 c_z ?_ | refine z4 c_z ?_ | refine z5 c_z ?_ | refine z1 c_nm ?_ | refine z2 c_nm ?_ | refine z3 c_nm ?_ | refine z4 c_nm ?_ | refine z5 c_nm ?_ | refine z1 c_day ?_ | refine z2 c_day ?_ | refine z3 c_day ?_ | refine z4 c_day ?_ | refine z5 c_day ?_ | refine z1 c_en ?_ | refine z2 c_en ?_ | refine z3 c_en ?_ | refine z4 c_en ?_ | refine z5 c_en ?_ | refine w8 ?_ | refine w9 ?_ | refine w1 ?_ | refine w2 ?_ | refine w3 ?_ | refine w4 ?_ | refine w5 ?_ | refine w6 ?_ | refine w7 ?_ | refine yo0 ?_ ?_ | refine yw0 ?_ ?_ | exact qq | fail)
  refine kretv rfl ⟨trivial, trivial⟩ rfl (eqB ?_)
  rw [show defS d = ((typS d.ty && !d.ty.b) && (dayS d.day && (entsS d.ne d.ef && (zeroX d.body && (decide (d.mode = 0) && decide (d.sn = 0 ∧ d.sd = 0)))))) from by simp [defS, h], typ18_eq d.ty]
  simp [bqd, Bool.and_assoc] <;> ac_rfl
set_option maxHeartbeats 8000000 in
theorem vd3 (d : Df) (hb : BdD d) (h : d.kind = 3) : PureC G.P 47 [.agg 21 (nthP (cD d))] (fun r => r = vb (nameS d.nm && defS d)) := by
  have c_u := isUnit18_c d.ty.m d.ty.h d.ty.d
  have c_z := same0_c d.body
  have c_nm := isName17_c d.nm hb.nm
  have c_day := inDays_c d.day
  have c_x := validExpr18_c d.body hb.body
  refine pure_of (G := G.toPg) (fn := Tryz.f47) Tryz.func47 rfl rfl rfl ?_; intro Γ hk
  repeat' (first | refine yo ?_ ?_ | refine yw ?_ ?_ | refine yk ?_ ?_ | exact trivial | with_reducible refine wA ?_ ?_ | refine ys ?_ ?_ | refine xs_done ?_ | refine yl ?_ ?_ | refine xs_start (id := 2) true [.take 0, .take 1, .take 2, .take 3, .take 4, .take 5, .take 6, .take 7, .take 8, .take 9, .one 10, .take 11, .take 12, .take 13] 0 rfl rfl (by kernel_rfl) ?_ | refine xs_start (id := 10) true [.take 0, .take 1, .take 2, .take 3, .take 4, .take 5, .take 6, .take 7, .take 8, .take 10, .take 11, .one 9, .one 12, .take 13, .take 14, .take 15] 0 rfl rfl (by kernel_rfl) ?_ | refine xs_start (id := 12) true [.take 0, .take 1, .take 3, .take 4, .one 2, .one 5, .take 6, .take 7] 0 rfl rfl (by kernel_rfl) ?_ | refine xs_start (id := 14) true [.take 0, .take 1, .take 2, .take 3, .take 4, .take 5, .take 7, .take 8, .one 6, .one 9, .take 10, .take 11, .take 12] 0 rfl rfl (by kernel_rfl) ?_ | (refine pcond_y rfl (by rw [h]; rfl) ?_) | (refine pcond_n rfl (by rw [h]; rfl) ?_) | refine z1 c_u ?_ | refine z2 c_u ?_ | refine z3 c_u ?_ | refine z4 c_u ?_ | refine z5 c_u ?_ | refine z1 c_z ?_ | refine z2 c_z ?_ | refine z3 c_z ?_ | refine z4 c_z ?_ | refine z5 c_z ?_ | refine z1 c_nm ?_ | refine z2 c_nm ?_ | refine z3 c_nm ?_ | refine z4 c_nm ?_ | refine z5 c_nm ?_ | refine z1 c_day ?_ | refine z2 c_day ?_ | refine z3 c_day ?_ | refine z4 c_day ?_ | refine z5 c_day ?_ | refine z1 c_x ?_ | refine z2 c_x ?_ | refine z3 c_x ?_ | refine z4 c_x ?_ | refine z5 c_x ?_ | refine w8 ?_ | refine w9 ?_ | refine w1 ?_ | refine w2 ?_ | refine w3 ?_ | refine w4 ?_ | refine w5 ?_ | refine w6 ?_ | refine w7 ?_ | refine yo0 ?_ ?_ | refine yw0 ?_ ?_ | exact qq | fail)
  refine kretv rfl ⟨trivial, trivial⟩ rfl (eqB ?_)
  rw [show defS d = (typS d.ty && (dayS d.day && (decide (d.ne = 0) && (validS 32 d.body && (decide (d.mode = 0) && decide (d.sn = 0 ∧ d.sd = 0)))))) from by simp [defS, h], typ18_eq d.ty]
  simp [bqd, Bool.and_assoc] <;> ac_rfl
set_option maxHeartbeats 8000000 in
theorem vd4 (d : Df) (hb : BdD d) (h : d.kind = 4) : PureC G.P 47 [.agg 21 (nthP (cD d))] (fun r => r = vb (nameS d.nm && defS d)) := by
  have c_u := isUnit18_c d.ty.m d.ty.h d.ty.d
  have c_z := same0_c d.body
  have c_nm := isName17_c d.nm hb.nm
  have c_day := inDays_c d.day
  have c_x := validExpr18_c d.body hb.body
  have c_mo := mode2_c d.mode
  have c_st := isStep18_c d.sn d.sd hb.st.1 hb.st.2
  refine pure_of (G := G.toPg) (fn := Tryz.f47) Tryz.func47 rfl rfl rfl ?_; intro Γ hk
  repeat' (first | refine yo ?_ ?_ | refine yw ?_ ?_ | refine yk ?_ ?_ | exact trivial | with_reducible refine wA ?_ ?_ | refine ys ?_ ?_ | refine xs_done ?_ | refine yl ?_ ?_ | refine xs_start (id := 2) true [.take 0, .take 1, .take 2, .take 3, .take 4, .take 5, .take 6, .take 7, .take 8, .take 9, .one 10, .take 11, .take 12, .take 13] 0 rfl rfl (by kernel_rfl) ?_ | refine xs_start (id := 10) true [.take 0, .take 1, .take 2, .take 3, .take 4, .take 5, .take 6, .take 7, .take 8, .take 10, .take 11, .one 9, .one 12, .take 13, .take 14, .take 15] 0 rfl rfl (by kernel_rfl) ?_ | refine xs_start (id := 12) true [.take 0, .take 1, .take 3, .take 4, .one 2, .one 5, .take 6, .take 7] 0 rfl rfl (by kernel_rfl) ?_ | refine xs_start (id := 14) true [.take 0, .take 1, .take 2, .take 3, .take 4, .take 5, .take 7, .take 8, .one 6, .one 9, .take 10, .take 11, .take 12] 0 rfl rfl (by kernel_rfl) ?_ | (refine pcond_y rfl (by rw [h]; rfl) ?_) | (refine pcond_n rfl (by rw [h]; rfl) ?_) | refine z1 c_u ?_ | refine z2 c_u ?_ | refine z3 c_u ?_ | refine z4 c_u ?_ | refine z5 c_u ?_ | refine z1 c_z ?_ | refine z2 c_z ?_ | refine z3 c_z ?_ | refine z4 c_z ?_ | refine z5 c_z ?_ | refine z1 c_nm ?_ | refine z2 c_nm ?_ | refine z3 c_nm ?_ | refine z4 c_nm ?_ | refine z5 c_nm ?_ | refine z1 c_day ?_ | refine z2 c_day ?_ | refine z3 c_day ?_ | refine z4 c_day ?_ | refine z5 c_day ?_ | refine z1 c_x ?_ | refine z2 c_x ?_ | refine z3 c_x ?_ | refine z4 c_x ?_ | refine z5 c_x ?_ | refine z1 c_mo ?_ | refine z2 c_mo ?_ | refine z3 c_mo ?_ | refine z4 c_mo ?_ | refine z5 c_mo ?_ | refine z1 c_st ?_ | refine z2 c_st ?_ | refine z3 c_st ?_ | refine z4 c_st ?_ | refine z5 c_st ?_ | refine w8 ?_ | refine w9 ?_ | refine w1 ?_ | refine w2 ?_ | refine w3 ?_ | refine w4 ?_ | refine w5 ?_ | refine w6 ?_ | refine w7 ?_ | refine yo0 ?_ ?_ | refine yw0 ?_ ?_ | exact qq | fail)
  refine kretv rfl ⟨trivial, trivial⟩ rfl (eqB ?_)
  rw [show defS d = (tz d.ty && (dayS d.day && (decide (d.ne = 0) && (validS 32 d.body && (modeB d.mode && stepS d.sn d.sd))))) from by simp [defS, h], tz18_eq d.ty, step18_eq]
  simp [bqd, Bool.and_assoc] <;> ac_rfl
set_option maxHeartbeats 8000000 in
theorem vd0 (d : Df) (hb : BdD d) (e1 : ¬ d.kind = 1) (e2 : ¬ d.kind = 2) (e3 : ¬ d.kind = 3) (e4 : ¬ d.kind = 4) (e5 : ¬ d.kind = 5) : PureC G.P 47 [.agg 21 (nthP (cD d))] (fun r => r = vb (nameS d.nm && defS d)) := by
  have c_u := isUnit18_c d.ty.m d.ty.h d.ty.d
  have c_z := same0_c d.body
  refine pure_of (G := G.toPg) (fn := Tryz.f47) Tryz.func47 rfl rfl rfl ?_; intro Γ hk
  repeat' (first | refine yo ?_ ?_ | refine yw ?_ ?_ | refine yk ?_ ?_ | exact trivial | with_reducible refine wA ?_ ?_ | refine ys ?_ ?_ | refine xs_done ?_ | refine yl ?_ ?_ | refine xs_start (id := 2) true [.take 0, .take 1, .take 2, .take 3, .take 4, .take 5, .take 6, .take 7, .take 8, .take 9, .one 10, .take 11, .take 12, .take 13] 0 rfl rfl (by kernel_rfl) ?_ | refine xs_start (id := 10) true [.take 0, .take 1, .take 2, .take 3, .take 4, .take 5, .take 6, .take 7, .take 8, .take 10, .take 11, .one 9, .one 12, .take 13, .take 14, .take 15] 0 rfl rfl (by kernel_rfl) ?_ | refine xs_start (id := 12) true [.take 0, .take 1, .take 3, .take 4, .one 2, .one 5, .take 6, .take 7] 0 rfl rfl (by kernel_rfl) ?_ | refine xs_start (id := 14) true [.take 0, .take 1, .take 2, .take 3, .take 4, .take 5, .take 7, .take 8, .one 6, .one 9, .take 10, .take 11, .take 12] 0 rfl rfl (by kernel_rfl) ?_ | (refine pcond_n rfl (by simp; omega) ?_) | refine z1 c_u ?_ | refine z2 c_u ?_ | refine z3 c_u ?_ | refine z4 c_u ?_ | refine z5 c_u ?_ | refine z1 c_z ?_ | refine z2 c_z ?_ | refine z3 c_z ?_ | refine z4 c_z ?_ | refine z5 c_z ?_ | refine w8 ?_ | refine w9 ?_ | refine w1 ?_ | refine w2 ?_ | refine w3 ?_ | refine w4 ?_ | refine w5 ?_ | refine w6 ?_ | refine w7 ?_ | refine yo0 ?_ ?_ | refine yw0 ?_ ?_ | exact qq | fail)
  refine kretv rfl ⟨trivial, trivial⟩ rfl (eqB ?_)
  simp [defS, e1, e2, e3, e4, e5]
theorem validDef18_c (d : Df) (hb : BdD d) : PureC G.P 47 [.agg 21 (nthP (cD d))] (fun r => r = vb (nameS d.nm && defS d)) := by
  by_cases e1 : d.kind = 1
  · exact vd1 d hb e1
  by_cases e2 : d.kind = 2
  · exact vd2 d hb e2
  by_cases e3 : d.kind = 3
  · exact vd3 d hb e3
  by_cases e4 : d.kind = 4
  · exact vd4 d hb e4
  by_cases e5 : d.kind = 5
  · exact vd5 d hb e5
  exact vd0 d hb e1 e2 e3 e4 e5
end Go.Proofs.YtnlcenlamkfmnaaGreat
