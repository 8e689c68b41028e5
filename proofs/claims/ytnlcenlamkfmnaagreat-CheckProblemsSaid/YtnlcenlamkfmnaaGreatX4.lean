/- syntax.Valid. -/
import Derived.Test.YtnlcenlamkfmnaaGreatX2
set_option linter.unusedSimpArgs false
set_option linter.unusedVariables false
set_option maxRecDepth 100000
namespace Go.Proofs.YtnlcenlamkfmnaaGreat
theorem nb_t {b : Bool} (h : (!b) = true) : b = false := by cases b; rfl; cases h
theorem nb_f {b : Bool} (h : (!b) = false) : b = true := by cases b; cases h; rfl
theorem isDay_c (n : Int) : PureC G.P 58 [vi n] (fun r => r = vb (dayS n)) := by
  refine pure_of (G := G.toPg) (fn := Tryz.f58) Tryz.func58 rfl rfl rfl ?_; intro Γ hk
  repeat' (first | refine yo ?_ ?_ | refine yw ?_ ?_ | refine yk ?_ ?_ | exact trivial | with_reducible refine wA ?_ ?_ | refine ys ?_ ?_ | refine xs_done ?_ | refine yl ?_ ?_ | refine w8 ?_ | refine w9 ?_ | refine w1 ?_ | refine w2 ?_ | refine w3 ?_ | refine w4 ?_ | refine w5 ?_ | refine w6 ?_ | refine w7 ?_ | refine yo0 ?_ ?_ | refine yw0 ?_ ?_ | exact qq | fail)
  refine kretv rfl ⟨trivial, trivial⟩ rfl (eqB ?_)
  unfold dayS
  rw [Bool.eq_iff_iff]; simp
theorem validType_c (t : Ty) : PureC G.P 57 [vT t] (fun r => r = vb (typS t)) := by
  have c1 := validUnit_c t.m t.h t.d
  refine pure_of (G := G.toPg) (fn := Tryz.f57) Tryz.func57 rfl rfl rfl ?_; intro Γ hk
  repeat' (first | refine yo ?_ ?_ | refine yw ?_ ?_ | refine yk ?_ ?_ | exact trivial | with_reducible refine wA ?_ ?_ | refine ys ?_ ?_ | refine xs_done ?_ | refine yl ?_ ?_ | refine w8 ?_ | refine w9 ?_ | refine w1 ?_ | refine w2 ?_ | refine w3 ?_ | refine w4 ?_ | refine w5 ?_ | refine w6 ?_ | refine w7 ?_ | refine yo0 ?_ ?_ | refine yw0 ?_ ?_ | exact qq | fail)
  refine pcond rfl ?_ ?_ <;> intro hc
  · repeat' (first | refine yo ?_ ?_ | refine yw ?_ ?_ | refine yk ?_ ?_ | exact trivial | with_reducible refine wA ?_ ?_ | refine ys ?_ ?_ | refine xs_done ?_ | refine yl ?_ ?_ | refine w8 ?_ | refine w9 ?_ | refine w1 ?_ | refine w2 ?_ | refine w3 ?_ | refine w4 ?_ | refine w5 ?_ | refine w6 ?_ | refine w7 ?_ | refine yo0 ?_ ?_ | refine yw0 ?_ ?_ | exact qq | fail)
    refine kretv rfl ⟨trivial, trivial⟩ rfl (eqB ?_)
    simp [typS, hc, bqd, Bool.and_assoc]
  · repeat' (first | refine yo ?_ ?_ | refine yw ?_ ?_ | refine yk ?_ ?_ | exact trivial | with_reducible refine wA ?_ ?_ | refine ys ?_ ?_ | refine xs_done ?_ | refine yl ?_ ?_ | refine z1 c1 ?_ | refine z2 c1 ?_ | refine z3 c1 ?_ | refine z4 c1 ?_ | refine z5 c1 ?_ | refine w8 ?_ | refine w9 ?_ | refine w1 ?_ | refine w2 ?_ | refine w3 ?_ | refine w4 ?_ | refine w5 ?_ | refine w6 ?_ | refine w7 ?_ | refine yo0 ?_ ?_ | refine yw0 ?_ ?_ | exact qq | fail)
    refine kretv rfl ⟨trivial, trivial⟩ rfl (eqB ?_)
    simp [typS, hc]
theorem isCents_c (n d : Int) : PureC G.P 63 [vr n d] (fun r => r = vb (decide (0 < d) && decide (Int.tmod 100 d = 0))) := by
  refine pure_of (G := G.toPg) (fn := Tryz.f63) Tryz.func63 rfl rfl rfl ?_; intro Γ hk
  repeat' (first | refine yo ?_ ?_ | refine yw ?_ ?_ | refine yk ?_ ?_ | exact trivial | with_reducible refine wA ?_ ?_ | refine ys ?_ ?_ | refine xs_done ?_ | refine yl ?_ ?_ | exact fun h => ⟨h, by simp at h; omega⟩ | refine w8 ?_ | refine w9 ?_ | refine w1 ?_ | refine w2 ?_ | refine w3 ?_ | refine w4 ?_ | refine w5 ?_ | refine w6 ?_ | refine w7 ?_ | refine yo0 ?_ ?_ | refine yw0 ?_ ?_ | exact qq | fail)
  refine kretv rfl ⟨trivial, trivial⟩ rfl (eqB ?_)
  rw [bqd]
  cases decide (0 < d) <;> rfl
theorem isZero_c (e : Ex) : PureC G.P 56 [vX e] (fun r => r = vb (zeroX e)) := by
  refine pure_of (G := G.toPg) (fn := Tryz.f56) Tryz.func56 rfl rfl rfl ?_; intro Γ hk
  repeat' (first | refine yo ?_ ?_ | refine yw ?_ ?_ | refine yk ?_ ?_ | exact trivial | with_reducible refine wA ?_ ?_ | refine ys ?_ ?_ | refine xs_done ?_ | refine yl ?_ ?_ | refine w8 ?_ | refine w9 ?_ | refine w1 ?_ | refine w2 ?_ | refine w3 ?_ | refine w4 ?_ | refine w5 ?_ | refine w6 ?_ | refine w7 ?_ | refine yo0 ?_ ?_ | refine yw0 ?_ ?_ | exact qq | fail)
  all_goals first
    | (refine kretv rfl ⟨trivial, trivial⟩ rfl (eqB ?_); simp [zeroX, bqd, Bool.and_assoc])
    | trace_state
theorem validExpr0_c (e : Ex) (hb : Bd e) : PureC G.P 60 [vX e] (fun r => r = vb (validS 32 e)) := by
  have c1 := validExpr_c 32 e (by omega) hb
  refine pure_of (G := G.toPg) (fn := Tryz.f60) Tryz.func60 rfl rfl rfl ?_; intro Γ hk
  repeat' (first | refine yo ?_ ?_ | refine yw ?_ ?_ | refine yk ?_ ?_ | exact trivial | with_reducible refine wA ?_ ?_ | refine ys ?_ ?_ | refine xs_done ?_ | refine yl ?_ ?_ | refine z1 c1 ?_ | refine z2 c1 ?_ | refine z3 c1 ?_ | refine z4 c1 ?_ | refine z5 c1 ?_ | refine w8 ?_ | refine w9 ?_ | refine w1 ?_ | refine w2 ?_ | refine w3 ?_ | refine w4 ?_ | refine w5 ?_ | refine w6 ?_ | refine w7 ?_ | refine yo0 ?_ ?_ | refine yw0 ?_ ?_ | exact qq | fail)
  exact kretv rfl ⟨trivial, trivial⟩ rfl rfl
theorem validEntries_c (n : Nat) (f : Nat → En) (hn : n ≤ 1000000) (hb : ∀ i, i < n → -9223372036854775808 ≤ (f i).2.1 ∧ (f i).2.1 ≤ 9223372036854775807) : PureC G.P 59 [.vsl n 3 (tF cN3 f)] (fun r => r = vb (entsS n f)) := by
  refine pure_of (G := G.toPg) (fn := Tryz.f59) Tryz.func59 rfl rfl rfl ?_; intro Γ hk
  repeat' (first | refine yo ?_ ?_ | refine yw ?_ ?_ | refine yk ?_ ?_ | exact trivial | with_reducible refine wA ?_ ?_ | refine ys ?_ ?_ | refine xs_done ?_ | refine yl ?_ ?_ | refine w8 ?_ | refine w9 ?_ | refine w1 ?_ | refine w2 ?_ | refine w3 ?_ | refine w4 ?_ | refine w5 ?_ | refine w6 ?_ | refine w7 ?_ | refine yo0 ?_ ?_ | refine yw0 ?_ ?_ | exact qq | fail)
  refine pcond (b := !decide (1 ≤ n ∧ n ≤ 64)) ?_ ?_ ?_
  · refine eqB ?_
    rw [Bool.eq_iff_iff]; simp; omega
  · intro h
    repeat' (first | refine yo ?_ ?_ | refine yw ?_ ?_ | refine yk ?_ ?_ | exact trivial | with_reducible refine wA ?_ ?_ | refine ys ?_ ?_ | refine xs_done ?_ | refine yl ?_ ?_ | refine w8 ?_ | refine w9 ?_ | refine w1 ?_ | refine w2 ?_ | refine w3 ?_ | refine w4 ?_ | refine w5 ?_ | refine w6 ?_ | refine w7 ?_ | refine yo0 ?_ ?_ | refine yw0 ?_ ?_ | exact qq | fail)
    refine kretv rfl ⟨trivial, trivial⟩ rfl (eqB ?_)
    unfold entsS
    have : decide (1 ≤ n ∧ n ≤ 64) = false := nb_t h
    rw [this]; rfl
  · intro h
    have h1 : decide (1 ≤ n ∧ n ≤ 64) = true := nb_f h
    repeat' (first | refine yo ?_ ?_ | refine yw ?_ ?_ | refine yk ?_ ?_ | exact trivial | with_reducible refine wA ?_ ?_ | refine ys ?_ ?_ | refine xs_done ?_ | refine yl ?_ ?_ | refine w8 ?_ | refine w9 ?_ | refine w1 ?_ | refine w2 ?_ | refine w3 ?_ | refine w4 ?_ | refine w5 ?_ | refine w6 ?_ | refine w7 ?_ | refine yo0 ?_ ?_ | refine yw0 ?_ ?_ | exact qq | fail)
    refine pcan (st' := ⟨[(3, vi (if (0 : Nat) = 0 then -1 else (f (0 - 1)).1)), (14, .vsl n 3 (tF cN3 f)), (15, vi n), (16, vi ((0 : Nat) : Int))], []⟩) (can_rowsv [] (k0_sel hk rfl) rfl .nil tmq) ?_
    refine ploop (fun q st => ∃ i : Nat, i ≤ n ∧ (∀ j, j < i → (decide ((if j = 0 then -1 else (f (j - 1)).1) < (f j).1 ∧ (f j).1 ≤ 1000000) && decS (f j).2.1 (f j).2.2) = true) ∧ q = n - i ∧ st = ⟨[(3, vi (if i = 0 then -1 else (f (i - 1)).1)), (14, .vsl n 3 (tF cN3 f)), (15, vi n), (16, vi i)], []⟩) n ⟨0, by omega, fun j hj => by omega, by omega, rfl⟩ ?_
    rintro _ _ ⟨i, hi, hv, rfl, rfl⟩
    generalize hbe : (if i = 0 then -1 else (f (i - 1)).1) = be
    repeat' (first | refine yo ?_ ?_ | refine yw ?_ ?_ | refine yk ?_ ?_ | exact trivial | with_reducible refine wA ?_ ?_ | refine ys ?_ ?_ | refine xs_done ?_ | refine yl ?_ ?_ | refine w8 ?_ | refine w9 ?_ | refine w1 ?_ | refine w2 ?_ | refine w3 ?_ | refine w4 ?_ | refine w5 ?_ | refine w6 ?_ | refine w7 ?_ | refine yo0 ?_ ?_ | refine yw0 ?_ ?_ | exact qq | fail)
    refine pcond rfl ?_ ?_ <;> intro hc <;> simp at hc
    · have c1 := isNumber_c (f i).2.1 (f i).2.2 (hb i hc).1 (hb i hc).2
      repeat' (first | refine yo ?_ ?_ | refine yw ?_ ?_ | refine yk ?_ ?_ | exact trivial | with_reducible refine wA ?_ ?_ | refine ys ?_ ?_ | refine xs_done ?_ | refine yl ?_ ?_ | refine z1 c1 ?_ | refine z2 c1 ?_ | refine z3 c1 ?_ | refine z4 c1 ?_ | refine z5 c1 ?_ | refine w8 ?_ | refine w9 ?_ | refine w1 ?_ | refine w2 ?_ | refine w3 ?_ | refine w4 ?_ | refine w5 ?_ | refine w6 ?_ | refine w7 ?_ | refine yo0 ?_ ?_ | refine yw0 ?_ ?_ | exact qq | fail)
      refine pcond (b := !(decide (be < (f i).1 ∧ (f i).1 ≤ 1000000) && decS (f i).2.1 (f i).2.2)) ?_ ?_ ?_
      · refine eqB ?_
        show (bif (bif decide ((f i).1 ≤ be) then true else decide (1000000 < (f i).1)) then true else !decS (f i).2.1 (f i).2.2) = _
        by_cases h1 : be < (f i).1 <;> by_cases h2 : (f i).1 ≤ 1000000 <;> cases decS (f i).2.1 (f i).2.2 <;> simp [h1, h2] <;> omega
      · intro h2
        repeat' (first | refine yo ?_ ?_ | refine yw ?_ ?_ | refine yk ?_ ?_ | exact trivial | with_reducible refine wA ?_ ?_ | refine ys ?_ ?_ | refine xs_done ?_ | refine yl ?_ ?_ | refine w8 ?_ | refine w9 ?_ | refine w1 ?_ | refine w2 ?_ | refine w3 ?_ | refine w4 ?_ | refine w5 ?_ | refine w6 ?_ | refine w7 ?_ | refine yo0 ?_ ?_ | refine yw0 ?_ ?_ | exact qq | fail)
        refine kretv rfl ⟨trivial, trivial⟩ rfl (eqB ?_)
        have : (decide ((if i = 0 then -1 else (f (i - 1)).1) < (f i).1 ∧ (f i).1 ≤ 1000000) && decS (f i).2.1 (f i).2.2) = false := by rw [hbe]; exact nb_t h2
        unfold entsS
        rw [allK_no hc this]; simp
      · intro h2
        have hg : (decide (be < (f i).1 ∧ (f i).1 ≤ 1000000) && decS (f i).2.1 (f i).2.2) = true := nb_f h2
        repeat' (first | refine yo ?_ ?_ | refine yw ?_ ?_ | refine yk ?_ ?_ | exact trivial | with_reducible refine wA ?_ ?_ | refine ys ?_ ?_ | refine xs_done ?_ | refine yl ?_ ?_ | refine w8 ?_ | refine w9 ?_ | refine w1 ?_ | refine w2 ?_ | refine w3 ?_ | refine w4 ?_ | refine w5 ?_ | refine w6 ?_ | refine w7 ?_ | refine yo0 ?_ ?_ | refine yw0 ?_ ?_ | exact qq | fail)
        rw [show IntKind.i64.wrap ((i : Int) + 1) = ((i + 1 : Nat) : Int) from w64 (by omega) (by omega)]
        exact kloop_next (st' := ⟨[(3, vi (if i + 1 = 0 then -1 else (f (i + 1 - 1)).1)), (14, .vsl n 3 (tF cN3 f)), (15, vi n), (16, vi ((i + 1 : Nat) : Int))], []⟩) (n - (i + 1)) (can_rowsv [] (k0_sel hk rfl) rfl .nil tmq) (by omega) ⟨i + 1, by omega, fun j hj => by
          by_cases e : j = i
          · subst e; rw [hbe]; exact hg
          · exact hv j (by omega), rfl, rfl⟩
    · repeat' (first | refine yo ?_ ?_ | refine yw ?_ ?_ | refine yk ?_ ?_ | exact trivial | with_reducible refine wA ?_ ?_ | refine ys ?_ ?_ | refine xs_done ?_ | refine yl ?_ ?_ | refine w8 ?_ | refine w9 ?_ | refine w1 ?_ | refine w2 ?_ | refine w3 ?_ | refine w4 ?_ | refine w5 ?_ | refine w6 ?_ | refine w7 ?_ | refine yo0 ?_ ?_ | refine yw0 ?_ ?_ | exact qq | fail)
      refine kretv rfl ⟨trivial, trivial⟩ rfl (eqB ?_)
      unfold entsS
      rw [h1, allK_iff.2 fun j hj => hv j (by omega)]; rfl
theorem tz_eq (t : Ty) : tz t = (!t.b && (decide (t.m = 0) && (decide (t.h = 0) && decide (t.d = 0)))) := by
  obtain ⟨b, m, h, d⟩ := t
  unfold tz
  rw [Bool.eq_iff_iff]; simp
theorem stepS_eq (n d : Int) : stepS n d = (decS n d && (decide (0 < n) && (decide (0 < d) && decide (Int.tmod 100 d = 0)))) := by
  unfold stepS
  cases h : decS n d
  · rfl
  · have : okR n d = true := by unfold decS at h; cases ho : okR n d; rw [ho] at h; cases h; rfl
    have := okR_bd this
    rw [decide_eq_true (show 0 < d by omega)]; rfl
set_option maxHeartbeats 4000000 in
theorem validDef_c (d : Df) (hb : BdD d) : PureC G.P 40 [.agg 21 (nthP (cD d))] (fun r => r = vb (defS d)) := by
  have c1 := validType_c d.ty
  have c2 := isDay_c d.day
  have c3 := isCents_c d.sn d.sd
  have c4 := isZero_c d.body
  have c5 := validExpr0_c d.body hb.body
  have c6 := validEntries_c d.ne d.ef hb.ne hb.ef
  have c7 := isMode18_c d.mode
  have c8 := isStep_c d.sn d.sd hb.st.1 hb.st.2
  refine pure_of (G := G.toPg) (fn := Tryz.f40) Tryz.func40 rfl rfl rfl ?_; intro Γ hk
  by_cases hr : d.kind = 1 ∨ d.kind = 5 ∨ d.kind = 2 ∨ d.kind = 3 ∨ d.kind = 4
  · rcases hr with h | h | h | h | h
    all_goals
      repeat' (first | refine yo ?_ ?_ | refine yw ?_ ?_ | refine yk ?_ ?_ | exact trivial | with_reducible refine wA ?_ ?_ | refine ys ?_ ?_ | refine xs_done ?_ | refine yl ?_ ?_ | refine xs_start (id := 2) true [.take 0, .take 1, .take 2, .take 3, .take 4, .take 5, .take 6, .take 7, .take 8, .take 10, .take 11, .take 12, .one 9, .take 13, .take 14, .take 15, .take 16] 0 rfl rfl (by kernel_rfl) ?_ | refine xs_start (id := 12) true [.take 0, .take 1, .take 3, .take 4, .one 2, .one 5, .take 6, .take 7] 0 rfl rfl (by kernel_rfl) ?_ | refine xs_start (id := 15) true [.take 0, .take 1, .take 3, .take 4, .one 2, .one 5, .take 6, .take 7] 0 rfl rfl (by kernel_rfl) ?_ | refine xs_start (id := 17) true [.take 0, .take 1, .take 3, .take 4, .one 2, .one 5, .take 6, .take 7] 0 rfl rfl (by kernel_rfl) ?_ | refine xs_start (id := 18) true [.take 0, .take 1, .take 3, .take 4, .one 2, .one 5, .take 6, .take 7, .take 8, .one 9, .take 10, .take 11, .take 12] 0 rfl rfl (by kernel_rfl) ?_ | (refine pcond_y rfl (by rw [h]; rfl) ?_) | (refine pcond_n rfl (by rw [h]; rfl) ?_) | refine z1 c1 ?_ | refine z2 c1 ?_ | refine z3 c1 ?_ | refine z4 c1 ?_ | refine z5 c1 ?_ | refine z1 c2 ?_ | refine z2 c2 ?_ | refine z3 c2 ?_ | refine z4 c2 ?_ | refine z5 c2 ?_ | refine z1 c3 ?_ | refine z2 c3 ?_ | refine z3 c3 ?_ | refine z4 c3 ?_ | refine z5 c3 ?_ | refine z1 c4 ?_ | refine z2 c4 ?_ | refine z3 c4 ?_ | refine z4 c4 ?_ | refine z5 c4 ?_ | refine z1 c5 ?_ | refine z2 c5 ?_ | refine z3 c5 ?_ | refine z4 c5 ?_ | refine z5 c5 ?_ | refine z1 c6 ?_ | refine z2 c6 ?_ | refine z3 c6 ?_ | refine z4 c6 ?_ | refine z5 c6 ?_ | refine z1 c7 ?_ | refine z2 c7 ?_ | refine z3 c7 ?_ | refine z4 c7 ?_ | refine z5 c7 ?_ | refine z1 c8 ?_ | refine z2 c8 ?_ | refine z3 c8 ?_ | refine z4 c8 ?_ | refine z5 c8 ?_ | refine w8 ?_ | refine w9 ?_ | refine w1 ?_ | refine w2 ?_ | refine w3 ?_ | refine w4 ?_ | refine w5 ?_ | refine w6 ?_ | refine w7 ?_ | refine yo0 ?_ ?_ | refine yw0 ?_ ?_ | exact qq | fail)
      refine kretv rfl ⟨trivial, trivial⟩ rfl (eqB ?_)
      first
        | (simp [defS, h, bqd, Bool.and_assoc]; done)
        | (rw [show defS d = (tz d.ty && (dayS d.day && (decide (d.ne = 0) && (validS 32 d.body && (modeB d.mode && stepS d.sn d.sd))))) from by simp [defS, h], tz_eq d.ty, stepS_eq]; simp [bqd, Bool.and_assoc])
  · repeat' (first | refine yo ?_ ?_ | refine yw ?_ ?_ | refine yk ?_ ?_ | exact trivial | with_reducible refine wA ?_ ?_ | refine ys ?_ ?_ | refine xs_done ?_ | refine yl ?_ ?_ | refine xs_start (id := 2) true [.take 0, .take 1, .take 2, .take 3, .take 4, .take 5, .take 6, .take 7, .take 8, .take 10, .take 11, .take 12, .one 9, .take 13, .take 14, .take 15, .take 16] 0 rfl rfl (by kernel_rfl) ?_ | refine xs_start (id := 12) true [.take 0, .take 1, .take 3, .take 4, .one 2, .one 5, .take 6, .take 7] 0 rfl rfl (by kernel_rfl) ?_ | refine xs_start (id := 15) true [.take 0, .take 1, .take 3, .take 4, .one 2, .one 5, .take 6, .take 7] 0 rfl rfl (by kernel_rfl) ?_ | refine xs_start (id := 17) true [.take 0, .take 1, .take 3, .take 4, .one 2, .one 5, .take 6, .take 7] 0 rfl rfl (by kernel_rfl) ?_ | refine xs_start (id := 18) true [.take 0, .take 1, .take 3, .take 4, .one 2, .one 5, .take 6, .take 7, .take 8, .one 9, .take 10, .take 11, .take 12] 0 rfl rfl (by kernel_rfl) ?_ | (refine pcond_n rfl (by simp; omega) ?_) | refine z1 c4 ?_ | refine z2 c4 ?_ | refine z3 c4 ?_ | refine z4 c4 ?_ | refine z5 c4 ?_ | refine w8 ?_ | refine w9 ?_ | refine w1 ?_ | refine w2 ?_ | refine w3 ?_ | refine w4 ?_ | refine w5 ?_ | refine w6 ?_ | refine w7 ?_ | refine yo0 ?_ ?_ | refine yw0 ?_ ?_ | exact qq | fail)
    refine kretv rfl ⟨trivial, trivial⟩ rfl (eqB ?_)
    have e1 : ¬ d.kind = 1 := by omega
    have e2 : ¬ d.kind = 2 := by omega
    have e3 : ¬ d.kind = 3 := by omega
    have e4 : ¬ d.kind = 4 := by omega
    have e5 : ¬ d.kind = 5 := by omega
    simp [defS, e1, e2, e3, e4, e5]
theorem validAgr_c (nm : ByteArray) (l : List Df) (hs : nm.size ≤ 9223372036854775807) (hb : ∀ d, d ∈ l → BdD d) : PureC G.P 28 [vA nm l] (fun r => r = vb (agrS nm l)) := by
  have c1 := isName_c nm hs
  have at_ : ∀ i, i < l.length → lF dD l i ∈ l := fun i hi => by
    unfold lF; rw [List.getD_eq_getElem?_getD, List.getElem?_eq_getElem hi]; exact List.getElem_mem _
  refine pure_of (G := G.toPg) (fn := Tryz.f28) Tryz.func28 rfl rfl rfl ?_; intro Γ hk
  repeat' (first | refine yo ?_ ?_ | refine yw ?_ ?_ | refine yk ?_ ?_ | exact trivial | with_reducible refine wA ?_ ?_ | refine ys ?_ ?_ | refine xs_done ?_ | refine yl ?_ ?_ | refine z1 c1 ?_ | refine z2 c1 ?_ | refine z3 c1 ?_ | refine z4 c1 ?_ | refine z5 c1 ?_ | refine w8 ?_ | refine w9 ?_ | refine w1 ?_ | refine w2 ?_ | refine w3 ?_ | refine w4 ?_ | refine w5 ?_ | refine w6 ?_ | refine w7 ?_ | refine yo0 ?_ ?_ | refine yw0 ?_ ?_ | exact qq | fail)
  refine pcond (b := !(nameS nm && decide (l.length ≤ 128))) ?_ ?_ ?_
  · refine eqB ?_
    show (bif !nameS nm then true else decide ((128 : Int) < (l.length : Int))) = _
    cases nameS nm
    · rfl
    · rw [Bool.eq_iff_iff]; simp; omega
  · intro h
    repeat' (first | refine yo ?_ ?_ | refine yw ?_ ?_ | refine yk ?_ ?_ | exact trivial | with_reducible refine wA ?_ ?_ | refine ys ?_ ?_ | refine xs_done ?_ | refine yl ?_ ?_ | refine w8 ?_ | refine w9 ?_ | refine w1 ?_ | refine w2 ?_ | refine w3 ?_ | refine w4 ?_ | refine w5 ?_ | refine w6 ?_ | refine w7 ?_ | refine yo0 ?_ ?_ | refine yw0 ?_ ?_ | exact qq | fail)
    refine kretv rfl ⟨trivial, trivial⟩ rfl (eqB ?_)
    have := nb_t h
    unfold agrS
    revert this
    cases nameS nm <;> cases decide (l.length ≤ 128) <;> simp
  · intro h
    have h2 := nb_f h
    have h3 : nameS nm = true ∧ l.length ≤ 128 := by simpa using h2
    repeat' (first | refine yo ?_ ?_ | refine yw ?_ ?_ | refine yk ?_ ?_ | exact trivial | with_reducible refine wA ?_ ?_ | refine ys ?_ ?_ | refine xs_done ?_ | refine yl ?_ ?_ | refine w8 ?_ | refine w9 ?_ | refine w1 ?_ | refine w2 ?_ | refine w3 ?_ | refine w4 ?_ | refine w5 ?_ | refine w6 ?_ | refine w7 ?_ | refine yo0 ?_ ?_ | refine yw0 ?_ ?_ | exact qq | fail)
    refine pcan (st' := ⟨[(16, vDs l), (17, vi l.length), (18, vi ((0 : Nat) : Int))], []⟩) (can_rowsv [] (k0_sel hk rfl) rfl .nil tmq) ?_
    refine ploop (fun q st => ∃ i : Nat, i ≤ l.length ∧ (∀ j, j < i → (nameS (lF dD l j).nm && defS (lF dD l j)) = true) ∧ q = l.length - i ∧ st = ⟨[(16, vDs l), (17, vi l.length), (18, vi i)], []⟩) l.length ⟨0, by omega, fun j hj => by omega, by omega, rfl⟩ ?_
    rintro _ _ ⟨i, hi, hv, rfl, rfl⟩
    repeat' (first | refine yo ?_ ?_ | refine yw ?_ ?_ | refine yk ?_ ?_ | exact trivial | with_reducible refine wA ?_ ?_ | refine ys ?_ ?_ | refine xs_done ?_ | refine yl ?_ ?_ | refine w8 ?_ | refine w9 ?_ | refine w1 ?_ | refine w2 ?_ | refine w3 ?_ | refine w4 ?_ | refine w5 ?_ | refine w6 ?_ | refine w7 ?_ | refine yo0 ?_ ?_ | refine yw0 ?_ ?_ | exact qq | fail)
    refine pcond rfl ?_ ?_ <;> intro hc <;> simp at hc
    · have hbd := hb _ (at_ i hc)
      have c2 := isName_c (lF dD l i).nm hbd.nm
      have c3 := validDef_c (lF dD l i) hbd
      repeat' (first | refine yo ?_ ?_ | refine yw ?_ ?_ | refine yk ?_ ?_ | exact trivial | with_reducible refine wA ?_ ?_ | refine ys ?_ ?_ | refine xs_done ?_ | refine yl ?_ ?_ | refine z1 c2 ?_ | refine z2 c2 ?_ | refine z3 c2 ?_ | refine z4 c2 ?_ | refine z5 c2 ?_ | refine z1 c3 ?_ | refine z2 c3 ?_ | refine z3 c3 ?_ | refine z4 c3 ?_ | refine z5 c3 ?_ | refine w8 ?_ | refine w9 ?_ | refine w1 ?_ | refine w2 ?_ | refine w3 ?_ | refine w4 ?_ | refine w5 ?_ | refine w6 ?_ | refine w7 ?_ | refine yo0 ?_ ?_ | refine yw0 ?_ ?_ | exact qq | fail)
      refine pcond (b := !(nameS (lF dD l i).nm && defS (lF dD l i))) ?_ ?_ ?_
      · refine eqB ?_
        show (bif !nameS (lF dD l i).nm then true else !defS (lF dD l i)) = _
        cases nameS (lF dD l i).nm <;> rfl
      · intro h4
        have h5 := nb_t h4
        repeat' (first | refine yo ?_ ?_ | refine yw ?_ ?_ | refine yk ?_ ?_ | exact trivial | with_reducible refine wA ?_ ?_ | refine ys ?_ ?_ | refine xs_done ?_ | refine yl ?_ ?_ | refine w8 ?_ | refine w9 ?_ | refine w1 ?_ | refine w2 ?_ | refine w3 ?_ | refine w4 ?_ | refine w5 ?_ | refine w6 ?_ | refine w7 ?_ | refine yo0 ?_ ?_ | refine yw0 ?_ ?_ | exact qq | fail)
        refine kretv rfl ⟨trivial, trivial⟩ rfl (eqB ?_)
        unfold agrS
        have : l.all (fun d => nameS d.nm && defS d) = false := by
          rw [List.all_eq_false]
          exact ⟨_, at_ i hc, by rw [h5]; simp⟩
        rw [this]; simp
      · intro h4
        have h5 := nb_f h4
        repeat' (first | refine yo ?_ ?_ | refine yw ?_ ?_ | refine yk ?_ ?_ | exact trivial | with_reducible refine wA ?_ ?_ | refine ys ?_ ?_ | refine xs_done ?_ | refine yl ?_ ?_ | refine w8 ?_ | refine w9 ?_ | refine w1 ?_ | refine w2 ?_ | refine w3 ?_ | refine w4 ?_ | refine w5 ?_ | refine w6 ?_ | refine w7 ?_ | refine yo0 ?_ ?_ | refine yw0 ?_ ?_ | exact qq | fail)
        rw [show IntKind.i64.wrap ((i : Int) + 1) = ((i + 1 : Nat) : Int) from w64 (by omega) (by omega)]
        exact kloop_next (st' := ⟨[(16, vDs l), (17, vi l.length), (18, vi ((i + 1 : Nat) : Int))], []⟩) (l.length - (i + 1)) (can_rowsv [] (k0_sel hk rfl) rfl .nil tmq) (by omega) ⟨i + 1, by omega, fun j hj => by
          by_cases e : j = i
          · subst e; exact h5
          · exact hv j (by omega), rfl, rfl⟩
    · repeat' (first | refine yo ?_ ?_ | refine yw ?_ ?_ | refine yk ?_ ?_ | exact trivial | with_reducible refine wA ?_ ?_ | refine ys ?_ ?_ | refine xs_done ?_ | refine yl ?_ ?_ | refine w8 ?_ | refine w9 ?_ | refine w1 ?_ | refine w2 ?_ | refine w3 ?_ | refine w4 ?_ | refine w5 ?_ | refine w6 ?_ | refine w7 ?_ | refine yo0 ?_ ?_ | refine yw0 ?_ ?_ | exact qq | fail)
      refine kretv rfl ⟨trivial, trivial⟩ rfl (eqB ?_)
      unfold agrS
      have : l.all (fun d => nameS d.nm && defS d) = true := by
        rw [List.all_eq_true]
        intro d hd
        obtain ⟨j, hj, e⟩ := List.getElem_of_mem hd
        have := hv j (by omega)
        unfold lF at this
        rw [List.getD_eq_getElem?_getD, List.getElem?_eq_getElem hj, e] at this
        exact this
      rw [h3.1, decide_eq_true h3.2, this]; rfl
end Go.Proofs.YtnlcenlamkfmnaaGreat
