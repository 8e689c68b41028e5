/- payrollgen: types, nodes, decimals, leaves. -/
import Derived.Test.YtcefhgomkehokaaA10
set_option linter.unusedSimpArgs false
set_option linter.unusedVariables false
set_option maxRecDepth 100000
namespace Go.Proofs.Ytcefhgomkehokaa
theorem pop_unguard {G : Pg2} {N : Nat} {Γ : Fr} {st : PSt} {K : Exit → PSt → Prop} {ops : Array Oper} {o : Oper} {rest : List Oper} {j : Nat} {want : Bool} (hg : o.guard = some (j, want)) (hgv : gval ops st j want = some true) (h : POps G.toPg N Γ ops ({ o with guard := none } :: rest) st K) : POps G.toPg N Γ ops (o :: rest) st K := .mk fun ρ I a w hrel => by
  have hw := gval_sound hrel hg hgv
  have h2 := h.go ρ I a w hrel
  have hw2 : Region.wanted { o with guard := none } (yielded ops a.tmps) = true := by simp [Region.wanted]
  simp only [wpList, hw2, hw, if_true] at h2 ⊢
  exact h2
theorem pop_opt {G : Pg2} {N : Nat} {Γ : Fr} {st : PSt} {K : Exit → PSt → Prop} {ops : Array Oper} {l : List Oper} (t : Nat) {g : Bool} {q : PV} (ht : st.get t = .opt g q) (hg : g = true) (h : POps G.toPg N Γ ops l (st.put t q) K) : POps G.toPg N Γ ops l st K := .mk fun ρ I a w hrel => h.go ρ I a w ⟨hrel.fr, hrel.defers, hrel.size, fun s => by
  have hs := hrel.slot s
  show VRel _ ρ I w (look s ((t, q) :: st.tm)) _
  simp only [look]
  cases hb : Nat.beq s t
  · exact hs
  · have e := Nat.eq_of_beq_eq_true hb
    subst e
    rw [ht] at hs
    exact hs.1 hg⟩
theorem number_c : PureC G.P 18 [] (fun r => r = vT t0) := by
  refine pure_of (G := G.toPg) (fn := Try.f18) Try.func18 rfl rfl rfl ?_; intro Γ hk
  repeat' (first | refine yo ?_ ?_ | refine yw ?_ ?_ | refine yk ?_ ?_ | exact trivial | with_reducible refine wA ?_ ?_ | refine ys ?_ ?_ | refine xs_done ?_ | refine yl ?_ ?_ | refine w8 ?_ | refine w9 ?_ | refine w1 ?_ | refine w2 ?_ | refine w3 ?_ | refine w4 ?_ | refine w5 ?_ | refine w6 ?_ | refine w7 ?_ | refine yo0 ?_ ?_ | refine yw0 ?_ ?_ | exact qq | fail)
  exact kretv rfl ⟨Nat.zero_lt_one, trivial⟩ rfl rfl
theorem money_c : PureC G.P 15 [] (fun r => r = vT tM) := by
  refine pure_of (G := G.toPg) (fn := Try.f15) Try.func15 rfl rfl rfl ?_; intro Γ hk
  repeat' (first | refine yo ?_ ?_ | refine yw ?_ ?_ | refine yk ?_ ?_ | exact trivial | with_reducible refine wA ?_ ?_ | refine ys ?_ ?_ | refine xs_done ?_ | refine yl ?_ ?_ | refine w8 ?_ | refine w9 ?_ | refine w1 ?_ | refine w2 ?_ | refine w3 ?_ | refine w4 ?_ | refine w5 ?_ | refine w6 ?_ | refine w7 ?_ | refine yo0 ?_ ?_ | refine yw0 ?_ ?_ | exact qq | fail)
  exact kretv rfl ⟨Nat.zero_lt_one, trivial⟩ rfl rfl
theorem hours_c : PureC G.P 13 [] (fun r => r = vT tH) := by
  refine pure_of (G := G.toPg) (fn := Try.f13) Try.func13 rfl rfl rfl ?_; intro Γ hk
  repeat' (first | refine yo ?_ ?_ | refine yw ?_ ?_ | refine yk ?_ ?_ | exact trivial | with_reducible refine wA ?_ ?_ | refine ys ?_ ?_ | refine xs_done ?_ | refine yl ?_ ?_ | refine w8 ?_ | refine w9 ?_ | refine w1 ?_ | refine w2 ?_ | refine w3 ?_ | refine w4 ?_ | refine w5 ?_ | refine w6 ?_ | refine w7 ?_ | refine yo0 ?_ ?_ | refine yw0 ?_ ?_ | exact qq | fail)
  exact kretv rfl ⟨Nat.zero_lt_one, trivial⟩ rfl rfl
theorem rate_c : PureC G.P 17 [] (fun r => r = vT tR) := by
  refine pure_of (G := G.toPg) (fn := Try.f17) Try.func17 rfl rfl rfl ?_; intro Γ hk
  repeat' (first | refine yo ?_ ?_ | refine yw ?_ ?_ | refine yk ?_ ?_ | exact trivial | with_reducible refine wA ?_ ?_ | refine ys ?_ ?_ | refine xs_done ?_ | refine yl ?_ ?_ | refine w8 ?_ | refine w9 ?_ | refine w1 ?_ | refine w2 ?_ | refine w3 ?_ | refine w4 ?_ | refine w5 ?_ | refine w6 ?_ | refine w7 ?_ | refine yo0 ?_ ?_ | refine yw0 ?_ ?_ | exact qq | fail)
  exact kretv rfl ⟨Nat.zero_lt_one, trivial⟩ rfl rfl
theorem truth_c : PureC G.P 14 [] (fun r => r = vT tB) := by
  refine pure_of (G := G.toPg) (fn := Try.f14) Try.func14 rfl rfl rfl ?_; intro Γ hk
  repeat' (first | refine yo ?_ ?_ | refine yw ?_ ?_ | refine yk ?_ ?_ | exact trivial | with_reducible refine wA ?_ ?_ | refine ys ?_ ?_ | refine xs_done ?_ | refine yl ?_ ?_ | refine w8 ?_ | refine w9 ?_ | refine w1 ?_ | refine w2 ?_ | refine w3 ?_ | refine w4 ?_ | refine w5 ?_ | refine w6 ?_ | refine w7 ?_ | refine yo0 ?_ ?_ | refine yw0 ?_ ?_ | exact qq | fail)
  exact kretv rfl ⟨Nat.zero_lt_one, trivial⟩ rfl rfl
theorem argAggL {mem : List Row} {L : List Nat} {n : Nat} {f g : Nat → PV} (h : ∀ i, i < n → ArgOk mem L (f i) (g i)) : ArgOk mem L (.agg n f) (.agg n g) := by
  rintro ρ I w v hm ⟨vs, h1, h2, h3⟩
  exact ⟨vs, h1, h2, fun i hi => ⟨(h3 i hi).1, h i hi ρ I w _ hm (h3 i hi).2⟩⟩
theorem argEx {mem : List Row} {L : List Nat} {op vn vd um uh ud : Int} {nm : ByteArray} {cnt mode : Int} {nk : Nat} {kf : Nat → Ex} {p : PV} (h : ArgOk mem L p (.vsl nk 10 (Ex.mk op vn vd um uh ud nm cnt mode nk kf).kc)) :
    ArgOk mem L (.agg 10 (nthP [vi op, vi vn, vi vd, vi um, vi uh, vi ud, vs nm, vi cnt, vi mode, p])) (vX (.mk op vn vd um uh ud nm cnt mode nk kf)) :=
  argAggL fun i hi => by
    rcases (by omega : i = 0 ∨ i = 1 ∨ i = 2 ∨ i = 3 ∨ i = 4 ∨ i = 5 ∨ i = 6 ∨ i = 7 ∨ i = 8 ∨ i = 9) with rfl | rfl | rfl | rfl | rfl | rfl | rfl | rfl | rfl | rfl
    all_goals first
      | exact h
      | exact argVal
theorem c10 {y : Nat} (h : y < 10) : y = 0 ∨ y = 1 ∨ y = 2 ∨ y = 3 ∨ y = 4 ∨ y = 5 ∨ y = 6 ∨ y = 7 ∨ y = 8 ∨ y = 9 := by omega
theorem argK1 {mem : List Row} {L : List Nat} {l : Nat} {a : Ex} {op vn vd um uh ud : Int} {nm : ByteArray} {cnt mode : Int} (hr : rowAt mem l = some ⟨.own, false, 1, 10, fun x y => nthP (cX a) (x * 10 + y)⟩) (hL : l ∈ L) : ArgOk mem L (.lsl l 0 1) (.vsl 1 10 (Ex.mk op vn vd um uh ud nm cnt mode 1 (k1 a)).kc) :=
  argLsl (r := ⟨.own, false, 1, 10, _⟩) hr trivial hL (by simp) fun x hx y hy => ⟨by
    obtain rfl : x = 0 := by omega
    rcases c10 hy with rfl | rfl | rfl | rfl | rfl | rfl | rfl | rfl | rfl | rfl <;> rfl, tF_cl cX_cl (k1 a) x y⟩
theorem argK2 {mem : List Row} {L : List Nat} {l : Nat} {a b : Ex} {op vn vd um uh ud : Int} {nm : ByteArray} {cnt mode : Int} (hr : rowAt mem l = some ⟨.own, false, 2, 10, fun x y => nthP (cX a ++ cX b) (x * 10 + y)⟩) (hL : l ∈ L) : ArgOk mem L (.lsl l 0 2) (.vsl 2 10 (Ex.mk op vn vd um uh ud nm cnt mode 2 (k2 a b)).kc) :=
  argLsl (r := ⟨.own, false, 2, 10, _⟩) hr trivial hL (by simp) fun x hx y hy => ⟨by
    rcases (by omega : x = 0 ∨ x = 1) with rfl | rfl <;> rcases c10 hy with rfl | rfl | rfl | rfl | rfl | rfl | rfl | rfl | rfl | rfl <;> rfl, tF_cl cX_cl (k2 a b) x y⟩
theorem argK3 {mem : List Row} {L : List Nat} {l : Nat} {a b c : Ex} {op vn vd um uh ud : Int} {nm : ByteArray} {cnt mode : Int} (hr : rowAt mem l = some ⟨.own, false, 3, 10, fun x y => nthP (cX a ++ (cX b ++ cX c)) (x * 10 + y)⟩) (hL : l ∈ L) : ArgOk mem L (.lsl l 0 3) (.vsl 3 10 (Ex.mk op vn vd um uh ud nm cnt mode 3 (k3 a b c)).kc) :=
  argLsl (r := ⟨.own, false, 3, 10, _⟩) hr trivial hL (by simp) fun x hx y hy => ⟨by
    rcases (by omega : x = 0 ∨ x = 1 ∨ x = 2) with rfl | rfl | rfl <;> rcases c10 hy with rfl | rfl | rfl | rfl | rfl | rfl | rfl | rfl | rfl | rfl <;> rfl, tF_cl cX_cl (k3 a b c) x y⟩
theorem two_c (op : Int) (a b : Ex) : PureC G.P 32 [vi op, vX a, vX b] (fun r => r = vX (eOp op 2 (k2 a b))) := by
  refine pure_of (G := G.toPg) (fn := Try.f32) Try.func32 rfl rfl rfl ?_; intro Γ hk
  repeat' (first | refine yo ?_ ?_ | refine yw ?_ ?_ | refine yk ?_ ?_ | exact trivial | with_reducible refine wA ?_ ?_ | refine ys ?_ ?_ | refine xs_done ?_ | refine yl ?_ ?_ | refine w8 ?_ | refine w9 ?_ | refine w1 ?_ | refine w2 ?_ | refine w3 ?_ | refine w4 ?_ | refine w5 ?_ | refine w6 ?_ | refine w7 ?_ | refine yo0 ?_ ?_ | refine yw0 ?_ ?_ | exact qq | fail)
  refine xdone ?_
  exact kret [3] rfl ⟨Nat.zero_lt_one, trivial⟩ (qs := [vX (eOp op 2 (k2 a b))]) ⟨argEx (argK2 rfl (List.Mem.head _)), trivial⟩ rfl
theorem split10 {x : Int} (h0 : 0 ≤ x) (h1 : x < 10 ∨ x = 0) : x = 0 ∨ x = 1 ∨ x = 2 ∨ x = 3 ∨ x = 4 ∨ x = 5 ∨ x = 6 ∨ x = 7 ∨ x = 8 ∨ x = 9 := by omega
theorem decimal_t : TapC G.P 30 [] (fun r => ∃ x : Int × Int, r = vr x.1 x.2 ∧ x ∈ decL) := by
  intro n g at_ hn h1 h2
  refine ptr_of (G := G.toPg) (fn := Try.f30) Try.func30 rfl rfl rfl ?_; intro Γ hk
  repeat' (first | refine yo ?_ ?_ | refine yw ?_ ?_ | refine yk ?_ ?_ | exact trivial | with_reducible refine wA ?_ ?_ | refine ys ?_ ?_ | refine xs_done ?_ | refine yl ?_ ?_ | (refine tn1 hn ?_; rintro at_ b1 b2 x hx1 hx2) | refine w8 ?_ | refine w9 ?_ | refine w1 ?_ | refine w2 ?_ | refine w3 ?_ | refine w4 ?_ | refine w5 ?_ | refine w6 ?_ | refine w7 ?_ | refine yo0 ?_ ?_ | refine yw0 ?_ ?_ | exact qq | fail)
  rcases split10 hx1 hx2 with rfl | rfl | rfl | rfl | rfl | rfl | rfl | rfl | rfl | rfl
  all_goals
    repeat' (first | refine yo ?_ ?_ | refine yw ?_ ?_ | refine yk ?_ ?_ | exact trivial | with_reducible refine wA ?_ ?_ | refine ys ?_ ?_ | refine xs_done ?_ | refine yl ?_ ?_ | refine w8 ?_ | refine w9 ?_ | refine w1 ?_ | refine w2 ?_ | refine w3 ?_ | refine w4 ?_ | refine w5 ?_ | refine w6 ?_ | refine w7 ?_ | refine yo0 ?_ ?_ | refine yw0 ?_ ?_ | exact qq | fail)
    refine xdone ?_
  · exact ktap rfl b1 b2 rfl ⟨Nat.zero_lt_one, trivial⟩ rfl ⟨(1, 1), rfl, by simp [decL]⟩
  · exact ktap rfl b1 b2 rfl ⟨Nat.zero_lt_one, trivial⟩ rfl ⟨(2, 1), rfl, by simp [decL]⟩
  · exact ktap rfl b1 b2 rfl ⟨Nat.zero_lt_one, trivial⟩ rfl ⟨(0, 1), rfl, by simp [decL]⟩
  · exact ktap rfl b1 b2 rfl ⟨Nat.zero_lt_one, trivial⟩ rfl ⟨(5, 2), rfl, by simp [decL]⟩
  · exact ktap rfl b1 b2 rfl ⟨Nat.zero_lt_one, trivial⟩ rfl ⟨(1, 4), rfl, by simp [decL]⟩
  · exact ktap rfl b1 b2 rfl ⟨Nat.zero_lt_one, trivial⟩ rfl ⟨(76, 5), rfl, by simp [decL]⟩
  · exact ktap rfl b1 b2 rfl ⟨Nat.zero_lt_one, trivial⟩ rfl ⟨(40, 1), rfl, by simp [decL]⟩
  · exact ktap rfl b1 b2 rfl ⟨Nat.zero_lt_one, trivial⟩ rfl ⟨(1, 100), rfl, by simp [decL]⟩
  · exact ktap rfl b1 b2 rfl ⟨Nat.zero_lt_one, trivial⟩ rfl ⟨(3, 1), rfl, by simp [decL]⟩
  · exact ktap rfl b1 b2 rfl ⟨Nat.zero_lt_one, trivial⟩ rfl ⟨(100, 1), rfl, by simp [decL]⟩
set_option maxHeartbeats 4000000 in
theorem leaf_number_t (rules : Int) : TapC G.P 31 [vT t0, vi rules] (fun r => ∃ e, r = vX e ∧ EOk rules 1 t0 e) := by
  intro n g at_ hn h1 h2
  refine ptr_of (G := G.toPg) (fn := Try.f31) Try.func31 rfl rfl rfl ?_; intro Γ hk
  repeat' (first | refine yo ?_ ?_ | refine yw ?_ ?_ | refine yk ?_ ?_ | exact trivial | with_reducible refine wA ?_ ?_ | refine ys ?_ ?_ | refine xs_done ?_ | refine yl ?_ ?_ | refine xs_start (id := 28) true [.take 0, .take 2, .take 3, .one 1, .take 4, .one 5] 0 rfl rfl (by kernel_rfl) ?_ | (refine pop_opt 88 rfl rfl ?_) | (refine pop_unguard rfl rfl ?_) | (refine pop_gfalse rfl rfl rfl rfl ?_) | (refine tn1 hn ?_; rintro at_ b1 b2 x hx1 hx2) | (refine pop_tapl (G := G) rfl rfl rfl rfl rfl rfl rfl rfl rfl rfl rfl (by omega) rfl (fun _ => rfl) rfl (pick_t _ _ rfl (by decide) (by decide)) hn (by assumption) (by assumption) ?_; rintro at_ _ b1 b2 ⟨x, rfl, hx⟩; simp only [unL, List.mem_cons, List.not_mem_nil, or_false] at hx) | (refine xs_one (ch := [_]) rfl rfl rfl (pz decimal_t hn ?_); rintro at_ _ b1 b2 ⟨dx, rfl, hdx⟩) | refine z1 number_c ?_ | refine z2 number_c ?_ | refine z3 number_c ?_ | refine z4 number_c ?_ | refine z5 number_c ?_ | refine z1 money_c ?_ | refine z2 money_c ?_ | refine z3 money_c ?_ | refine z4 money_c ?_ | refine z5 money_c ?_ | refine z1 hours_c ?_ | refine z2 hours_c ?_ | refine z3 hours_c ?_ | refine z4 hours_c ?_ | refine z5 hours_c ?_ | refine z1 rate_c ?_ | refine z2 rate_c ?_ | refine z3 rate_c ?_ | refine z4 rate_c ?_ | refine z5 rate_c ?_ | refine z1 truth_c ?_ | refine z2 truth_c ?_ | refine z3 truth_c ?_ | refine z4 truth_c ?_ | refine z5 truth_c ?_ | refine w8 ?_ | refine w9 ?_ | refine w1 ?_ | refine w2 ?_ | refine w3 ?_ | refine w4 ?_ | refine w5 ?_ | refine w6 ?_ | refine w7 ?_ | refine yo0 ?_ ?_ | refine yw0 ?_ ?_ | (refine pcond rfl ?_ ?_ <;> intro hc) | exact qq | fail)
  all_goals first
    | (refine xdone ?_; refine ktapL [] (qs := [vX (.mk _ _ _ _ _ _ _ _ _ 0 kn)]) rfl b1 b2 (by simp) rfl ⟨Nat.zero_lt_one, trivial⟩ ⟨argEx argNil, trivial⟩ ⟨_, rfl, ?_⟩; first | exact ok_name (by decide +kernel) (by decide) (fun N S P hE => hE.g) rk_g | exact ok_name (by decide +kernel) (by decide) (fun N S P hE => hE.r4) (rk_r4 (by assumption)) | exact ok_num hdx (by decide))
    | skip
  all_goals rcases (by omega : x = 0 ∨ x = 1) with rfl | rfl
  all_goals first
    | (exfalso; omega)
    | skip
  all_goals
    repeat' (first | refine yo ?_ ?_ | refine yw ?_ ?_ | refine yk ?_ ?_ | exact trivial | with_reducible refine wA ?_ ?_ | refine ys ?_ ?_ | refine xs_done ?_ | refine yl ?_ ?_ | refine w8 ?_ | refine w9 ?_ | refine w1 ?_ | refine w2 ?_ | refine w3 ?_ | refine w4 ?_ | refine w5 ?_ | refine w6 ?_ | refine w7 ?_ | refine yo0 ?_ ?_ | refine yw0 ?_ ?_ | exact qq | fail)
    refine xdone ?_; refine ktapL [] (qs := [vX (.mk _ _ _ _ _ _ _ _ _ 0 kn)]) rfl b1 b2 (by simp) rfl ⟨Nat.zero_lt_one, trivial⟩ ⟨argEx argNil, trivial⟩ ⟨_, rfl, ?_⟩; first | exact ok_name (by decide +kernel) (by decide) (fun N S P hE => hE.g) rk_g | exact ok_name (by decide +kernel) (by decide) (fun N S P hE => hE.r4) (rk_r4 (by assumption)) | exact ok_num hdx (by decide)
set_option maxHeartbeats 4000000 in
theorem leaf_money_t (rules : Int) : TapC G.P 31 [vT tM, vi rules] (fun r => ∃ e, r = vX e ∧ EOk rules 1 tM e) := by
  intro n g at_ hn h1 h2
  refine ptr_of (G := G.toPg) (fn := Try.f31) Try.func31 rfl rfl rfl ?_; intro Γ hk
  repeat' (first | refine yo ?_ ?_ | refine yw ?_ ?_ | refine yk ?_ ?_ | exact trivial | with_reducible refine wA ?_ ?_ | refine ys ?_ ?_ | refine xs_done ?_ | refine yl ?_ ?_ | refine xs_start (id := 28) true [.take 0, .take 2, .take 3, .one 1, .take 4, .one 5] 0 rfl rfl (by kernel_rfl) ?_ | (refine pop_opt 88 rfl rfl ?_) | (refine pop_unguard rfl rfl ?_) | (refine pop_gfalse rfl rfl rfl rfl ?_) | (refine tn1 hn ?_; rintro at_ b1 b2 x hx1 hx2) | (refine pop_tapl (G := G) rfl rfl rfl rfl rfl rfl rfl rfl rfl rfl rfl (by omega) rfl (fun _ => rfl) rfl (pick_t _ _ rfl (by decide) (by decide)) hn (by assumption) (by assumption) ?_; rintro at_ _ b1 b2 ⟨x, rfl, hx⟩; simp only [unL, List.mem_cons, List.not_mem_nil, or_false] at hx) | (refine xs_one (ch := [_]) rfl rfl rfl (pz decimal_t hn ?_); rintro at_ _ b1 b2 ⟨dx, rfl, hdx⟩) | refine z1 number_c ?_ | refine z2 number_c ?_ | refine z3 number_c ?_ | refine z4 number_c ?_ | refine z5 number_c ?_ | refine z1 money_c ?_ | refine z2 money_c ?_ | refine z3 money_c ?_ | refine z4 money_c ?_ | refine z5 money_c ?_ | refine z1 hours_c ?_ | refine z2 hours_c ?_ | refine z3 hours_c ?_ | refine z4 hours_c ?_ | refine z5 hours_c ?_ | refine z1 rate_c ?_ | refine z2 rate_c ?_ | refine z3 rate_c ?_ | refine z4 rate_c ?_ | refine z5 rate_c ?_ | refine z1 truth_c ?_ | refine z2 truth_c ?_ | refine z3 truth_c ?_ | refine z4 truth_c ?_ | refine z5 truth_c ?_ | refine w8 ?_ | refine w9 ?_ | refine w1 ?_ | refine w2 ?_ | refine w3 ?_ | refine w4 ?_ | refine w5 ?_ | refine w6 ?_ | refine w7 ?_ | refine yo0 ?_ ?_ | refine yw0 ?_ ?_ | (refine pcond rfl ?_ ?_ <;> intro hc) | exact qq | fail)
  all_goals first
    | (refine xdone ?_; refine ktapL [] (qs := [vX (.mk _ _ _ _ _ _ _ _ _ 0 kn)]) rfl b1 b2 (by simp) rfl ⟨Nat.zero_lt_one, trivial⟩ ⟨argEx argNil, trivial⟩ ⟨_, rfl, ?_⟩; first | exact ok_name (by decide +kernel) (by decide) (fun N S P hE => hE.r2) (rk_r2 (by assumption)) | exact ok_name (by decide +kernel) (by decide) (fun N S P hE => hE.a) (rk_a (by assumption)) | exact ok_num hdx (by decide) | exact ok_past (by assumption) (by decide +kernel) (by decide) (by rw [w64 (by omega) (by omega)]; omega) (fun N S P hE => hE.gross))
    | skip
  all_goals rcases (by omega : x = 0 ∨ x = 1) with rfl | rfl
  all_goals first
    | (exfalso; omega)
    | skip
  all_goals
    repeat' (first | refine yo ?_ ?_ | refine yw ?_ ?_ | refine yk ?_ ?_ | exact trivial | with_reducible refine wA ?_ ?_ | refine ys ?_ ?_ | refine xs_done ?_ | refine yl ?_ ?_ | refine w8 ?_ | refine w9 ?_ | refine w1 ?_ | refine w2 ?_ | refine w3 ?_ | refine w4 ?_ | refine w5 ?_ | refine w6 ?_ | refine w7 ?_ | refine yo0 ?_ ?_ | refine yw0 ?_ ?_ | exact qq | fail)
    refine xdone ?_; refine ktapL [] (qs := [vX (.mk _ _ _ _ _ _ _ _ _ 0 kn)]) rfl b1 b2 (by simp) rfl ⟨Nat.zero_lt_one, trivial⟩ ⟨argEx argNil, trivial⟩ ⟨_, rfl, ?_⟩; first | exact ok_name (by decide +kernel) (by decide) (fun N S P hE => hE.r2) (rk_r2 (by assumption)) | exact ok_name (by decide +kernel) (by decide) (fun N S P hE => hE.a) (rk_a (by assumption)) | exact ok_num hdx (by decide) | exact ok_past (by assumption) (by decide +kernel) (by decide) (by rw [w64 (by omega) (by omega)]; omega) (fun N S P hE => hE.gross)
set_option maxHeartbeats 4000000 in
theorem leaf_hours_t (rules : Int) : TapC G.P 31 [vT tH, vi rules] (fun r => ∃ e, r = vX e ∧ EOk rules 1 tH e) := by
  intro n g at_ hn h1 h2
  refine ptr_of (G := G.toPg) (fn := Try.f31) Try.func31 rfl rfl rfl ?_; intro Γ hk
  repeat' (first | refine yo ?_ ?_ | refine yw ?_ ?_ | refine yk ?_ ?_ | exact trivial | with_reducible refine wA ?_ ?_ | refine ys ?_ ?_ | refine xs_done ?_ | refine yl ?_ ?_ | refine xs_start (id := 28) true [.take 0, .take 2, .take 3, .one 1, .take 4, .one 5] 0 rfl rfl (by kernel_rfl) ?_ | (refine pop_opt 88 rfl rfl ?_) | (refine pop_unguard rfl rfl ?_) | (refine pop_gfalse rfl rfl rfl rfl ?_) | (refine tn1 hn ?_; rintro at_ b1 b2 x hx1 hx2) | (refine pop_tapl (G := G) rfl rfl rfl rfl rfl rfl rfl rfl rfl rfl rfl (by omega) rfl (fun _ => rfl) rfl (pick_t _ _ rfl (by decide) (by decide)) hn (by assumption) (by assumption) ?_; rintro at_ _ b1 b2 ⟨x, rfl, hx⟩; simp only [unL, List.mem_cons, List.not_mem_nil, or_false] at hx) | (refine xs_one (ch := [_]) rfl rfl rfl (pz decimal_t hn ?_); rintro at_ _ b1 b2 ⟨dx, rfl, hdx⟩) | refine z1 number_c ?_ | refine z2 number_c ?_ | refine z3 number_c ?_ | refine z4 number_c ?_ | refine z5 number_c ?_ | refine z1 money_c ?_ | refine z2 money_c ?_ | refine z3 money_c ?_ | refine z4 money_c ?_ | refine z5 money_c ?_ | refine z1 hours_c ?_ | refine z2 hours_c ?_ | refine z3 hours_c ?_ | refine z4 hours_c ?_ | refine z5 hours_c ?_ | refine z1 rate_c ?_ | refine z2 rate_c ?_ | refine z3 rate_c ?_ | refine z4 rate_c ?_ | refine z5 rate_c ?_ | refine z1 truth_c ?_ | refine z2 truth_c ?_ | refine z3 truth_c ?_ | refine z4 truth_c ?_ | refine z5 truth_c ?_ | refine w8 ?_ | refine w9 ?_ | refine w1 ?_ | refine w2 ?_ | refine w3 ?_ | refine w4 ?_ | refine w5 ?_ | refine w6 ?_ | refine w7 ?_ | refine yo0 ?_ ?_ | refine yw0 ?_ ?_ | (refine pcond rfl ?_ ?_ <;> intro hc) | exact qq | fail)
  all_goals first
    | (refine xdone ?_; refine ktapL [] (qs := [vX (.mk _ _ _ _ _ _ _ _ _ 0 kn)]) rfl b1 b2 (by simp) rfl ⟨Nat.zero_lt_one, trivial⟩ ⟨argEx argNil, trivial⟩ ⟨_, rfl, ?_⟩; first | exact ok_name (by decide +kernel) (by decide) (fun N S P hE => hE.h) rk_h | exact ok_num hdx (by decide) | exact ok_past (by assumption) (by decide +kernel) (by decide) (by rw [w64 (by omega) (by omega)]; omega) (fun N S P hE => hE.time))
    | skip
  all_goals rcases (by omega : x = 0 ∨ x = 1) with rfl | rfl
  all_goals first
    | (exfalso; omega)
    | skip
  all_goals
    repeat' (first | refine yo ?_ ?_ | refine yw ?_ ?_ | refine yk ?_ ?_ | exact trivial | with_reducible refine wA ?_ ?_ | refine ys ?_ ?_ | refine xs_done ?_ | refine yl ?_ ?_ | refine w8 ?_ | refine w9 ?_ | refine w1 ?_ | refine w2 ?_ | refine w3 ?_ | refine w4 ?_ | refine w5 ?_ | refine w6 ?_ | refine w7 ?_ | refine yo0 ?_ ?_ | refine yw0 ?_ ?_ | exact qq | fail)
    refine xdone ?_; refine ktapL [] (qs := [vX (.mk _ _ _ _ _ _ _ _ _ 0 kn)]) rfl b1 b2 (by simp) rfl ⟨Nat.zero_lt_one, trivial⟩ ⟨argEx argNil, trivial⟩ ⟨_, rfl, ?_⟩; first | exact ok_name (by decide +kernel) (by decide) (fun N S P hE => hE.h) rk_h | exact ok_num hdx (by decide) | exact ok_past (by assumption) (by decide +kernel) (by decide) (by rw [w64 (by omega) (by omega)]; omega) (fun N S P hE => hE.time)
set_option maxHeartbeats 4000000 in
theorem leaf_rate_t (rules : Int) : TapC G.P 31 [vT tR, vi rules] (fun r => ∃ e, r = vX e ∧ EOk rules 1 tR e) := by
  intro n g at_ hn h1 h2
  refine ptr_of (G := G.toPg) (fn := Try.f31) Try.func31 rfl rfl rfl ?_; intro Γ hk
  repeat' (first | refine yo ?_ ?_ | refine yw ?_ ?_ | refine yk ?_ ?_ | exact trivial | with_reducible refine wA ?_ ?_ | refine ys ?_ ?_ | refine xs_done ?_ | refine yl ?_ ?_ | refine xs_start (id := 28) true [.take 0, .take 2, .take 3, .one 1, .take 4, .one 5] 0 rfl rfl (by kernel_rfl) ?_ | (refine pop_opt 88 rfl rfl ?_) | (refine pop_unguard rfl rfl ?_) | (refine pop_gfalse rfl rfl rfl rfl ?_) | (refine tn1 hn ?_; rintro at_ b1 b2 x hx1 hx2) | (refine pop_tapl (G := G) rfl rfl rfl rfl rfl rfl rfl rfl rfl rfl rfl (by omega) rfl (fun _ => rfl) rfl (pick_t _ _ rfl (by decide) (by decide)) hn (by assumption) (by assumption) ?_; rintro at_ _ b1 b2 ⟨x, rfl, hx⟩; simp only [unL, List.mem_cons, List.not_mem_nil, or_false] at hx) | (refine xs_one (ch := [_]) rfl rfl rfl (pz decimal_t hn ?_); rintro at_ _ b1 b2 ⟨dx, rfl, hdx⟩) | refine z1 number_c ?_ | refine z2 number_c ?_ | refine z3 number_c ?_ | refine z4 number_c ?_ | refine z5 number_c ?_ | refine z1 money_c ?_ | refine z2 money_c ?_ | refine z3 money_c ?_ | refine z4 money_c ?_ | refine z5 money_c ?_ | refine z1 hours_c ?_ | refine z2 hours_c ?_ | refine z3 hours_c ?_ | refine z4 hours_c ?_ | refine z5 hours_c ?_ | refine z1 rate_c ?_ | refine z2 rate_c ?_ | refine z3 rate_c ?_ | refine z4 rate_c ?_ | refine z5 rate_c ?_ | refine z1 truth_c ?_ | refine z2 truth_c ?_ | refine z3 truth_c ?_ | refine z4 truth_c ?_ | refine z5 truth_c ?_ | refine w8 ?_ | refine w9 ?_ | refine w1 ?_ | refine w2 ?_ | refine w3 ?_ | refine w4 ?_ | refine w5 ?_ | refine w6 ?_ | refine w7 ?_ | refine yo0 ?_ ?_ | refine yw0 ?_ ?_ | (refine pcond rfl ?_ ?_ <;> intro hc) | exact qq | fail)
  all_goals first
    | (refine xdone ?_; refine ktapL [] (qs := [vX (.mk _ _ _ _ _ _ _ _ _ 0 kn)]) rfl b1 b2 (by simp) rfl ⟨Nat.zero_lt_one, trivial⟩ ⟨argEx argNil, trivial⟩ ⟨_, rfl, ?_⟩; first | exact ok_name (by decide +kernel) (by decide) (fun N S P hE => hE.r1) (rk_r1 (by assumption)) | exact ok_num hdx (by decide))
    | skip
  all_goals rcases (by omega : x = 0 ∨ x = 1) with rfl | rfl
  all_goals first
    | (exfalso; omega)
    | skip
  all_goals
    repeat' (first | refine yo ?_ ?_ | refine yw ?_ ?_ | refine yk ?_ ?_ | exact trivial | with_reducible refine wA ?_ ?_ | refine ys ?_ ?_ | refine xs_done ?_ | refine yl ?_ ?_ | refine w8 ?_ | refine w9 ?_ | refine w1 ?_ | refine w2 ?_ | refine w3 ?_ | refine w4 ?_ | refine w5 ?_ | refine w6 ?_ | refine w7 ?_ | refine yo0 ?_ ?_ | refine yw0 ?_ ?_ | exact qq | fail)
    refine xdone ?_; refine ktapL [] (qs := [vX (.mk _ _ _ _ _ _ _ _ _ 0 kn)]) rfl b1 b2 (by simp) rfl ⟨Nat.zero_lt_one, trivial⟩ ⟨argEx argNil, trivial⟩ ⟨_, rfl, ?_⟩; first | exact ok_name (by decide +kernel) (by decide) (fun N S P hE => hE.r1) (rk_r1 (by assumption)) | exact ok_num hdx (by decide)
set_option maxHeartbeats 4000000 in
theorem leaf_truth_t (rules : Int) : TapC G.P 31 [vT tB, vi rules] (fun r => ∃ e, r = vX e ∧ EOk rules 1 tB e) := by
  intro n g at_ hn h1 h2
  refine ptr_of (G := G.toPg) (fn := Try.f31) Try.func31 rfl rfl rfl ?_; intro Γ hk
  repeat' (first | refine yo ?_ ?_ | refine yw ?_ ?_ | refine yk ?_ ?_ | exact trivial | with_reducible refine wA ?_ ?_ | refine ys ?_ ?_ | refine xs_done ?_ | refine yl ?_ ?_ | refine xs_start (id := 28) true [.take 0, .take 2, .take 3, .one 1, .take 4, .one 5] 0 rfl rfl (by kernel_rfl) ?_ | (refine pop_opt 88 rfl rfl ?_) | (refine pop_unguard rfl rfl ?_) | (refine pop_gfalse rfl rfl rfl rfl ?_) | (refine tn1 hn ?_; rintro at_ b1 b2 x hx1 hx2) | (refine pop_tapl (G := G) rfl rfl rfl rfl rfl rfl rfl rfl rfl rfl rfl (by omega) rfl (fun _ => rfl) rfl (pick_t _ _ rfl (by decide) (by decide)) hn (by assumption) (by assumption) ?_; rintro at_ _ b1 b2 ⟨x, rfl, hx⟩; simp only [unL, List.mem_cons, List.not_mem_nil, or_false] at hx) | (refine xs_one (ch := [_]) rfl rfl rfl (pz decimal_t hn ?_); rintro at_ _ b1 b2 ⟨dx, rfl, hdx⟩) | refine z1 number_c ?_ | refine z2 number_c ?_ | refine z3 number_c ?_ | refine z4 number_c ?_ | refine z5 number_c ?_ | refine z1 money_c ?_ | refine z2 money_c ?_ | refine z3 money_c ?_ | refine z4 money_c ?_ | refine z5 money_c ?_ | refine z1 hours_c ?_ | refine z2 hours_c ?_ | refine z3 hours_c ?_ | refine z4 hours_c ?_ | refine z5 hours_c ?_ | refine z1 rate_c ?_ | refine z2 rate_c ?_ | refine z3 rate_c ?_ | refine z4 rate_c ?_ | refine z5 rate_c ?_ | refine z1 truth_c ?_ | refine z2 truth_c ?_ | refine z3 truth_c ?_ | refine z4 truth_c ?_ | refine z5 truth_c ?_ | refine w8 ?_ | refine w9 ?_ | refine w1 ?_ | refine w2 ?_ | refine w3 ?_ | refine w4 ?_ | refine w5 ?_ | refine w6 ?_ | refine w7 ?_ | refine yo0 ?_ ?_ | refine yw0 ?_ ?_ | (refine pcond rfl ?_ ?_ <;> intro hc) | exact qq | fail)
  all_goals first
    | (refine xdone ?_; refine ktapL [] (qs := [vX (.mk _ _ _ _ _ _ _ _ _ 0 kn)]) rfl b1 b2 (by simp) rfl ⟨Nat.zero_lt_one, trivial⟩ ⟨argEx argNil, trivial⟩ ⟨_, rfl, ?_⟩; first | exact ok_name (by decide +kernel) (by decide) (fun N S P hE => hE.f) rk_f | exact ok_name (by decide +kernel) (by decide) (fun N S P hE => hE.r3) (rk_r3 (by assumption)) | exact ok_truth (by omega))
    | skip
  all_goals rcases (by omega : x = 0 ∨ x = 1) with rfl | rfl
  all_goals first
    | (exfalso; omega)
    | skip
  all_goals
    repeat' (first | refine yo ?_ ?_ | refine yw ?_ ?_ | refine yk ?_ ?_ | exact trivial | with_reducible refine wA ?_ ?_ | refine ys ?_ ?_ | refine xs_done ?_ | refine yl ?_ ?_ | refine w8 ?_ | refine w9 ?_ | refine w1 ?_ | refine w2 ?_ | refine w3 ?_ | refine w4 ?_ | refine w5 ?_ | refine w6 ?_ | refine w7 ?_ | refine yo0 ?_ ?_ | refine yw0 ?_ ?_ | exact qq | fail)
    refine xdone ?_; refine ktapL [] (qs := [vX (.mk _ _ _ _ _ _ _ _ _ 0 kn)]) rfl b1 b2 (by simp) rfl ⟨Nat.zero_lt_one, trivial⟩ ⟨argEx argNil, trivial⟩ ⟨_, rfl, ?_⟩; first | exact ok_name (by decide +kernel) (by decide) (fun N S P hE => hE.f) rk_f | exact ok_name (by decide +kernel) (by decide) (fun N S P hE => hE.r3) (rk_r3 (by assumption)) | exact ok_truth (by omega)
end Go.Proofs.Ytcefhgomkehokaa
namespace Go.Proofs.Ytcefhgomkehokaa
open Go.MapKept
/-! ### a map that the last operation of a drawn region writes -/
structure LStep (G : Pg2) (N : Nat) (Γ : Fr) (ops : Array Oper) (o : Oper) (st : PSt) (K' : PSt → Prop) : Prop where
  go : ∀ ρ I a w, Rel N Γ st ρ I a w → ∀ Q : Exit → Act → World → Prop, Region.wanted o (yielded ops a.tmps) = true ∧ o.wp G.P a w (fun a' w' => ∃ st' ρ' I', K' st' ∧ Rel N Γ st' ρ' I' a' w') Q
section
variable {G : Pg2} {N : Nat} {Γ : Fr} {st : PSt} {K : Exit → PSt → Prop} {ops : Array Oper} {o : Oper} {H : List Nat} {ni : Bool} {fuel m : Nat} {listed ls : Array Bool}
theorem pe_lastS {i : Nat} (hready : Region.ready .any ops listed = [i]) (hlast : lastB ops i = true) (hi : ops[i]? = some o) (hnil : Region.ready .any ops (listed.setIfInBounds i true) = []) (hstep : LStep G N Γ ops o st (fun st' => K .normal st')) : PE G N Γ ops H ni (fuel + 1) listed st K := .mk fun HB w1 ρ I a w hrel hinv => by
  have fin : ∀ (fuel : Nat) (a' : Act) (w'' : World), Qf N Γ K .normal a' w'' → wpAnyE G.P ops (Qf N Γ K) (SHB HB w1) fuel (listed.setIfInBounds i true) a' w''
    | 0, _, _, h => ⟨hnil, h⟩
    | _ + 1, _, _, h => ⟨fun _ => h, fun j hj => by rw [hnil] at hj; cases hj⟩
  refine ⟨fun h0 => (by rw [hready] at h0; cases h0), fun j hj => ?_⟩
  obtain rfl : j = i := by rw [hready] at hj; simpa using hj
  unfold wpOp
  simp only [hi]
  obtain ⟨hw, hs⟩ := hstep.go ρ I a w hrel (Qf N Γ K)
  rw [if_pos hw]
  refine .inl (Oper.wp_mono (fun a' w' => ?_) hs)
  rintro ⟨st', ρ', I', hk, hrel'⟩ w'' hx
  exact ⟨fun h => (by rw [hlast] at h; cases h), fin _ _ _ ⟨by simp, st', ρ', I', hk, hrel'.ext hx (I' := I') (fun _ h => h) (fun _ h => .inl h)⟩⟩
theorem xs_lastS {i : Nat} (hlast : lastB ops i = true) (hi : opAt ops.toList i = some o) (h : LStep G N Γ ops o st (fun st' => K .normal st')) : PS G N Γ ops H ni true [.one i] m ls st K := ⟨fun hs hok => by
  simp only [schOk, Bool.and_eq_true, beq_iff_eq, Bool.not_true, Bool.false_or] at hok
  have : schLen [SK.one i] + m = m + 1 := by show 0 + 1 + m = m + 1; omega
  rw [this]
  exact pe_lastS hok.1 hlast (opAt_ops hi) (by simpa using hok.2) h⟩
end
section
variable {G : Pg2} {N : Nat} {Γ : Fr} {st : PSt} {K' : PSt → Prop} {ops : Array Oper} {o : Oper} {l : Nat} {KT : Type} [DecidableEq KT] {kv : KT → Value} {t : TypeId} {x y z : Operand} {m : List (KT × Int)}
theorem ls_msetB (M : MapTB G.P t kv) (kk : KT) (v : Int) (hg : o.guard = none) (hd : o.dst = none) (ho : o.op = .mapUpdate t x y z) (hx : st.ev x = .mref l) (hy : st.ev y = .val (kv kk)) (hz : st.ev z = .val (bV v)) (hr : rowAt st.mem l = some (mRowB kv m)) (hk : Γ.k0 ≤ l) (hni : noIt st.mem = true) {m' : List Row}
    (hm : setM st.mem l (mRowB kv (mset m kk v)) some = some m') (h : K' ⟨st.tm, m'⟩) : LStep G N Γ ops o st K' := .mk fun ρ I a w hrel Q => by
  have hw : Region.wanted o (yielded ops a.tmps) = true := by simp [Region.wanted, hg]
  refine ⟨hw, ?_⟩
  rw [rowAt_get] at hr
  rw [setM_eq] at hm
  simp only [Option.some.injEq] at hm
  subst hm
  have hxv := ev_rel hrel x
  rw [hx] at hxv
  obtain ⟨_, hxv⟩ := hxv
  have hyv := ev_rel hrel y
  rw [hy] at hyv
  have hyv : a.eval y = kv kk := hyv
  have hzv := ev_rel hrel z
  rw [hz] at hzv
  have hzv : a.eval z = bV v := hzv
  obtain ⟨_, _, hs⟩ := hrel.fr.m.side l _ hr rfl
  obtain ⟨es, clock, q1, q2, q3⟩ := (hs Nat.zero_lt_one).1 rfl
  obtain ⟨es', clock', g1, g2, g3⟩ := run_msetB M q1 (mapV_eqB q3) q2 kk v
  have hv : (execOp a.eval o).run G.P w = .ok .skip { w with heap := w.heap.setIfInBounds (ρ l).b (.map es' clock') } := by
    unfold execOp
    rw [ho]
    simp only [hxv, hyv, hzv, Sem.run_bind, g1, Result.andThen, Sem.run_pure]
  simp only [Oper.wp, hv, Oper.upon_skip, hd, Act.put]
  refine ⟨_, ρ, I, h, hrel.setMap hr rfl hk hni (mRowB kv (mset m kk v)) rfl rfl g2 fun k' ρ' w' => ?_⟩
  show mapV es' = mVB kv (mset m kk v)
  have := congrArg (List.map fun e : Value × Value => Value.tuple #[e.1, e.2]) g3
  rw [List.map_map, List.map_map] at this
  unfold mapV mVB
  congr 1
  apply Array.ext'
  rw [Array.toList_map]
  exact this
end
/-! ### what is listed -/
def mapIBd : MapTB G.P 76 kI := ⟨3, 4, _, Try.underlying76, Try.underlying3, fun _ => rfl, kI_inj, Try.zeroValue4⟩
def lsM (out : List Int) : List (Int × Int) := out.map fun x => (x, 1)
theorem lsM_get (out : List Int) (x : Int) : (mget (lsM out) x).getD 0 = if x ∈ out then 1 else 0 := by
  induction out with
  | nil => rfl
  | cons y out ih =>
    show (if y = x then some 1 else mget (lsM out) x).getD 0 = _
    by_cases h : y = x
    · subst h; rw [if_pos rfl, if_pos (List.mem_cons_self ..)]; rfl
    · rw [if_neg h, ih]
      by_cases h2 : x ∈ out
      · rw [if_pos h2, if_pos (List.mem_cons_of_mem _ h2)]
      · rw [if_neg h2, if_neg (fun h3 => by rcases List.mem_cons.1 h3 with e | e; exact h e.symm; exact h2 e)]
theorem lsM_b (out : List Int) (x : Int) : PV.val (bV ((mget (lsM out) x).getD 0)) = vb (decide (x ∈ out)) := by
  rw [lsM_get]
  by_cases h : x ∈ out
  · rw [if_pos h, decide_eq_true h]; rfl
  · rw [if_neg h, decide_eq_false h]; rfl
theorem lsM_set {out : List Int} {x : Int} (h : ¬ x ∈ out) : mset (lsM out) x 1 = lsM (out ++ [x]) := by
  rw [mset_none (fun e he => ?_)]
  · unfold lsM; rw [List.map_append]; rfl
  · obtain ⟨y, hy, rfl⟩ := List.mem_map.1 he
    exact fun e => h (e ▸ hy)
def cLis (out : List Int) : PV := .vptr 1 1 (fun _ _ => .vmap (.val (mVB kI (lsM out)))) 0 0
def cGr (N : List Int) (L : List (Int × List Int)) : PV := .vptr 1 2 (fun _ => nthP [sV N, .vmap (cS L)]) 0 0
theorem listed_p (out : List Int) : PrdC1 37 (nthP [cLis out]) (fun x => !decide (x ∈ out)) := ⟨trivial, fun x => by
  refine pure_of (G := G.toPg) (fn := Try.f37) Try.func37 rfl rfl rfl ?_; intro Γ hk
  repeat' (first | refine yo ?_ ?_ | refine yw ?_ ?_ | refine yk ?_ ?_ | exact trivial | with_reducible refine wA ?_ ?_ | refine ys ?_ ?_ | refine xs_done ?_ | refine yl ?_ ?_ | refine w8 ?_ | refine w9 ?_ | refine w1 ?_ | refine w2 ?_ | refine w3 ?_ | refine w4 ?_ | refine w5 ?_ | refine w6 ?_ | refine w7 ?_ | refine yo0 ?_ ?_ | refine yw0 ?_ ?_ | exact qq | fail)
  refine pop_lookvB mapIBd false x rfl rfl rfl rfl rfl rfl ?_
  rw [show (bif false then PV.tup 2 (nthP [.val (bV ((mget (lsM out) x).getD 0)), vb (mget (lsM out) x).isSome]) else .val (bV ((mget (lsM out) x).getD 0))) = vb (decide (x ∈ out)) from lsM_b out x]
  repeat' (first | refine yo ?_ ?_ | refine yw ?_ ?_ | refine yk ?_ ?_ | exact trivial | with_reducible refine wA ?_ ?_ | refine ys ?_ ?_ | refine xs_done ?_ | refine yl ?_ ?_ | refine w8 ?_ | refine w9 ?_ | refine w1 ?_ | refine w2 ?_ | refine w3 ?_ | refine w4 ?_ | refine w5 ?_ | refine w6 ?_ | refine w7 ?_ | refine yo0 ?_ ?_ | refine yw0 ?_ ?_ | exact qq | fail)
  exact kretv rfl ⟨trivial, trivial⟩ rfl rfl⟩
def rdyB (L : List (Int × List Int)) (out : List Int) (x : Int) : Bool := !decide (x ∈ out) && (sget L x).all fun y => decide (y ∈ out)
theorem any_not {l : List Int} {p : Int → Bool} : l.any (fun y => !p y) = !l.all p := by
  induction l with
  | nil => rfl
  | cons a l ih => rw [List.any_cons, List.all_cons, ih]; cases p a <;> rfl
theorem sget_len {N : List Int} {L : List (Int × List Int)} {n : Nat} (h : ∀ e, e ∈ L → e.2.length ≤ n) (x : Int) : (sget L x).length ≤ n := by
  unfold sget
  split
  · exact h _ (List.mem_of_find?_eq_some (by assumption))
  · exact Nat.zero_le _
set_option maxHeartbeats 4000000 in
theorem ready_p (N : List Int) (L : List (Int × List Int)) (out : List Int) (hL : ∀ e, e ∈ L → e.2.length ≤ 1000000) : PrdC 35 (nthP [cLis out, cGr N L]) (rdyB L out) := ⟨trivial, trivial, fun x => by
  have hp := containsFunc1_c (sget L x) _ _ _ (listed_p out) (Nat.le_trans (sget_len (N := N) hL x) (by decide))
  rw [any_not] at hp
  refine pure_of (G := G.toPg) (fn := Try.f35) Try.func35 rfl rfl rfl ?_; intro Γ hk
  repeat' (first | refine yo ?_ ?_ | refine yw ?_ ?_ | refine yk ?_ ?_ | exact trivial | with_reducible refine wA ?_ ?_ | refine ys ?_ ?_ | refine xs_done ?_ | refine yl ?_ ?_ | refine w8 ?_ | refine w9 ?_ | refine w1 ?_ | refine w2 ?_ | refine w3 ?_ | refine w4 ?_ | refine w5 ?_ | refine w6 ?_ | refine w7 ?_ | refine yo0 ?_ ?_ | refine yw0 ?_ ?_ | exact qq | fail)
  refine pop_lookvB mapIBd false x rfl rfl rfl rfl rfl rfl ?_
  rw [show (bif false then PV.tup 2 (nthP [.val (bV ((mget (lsM out) x).getD 0)), vb (mget (lsM out) x).isSome]) else .val (bV ((mget (lsM out) x).getD 0))) = vb (decide (x ∈ out)) from lsM_b out x]
  by_cases hx : x ∈ out
  · rw [decide_eq_true hx]
    repeat' (first | refine yo ?_ ?_ | refine yw ?_ ?_ | refine yk ?_ ?_ | exact trivial | with_reducible refine wA ?_ ?_ | refine ys ?_ ?_ | refine xs_done ?_ | refine yl ?_ ?_ | (refine pop_gfalse rfl rfl rfl rfl ?_) | exact (fun hh => by cases hh) | refine w8 ?_ | refine w9 ?_ | refine w1 ?_ | refine w2 ?_ | refine w3 ?_ | refine w4 ?_ | refine w5 ?_ | refine w6 ?_ | refine w7 ?_ | refine yo0 ?_ ?_ | refine yw0 ?_ ?_ | exact qq | fail)
    refine xdone ?_
    exact kretv rfl ⟨trivial, trivial⟩ rfl (by unfold rdyB; rw [decide_eq_true hx]; rfl)
  · rw [decide_eq_false hx]
    repeat' (first | refine yo ?_ ?_ | refine yw ?_ ?_ | refine yk ?_ ?_ | exact trivial | with_reducible refine wA ?_ ?_ | refine ys ?_ ?_ | refine xs_done ?_ | refine yl ?_ ?_ | refine w8 ?_ | refine w9 ?_ | refine w1 ?_ | refine w2 ?_ | refine w3 ?_ | refine w4 ?_ | refine w5 ?_ | refine w6 ?_ | refine w7 ?_ | refine yo0 ?_ ?_ | refine yw0 ?_ ?_ | exact qq | fail)
    refine pop_opt 11 rfl rfl ?_
    refine pop_opt 12 rfl rfl ?_
    refine pop_unguard rfl rfl ?_
    refine pop_lookvS mapIS x rfl rfl rfl rfl rfl rfl ?_
    repeat' (first | refine yo ?_ ?_ | refine yw ?_ ?_ | refine yk ?_ ?_ | exact trivial | with_reducible refine wA ?_ ?_ | refine ys ?_ ?_ | refine xs_done ?_ | refine yl ?_ ?_ | (refine pop_unguard rfl rfl ?_) | refine w8 ?_ | refine w9 ?_ | refine w1 ?_ | refine w2 ?_ | refine w3 ?_ | refine w4 ?_ | refine w5 ?_ | refine w6 ?_ | refine w7 ?_ | refine yo0 ?_ ?_ | refine yw0 ?_ ?_ | exact qq | fail)
    refine pop_opt 14 rfl rfl ?_
    refine pop_call [] rfl rfl rfl rfl rfl hp ⟨argVsl, argCl (listed_p out).cl, trivial⟩ ?_
    rintro _ rfl
    refine ⟨trivial, ?_⟩
    repeat' (first | refine yo ?_ ?_ | refine yw ?_ ?_ | refine yk ?_ ?_ | exact trivial | with_reducible refine wA ?_ ?_ | refine ys ?_ ?_ | refine xs_done ?_ | refine yl ?_ ?_ | refine w8 ?_ | refine w9 ?_ | refine w1 ?_ | refine w2 ?_ | refine w3 ?_ | refine w4 ?_ | refine w5 ?_ | refine w6 ?_ | refine w7 ?_ | refine yo0 ?_ ?_ | refine yw0 ?_ ?_ | exact qq | fail)
    refine xdone ?_
    exact kretv rfl ⟨trivial, trivial⟩ rfl (eqB (by unfold rdyB; rw [decide_eq_false hx]; simp))⟩
def ordF (N : List Int) (L : List (Int × List Int)) : Nat → List Int → List Int × Int
  | 0, out => (out, 0)
  | f + 1, out => match N.find? (rdyB L out) with
    | none => ([], 11)
    | some x => ordF N L f (out ++ [x])
theorem ordF_no {N : List Int} {L : List (Int × List Int)} {f : Nat} {out : List Int} (h : N.find? (rdyB L out) = none) : ordF N L (f + 1) out = ([], 11) := by
  rw [ordF, h]
theorem ordF_yes {N : List Int} {L : List (Int × List Int)} {f : Nat} {out : List Int} {x : Int} (h : N.find? (rdyB L out) = some x) : ordF N L (f + 1) out = ordF N L f (out ++ [x]) := by
  rw [ordF, h]
def cM1 (p : PV) : Row := ⟨.own, true, 1, 1, fun _ _ => p⟩
theorem cM1_eq {τ : Nat → Option Nat} {p : PV} {f : Nat → Nat → PV} (h : PEq ((f 0 0).ren τ) p) : RowEq (Row.ren τ ⟨.own, true, 1, 1, f⟩) (cM1 p) := ⟨rfl, rfl, Nat.le_refl _, fun i hi j hj => by
  have hi : i < 1 := hi
  have hj : j < 1 := hj
  obtain rfl : i = 0 := by omega
  obtain rfl : j = 0 := by omega
  exact h⟩
set_option maxHeartbeats 8000000 in
theorem order_c (N : List Int) (L : List (Int × List Int)) (hN : N.length ≤ 1000000) (hL : ∀ e, e ∈ L → e.2.length ≤ 1000000) : PureC G.P 22 [.agg 2 (nthP [sV N, .vmap (cS L)])] (fun r => r = .tup 2 (nthP [sV (ordF N L N.length []).1, vi (ordF N L N.length []).2])) := by
  refine pure_of (G := G.toPg) (fn := Try.f22) Try.func22 rfl rfl rfl ?_; intro Γ hk
  repeat' (first | refine yo ?_ ?_ | refine yw ?_ ?_ | refine yk ?_ ?_ | exact trivial | with_reducible refine wA ?_ ?_ | refine ys ?_ ?_ | refine xs_done ?_ | refine yl ?_ ?_ | refine w8 ?_ | refine w9 ?_ | refine w1 ?_ | refine w2 ?_ | refine w3 ?_ | refine w4 ?_ | refine w5 ?_ | refine w6 ?_ | refine w7 ?_ | refine yo0 ?_ ?_ | refine yw0 ?_ ?_ | exact qq | fail)
  refine pop_mkmapB kI rfl rfl rfl rfl rfl ?_
  repeat' (first | refine yo ?_ ?_ | refine yw ?_ ?_ | refine yk ?_ ?_ | exact trivial | with_reducible refine wA ?_ ?_ | refine ys ?_ ?_ | refine xs_done ?_ | refine yl ?_ ?_ | refine w8 ?_ | refine w9 ?_ | refine w1 ?_ | refine w2 ?_ | refine w3 ?_ | refine w4 ?_ | refine w5 ?_ | refine w6 ?_ | refine w7 ?_ | refine yo0 ?_ ?_ | refine yw0 ?_ ?_ | exact qq | fail)
  refine pcan ((can_virt (vRow c1 1 0 (lF 0 [])) rfl).trans (can_rowsv [0, 1, 2, 3] (tm := [(1, .ptr 0 0 0), (4, slP 0 3), (5, .ptr 2 0 0)]) (rows := [cG (sV N) (.vmap (cS L)), mRowB kI (lsM []), cM1 (.mref 1), vRow c1 1 0 (lF 0 [])]) (k0_sel hk rfl) rfl (.cons rfl (cG_eq (PEq.refl _) (PEq.refl _)) (.cons rfl m_eqB (.cons rfl (cM1_eq (PEq.refl _)) (.cons rfl (RowEq.cl (v_cl c1_cl _ _ _)) .nil)))) tmq)) ?_
  refine ploop (fun q st => ∃ (k : Nat) (out : List Int), out.length = k ∧ k ≤ N.length ∧ ordF N L N.length [] = ordF N L (N.length - k) out ∧ q = N.length - k ∧ st = ⟨[(1, .ptr 0 0 0), (4, slP k 3), (5, .ptr 2 0 0)], [cG (sV N) (.vmap (cS L)), mRowB kI (lsM out), cM1 (.mref 1), vRow c1 1 k (lF 0 out)]⟩) N.length ⟨0, [], rfl, Nat.zero_le _, rfl, rfl, rfl⟩ ?_
  rintro _ _ ⟨k, out, hk2, hkN, hO, rfl, rfl⟩
  rcases k with _ | k
  · repeat' (first | refine yo ?_ ?_ | refine yw ?_ ?_ | refine yk ?_ ?_ | exact trivial | with_reducible refine wA ?_ ?_ | refine ys ?_ ?_ | refine xs_done ?_ | refine yl ?_ ?_ | refine w8 ?_ | refine w9 ?_ | refine w1 ?_ | refine w2 ?_ | refine w3 ?_ | refine w4 ?_ | refine w5 ?_ | refine w6 ?_ | refine w7 ?_ | refine yo0 ?_ ?_ | refine yw0 ?_ ?_ | exact qq | fail)
    refine pcond rfl ?_ ?_ <;> intro hc
    · have hc : 0 < N.length := by have := of_decide_eq_true hc; omega
      repeat' (first | refine yo ?_ ?_ | refine yw ?_ ?_ | refine yk ?_ ?_ | exact trivial | with_reducible refine wA ?_ ?_ | refine ys ?_ ?_ | refine xs_done ?_ | refine yl ?_ ?_ | refine w8 ?_ | refine w9 ?_ | refine w1 ?_ | refine w2 ?_ | refine w3 ?_ | refine w4 ?_ | refine w5 ?_ | refine w6 ?_ | refine w7 ?_ | refine yo0 ?_ ?_ | refine yw0 ?_ ?_ | exact qq | fail)
      refine pop_callM [2, 0] [1] rfl rfl rfl rfl rfl (indexFunc_c N.length (lF 0 N) _ _ _ (ready_p N L out hL) (by omega)) (by exact ⟨argM argVsl, argM_clo (fun i hi => by
        have hi : i < 2 := hi
        obtain rfl | rfl : i = 0 ∨ i = 1 := by omega
        · exact argM_ptr (r := cM1 (.mref 1)) rfl trivial (List.Mem.head _) (Nat.le_refl _) rfl (fun a ha b hb => argM_ref (one := false) (n := 0) (f := fun _ _ => .val (mVB kI (lsM out))) rfl (List.Mem.head _) trivial)
        · exact argM_ptr (r := cG (sV N) (.vmap (cS L))) rfl trivial (List.Mem.tail _ (List.Mem.head _)) (Nat.le_refl _) rfl (fun a ha b hb => by
            obtain rfl | rfl : b = 0 ∨ b = 1 := by omega
            · exact argM argVsl
            · exact argM (argCl trivial))), trivial⟩) ?_
      rintro _ ⟨i, hi, hv, ⟨hin, hp, rfl⟩ | ⟨rfl, rfl⟩⟩
      · refine ⟨trivial, ?_⟩
        have hfd : N.find? (rdyB L out) = some (lF 0 N i) := find_lF hin hv hp
        have hno : ¬ lF 0 N i ∈ out := fun hh => by
          unfold rdyB at hp
          rw [decide_eq_true hh] at hp; cases hp
        have hO2 : ordF N L N.length [] = ordF N L (N.length - (0 + 1)) (out ++ [lF 0 N i]) := by
          rw [hO, show N.length - (0) = N.length - (0 + 1) + 1 by omega, ordF_yes hfd]
        repeat' (first | refine yo ?_ ?_ | refine yw ?_ ?_ | refine yk ?_ ?_ | exact trivial | with_reducible refine wA ?_ ?_ | refine ys ?_ ?_ | refine xs_done ?_ | refine yl ?_ ?_ | refine w8 ?_ | refine w9 ?_ | refine w1 ?_ | refine w2 ?_ | refine w3 ?_ | refine w4 ?_ | refine w5 ?_ | refine w6 ?_ | refine w7 ?_ | refine yo0 ?_ ?_ | refine yw0 ?_ ?_ | exact qq | fail)
        refine xs_start (id := 7) true [.take 0, .take 1, .take 2, .take 3, .take 4, .take 5, .one 6] 0 rfl rfl (by kernel_rfl) ?_
        repeat' (first | refine yo ?_ ?_ | refine yw ?_ ?_ | refine yk ?_ ?_ | exact trivial | with_reducible refine wA ?_ ?_ | refine ys ?_ ?_ | refine xs_done ?_ | refine yl ?_ ?_ | refine w8 ?_ | refine w9 ?_ | refine w1 ?_ | refine w2 ?_ | refine w3 ?_ | refine w4 ?_ | refine w5 ?_ | refine w6 ?_ | refine w7 ?_ | refine yo0 ?_ ?_ | refine yw0 ?_ ?_ | exact qq | fail)
        refine xs_lastS rfl rfl (ls_msetB mapIBd (lF 0 N i) 1 rfl rfl rfl rfl rfl rfl rfl (by rw [hk]; exact Nat.zero_le _) rfl rfl ?_)
        rw [lsM_set hno]
        repeat' (first | refine yo ?_ ?_ | refine yw ?_ ?_ | refine yk ?_ ?_ | exact trivial | with_reducible refine wA ?_ ?_ | refine ys ?_ ?_ | refine xs_done ?_ | refine yl ?_ ?_ | exact ⟨Nat.le_refl _, (by rw [hk]; exact Nat.le_of_ble_eq_true rfl), Nat.le_of_eq (Nat.zero_add _), (show (_ : Nat) * 8 ≤ 140737488355328 from by omega), (show (_ : Nat) ≤ 9223372036854775807 from by omega)⟩ | refine w8 ?_ | refine w9 ?_ | refine w1 ?_ | refine w2 ?_ | refine w3 ?_ | refine w4 ?_ | refine w5 ?_ | refine w6 ?_ | refine w7 ?_ | refine yo0 ?_ ?_ | refine yw0 ?_ ?_ | exact qq | fail)
        exact kloop_next (st' := ⟨[(1, .ptr 0 0 0), (4, slP (0 + 1) 3), (5, .ptr 2 0 0)], [cG (sV N) (.vmap (cS L)), mRowB kI (lsM (out ++ [lF 0 N i])), cM1 (.mref 1), vRow c1 1 (0 + 1) (lF 0 (out ++ [lF 0 N i]))]⟩) (N.length - (0 + 1)) (can_rowsv [0, 1, 2, 5] (k0_sel hk rfl) rfl (.cons rfl (cG_eq (PEq.refl _) (PEq.refl _)) (.cons rfl m_eqB (.cons rfl (cM1_eq (PEq.refl _)) (.cons rfl (app_l0 c1_cl hk2 rfl) .nil)))) tmq) (by omega) ⟨0 + 1, out ++ [lF 0 N i], by rw [List.length_append, hk2]; rfl, by omega, hO2, rfl, rfl⟩
      · refine ⟨trivial, ?_⟩
        have hfd : N.find? (rdyB L out) = none := find_lno hv
        repeat' (first | refine yo ?_ ?_ | refine yw ?_ ?_ | refine yk ?_ ?_ | exact trivial | with_reducible refine wA ?_ ?_ | refine ys ?_ ?_ | refine xs_done ?_ | refine yl ?_ ?_ | refine w8 ?_ | refine w9 ?_ | refine w1 ?_ | refine w2 ?_ | refine w3 ?_ | refine w4 ?_ | refine w5 ?_ | refine w6 ?_ | refine w7 ?_ | refine yo0 ?_ ?_ | refine yw0 ?_ ?_ | exact qq | fail)
        refine xdone ?_
        refine kret [] rfl ⟨trivial, trivial, trivial⟩ (qs := [.vsl 0 1 (tI (lF 0 [])), vi 11]) ⟨argNil, argVal, trivial⟩ ?_
        rw [hO, show N.length - (0) = N.length - (0 + 1) + 1 by omega, ordF_no hfd]; rfl
    · have hkN : 0 = N.length := by have := of_decide_eq_false hc; omega
      repeat' (first | refine yo ?_ ?_ | refine yw ?_ ?_ | refine yk ?_ ?_ | exact trivial | with_reducible refine wA ?_ ?_ | refine ys ?_ ?_ | refine xs_done ?_ | refine yl ?_ ?_ | refine w8 ?_ | refine w9 ?_ | refine w1 ?_ | refine w2 ?_ | refine w3 ?_ | refine w4 ?_ | refine w5 ?_ | refine w6 ?_ | refine w7 ?_ | refine yo0 ?_ ?_ | refine yw0 ?_ ?_ | exact qq | fail)
      refine xdone ?_
      refine kret [3] rfl ⟨trivial, trivial, trivial⟩ (qs := [.vsl (0) 1 (tI (lF 0 out)), vi 0]) ⟨argTI (arg_v (n := 0) (l := 3) c1_cl rfl (List.Mem.head _)), argVal, trivial⟩ ?_
      rw [hO, show N.length - (0) = 0 by omega, ordF, ← hk2]
      rfl
  · repeat' (first | refine yo ?_ ?_ | refine yw ?_ ?_ | refine yk ?_ ?_ | exact trivial | with_reducible refine wA ?_ ?_ | refine ys ?_ ?_ | refine xs_done ?_ | refine yl ?_ ?_ | refine w8 ?_ | refine w9 ?_ | refine w1 ?_ | refine w2 ?_ | refine w3 ?_ | refine w4 ?_ | refine w5 ?_ | refine w6 ?_ | refine w7 ?_ | refine yo0 ?_ ?_ | refine yw0 ?_ ?_ | exact qq | fail)
    refine pcond rfl ?_ ?_ <;> intro hc
    · have hc : (k + 1) < N.length := by have := of_decide_eq_true hc; omega
      repeat' (first | refine yo ?_ ?_ | refine yw ?_ ?_ | refine yk ?_ ?_ | exact trivial | with_reducible refine wA ?_ ?_ | refine ys ?_ ?_ | refine xs_done ?_ | refine yl ?_ ?_ | refine w8 ?_ | refine w9 ?_ | refine w1 ?_ | refine w2 ?_ | refine w3 ?_ | refine w4 ?_ | refine w5 ?_ | refine w6 ?_ | refine w7 ?_ | refine yo0 ?_ ?_ | refine yw0 ?_ ?_ | exact qq | fail)
      refine pop_callM [2, 0] [1] rfl rfl rfl rfl rfl (indexFunc_c N.length (lF 0 N) _ _ _ (ready_p N L out hL) (by omega)) (by exact ⟨argM argVsl, argM_clo (fun i hi => by
        have hi : i < 2 := hi
        obtain rfl | rfl : i = 0 ∨ i = 1 := by omega
        · exact argM_ptr (r := cM1 (.mref 1)) rfl trivial (List.Mem.head _) (Nat.le_refl _) rfl (fun a ha b hb => argM_ref (one := false) (n := 0) (f := fun _ _ => .val (mVB kI (lsM out))) rfl (List.Mem.head _) trivial)
        · exact argM_ptr (r := cG (sV N) (.vmap (cS L))) rfl trivial (List.Mem.tail _ (List.Mem.head _)) (Nat.le_refl _) rfl (fun a ha b hb => by
            obtain rfl | rfl : b = 0 ∨ b = 1 := by omega
            · exact argM argVsl
            · exact argM (argCl trivial))), trivial⟩) ?_
      rintro _ ⟨i, hi, hv, ⟨hin, hp, rfl⟩ | ⟨rfl, rfl⟩⟩
      · refine ⟨trivial, ?_⟩
        have hfd : N.find? (rdyB L out) = some (lF 0 N i) := find_lF hin hv hp
        have hno : ¬ lF 0 N i ∈ out := fun hh => by
          unfold rdyB at hp
          rw [decide_eq_true hh] at hp; cases hp
        have hO2 : ordF N L N.length [] = ordF N L (N.length - ((k + 1) + 1)) (out ++ [lF 0 N i]) := by
          rw [hO, show N.length - ((k + 1)) = N.length - ((k + 1) + 1) + 1 by omega, ordF_yes hfd]
        repeat' (first | refine yo ?_ ?_ | refine yw ?_ ?_ | refine yk ?_ ?_ | exact trivial | with_reducible refine wA ?_ ?_ | refine ys ?_ ?_ | refine xs_done ?_ | refine yl ?_ ?_ | refine w8 ?_ | refine w9 ?_ | refine w1 ?_ | refine w2 ?_ | refine w3 ?_ | refine w4 ?_ | refine w5 ?_ | refine w6 ?_ | refine w7 ?_ | refine yo0 ?_ ?_ | refine yw0 ?_ ?_ | exact qq | fail)
        refine xs_start (id := 7) true [.take 0, .take 1, .take 2, .take 3, .take 4, .take 5, .one 6] 0 rfl rfl (by kernel_rfl) ?_
        repeat' (first | refine yo ?_ ?_ | refine yw ?_ ?_ | refine yk ?_ ?_ | exact trivial | with_reducible refine wA ?_ ?_ | refine ys ?_ ?_ | refine xs_done ?_ | refine yl ?_ ?_ | refine w8 ?_ | refine w9 ?_ | refine w1 ?_ | refine w2 ?_ | refine w3 ?_ | refine w4 ?_ | refine w5 ?_ | refine w6 ?_ | refine w7 ?_ | refine yo0 ?_ ?_ | refine yw0 ?_ ?_ | exact qq | fail)
        refine xs_lastS rfl rfl (ls_msetB mapIBd (lF 0 N i) 1 rfl rfl rfl rfl rfl rfl rfl (by rw [hk]; exact Nat.zero_le _) rfl rfl ?_)
        rw [lsM_set hno]
        repeat' (first | refine yo ?_ ?_ | refine yw ?_ ?_ | refine yk ?_ ?_ | exact trivial | with_reducible refine wA ?_ ?_ | refine ys ?_ ?_ | refine xs_done ?_ | refine yl ?_ ?_ | exact ⟨Nat.le_refl _, (by rw [hk]; exact Nat.le_of_ble_eq_true rfl), Nat.le_of_eq (Nat.zero_add _), (show (_ : Nat) * 8 ≤ 140737488355328 from by omega), (show (_ : Nat) ≤ 9223372036854775807 from by omega)⟩ | refine w8 ?_ | refine w9 ?_ | refine w1 ?_ | refine w2 ?_ | refine w3 ?_ | refine w4 ?_ | refine w5 ?_ | refine w6 ?_ | refine w7 ?_ | refine yo0 ?_ ?_ | refine yw0 ?_ ?_ | exact qq | fail)
        exact kloop_next (st' := ⟨[(1, .ptr 0 0 0), (4, slP (k + 1 + 1) 3), (5, .ptr 2 0 0)], [cG (sV N) (.vmap (cS L)), mRowB kI (lsM (out ++ [lF 0 N i])), cM1 (.mref 1), vRow c1 1 (k + 1 + 1) (lF 0 (out ++ [lF 0 N i]))]⟩) (N.length - ((k + 1) + 1)) (can_rowsv [0, 1, 2, 5] (k0_sel hk rfl) rfl (.cons rfl (cG_eq (PEq.refl _) (PEq.refl _)) (.cons rfl m_eqB (.cons rfl (cM1_eq (PEq.refl _)) (.cons rfl (app_l c1_cl hk2 rfl rfl) .nil)))) tmq) (by omega) ⟨k + 1 + 1, out ++ [lF 0 N i], by rw [List.length_append, hk2]; rfl, by omega, hO2, rfl, rfl⟩
      · refine ⟨trivial, ?_⟩
        have hfd : N.find? (rdyB L out) = none := find_lno hv
        repeat' (first | refine yo ?_ ?_ | refine yw ?_ ?_ | refine yk ?_ ?_ | exact trivial | with_reducible refine wA ?_ ?_ | refine ys ?_ ?_ | refine xs_done ?_ | refine yl ?_ ?_ | refine w8 ?_ | refine w9 ?_ | refine w1 ?_ | refine w2 ?_ | refine w3 ?_ | refine w4 ?_ | refine w5 ?_ | refine w6 ?_ | refine w7 ?_ | refine yo0 ?_ ?_ | refine yw0 ?_ ?_ | exact qq | fail)
        refine xdone ?_
        refine kret [] rfl ⟨trivial, trivial, trivial⟩ (qs := [.vsl 0 1 (tI (lF 0 [])), vi 11]) ⟨argNil, argVal, trivial⟩ ?_
        rw [hO, show N.length - ((k + 1)) = N.length - ((k + 1) + 1) + 1 by omega, ordF_no hfd]; rfl
    · have hkN : (k + 1) = N.length := by have := of_decide_eq_false hc; omega
      repeat' (first | refine yo ?_ ?_ | refine yw ?_ ?_ | refine yk ?_ ?_ | exact trivial | with_reducible refine wA ?_ ?_ | refine ys ?_ ?_ | refine xs_done ?_ | refine yl ?_ ?_ | refine w8 ?_ | refine w9 ?_ | refine w1 ?_ | refine w2 ?_ | refine w3 ?_ | refine w4 ?_ | refine w5 ?_ | refine w6 ?_ | refine w7 ?_ | refine yo0 ?_ ?_ | refine yw0 ?_ ?_ | exact qq | fail)
      refine xdone ?_
      refine kret [3] rfl ⟨trivial, trivial, trivial⟩ (qs := [.vsl ((k + 1)) 1 (tI (lF 0 out)), vi 0]) ⟨argTI (arg_v (n := (k + 1)) (l := 3) c1_cl rfl (List.Mem.head _)), argVal, trivial⟩ ?_
      rw [hO, show N.length - ((k + 1)) = 0 by omega, ordF, ← hk2]
      rfl
end Go.Proofs.Ytcefhgomkehokaa
namespace Go.Proofs.Ytcefhgomkehokaa
theorem rows_pure {P : Program} {f : FuncId} {args : List PV} {post : PV → List Row → Prop} {post' : PV → Prop} (h : RowsC P f [] args post) (hp : ∀ r rows, post r rows → ∃ q L, post' q ∧ ArgOk rows L r q) : PureC P f args post' := ⟨h.1, fun ρ A w vs hA hG ha => by
  obtain ⟨hlen, hvs⟩ := arel_nth args vs ha
  have hm : MRel ρ A w [] := ⟨fun l r hl => by simp at hl, fun l l' r r' _ hl => by simp at hl, fun l r hl => by simp at hl, fun l r hl => by simp at hl, hA, fun l r hl => by simp at hl, fun l l' r r' _ hl => by simp at hl⟩
  refine (h.2 ρ A w vs hm hG hlen (fun i hi => hvs i hi)).mono ?_
  rintro e w' ⟨v, r, rows', ρ', I', rfl, hpost, hex, hfr, hv⟩
  obtain ⟨q, L, hq, harg⟩ := hp r rows' hpost
  have hsub : ∀ b, ASet ρ' I' rows' L b → (A b ∨ (w.heap.size ≤ b ∧ b < w'.heap.size)) := by
    have hI : ∀ b, I' b → (A b ∨ (w.heap.size ≤ b ∧ b < w'.heap.size)) := fun b hb => by
      by_cases hlt : b < w.heap.size
      · exact .inl (hfr.old b hb hlt)
      · exact .inr ⟨by omega, hfr.m.lt b hb⟩
    rintro b (hb | ⟨l, r, _, hl, hs, rfl⟩)
    · exact hI b hb
    · cases hrs : r.s
      · rw [hrs] at hs; exact hs.elim
      · exact hI _ (hfr.m.imm l r hl hrs)
      · refine .inr ⟨hfr.fresh l r hl (by rw [hrs]; trivial) (Nat.zero_le _), ?_⟩
        obtain ⟨h1, cs, T, h2, h3⟩ := hfr.m.row l r hl hs
        by_cases hb : (ρ' l).b < w'.heap.size
        · exact hb
        · rw [Array.getElem?_eq_none (by omega)] at h2; cases h2
      · rw [hrs] at hs; exact hs.elim
      · rw [hrs] at hs; exact hs.elim
  refine ⟨v, q, rfl, hq, ⟨hfr.os, hfr.tape, hfr.output, hfr.size, fun b hb => hfr.block b hb (fun ⟨l, r, hl, _⟩ => by simp at hl)⟩, ?_⟩
  exact (harg ρ' I' w' v hfr.m hv).up (Nat.le_refl _) (fun l hl => by omega) hsub (Tr.refl _ _)⟩
theorem argTupL {mem : List Row} {L : List Nat} {n : Nat} {f g : Nat → PV} (h : ∀ i, i < n → ArgOk mem L (f i) (g i)) : ArgOk mem L (.tup n f) (.tup n g) := fun ρ I w v hm ⟨vs, h1, h2, h3⟩ => ⟨vs, h1, h2, fun i hi => h i hi ρ I w _ hm (h3 i hi)⟩
abbrev vGr (N : List Int) (L : List (Int × List Int)) : PV := .agg 2 (nthP [sV N, .vmap (cS L)])
abbrev nodS (l : List Df) (day : Int) : List Int := nodL l (actL l day)
abbrev mapS (l : List Df) (day : Int) : List (Int × List Int) := mapL l (actL l day) (nodS l day)
theorem newGraph_c0 (nm : ByteArray) (l : List Df) (day : Int) (h : AgO nm l) (hl : l.length ≤ 1000000) (he : gErr nm l day = 0) : PureC G.P 21 [vA nm l, vi day] (fun q => q = .tup 2 (nthP [vGr (nodS l day) (mapS l day), vi 0])) := rows_pure (newGraph_r nm l day h hl) fun r rows hr => by
  rcases hr with ⟨h1, _⟩ | ⟨_, k, hk2, rfl, rfl⟩
  · exact absurd he h1
  · refine ⟨_, [0], rfl, argTupL fun i hi => ?_⟩
    obtain rfl | rfl : i = 0 ∨ i = 1 := by omega
    · refine argAggL fun j hj => ?_
      obtain rfl | rfl : j = 0 ∨ j = 1 := by omega
      · show ArgOk _ _ (slP k 0) (sV _)
        unfold sV
        rw [hk2]
        exact argTI (arg_v c1_cl rfl (List.Mem.head _))
      · exact argCl trivial
    · exact argVal
theorem newGraph_c1 (nm : ByteArray) (l : List Df) (day : Int) (h : AgO nm l) (hl : l.length ≤ 1000000) (he : gErr nm l day ≠ 0) : PureC G.P 21 [vA nm l, vi day] (fun q => q = .tup 2 (nthP [.agg 2 (nthP [.val (.slice none 0 0), .val (.map none)]), vi (gErr nm l day)])) := rows_pure (newGraph_r nm l day h hl) fun r rows hr => by
  rcases hr with ⟨_, rfl, rfl⟩ | ⟨h1, _⟩
  · exact ⟨_, [], rfl, argCl (clT ⟨clA ⟨trivial, trivial, trivial⟩, trivial, trivial⟩)⟩
  · exact absurd h1 he
theorem nodS_len (l : List Df) (day : Int) : (nodS l day).length ≤ l.length := Nat.le_trans (List.length_filter_le _ _) (actL_len l day)
theorem mapS_len (l : List Df) (day : Int) : ∀ e, e ∈ mapS l day → e.2.length ≤ l.length := fun e he => by
  obtain ⟨x, hx, rfl⟩ := List.mem_map.1 he
  show (needS l (actL l day) x.toNat).1.length ≤ _
  unfold needS
  split
  · exact Nat.le_trans (List.length_filter_le _ _) (actL_len l day)
  · exact Nat.zero_le _
def OrdS (nm : ByteArray) (l : List Df) (day : Int) : List Int × Int := if gErr nm l day ≠ 0 then ([], gErr nm l day) else ordF (nodS l day) (mapS l day) (nodS l day).length []
set_option maxHeartbeats 4000000 in
theorem Order_c (nm : ByteArray) (l : List Df) (day : Int) (h : AgO nm l) (hl : l.length ≤ 1000000) : PureC G.P 7 [vA nm l, vi day] (fun r => r = .tup 2 (nthP [sV (OrdS nm l day).1, vi (OrdS nm l day).2])) := by
  by_cases he : gErr nm l day = 0
  · have cg := newGraph_c0 nm l day h hl he
    have co := order_c (nodS l day) (mapS l day) (Nat.le_trans (nodS_len l day) hl) (fun e he => Nat.le_trans (mapS_len l day e he) hl)
    refine pure_of (G := G.toPg) (fn := Try.f7) Try.func7 rfl rfl rfl ?_; intro Γ hk
    repeat' (first | refine yo ?_ ?_ | refine yw ?_ ?_ | refine yk ?_ ?_ | exact trivial | with_reducible refine wA ?_ ?_ | refine ys ?_ ?_ | refine xs_done ?_ | refine yl ?_ ?_ | (refine pop_callc [] rfl rfl rfl rfl rfl rfl (fun _ h => by cases h) (cg) (args_cl _ rfl) ?_; rintro _ rfl) | (refine pop_callc [] rfl rfl rfl rfl rfl rfl (fun _ h => by cases h) (co) (args_cl _ rfl) ?_; rintro _ rfl) | refine w8 ?_ | refine w9 ?_ | refine w1 ?_ | refine w2 ?_ | refine w3 ?_ | refine w4 ?_ | refine w5 ?_ | refine w6 ?_ | refine w7 ?_ | refine yo0 ?_ ?_ | refine yw0 ?_ ?_ | exact qq | fail)
    refine kretv rfl ⟨trivial, trivial, trivial⟩ rfl ?_
    unfold OrdS; rw [if_neg (fun hh => hh he)]; rfl
  · have cg := newGraph_c1 nm l day h hl he
    refine pure_of (G := G.toPg) (fn := Try.f7) Try.func7 rfl rfl rfl ?_; intro Γ hk
    repeat' (first | refine yo ?_ ?_ | refine yw ?_ ?_ | refine yk ?_ ?_ | exact trivial | with_reducible refine wA ?_ ?_ | refine ys ?_ ?_ | refine xs_done ?_ | refine yl ?_ ?_ | (refine pop_callc [] rfl rfl rfl rfl rfl rfl (fun _ h => by cases h) (cg) (args_cl _ rfl) ?_; rintro _ rfl) | refine w8 ?_ | refine w9 ?_ | refine w1 ?_ | refine w2 ?_ | refine w3 ?_ | refine w4 ?_ | refine w5 ?_ | refine w6 ?_ | refine w7 ?_ | refine yo0 ?_ ?_ | refine yw0 ?_ ?_ | exact qq | fail)
    refine pcond (b := true) (eqB (by simpa using he)) ?_ ?_ <;> intro h1
    · repeat' (first | refine yo ?_ ?_ | refine yw ?_ ?_ | refine yk ?_ ?_ | exact trivial | with_reducible refine wA ?_ ?_ | refine ys ?_ ?_ | refine xs_done ?_ | refine yl ?_ ?_ | refine w8 ?_ | refine w9 ?_ | refine w1 ?_ | refine w2 ?_ | refine w3 ?_ | refine w4 ?_ | refine w5 ?_ | refine w6 ?_ | refine w7 ?_ | refine yo0 ?_ ?_ | refine yw0 ?_ ?_ | exact qq | fail)
      refine kret [] rfl ⟨trivial, trivial, trivial⟩ (qs := [.vsl 0 1 (tI (lF 0 [])), vi (gErr nm l day)]) ⟨argNil, argVal, trivial⟩ ?_
      unfold OrdS; rw [if_pos he]; rfl
    · cases h1
end Go.Proofs.Ytcefhgomkehokaa
namespace Go.Proofs.Ytcefhgomkehokaa
open Go.MapKept
section
variable {G : Pg} {N : Nat} {Γ : Fr} {st : PSt} {K : Exit → PSt → Prop} {ops : Array Oper} {o : Oper} {rest : List Oper} {l : Nat} {KT : Type} [DecidableEq KT] {kv : KT → Value} {t : TypeId} {x y z : Operand} {m : List (KT × Int)}
theorem pop_mins (M : MapT G.P t kv) (kk : KT) (v : Int) (hg : o.guard = none) (hd : o.dst = none) (ho : o.op = .insert t x y z) (hx : st.ev x = .mref l) (hy : st.ev y = .val (kv kk)) (hz : st.ev z = vi v) (hr : rowAt st.mem l = some (mRow kv m)) (hk : Γ.k0 ≤ l) (hni : noIt st.mem = true) {m' : List Row}
    (hm : setM st.mem l (mRow kv (mset m kk v)) some = some m') (h : POps G N Γ ops rest ⟨st.tm, m'⟩ K) : POps G N Γ ops (o :: rest) st K := .mk fun ρ I a w hrel => by
  have hw : Region.wanted o (yielded ops a.tmps) = true := by simp [Region.wanted, hg]
  simp only [wpList, hw, if_true]
  refine .inl ?_
  rw [rowAt_get] at hr
  rw [setM_eq] at hm
  simp only [Option.some.injEq] at hm
  subst hm
  have hxv := ev_rel hrel x
  rw [hx] at hxv
  obtain ⟨_, hxv⟩ := hxv
  have hyv := ev_rel hrel y
  rw [hy] at hyv
  have hyv : a.eval y = kv kk := hyv
  have hzv := ev_rel hrel z
  rw [hz] at hzv
  have hzv : a.eval z = .int .i64 v := hzv
  obtain ⟨_, _, hs⟩ := hrel.fr.m.side l _ hr rfl
  obtain ⟨es, clock, q1, q2, q3⟩ := (hs Nat.zero_lt_one).1 rfl
  obtain ⟨es', clock', g1, g2, g3⟩ := run_mset M q1 (mapV_eq q3) q2 kk v
  have hv : (execOp a.eval o).run G.P w = .ok .skip { w with heap := w.heap.setIfInBounds (ρ l).b (.map es' clock') } := by
    unfold execOp
    rw [ho]
    simp only [hxv, hyv, hzv, Sem.run_bind, g1, Result.andThen, Sem.run_pure]
  simp only [Oper.wp, hv, Oper.upon_skip, hd, Act.put]
  refine h.go ρ I _ _ (hrel.setMap hr rfl hk hni (mRow kv (mset m kk v)) rfl rfl g2 fun k' ρ' w' => ?_)
  show mapV es' = mV kv (mset m kk v)
  have := congrArg (List.map fun e : Value × Value => Value.tuple #[e.1, e.2]) g3
  rw [List.map_map, List.map_map] at this
  unfold mapV mV
  congr 1
  apply Array.ext'
  rw [Array.toList_map]
  exact this
end
def mapIId : MapT G.P 95 kI := ⟨3, 3, _, Try.underlying95, Try.underlying3, fun _ => rfl, kI_inj, Try.zeroValue3⟩
/-! ### the distances to a node -/
theorem nd_len : ∀ {A B : List Int}, A.Nodup → (∀ x, x ∈ A → x ∈ B) → A.length ≤ B.length
  | [], _, _, _ => Nat.zero_le _
  | a :: A, B, h, hs => by
    rw [List.nodup_cons] at h
    have ha := hs a (List.mem_cons_self ..)
    have h1 := nd_len (B := B.erase a) h.2 fun x hx => by
      have hne : x ≠ a := fun e => h.1 (e ▸ hx)
      exact (List.mem_erase_of_ne hne).2 (hs x (List.mem_cons_of_mem _ hx))
    rw [List.length_erase_of_mem ha] at h1
    have := List.length_pos_of_mem ha
    show A.length + 1 ≤ _
    omega
abbrev DS := List (Int × Int) × List Int
def disStep (L : List (Int × List Int)) (nx : Int) (s : DS) (i : Int) : DS := if (mget s.1 i).isSome = false ∧ nx ∈ sget L i then (s.1 ++ [(i, (mget s.1 nx).getD 0 + 1)], s.2 ++ [i]) else s
def disIn (L : List (Int × List Int)) (nx : Int) (s : DS) (N : List Int) : DS := N.foldl (disStep L nx) s
theorem disIn_snoc {L : List (Int × List Int)} {nx : Int} {s : DS} {N : List Int} {i : Int} : disIn L nx s (N ++ [i]) = disStep L nx (disIn L nx s N) i := by
  unfold disIn; rw [List.foldl_append]; rfl
def disF (N : List Int) (L : List (Int × List Int)) : Nat → DS → List (Int × Int)
  | 0, s => s.1
  | f + 1, s => match s.2 with
    | [] => s.1
    | q :: Q => disF N L f (disIn L q (s.1, Q) N)
theorem disF_nil {N : List Int} {L : List (Int × List Int)} {f : Nat} {s : DS} (h : s.2 = []) : disF N L f s = s.1 := by
  cases f with
  | zero => rfl
  | succ f => rw [disF, h]
theorem disF_cons {N : List Int} {L : List (Int × List Int)} {f : Nat} {m : List (Int × Int)} {q : Int} {Q : List Int} : disF N L (f + 1) (m, q :: Q) = disF N L f (disIn L q (m, Q) N) := rfl
theorem mget_app {m : List (Int × Int)} {k : Int} {e : Int × Int} (h : e.1 ≠ k) : mget (m ++ [e]) k = mget m k := by
  induction m with
  | nil => show (if e.1 = k then _ else _) = _; rw [if_neg h]
  | cons a m ih =>
    show (if a.1 = k then _ else mget (m ++ [e]) k) = (if a.1 = k then _ else mget m k)
    rw [ih]
theorem mget_some {m : List (Int × Int)} {k d : Int} (h : mget m k = some d) : (k, d) ∈ m := by
  induction m with
  | nil => cases h
  | cons a m ih =>
    have h : (if a.1 = k then some a.2 else mget m k) = some d := h
    by_cases e : a.1 = k
    · rw [if_pos e] at h
      injection h with h
      rw [← e, ← h]; exact List.mem_cons_self ..
    · rw [if_neg e] at h
      exact List.mem_cons_of_mem _ (ih h)
theorem mget_is {m : List (Int × Int)} {k : Int} (h : k ∈ m.map (·.1)) : ∃ d, mget m k = some d := by
  induction m with
  | nil => cases h
  | cons a m ih =>
    by_cases e : a.1 = k
    · exact ⟨a.2, if_pos e⟩
    · rcases List.mem_cons.1 h with h | h
      · exact absurd h.symm e
      · obtain ⟨d, hd⟩ := ih h
        exact ⟨d, (if_neg e).trans hd⟩
theorem mget_no {m : List (Int × Int)} {k : Int} (h : mget m k = none) : ¬ k ∈ m.map (·.1) := fun hk => by
  obtain ⟨d, hd⟩ := mget_is hk
  rw [h] at hd; cases hd
structure InvD (N : List Int) (L : List (Int × List Int)) (to : Int) (p : Nat) (s : DS) : Prop where
  ks : ∃ P : List Int, P.length = p ∧ s.1.map (·.1) = P ++ s.2
  nd : (s.1.map (·.1)).Nodup
  sub : ∀ e, e ∈ s.1 → e.1 = to ∨ e.1 ∈ N
  val : ∀ e, e ∈ s.1 → 0 ≤ e.2 ∧ e.2 ≤ s.1.length
  zero : ∀ e, e ∈ s.1 → e.2 = 0 → e.1 = to
  pos : ∀ e, e ∈ s.1 → 0 < e.2 → ∃ y, y ∈ sget L e.1 ∧ mget s.1 y = some (e.2 - 1)
theorem InvD.len {N : List Int} {L : List (Int × List Int)} {to : Int} {p : Nat} {s : DS} (h : InvD N L to p s) : s.1.length ≤ N.length + 1 := by
  have := nd_len (B := to :: N) h.nd fun x hx => by
    obtain ⟨e, he, rfl⟩ := List.mem_map.1 hx
    rcases h.sub e he with h1 | h1
    · rw [h1]; exact List.mem_cons_self ..
    · exact List.mem_cons_of_mem _ h1
  simpa using this
theorem InvD.len2 {N : List Int} {L : List (Int × List Int)} {to : Int} {p : Nat} {s : DS} (h : InvD N L to p s) : s.1.length = p + s.2.length := by
  obtain ⟨P, h1, h2⟩ := h.ks
  have := congrArg List.length h2
  rw [List.length_map, List.length_append] at this
  omega
theorem InvD.step {N : List Int} {L : List (Int × List Int)} {to : Int} {p : Nat} {s : DS} {nx i : Int} (h : InvD N L to p s) (hi : i ∈ N) (hn : nx ∈ s.1.map (·.1)) : InvD N L to p (disStep L nx s i) := by
  unfold disStep
  by_cases hc : (mget s.1 i).isSome = false ∧ nx ∈ sget L i
  · rw [if_pos hc]
    have hno : mget s.1 i = none := by
      cases hm : mget s.1 i with
      | none => rfl
      | some d => rw [hm] at hc; cases hc.1
    obtain ⟨d, hd⟩ := mget_is hn
    have hdm := h.val _ (mget_some hd)
    have hkey : ∀ y, y ∈ s.1.map (·.1) → i ≠ y := fun y hy e => mget_no hno (e ▸ hy)
    rw [hd]
    show InvD N L to p (s.1 ++ [(i, d + 1)], s.2 ++ [i])
    obtain ⟨P, hP1, hP2⟩ := h.ks
    refine ⟨⟨P, hP1, ?_⟩, ?_, ?_, ?_, ?_, ?_⟩
    · rw [List.map_append, hP2, List.append_assoc]; rfl
    · rw [List.map_append, List.nodup_append]
      refine ⟨h.nd, by simp, fun a ha b hb => ?_⟩
      have : b = i := by simpa using hb
      subst this
      exact fun e => hkey a ha e.symm
    · intro e he
      rcases List.mem_append.1 he with he | he
      · exact h.sub e he
      · rw [List.mem_singleton.1 he]; exact .inr hi
    · intro e he
      rw [List.length_append]
      rcases List.mem_append.1 he with he | he
      · have := h.val e he
        refine ⟨this.1, ?_⟩
        show e.2 ≤ ((s.1.length + 1 : Nat) : Int)
        omega
      · rw [List.mem_singleton.1 he]
        have h2 : d ≤ s.1.length := hdm.2
        have h3 : 0 ≤ d := hdm.1
        refine ⟨by show 0 ≤ d + 1; omega, ?_⟩
        show d + 1 ≤ ((s.1.length + 1 : Nat) : Int)
        omega
    · intro e he h0
      rcases List.mem_append.1 he with he | he
      · exact h.zero e he h0
      · rw [List.mem_singleton.1 he] at h0
        have h3 : 0 ≤ d := hdm.1
        have : d + 1 = 0 := h0
        omega
    · intro e he h0
      rcases List.mem_append.1 he with he | he
      · obtain ⟨y, hy1, hy2⟩ := h.pos e he h0
        exact ⟨y, hy1, by rw [mget_app (hkey y (List.mem_map.2 ⟨_, mget_some hy2, rfl⟩))]; exact hy2⟩
      · rw [List.mem_singleton.1 he]
        exact ⟨nx, hc.2, by rw [mget_app (hkey nx hn)]; show _ = some (d + 1 - 1); rw [hd, show d + 1 - 1 = d by omega]⟩
  · rw [if_neg hc]; exact h
theorem disStep_sub {L : List (Int × List Int)} {s : DS} {nx i k : Int} (h : k ∈ s.1.map (·.1)) : k ∈ (disStep L nx s i).1.map (·.1) := by
  unfold disStep
  split
  · rw [List.map_append]; exact List.mem_append_left _ h
  · exact h
end Go.Proofs.Ytcefhgomkehokaa
namespace Go.Proofs.Ytcefhgomkehokaa
def OrdInv (N : List Int) (L : List (Int × List Int)) (out : List Int) : Prop := ∀ q, q < out.length → N.find? (rdyB L (out.take q)) = some (lF 0 out q)
theorem rdyB_spec {L : List (Int × List Int)} {out : List Int} {x : Int} : rdyB L out x = true ↔ ¬ x ∈ out ∧ ∀ y, y ∈ sget L x → y ∈ out := by
  unfold rdyB
  rw [Bool.and_eq_true, List.all_eq_true]
  constructor
  · rintro ⟨h1, h2⟩
    exact ⟨fun h => (by rw [decide_eq_true h] at h1; cases h1), fun y hy => of_decide_eq_true (h2 y hy)⟩
  · rintro ⟨h1, h2⟩
    exact ⟨by rw [decide_eq_false h1]; rfl, fun y hy => decide_eq_true (h2 y hy)⟩
theorem OrdInv.at {N : List Int} {L : List (Int × List Int)} {out : List Int} (h : OrdInv N L out) {q : Nat} (hq : q < out.length) : lF 0 out q ∈ N ∧ ¬ lF 0 out q ∈ out.take q ∧ ∀ y, y ∈ sget L (lF 0 out q) → y ∈ out.take q :=
  ⟨List.mem_of_find?_eq_some (h q hq), rdyB_spec.1 (List.find?_some (h q hq))⟩
theorem OrdInv.nodup {N : List Int} {L : List (Int × List Int)} {out : List Int} (h : OrdInv N L out) {i j : Nat} (hij : i < j) (hj : j < out.length) : lF 0 out i ≠ lF 0 out j := fun e => (h.at hj).2.1 (by
  rw [← e, lF_get' (by omega)]
  exact List.mem_take_iff_getElem.2 ⟨i, by omega, rfl⟩)
theorem OrdInv.nd {N : List Int} {L : List (Int × List Int)} {out : List Int} (h : OrdInv N L out) : out.Nodup := by
  rw [List.nodup_iff_pairwise_ne, List.pairwise_iff_getElem]
  intro i j hi hj hij
  have := h.nodup hij hj
  rwa [lF_get' hi, lF_get' hj] at this
theorem OrdInv.first {N : List Int} {L : List (Int × List Int)} {out : List Int} (h : OrdInv N L out) (hN : N.Pairwise (· < ·)) {p q : Nat} (hqp : q < p) (hp : p < out.length) (hr : ∀ y, y ∈ sget L (lF 0 out p) → y ∈ out.take q) : lF 0 out q ≤ lF 0 out p := by
  have hx := (h.at hp).1
  have hno : ¬ lF 0 out p ∈ out.take q := fun hh => (h.at hp).2.1 (by
    obtain ⟨i, hi, e⟩ := List.mem_take_iff_getElem.1 hh
    exact List.mem_take_iff_getElem.2 ⟨i, by omega, e⟩)
  have hf := h q (by omega)
  rw [List.find?_eq_some_iff_getElem] at hf
  obtain ⟨_, i, hi, e1, e2⟩ := hf
  obtain ⟨j, hj, e3⟩ := List.getElem_of_mem hx
  rw [← e1, ← e3]
  by_cases hij : i = j
  · subst hij; exact Int.le_refl _
  · by_cases hlt : i < j
    · exact Int.le_of_lt (List.pairwise_iff_getElem.1 hN i j hi hj hlt)
    · have := e2 j (by omega)
      rw [e3, rdyB_spec.2 ⟨hno, hr⟩] at this
      cases this
theorem ready_ex {N : List Int} {L : List (Int × List Int)} {out : List Int} {rk : Int → Nat} (ha : ∀ x, x ∈ N → ∀ y, y ∈ sget L x → y ∈ N ∧ rk y < rk x) : ∀ (r : Nat) (x : Int), rk x ≤ r → x ∈ N → ¬ x ∈ out → ∃ y, y ∈ N ∧ rdyB L out y = true
  | 0, x, hr, hx, hno => ⟨x, hx, rdyB_spec.2 ⟨hno, fun y hy => by have := (ha x hx y hy).2; omega⟩⟩
  | r + 1, x, hr, hx, hno => by
    by_cases h : ∀ y, y ∈ sget L x → y ∈ out
    · exact ⟨x, hx, rdyB_spec.2 ⟨hno, h⟩⟩
    · obtain ⟨y, hy⟩ := Classical.not_forall.1 h
      obtain ⟨hy1, hy2⟩ := Classical.not_imp.1 hy
      have := ha x hx y hy1
      exact ready_ex ha r y (by omega) this.1 hy2
theorem ordF_all {N : List Int} {L : List (Int × List Int)} {rk : Int → Nat} (hN : N.Nodup) (ha : ∀ x, x ∈ N → ∀ y, y ∈ sget L x → y ∈ N ∧ rk y < rk x) : ∀ (f : Nat) (out : List Int), OrdInv N L out → out.length + f = N.length → ∃ o, ordF N L f out = (o, 0) ∧ OrdInv N L o ∧ o.length = N.length
  | 0, out, h, hl => ⟨out, rfl, h, by omega⟩
  | f + 1, out, h, hl => by
    have hex : ∃ x, x ∈ N ∧ ¬ x ∈ out := by
      apply Classical.byContradiction
      intro hn
      have := nd_len hN (B := out) fun x hx => Classical.byContradiction fun hno => hn ⟨x, hx, hno⟩
      omega
    obtain ⟨x, hx, hno⟩ := hex
    obtain ⟨y, hy1, hy2⟩ := ready_ex ha (rk x) x (Nat.le_refl _) hx hno
    cases hf : N.find? (rdyB L out) with
    | none =>
      rw [List.find?_eq_none] at hf
      exact absurd hy2 (hf y hy1)
    | some z =>
      rw [ordF_yes hf]
      refine ordF_all hN ha f (out ++ [z]) (fun q hq => ?_) (by rw [List.length_append]; show out.length + 1 + f = _; omega)
      rw [List.length_append] at hq
      have hq : q < out.length + 1 := hq
      by_cases e : q = out.length
      · subst e
        rw [List.take_left, hf]
        exact congrArg some (lF_at (d := (0 : Int)) (y := z) (l := out) (r := [])).symm
      · rw [List.take_append_of_le_length (by omega), h q (by omega), lF_lt (by omega)]
end Go.Proofs.Ytcefhgomkehokaa
namespace Go.Proofs.Ytcefhgomkehokaa
/-! ### plain: what is active -/
theorem actN_iff {l : List Df} {day : Int} {i : Nat} : (i : Int) ∈ actL l day ↔ i < l.length ∧ isAct l day i = true := ⟨fun h => by
  obtain ⟨j, hj, h1, h2⟩ := actN_mem h
  have : i = j := by omega
  subst this
  exact ⟨h1, h2⟩, fun h => mem_actN h.1 h.2⟩
def bestG (l : List Df) (day : Int) (i : Nat) (b : Int) (j : Nat) : Int := if (lF dD l j).kind = (lF dD l i).kind ∧ (lF dD l j).nm.toList = (lF dD l i).nm.toList ∧ (lF dD l j).day ≤ day then max b (lF dD l j).day else b
def bestS (l : List Df) (day : Int) (i n : Nat) : Int := (List.range n).foldl (bestG l day i) (-1)
theorem bestS_succ {l : List Df} {day : Int} {i n : Nat} : bestS l day i (n + 1) = bestG l day i (bestS l day i n) n := by
  unfold bestS; rw [List.range_succ, List.foldl_append]; rfl
theorem bestS_ub {l : List Df} {day : Int} {i : Nat} (h0 : -1 ≤ day) : ∀ n, bestS l day i n ≤ day ∧ -1 ≤ bestS l day i n ∧ ∀ j, j < n → (lF dD l j).kind = (lF dD l i).kind → (lF dD l j).nm.toList = (lF dD l i).nm.toList → (lF dD l j).day ≤ day → (lF dD l j).day ≤ bestS l day i n
  | 0 => ⟨h0, Int.le_refl _, fun j hj => absurd hj (Nat.not_lt_zero j)⟩
  | n + 1 => by
    obtain ⟨h1, h2, h3⟩ := bestS_ub (l := l) (i := i) h0 n
    rw [bestS_succ]
    unfold bestG
    by_cases hc : (lF dD l n).kind = (lF dD l i).kind ∧ (lF dD l n).nm.toList = (lF dD l i).nm.toList ∧ (lF dD l n).day ≤ day
    · rw [if_pos hc]
      refine ⟨by have := hc.2.2; omega, by omega, fun j hj e1 e2 e3 => ?_⟩
      by_cases e : j = n
      · subst e; omega
      · have := h3 j (by omega) e1 e2 e3; omega
    · rw [if_neg hc]
      refine ⟨h1, h2, fun j hj e1 e2 e3 => ?_⟩
      by_cases e : j = n
      · subst e; exact absurd ⟨e1, e2, e3⟩ hc
      · exact h3 j (by omega) e1 e2 e3
theorem bestS_at {l : List Df} {day : Int} {i : Nat} : ∀ n, bestS l day i n = -1 ∨ ∃ j, j < n ∧ (lF dD l j).kind = (lF dD l i).kind ∧ (lF dD l j).nm.toList = (lF dD l i).nm.toList ∧ (lF dD l j).day ≤ day ∧ (lF dD l j).day = bestS l day i n
  | 0 => .inl rfl
  | n + 1 => by
    have ih := bestS_at (l := l) (day := day) (i := i) n
    rw [bestS_succ]
    unfold bestG
    by_cases hc : (lF dD l n).kind = (lF dD l i).kind ∧ (lF dD l n).nm.toList = (lF dD l i).nm.toList ∧ (lF dD l n).day ≤ day
    · rw [if_pos hc]
      by_cases hm : bestS l day i n ≤ (lF dD l n).day
      · exact .inr ⟨n, by omega, hc.1, hc.2.1, hc.2.2, by omega⟩
      · rcases ih with e | ⟨j, h1, h2, h3, h4, h5⟩
        · exact .inl (by omega)
        · exact .inr ⟨j, by omega, h2, h3, h4, by omega⟩
    · rw [if_neg hc]
      rcases ih with e | ⟨j, h1, h2, h3, h4, h5⟩
      · exact .inl e
      · exact .inr ⟨j, by omega, h2, h3, h4, h5⟩
structure VerOk (l : List Df) : Prop where
  key : ∀ i j, i < l.length → j < l.length → (lF dD l i).nm.toList = (lF dD l j).nm.toList → (lF dD l i).day = (lF dD l j).day → i = j
  pos : ∀ i, i < l.length → 0 ≤ (lF dD l i).day
  zero : ∀ i, i < l.length → (lF dD l i).kind = 1 ∨ (lF dD l i).kind = 5 → (lF dD l i).day = 0
theorem act_best {l : List Df} {day : Int} (h : VerOk l) (h0 : 0 ≤ day) {i : Nat} (hi : i < l.length) : decide ((i : Int) ∈ actL l day) = decide ((lF dD l i).day = bestS l day i l.length) := by
  rw [decide_eq_decide, actN_iff]
  obtain ⟨u1, u2, u3⟩ := bestS_ub (l := l) (i := i) (day := day) (by omega) l.length
  have hp := h.pos i hi
  constructor
  · rintro ⟨_, ha⟩
    rcases bestS_at (l := l) (day := day) (i := i) l.length with e | ⟨j, hj, e1, e2, e3, e4⟩
    · unfold isAct at ha
      by_cases hk : (lF dD l i).kind = 1 ∨ (lF dD l i).kind = 5
      · have := h.zero i hi hk
        have := u3 i hi rfl rfl (by omega); omega
      · rw [decide_eq_false hk, Bool.false_or, Bool.and_eq_true] at ha
        have := u3 i hi rfl rfl (of_decide_eq_true ha.1); omega
    · unfold isAct at ha
      by_cases hk : (lF dD l i).kind = 1 ∨ (lF dD l i).kind = 5
      · have z1 := h.zero i hi hk
        have z2 := h.zero j hj (by rw [e1]; exact hk)
        omega
      · rw [decide_eq_false hk, Bool.false_or, Bool.and_eq_true] at ha
        have h1 := of_decide_eq_true ha.1
        have h2 := u3 i hi rfl rfl h1
        by_cases e : (lF dD l i).day = bestS l day i l.length
        · exact e
        · exfalso
          have hr := repl_yes (day := day) (i := i) hj (decide_eq_true ⟨e1, e2, e3, .inl (by omega)⟩)
          rw [hr] at ha
          cases ha.2
  · intro he
    refine ⟨hi, ?_⟩
    unfold isAct
    by_cases hk : (lF dD l i).kind = 1 ∨ (lF dD l i).kind = 5
    · rw [decide_eq_true hk]; rfl
    · rw [decide_eq_false hk, Bool.false_or, Bool.and_eq_true]
      refine ⟨decide_eq_true (by omega), ?_⟩
      rw [repl_no (fun j hj => ?_)]
      · rfl
      · refine decide_eq_false fun ⟨e1, e2, e3, e4⟩ => ?_
        have := u3 j hj e1 e2 e3
        rcases e4 with e4 | ⟨e4, e5⟩
        · omega
        · have := h.key j i hj hi e2 e4; omega
end Go.Proofs.Ytcefhgomkehokaa
namespace Go.Proofs.Ytcefhgomkehokaa
open Go.MapKept
theorem InvD.pop {N : List Int} {L : List (Int × List Int)} {to : Int} {p : Nat} {m : List (Int × Int)} {q : Int} {Q : List Int} (h : InvD N L to p (m, q :: Q)) : InvD N L to (p + 1) (m, Q) ∧ q ∈ m.map (·.1) := by
  obtain ⟨P, h1, h2⟩ := h.ks
  have h2 : m.map (·.1) = P ++ q :: Q := h2
  refine ⟨⟨⟨P ++ [q], by simp [h1], ?_⟩, h.nd, h.sub, h.val, h.zero, h.pos⟩, by rw [h2]; simp⟩
  show m.map (·.1) = P ++ [q] ++ Q
  rw [h2, List.append_assoc]; rfl
theorem InvD.fold {N : List Int} {L : List (Int × List Int)} {to : Int} {p : Nat} {nx : Int} : ∀ (A : List Int) (s : DS), InvD N L to p s → nx ∈ s.1.map (·.1) → (∀ x, x ∈ A → x ∈ N) → InvD N L to p (disIn L nx s A) ∧ nx ∈ (disIn L nx s A).1.map (·.1)
  | [], s, h, hn, _ => ⟨h, hn⟩
  | a :: A, s, h, hn, hA => InvD.fold A (disStep L nx s a) (h.step (hA a (List.mem_cons_self ..)) hn) (disStep_sub hn) (fun x hx => hA x (List.mem_cons_of_mem _ hx))
theorem inv0 (N : List Int) (L : List (Int × List Int)) (to : Int) : InvD N L to 0 ([(to, 0)], [to]) := ⟨⟨[], rfl, rfl⟩, List.nodup_cons.2 ⟨List.not_mem_nil, List.nodup_nil⟩, fun e he => by rw [List.mem_singleton.1 he]; exact .inl rfl, fun e he => by rw [List.mem_singleton.1 he]; exact ⟨Int.le_refl _, Int.natCast_nonneg _⟩, fun e he _ => by rw [List.mem_singleton.1 he], fun e he h0 => by rw [List.mem_singleton.1 he] at h0; exact absurd h0 (Int.lt_irrefl _)⟩
theorem disF_inv {N : List Int} {L : List (Int × List Int)} {to : Int} : ∀ (f p : Nat) (s : DS), InvD N L to p s → N.length + 2 ≤ p + f → ∃ p', InvD N L to p' (disF N L f s, [])
  | 0, p, s, h, hf => by have := h.len; have := h.len2; omega
  | f + 1, p, (m, []), h, hf => ⟨p, h⟩
  | f + 1, p, (m, q :: Q), h, hf => by
    obtain ⟨h1, h2⟩ := h.pop
    exact disF_inv f (p + 1) _ (InvD.fold N _ h1 h2 (fun x hx => hx)).1 (by omega)
def disS (N : List Int) (L : List (Int × List Int)) (to : Int) : List (Int × Int) := disF N L (N.length + 2) ([(to, 0)], [to])
theorem disS_inv (N : List Int) (L : List (Int × List Int)) (to : Int) : ∃ p, InvD N L to p (disS N L to, []) := disF_inv _ 0 _ (inv0 N L to) (by omega)
theorem app_q {τ : Nat → Option Nat} {o m : Nat} {g : Nat → Int} {Q : List Int} {y : Int} (hQ : Q.length = m) (hg : ∀ a, a < m → g (o + a) = lF 0 Q a) : RowEq (Row.ren τ ⟨.own, false, m + 1, 1, appF m (fun x => tI g (o + x)) (fun x b => nthP [vi y] ((0 + x) * 1 + b))⟩) (iRow (m + 1) (lF 0 (Q ++ [y]))) := by
  refine i_eq (Nat.le_refl _) fun a ha => ?_
  by_cases e : a < m
  · rw [appF_lt _ _ e]
    show vi (g (o + a)) = vi _
    rw [hg a e, lF_lt (by omega)]
  · rw [appF_ge _ _ (by omega)]
    obtain rfl : a = m := by omega
    rw [show (0 + (a - a)) * 1 + 0 = 0 by omega]
    show vi y = vi _
    have := lF_at (d := (0 : Int)) (y := y) (l := Q) (r := [])
    rw [hQ] at this
    rw [this]
set_option maxHeartbeats 8000000 in
theorem distances_r (N : List Int) (L : List (Int × List Int)) (to : Int) (hN : N.length ≤ 1000000) (hL : ∀ e, e ∈ L → e.2.length ≤ 1000000) : RowsC G.P 53 [] [vGr N L, vi to] (fun r rows => r = .mref 0 ∧ rows = [mRow kI (disS N L to)]) := by
  refine rows_of (G := G.toPg) (fn := Try.f53) Try.func53 rfl rfl rfl ?_; intro Γ hk
  repeat' (first | refine yo ?_ ?_ | refine yw ?_ ?_ | refine yk ?_ ?_ | exact trivial | with_reducible refine wA ?_ ?_ | refine ys ?_ ?_ | refine xs_done ?_ | refine yl ?_ ?_ | refine w8 ?_ | refine w9 ?_ | refine w1 ?_ | refine w2 ?_ | refine w3 ?_ | refine w4 ?_ | refine w5 ?_ | refine w6 ?_ | refine w7 ?_ | refine yo0 ?_ ?_ | refine yw0 ?_ ?_ | exact qq | fail)
  refine pop_mkmap kI rfl rfl rfl rfl rfl ?_
  repeat' (first | refine yo ?_ ?_ | refine yw ?_ ?_ | refine yk ?_ ?_ | exact trivial | with_reducible refine wA ?_ ?_ | refine ys ?_ ?_ | refine xs_done ?_ | refine yl ?_ ?_ | refine w8 ?_ | refine w9 ?_ | refine w1 ?_ | refine w2 ?_ | refine w3 ?_ | refine w4 ?_ | refine w5 ?_ | refine w6 ?_ | refine w7 ?_ | refine yo0 ?_ ?_ | refine yw0 ?_ ?_ | exact qq | fail)
  refine pop_mins mapIId to 0 rfl rfl rfl rfl rfl rfl rfl (by rw [hk]; exact Nat.zero_le _) rfl rfl ?_
  repeat' (first | refine yo ?_ ?_ | refine yw ?_ ?_ | refine yk ?_ ?_ | exact trivial | with_reducible refine wA ?_ ?_ | refine ys ?_ ?_ | refine xs_done ?_ | refine yl ?_ ?_ | refine w8 ?_ | refine w9 ?_ | refine w1 ?_ | refine w2 ?_ | refine w3 ?_ | refine w4 ?_ | refine w5 ?_ | refine w6 ?_ | refine w7 ?_ | refine yo0 ?_ ?_ | refine yw0 ?_ ?_ | exact qq | fail)
  refine pcan (can_rowsv [0, 1, 2] (tm := [(2, .ptr 0 0 0), (5, .mref 1), (6, .lsl 2 0 1)]) (rows := [cG (sV N) (.vmap (cS L)), mRow kI [(to, 0)], iRow 1 (lF 0 [to])]) (k0_sel hk rfl) rfl (.cons rfl (cG_eq (PEq.refl _) (PEq.refl _)) (.cons rfl m_eq (.cons rfl (i_eq (Nat.le_refl _) fun a ha => ?_) .nil))) tmq) ?_
  · obtain rfl : a = 0 := by omega
    rfl
  refine ploop (fun q st => ∃ (p o M k : Nat) (g : Nat → Int) (m : List (Int × Int)) (Q : List Int), Q.length = k ∧ InvD N L to p (m, Q) ∧ disS N L to = disF N L (N.length + 2 - p) (m, Q) ∧ o + k ≤ M ∧ (∀ a, a < k → g (o + a) = lF 0 Q a) ∧ q = N.length + 2 - p ∧ st = ⟨[(2, .ptr 0 0 0), (5, .mref 1), (6, .lsl 2 o k)], [cG (sV N) (.vmap (cS L)), mRow kI m, iRow M g]⟩) (N.length + 2) ⟨0, 0, 1, 1, lF 0 [to], [(to, 0)], [to], rfl, inv0 N L to, rfl, Nat.le_refl _, fun a ha => by rw [Nat.zero_add], rfl, rfl⟩ ?_
  rintro _ _ ⟨p, o, M, k, g, m, Q, hQ, hI, hD, hM, hg, rfl, rfl⟩
  have hlen := hI.len
  have hlen2 := hI.len2
  cases Q with
  | nil =>
    obtain rfl : k = 0 := hQ.symm
    repeat' (first | refine yo ?_ ?_ | refine yw ?_ ?_ | refine yk ?_ ?_ | exact trivial | with_reducible refine wA ?_ ?_ | refine ys ?_ ?_ | refine xs_done ?_ | refine yl ?_ ?_ | refine w8 ?_ | refine w9 ?_ | refine w1 ?_ | refine w2 ?_ | refine w3 ?_ | refine w4 ?_ | refine w5 ?_ | refine w6 ?_ | refine w7 ?_ | refine yo0 ?_ ?_ | refine yw0 ?_ ?_ | exact qq | fail)
    refine xdone ?_
    refine kretr (can_rowsv [1] (tm := [(4, .mref 0)]) (rows := [mRow kI m]) (k0_sel hk rfl) rfl (.cons rfl m_eq .nil) tmq) rfl ⟨trivial, trivial⟩ rfl ⟨rfl, ?_⟩
    rw [hD, disF_nil rfl]
  | cons nx Q =>
    obtain ⟨n, rfl⟩ : ∃ n, k = n + 1 := ⟨Q.length, hQ.symm⟩
    have hQ : Q.length = n := by simpa using hQ
    have hn0 : g o = nx := hg 0 (by omega)
    obtain ⟨hI2, hnk⟩ := hI.pop
    repeat' (first | refine yo ?_ ?_ | refine yw ?_ ?_ | refine yk ?_ ?_ | exact trivial | with_reducible refine wA ?_ ?_ | refine ys ?_ ?_ | refine xs_done ?_ | refine yl ?_ ?_ | refine w8 ?_ | refine w9 ?_ | refine w1 ?_ | refine w2 ?_ | refine w3 ?_ | refine w4 ?_ | refine w5 ?_ | refine w6 ?_ | refine w7 ?_ | refine yo0 ?_ ?_ | refine yw0 ?_ ?_ | exact qq | fail)
    refine pcond rfl ?_ ?_ <;> intro hc
    · repeat' (first | refine yo ?_ ?_ | refine yw ?_ ?_ | refine yk ?_ ?_ | exact trivial | with_reducible refine wA ?_ ?_ | refine ys ?_ ?_ | refine xs_done ?_ | refine yl ?_ ?_ | (show o + 0 < M; omega) | exact ⟨by decide, by omega⟩ | exact ⟨trivial, trivial, by decide, by omega, Int.le_refl _⟩ | refine w8 ?_ | refine w9 ?_ | refine w1 ?_ | refine w2 ?_ | refine w3 ?_ | refine w4 ?_ | refine w5 ?_ | refine w6 ?_ | refine w7 ?_ | refine yo0 ?_ ?_ | refine yw0 ?_ ?_ | exact qq | fail)
      refine pcan (can_rowsv [0, 1, 2] (tm := [(2, .ptr 0 0 0), (5, .mref 1), (6, .lsl 2 (o + 1) n), (7, vi nx), (26, sV N), (27, vi N.length), (28, vi ((0 : Nat) : Int))]) (rows := [cG (sV N) (.vmap (cS L)), mRow kI m, iRow M g]) (k0_sel hk rfl) rfl (.cons rfl (cG_eq (PEq.refl _) (PEq.refl _)) (.cons rfl m_eq (.cons rfl (RowEq.cl (i_cl _ _)) .nil))) (by exact ⟨PEq.refl _, PEq.refl _, PEq.of (by show PV.lsl 2 (o + 1) _ = _; congr 1; omega), PEq.of (by show vi (g (o + 0)) = vi nx; rw [Nat.add_zero, hn0]), PEq.refl _, PEq.refl _, PEq.refl _, trivial⟩)) ?_
      refine ploop (fun q st => ∃ (i o k M : Nat) (g : Nat → Int) (s : DS), i ≤ N.length ∧ s = disIn L nx (m, Q) (N.take i) ∧ s.2.length = k ∧ o + k ≤ M ∧ (∀ a, a < k → g (o + a) = lF 0 s.2 a) ∧ q = N.length - i ∧ st = ⟨[(2, .ptr 0 0 0), (5, .mref 1), (6, .lsl 2 o k), (7, vi nx), (26, sV N), (27, vi N.length), (28, vi i)], [cG (sV N) (.vmap (cS L)), mRow kI s.1, iRow M g]⟩) N.length ⟨0, o + 1, n, M, g, (m, Q), Nat.zero_le _, by rw [List.take_zero]; rfl, hQ, by omega, fun a ha => by rw [show o + 1 + a = o + (a + 1) by omega, hg (a + 1) (by omega)]; rfl, rfl, rfl⟩ ?_
      rintro _ _ ⟨i, o2, k, M2, g2, s, hi, hs, hk2, hM2, hg2, rfl, rfl⟩
      obtain ⟨hJ, hJn⟩ := InvD.fold (N.take i) (m, Q) hI2 hnk (fun x hx => List.mem_of_mem_take hx)
      rw [← hs] at hJ hJn
      have hlenJ := hJ.len
      have hlenJ2 := hJ.len2
      have hw1 : IntKind.i64.wrap ((i : Int) + 1) = ((i + 1 : Nat) : Int) := w64 (by omega) (by omega)
      repeat' (first | refine yo ?_ ?_ | refine yw ?_ ?_ | refine yk ?_ ?_ | exact trivial | with_reducible refine wA ?_ ?_ | refine ys ?_ ?_ | refine xs_done ?_ | refine yl ?_ ?_ | refine w8 ?_ | refine w9 ?_ | refine w1 ?_ | refine w2 ?_ | refine w3 ?_ | refine w4 ?_ | refine w5 ?_ | refine w6 ?_ | refine w7 ?_ | refine yo0 ?_ ?_ | refine yw0 ?_ ?_ | exact qq | fail)
      refine pcond rfl ?_ ?_ <;> intro hc2
      · have hc2 : i < N.length := by have := of_decide_eq_true hc2; omega
        have hT : N.take (i + 1) = N.take i ++ [lF 0 N i] := by
          unfold lF
          rw [List.take_add_one, List.getD_eq_getElem?_getD, List.getElem?_eq_getElem (by omega)]; rfl
        have hS : disIn L nx (m, Q) (N.take (i + 1)) = disStep L nx s (lF 0 N i) := by rw [hT, disIn_snoc, ← hs]
        have cn := contains_c (sget L (lF 0 N i)) nx (Nat.le_trans (sget_len (N := N) hL _) (by decide))
        have hxN : lF 0 N i ∈ N := by rw [lF_get' hc2]; exact List.getElem_mem hc2
        repeat' (first | refine yo ?_ ?_ | refine yw ?_ ?_ | refine yk ?_ ?_ | exact trivial | with_reducible refine wA ?_ ?_ | refine ys ?_ ?_ | refine xs_done ?_ | refine yl ?_ ?_ | refine w8 ?_ | refine w9 ?_ | refine w1 ?_ | refine w2 ?_ | refine w3 ?_ | refine w4 ?_ | refine w5 ?_ | refine w6 ?_ | refine w7 ?_ | refine yo0 ?_ ?_ | refine yw0 ?_ ?_ | exact qq | fail)
        refine pop_look mapIId true (lF 0 N i) rfl rfl rfl rfl rfl rfl rfl ?_
        cases hm : mget s.1 (lF 0 N i) with
        | some d =>
          have hS2 : disStep L nx s (lF 0 N i) = s := by unfold disStep; rw [hm]; rfl
          repeat' (first | refine yo ?_ ?_ | refine yw ?_ ?_ | refine yk ?_ ?_ | exact trivial | with_reducible refine wA ?_ ?_ | refine ys ?_ ?_ | refine xs_done ?_ | refine yl ?_ ?_ | (refine pop_gfalse rfl rfl rfl rfl ?_) | exact (fun hh => by cases hh) | refine w8 ?_ | refine w9 ?_ | refine w1 ?_ | refine w2 ?_ | refine w3 ?_ | refine w4 ?_ | refine w5 ?_ | refine w6 ?_ | refine w7 ?_ | refine yo0 ?_ ?_ | refine yw0 ?_ ?_ | exact qq | fail)
          rw [hw1]
          exact kloop_next (st' := ⟨[(2, .ptr 0 0 0), (5, .mref 1), (6, .lsl 2 o2 k), (7, vi nx), (26, sV N), (27, vi N.length), (28, vi ((i + 1 : Nat) : Int))], [cG (sV N) (.vmap (cS L)), mRow kI s.1, iRow M2 g2]⟩) (N.length - (i + 1)) (can_rowsv [0, 1, 2] (k0_sel hk rfl) rfl (.cons rfl (cG_eq (PEq.refl _) (PEq.refl _)) (.cons rfl m_eq (.cons rfl (RowEq.cl (i_cl _ _)) .nil))) tmq) (by omega) ⟨i + 1, o2, k, M2, g2, s, by omega, by rw [hS, hS2], hk2, hM2, hg2, rfl, rfl⟩
        | none =>
          by_cases hx : nx ∈ sget L (lF 0 N i)
          · rw [decide_eq_true hx] at cn
            obtain ⟨d, hd⟩ := mget_is hJn
            have hdv := hJ.val _ (mget_some hd)
            have hd1 : 0 ≤ d := hdv.1
            have hd2 : d ≤ s.1.length := hdv.2
            have hw2 : IntKind.i64.wrap (d + 1) = d + 1 := w64 (by omega) (by omega)
            have hS2 : disStep L nx s (lF 0 N i) = (s.1 ++ [(lF 0 N i, d + 1)], s.2 ++ [lF 0 N i]) := by unfold disStep; rw [hm, hd, if_pos ⟨rfl, hx⟩]; rfl
            have hkey : ∀ e, e ∈ s.1 → e.1 ≠ lF 0 N i := fun e he h2 => mget_no hm (List.mem_map.2 ⟨e, he, h2⟩)
            repeat' (first | refine yo ?_ ?_ | refine yw ?_ ?_ | refine yk ?_ ?_ | exact trivial | with_reducible refine wA ?_ ?_ | refine ys ?_ ?_ | refine xs_done ?_ | refine yl ?_ ?_ | refine w8 ?_ | refine w9 ?_ | refine w1 ?_ | refine w2 ?_ | refine w3 ?_ | refine w4 ?_ | refine w5 ?_ | refine w6 ?_ | refine w7 ?_ | refine yo0 ?_ ?_ | refine yw0 ?_ ?_ | exact qq | fail)
            refine pop_opt 42 rfl rfl ?_
            refine pop_opt 43 rfl rfl ?_
            refine pop_unguard rfl rfl ?_
            refine pop_lookvS mapIS (lF 0 N i) rfl rfl rfl rfl rfl rfl ?_
            repeat' (first | refine yo ?_ ?_ | refine yw ?_ ?_ | refine yk ?_ ?_ | exact trivial | with_reducible refine wA ?_ ?_ | refine ys ?_ ?_ | refine xs_done ?_ | refine yl ?_ ?_ | (refine pop_unguard rfl rfl ?_) | refine w8 ?_ | refine w9 ?_ | refine w1 ?_ | refine w2 ?_ | refine w3 ?_ | refine w4 ?_ | refine w5 ?_ | refine w6 ?_ | refine w7 ?_ | refine yo0 ?_ ?_ | refine yw0 ?_ ?_ | exact qq | fail)
            refine pop_opt 45 rfl rfl ?_
            repeat' (first | refine yo ?_ ?_ | refine yw ?_ ?_ | refine yk ?_ ?_ | exact trivial | with_reducible refine wA ?_ ?_ | refine ys ?_ ?_ | refine xs_done ?_ | refine yl ?_ ?_ | refine z1 cn ?_ | refine z2 cn ?_ | refine z3 cn ?_ | refine z4 cn ?_ | refine z5 cn ?_ | refine w8 ?_ | refine w9 ?_ | refine w1 ?_ | refine w2 ?_ | refine w3 ?_ | refine w4 ?_ | refine w5 ?_ | refine w6 ?_ | refine w7 ?_ | refine yo0 ?_ ?_ | refine yw0 ?_ ?_ | exact qq | fail)
            refine pop_look mapIId false nx rfl rfl rfl rfl rfl rfl rfl ?_
            rw [hd, show (some d : Option Int).getD 0 = d from rfl]
            repeat' (first | refine yo ?_ ?_ | refine yw ?_ ?_ | refine yk ?_ ?_ | exact trivial | with_reducible refine wA ?_ ?_ | refine ys ?_ ?_ | refine xs_done ?_ | refine yl ?_ ?_ | refine w8 ?_ | refine w9 ?_ | refine w1 ?_ | refine w2 ?_ | refine w3 ?_ | refine w4 ?_ | refine w5 ?_ | refine w6 ?_ | refine w7 ?_ | refine yo0 ?_ ?_ | refine yw0 ?_ ?_ | exact qq | fail)
            rw [hw2]
            refine pop_mset mapIId (lF 0 N i) (d + 1) rfl rfl rfl rfl rfl rfl rfl (by rw [hk]; exact Nat.zero_le _) rfl rfl ?_
            rw [mset_none hkey]
            have hkb : k ≤ 1000000 := by omega
            repeat' (first | refine yo ?_ ?_ | refine yw ?_ ?_ | refine yk ?_ ?_ | exact trivial | with_reducible refine wA ?_ ?_ | refine ys ?_ ?_ | refine xs_done ?_ | refine yl ?_ ?_ | exact ⟨Nat.le_refl _, (by rw [hk]; exact Nat.le_of_ble_eq_true rfl), hM2, (show (_ : Nat) * 8 ≤ 140737488355328 from by omega), (show (_ : Nat) ≤ 9223372036854775807 from by omega)⟩ | refine w8 ?_ | refine w9 ?_ | refine w1 ?_ | refine w2 ?_ | refine w3 ?_ | refine w4 ?_ | refine w5 ?_ | refine w6 ?_ | refine w7 ?_ | refine yo0 ?_ ?_ | refine yw0 ?_ ?_ | exact qq | fail)
            rw [hw1]
            exact kloop_next (st' := ⟨[(2, .ptr 0 0 0), (5, .mref 1), (6, .lsl 2 0 (k + 1)), (7, vi nx), (26, sV N), (27, vi N.length), (28, vi ((i + 1 : Nat) : Int))], [cG (sV N) (.vmap (cS L)), mRow kI (s.1 ++ [(lF 0 N i, d + 1)]), iRow (k + 1) (lF 0 (s.2 ++ [lF 0 N i]))]⟩) (N.length - (i + 1)) (can_rowsv [0, 1, 4] (k0_sel hk rfl) rfl (.cons rfl (cG_eq (PEq.refl _) (PEq.refl _)) (.cons rfl m_eq (.cons rfl (app_q hk2 hg2) .nil))) tmq) (by omega) ⟨i + 1, 0, k + 1, k + 1, lF 0 (s.2 ++ [lF 0 N i]), (s.1 ++ [(lF 0 N i, d + 1)], s.2 ++ [lF 0 N i]), by omega, by rw [hS, hS2], by show (s.2 ++ [lF 0 N i]).length = k + 1; rw [List.length_append, hk2]; rfl, by omega, fun a ha => by rw [Nat.zero_add], rfl, rfl⟩
          · rw [decide_eq_false hx] at cn
            have hS2 : disStep L nx s (lF 0 N i) = s := by unfold disStep; rw [if_neg (fun hh => hx hh.2)]
            repeat' (first | refine yo ?_ ?_ | refine yw ?_ ?_ | refine yk ?_ ?_ | exact trivial | with_reducible refine wA ?_ ?_ | refine ys ?_ ?_ | refine xs_done ?_ | refine yl ?_ ?_ | refine w8 ?_ | refine w9 ?_ | refine w1 ?_ | refine w2 ?_ | refine w3 ?_ | refine w4 ?_ | refine w5 ?_ | refine w6 ?_ | refine w7 ?_ | refine yo0 ?_ ?_ | refine yw0 ?_ ?_ | exact qq | fail)
            refine pop_opt 42 rfl rfl ?_
            refine pop_opt 43 rfl rfl ?_
            refine pop_unguard rfl rfl ?_
            refine pop_lookvS mapIS (lF 0 N i) rfl rfl rfl rfl rfl rfl ?_
            repeat' (first | refine yo ?_ ?_ | refine yw ?_ ?_ | refine yk ?_ ?_ | exact trivial | with_reducible refine wA ?_ ?_ | refine ys ?_ ?_ | refine xs_done ?_ | refine yl ?_ ?_ | (refine pop_unguard rfl rfl ?_) | refine w8 ?_ | refine w9 ?_ | refine w1 ?_ | refine w2 ?_ | refine w3 ?_ | refine w4 ?_ | refine w5 ?_ | refine w6 ?_ | refine w7 ?_ | refine yo0 ?_ ?_ | refine yw0 ?_ ?_ | exact qq | fail)
            refine pop_opt 45 rfl rfl ?_
            repeat' (first | refine yo ?_ ?_ | refine yw ?_ ?_ | refine yk ?_ ?_ | exact trivial | with_reducible refine wA ?_ ?_ | refine ys ?_ ?_ | refine xs_done ?_ | refine yl ?_ ?_ | refine z1 cn ?_ | refine z2 cn ?_ | refine z3 cn ?_ | refine z4 cn ?_ | refine z5 cn ?_ | refine w8 ?_ | refine w9 ?_ | refine w1 ?_ | refine w2 ?_ | refine w3 ?_ | refine w4 ?_ | refine w5 ?_ | refine w6 ?_ | refine w7 ?_ | refine yo0 ?_ ?_ | refine yw0 ?_ ?_ | exact qq | fail)
            rw [hw1]
            exact kloop_next (st' := ⟨[(2, .ptr 0 0 0), (5, .mref 1), (6, .lsl 2 o2 k), (7, vi nx), (26, sV N), (27, vi N.length), (28, vi ((i + 1 : Nat) : Int))], [cG (sV N) (.vmap (cS L)), mRow kI s.1, iRow M2 g2]⟩) (N.length - (i + 1)) (can_rowsv [0, 1, 2] (k0_sel hk rfl) rfl (.cons rfl (cG_eq (PEq.refl _) (PEq.refl _)) (.cons rfl m_eq (.cons rfl (RowEq.cl (i_cl _ _)) .nil))) tmq) (by omega) ⟨i + 1, o2, k, M2, g2, s, by omega, by rw [hS, hS2], hk2, hM2, hg2, rfl, rfl⟩
      · have hil : i = N.length := by have := of_decide_eq_false hc2; omega
        subst hil
        rw [List.take_length] at hs
        repeat' (first | refine yo ?_ ?_ | refine yw ?_ ?_ | refine yk ?_ ?_ | exact trivial | with_reducible refine wA ?_ ?_ | refine ys ?_ ?_ | refine xs_done ?_ | refine yl ?_ ?_ | refine w8 ?_ | refine w9 ?_ | refine w1 ?_ | refine w2 ?_ | refine w3 ?_ | refine w4 ?_ | refine w5 ?_ | refine w6 ?_ | refine w7 ?_ | refine yo0 ?_ ?_ | refine yw0 ?_ ?_ | exact qq | fail)
        exact kloop_next (st' := ⟨[(2, .ptr 0 0 0), (5, .mref 1), (6, .lsl 2 o2 k)], [cG (sV N) (.vmap (cS L)), mRow kI s.1, iRow M2 g2]⟩) (N.length + 2 - (p + 1)) (can_rowsv [0, 1, 2] (k0_sel hk rfl) rfl (.cons rfl (cG_eq (PEq.refl _) (PEq.refl _)) (.cons rfl m_eq (.cons rfl (RowEq.cl (i_cl _ _)) .nil))) tmq) (by have : m.length = p + (Q.length + 1) := hlen2; have : m.length ≤ N.length + 1 := hlen; omega) ⟨p + 1, o2, M2, k, g2, s.1, s.2, hk2, hJ, by
          rw [hD, show N.length + 2 - p = N.length + 2 - (p + 1) + 1 by (have : m.length = p + (Q.length + 1) := hlen2; have : m.length ≤ N.length + 1 := hlen; omega), disF_cons, ← hs], hM2, hg2, rfl, rfl⟩
    · have := of_decide_eq_false hc; omega
end Go.Proofs.Ytcefhgomkehokaa
