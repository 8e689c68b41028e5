/- payrollgen: types, nodes, decimals, leaves. -/
import Derived.Test.YtcghpepighboaaaDoorX9
set_option linter.unusedSimpArgs false
set_option linter.unusedVariables false
set_option maxRecDepth 100000
namespace Go.Proofs.YtcghpepighboaaaDoor
theorem pop_unguard {G : Pg2} {N : Nat} {Γ : Fr} {st : PSt} {K : Exit → PSt → Prop} {ops : Array Oper} {o : Oper} {rest : List Oper} {j : Nat} {want : Bool} (hg : o.guard = some (j, want)) (hgv : gval ops st j want = some true) (h : POps G.toPg N Γ ops ({ o with guard := none } :: rest) st K) : POps G.toPg N Γ ops (o :: rest) st K := .mk fun ρ I a w hrel => by
  have hw := gval_sound hrel hg hgv
  have h2 := h.go ρ I a w hrel
  have hw2 : Region.wanted { o with guard := none } (yielded ops a.tmps) = true := by simp [Region.wanted]
  simp only [wpList, hw2, hw, if_true] at h2 ⊢
  exact h2
theorem pop_opt {G : Pg2} {N : Nat} {Γ : Fr} {st : PSt} {K : Exit → PSt → Prop} {ops : Array Oper} {l : List Oper} (t : Nat) {g : Bool} {q : PV} (ht : st.get t = .opt g q) (hg : g = true) (h : POps G.toPg N Γ ops l (st.put t q) K) : POps G.toPg N Γ ops l st K := .mk fun ρ I a w hrel => h.go ρ I a w ⟨hrel.fr, hrel.defers, hrel.size, fun s => by
  have hs := hrel.slot s
  show VRel _ ρ I w (look s ((t, q) :: st.tm)) _
  simp only [look]
  cases hb : Nat.beq s t
  · exact hs
  · have e := Nat.eq_of_beq_eq_true hb
    subst e
    rw [ht] at hs
    exact hs.1 hg⟩
theorem number_c : PureC G.P 49 [] (fun r => r = vT t0) := by
  refine pure_of (G := G.toPg) (fn := Tryd.f49) Tryd.func49 rfl rfl rfl ?_; intro Γ hk
  repeat' (first | refine yo ?_ ?_ | refine yw ?_ ?_ | refine yk ?_ ?_ | exact trivial | with_reducible refine wA ?_ ?_ | refine ys ?_ ?_ | refine xs_done ?_ | refine yl ?_ ?_ | refine w8 ?_ | refine w9 ?_ | refine w1 ?_ | refine w2 ?_ | refine w3 ?_ | refine w4 ?_ | refine w5 ?_ | refine w6 ?_ | refine w7 ?_ | refine yo0 ?_ ?_ | refine yw0 ?_ ?_ | exact qq | fail)
  exact kretv rfl ⟨Nat.zero_lt_one, trivial⟩ rfl rfl
theorem money_c : PureC G.P 50 [] (fun r => r = vT tM) := by
  refine pure_of (G := G.toPg) (fn := Tryd.f50) Tryd.func50 rfl rfl rfl ?_; intro Γ hk
  repeat' (first | refine yo ?_ ?_ | refine yw ?_ ?_ | refine yk ?_ ?_ | exact trivial | with_reducible refine wA ?_ ?_ | refine ys ?_ ?_ | refine xs_done ?_ | refine yl ?_ ?_ | refine w8 ?_ | refine w9 ?_ | refine w1 ?_ | refine w2 ?_ | refine w3 ?_ | refine w4 ?_ | refine w5 ?_ | refine w6 ?_ | refine w7 ?_ | refine yo0 ?_ ?_ | refine yw0 ?_ ?_ | exact qq | fail)
  exact kretv rfl ⟨Nat.zero_lt_one, trivial⟩ rfl rfl
theorem hours_c : PureC G.P 51 [] (fun r => r = vT tH) := by
  refine pure_of (G := G.toPg) (fn := Tryd.f51) Tryd.func51 rfl rfl rfl ?_; intro Γ hk
  repeat' (first | refine yo ?_ ?_ | refine yw ?_ ?_ | refine yk ?_ ?_ | exact trivial | with_reducible refine wA ?_ ?_ | refine ys ?_ ?_ | refine xs_done ?_ | refine yl ?_ ?_ | refine w8 ?_ | refine w9 ?_ | refine w1 ?_ | refine w2 ?_ | refine w3 ?_ | refine w4 ?_ | refine w5 ?_ | refine w6 ?_ | refine w7 ?_ | refine yo0 ?_ ?_ | refine yw0 ?_ ?_ | exact qq | fail)
  exact kretv rfl ⟨Nat.zero_lt_one, trivial⟩ rfl rfl
theorem rate_c : PureC G.P 52 [] (fun r => r = vT tR) := by
  refine pure_of (G := G.toPg) (fn := Tryd.f52) Tryd.func52 rfl rfl rfl ?_; intro Γ hk
  repeat' (first | refine yo ?_ ?_ | refine yw ?_ ?_ | refine yk ?_ ?_ | exact trivial | with_reducible refine wA ?_ ?_ | refine ys ?_ ?_ | refine xs_done ?_ | refine yl ?_ ?_ | refine w8 ?_ | refine w9 ?_ | refine w1 ?_ | refine w2 ?_ | refine w3 ?_ | refine w4 ?_ | refine w5 ?_ | refine w6 ?_ | refine w7 ?_ | refine yo0 ?_ ?_ | refine yw0 ?_ ?_ | exact qq | fail)
  exact kretv rfl ⟨Nat.zero_lt_one, trivial⟩ rfl rfl
theorem truth_c : PureC G.P 53 [] (fun r => r = vT tB) := by
  refine pure_of (G := G.toPg) (fn := Tryd.f53) Tryd.func53 rfl rfl rfl ?_; intro Γ hk
  repeat' (first | refine yo ?_ ?_ | refine yw ?_ ?_ | refine yk ?_ ?_ | exact trivial | with_reducible refine wA ?_ ?_ | refine ys ?_ ?_ | refine xs_done ?_ | refine yl ?_ ?_ | refine w8 ?_ | refine w9 ?_ | refine w1 ?_ | refine w2 ?_ | refine w3 ?_ | refine w4 ?_ | refine w5 ?_ | refine w6 ?_ | refine w7 ?_ | refine yo0 ?_ ?_ | refine yw0 ?_ ?_ | exact qq | fail)
  exact kretv rfl ⟨Nat.zero_lt_one, trivial⟩ rfl rfl
theorem argAggL {mem : List Row} {L : List Nat} {n : Nat} {f g : Nat → PV} (h : ∀ i, i < n → ArgOk mem L (f i) (g i)) : ArgOk mem L (.agg n f) (.agg n g) := by
  rintro ρ I w v hm ⟨vs, h1, h2, h3⟩
  exact ⟨vs, h1, h2, fun i hi => ⟨(h3 i hi).1, h i hi ρ I w _ hm (h3 i hi).2⟩⟩
theorem argEx {mem : List Row} {L : List Nat} {op vn vd um uh ud : Int} {nm : ByteArray} {cnt mode : Int} {nk : Nat} {kf : Nat → Ex} {p : PV} (h : ArgOk mem L p (.vsl nk 10 (Ex.mk op vn vd um uh ud nm cnt mode nk kf).kc)) :
    ArgOk mem L (.agg 10 (nthP [vi op, vi vn, vi vd, vi um, vi uh, vi ud, vs nm, vi cnt, vi mode, p])) (vX (.mk op vn vd um uh ud nm cnt mode nk kf)) :=
  argAggL fun i hi => by
    rcases (by omega : i = 0 ∨ i = 1 ∨ i = 2 ∨ i = 3 ∨ i = 4 ∨ i = 5 ∨ i = 6 ∨ i = 7 ∨ i = 8 ∨ i = 9) with rfl | rfl | rfl | rfl | rfl | rfl | rfl | rfl | rfl | rfl
    all_goals first
      | exact h
      | exact argVal
theorem c10 {y : Nat} (h : y < 10) : y = 0 ∨ y = 1 ∨ y = 2 ∨ y = 3 ∨ y = 4 ∨ y = 5 ∨ y = 6 ∨ y = 7 ∨ y = 8 ∨ y = 9 := by omega
theorem argK1 {mem : List Row} {L : List Nat} {l : Nat} {a : Ex} {op vn vd um uh ud : Int} {nm : ByteArray} {cnt mode : Int} (hr : rowAt mem l = some ⟨.own, false, 1, 10, fun x y => nthP (cX a) (x * 10 + y)⟩) (hL : l ∈ L) : ArgOk mem L (.lsl l 0 1) (.vsl 1 10 (Ex.mk op vn vd um uh ud nm cnt mode 1 (k1 a)).kc) :=
  argLsl (r := ⟨.own, false, 1, 10, _⟩) hr trivial hL (by simp) fun x hx y hy => ⟨by
    obtain rfl : x = 0 := by omega
    rcases c10 hy with rfl | rfl | rfl | rfl | rfl | rfl | rfl | rfl | rfl | rfl <;> rfl, tF_cl cX_cl (k1 a) x y⟩
theorem argK2 {mem : List Row} {L : List Nat} {l : Nat} {a b : Ex} {op vn vd um uh ud : Int} {nm : ByteArray} {cnt mode : Int} (hr : rowAt mem l = some ⟨.own, false, 2, 10, fun x y => nthP (cX a ++ cX b) (x * 10 + y)⟩) (hL : l ∈ L) : ArgOk mem L (.lsl l 0 2) (.vsl 2 10 (Ex.mk op vn vd um uh ud nm cnt mode 2 (k2 a b)).kc) :=
  argLsl (r := ⟨.own, false, 2, 10, _⟩) hr trivial hL (by simp) fun x hx y hy => ⟨by
    rcases (by omega : x = 0 ∨ x = 1) with rfl | rfl <;> rcases c10 hy with rfl | rfl | rfl | rfl | rfl | rfl | rfl | rfl | rfl | rfl <;> rfl, tF_cl cX_cl (k2 a b) x y⟩
theorem argK3 {mem : List Row} {L : List Nat} {l : Nat} {a b c : Ex} {op vn vd um uh ud : Int} {nm : ByteArray} {cnt mode : Int} (hr : rowAt mem l = some ⟨.own, false, 3, 10, fun x y => nthP (cX a ++ (cX b ++ cX c)) (x * 10 + y)⟩) (hL : l ∈ L) : ArgOk mem L (.lsl l 0 3) (.vsl 3 10 (Ex.mk op vn vd um uh ud nm cnt mode 3 (k3 a b c)).kc) :=
  argLsl (r := ⟨.own, false, 3, 10, _⟩) hr trivial hL (by simp) fun x hx y hy => ⟨by
    rcases (by omega : x = 0 ∨ x = 1 ∨ x = 2) with rfl | rfl | rfl <;> rcases c10 hy with rfl | rfl | rfl | rfl | rfl | rfl | rfl | rfl | rfl | rfl <;> rfl, tF_cl cX_cl (k3 a b c) x y⟩
theorem two_c (op : Int) (a b : Ex) : PureC G.P 54 [vi op, vX a, vX b] (fun r => r = vX (eOp op 2 (k2 a b))) := by
  refine pure_of (G := G.toPg) (fn := Tryd.f54) Tryd.func54 rfl rfl rfl ?_; intro Γ hk
  repeat' (first | refine yo ?_ ?_ | refine yw ?_ ?_ | refine yk ?_ ?_ | exact trivial | with_reducible refine wA ?_ ?_ | refine ys ?_ ?_ | refine xs_done ?_ | refine yl ?_ ?_ | refine w8 ?_ | refine w9 ?_ | refine w1 ?_ | refine w2 ?_ | refine w3 ?_ | refine w4 ?_ | refine w5 ?_ | refine w6 ?_ | refine w7 ?_ | refine yo0 ?_ ?_ | refine yw0 ?_ ?_ | exact qq | fail)
  refine xdone ?_
  exact kret [3] rfl ⟨Nat.zero_lt_one, trivial⟩ (qs := [vX (eOp op 2 (k2 a b))]) ⟨argEx (argK2 rfl (List.Mem.head _)), trivial⟩ rfl
theorem split10 {x : Int} (h0 : 0 ≤ x) (h1 : x < 10 ∨ x = 0) : x = 0 ∨ x = 1 ∨ x = 2 ∨ x = 3 ∨ x = 4 ∨ x = 5 ∨ x = 6 ∨ x = 7 ∨ x = 8 ∨ x = 9 := by omega
theorem decimal_t : TapC G.P 29 [] (fun r => ∃ x : Int × Int, r = vr x.1 x.2 ∧ x ∈ decL) := by
  intro n g at_ hn h1 h2
  refine ptr_of (G := G.toPg) (fn := Tryd.f29) Tryd.func29 rfl rfl rfl ?_; intro Γ hk
  repeat' (first | refine yo ?_ ?_ | refine yw ?_ ?_ | refine yk ?_ ?_ | exact trivial | with_reducible refine wA ?_ ?_ | refine ys ?_ ?_ | refine xs_done ?_ | refine yl ?_ ?_ | (refine tn1 hn ?_; rintro at_ b1 b2 x hx1 hx2) | refine w8 ?_ | refine w9 ?_ | refine w1 ?_ | refine w2 ?_ | refine w3 ?_ | refine w4 ?_ | refine w5 ?_ | refine w6 ?_ | refine w7 ?_ | refine yo0 ?_ ?_ | refine yw0 ?_ ?_ | exact qq | fail)
  rcases split10 hx1 hx2 with rfl | rfl | rfl | rfl | rfl | rfl | rfl | rfl | rfl | rfl
  all_goals
    repeat' (first | refine yo ?_ ?_ | refine yw ?_ ?_ | refine yk ?_ ?_ | exact trivial | with_reducible refine wA ?_ ?_ | refine ys ?_ ?_ | refine xs_done ?_ | refine yl ?_ ?_ | refine w8 ?_ | refine w9 ?_ | refine w1 ?_ | refine w2 ?_ | refine w3 ?_ | refine w4 ?_ | refine w5 ?_ | refine w6 ?_ | refine w7 ?_ | refine yo0 ?_ ?_ | refine yw0 ?_ ?_ | exact qq | fail)
    refine xdone ?_
  · exact ktap rfl b1 b2 rfl ⟨Nat.zero_lt_one, trivial⟩ rfl ⟨(1, 1), rfl, by simp [decL]⟩
  · exact ktap rfl b1 b2 rfl ⟨Nat.zero_lt_one, trivial⟩ rfl ⟨(2, 1), rfl, by simp [decL]⟩
  · exact ktap rfl b1 b2 rfl ⟨Nat.zero_lt_one, trivial⟩ rfl ⟨(0, 1), rfl, by simp [decL]⟩
  · exact ktap rfl b1 b2 rfl ⟨Nat.zero_lt_one, trivial⟩ rfl ⟨(5, 2), rfl, by simp [decL]⟩
  · exact ktap rfl b1 b2 rfl ⟨Nat.zero_lt_one, trivial⟩ rfl ⟨(1, 4), rfl, by simp [decL]⟩
  · exact ktap rfl b1 b2 rfl ⟨Nat.zero_lt_one, trivial⟩ rfl ⟨(76, 5), rfl, by simp [decL]⟩
  · exact ktap rfl b1 b2 rfl ⟨Nat.zero_lt_one, trivial⟩ rfl ⟨(40, 1), rfl, by simp [decL]⟩
  · exact ktap rfl b1 b2 rfl ⟨Nat.zero_lt_one, trivial⟩ rfl ⟨(1, 100), rfl, by simp [decL]⟩
  · exact ktap rfl b1 b2 rfl ⟨Nat.zero_lt_one, trivial⟩ rfl ⟨(3, 1), rfl, by simp [decL]⟩
  · exact ktap rfl b1 b2 rfl ⟨Nat.zero_lt_one, trivial⟩ rfl ⟨(100, 1), rfl, by simp [decL]⟩
set_option maxHeartbeats 4000000 in
theorem leaf_number_t (rules : Int) : TapC G.P 48 [vT t0, vi rules] (fun r => ∃ e, r = vX e ∧ EOk 1 t0 e) := by
  intro n g at_ hn h1 h2
  refine ptr_of (G := G.toPg) (fn := Tryd.f48) Tryd.func48 rfl rfl rfl ?_; intro Γ hk
  repeat' (first | refine yo ?_ ?_ | refine yw ?_ ?_ | refine yk ?_ ?_ | exact trivial | with_reducible refine wA ?_ ?_ | refine ys ?_ ?_ | refine xs_done ?_ | refine yl ?_ ?_ | refine xs_start (id := 28) true [.take 0, .take 2, .take 3, .one 1, .take 4, .one 5] 0 rfl rfl (by kernel_rfl) ?_ | (refine pop_opt 88 rfl rfl ?_) | (refine pop_unguard rfl rfl ?_) | (refine pop_gfalse rfl rfl rfl rfl ?_) | (refine tn1 hn ?_; rintro at_ b1 b2 x hx1 hx2) | (refine pop_tapl (G := G) rfl rfl rfl rfl rfl rfl rfl rfl rfl rfl rfl (by omega) rfl (fun _ => rfl) rfl (pick_t _ _ rfl (by decide) (by decide)) hn (by assumption) (by assumption) ?_; rintro at_ _ b1 b2 ⟨x, rfl, hx⟩; simp only [unL, List.mem_cons, List.not_mem_nil, or_false] at hx) | (refine xs_one (ch := [_]) rfl rfl rfl (pz decimal_t hn ?_); rintro at_ _ b1 b2 ⟨dx, rfl, hdx⟩) | refine z1 number_c ?_ | refine z2 number_c ?_ | refine z3 number_c ?_ | refine z4 number_c ?_ | refine z5 number_c ?_ | refine z1 money_c ?_ | refine z2 money_c ?_ | refine z3 money_c ?_ | refine z4 money_c ?_ | refine z5 money_c ?_ | refine z1 hours_c ?_ | refine z2 hours_c ?_ | refine z3 hours_c ?_ | refine z4 hours_c ?_ | refine z5 hours_c ?_ | refine z1 rate_c ?_ | refine z2 rate_c ?_ | refine z3 rate_c ?_ | refine z4 rate_c ?_ | refine z5 rate_c ?_ | refine z1 truth_c ?_ | refine z2 truth_c ?_ | refine z3 truth_c ?_ | refine z4 truth_c ?_ | refine z5 truth_c ?_ | refine w8 ?_ | refine w9 ?_ | refine w1 ?_ | refine w2 ?_ | refine w3 ?_ | refine w4 ?_ | refine w5 ?_ | refine w6 ?_ | refine w7 ?_ | refine yo0 ?_ ?_ | refine yw0 ?_ ?_ | (refine pcond rfl ?_ ?_ <;> intro hc) | exact qq | fail)
  all_goals first
    | (refine xdone ?_; refine ktapL [] (qs := [vX (.mk _ _ _ _ _ _ _ _ _ 0 kn)]) rfl b1 b2 (by simp) rfl ⟨Nat.zero_lt_one, trivial⟩ ⟨argEx argNil, trivial⟩ ⟨_, rfl, ?_⟩; first | exact ok_name (by decide +kernel) (by decide) (fun N S P hE => hE.g) | exact ok_name (by decide +kernel) (by decide) (fun N S P hE => hE.r4) | exact ok_num hdx (by decide))
    | skip
  all_goals rcases (by omega : x = 0 ∨ x = 1) with rfl | rfl
  all_goals first
    | (exfalso; omega)
    | skip
  all_goals
    repeat' (first | refine yo ?_ ?_ | refine yw ?_ ?_ | refine yk ?_ ?_ | exact trivial | with_reducible refine wA ?_ ?_ | refine ys ?_ ?_ | refine xs_done ?_ | refine yl ?_ ?_ | refine w8 ?_ | refine w9 ?_ | refine w1 ?_ | refine w2 ?_ | refine w3 ?_ | refine w4 ?_ | refine w5 ?_ | refine w6 ?_ | refine w7 ?_ | refine yo0 ?_ ?_ | refine yw0 ?_ ?_ | exact qq | fail)
    refine xdone ?_; refine ktapL [] (qs := [vX (.mk _ _ _ _ _ _ _ _ _ 0 kn)]) rfl b1 b2 (by simp) rfl ⟨Nat.zero_lt_one, trivial⟩ ⟨argEx argNil, trivial⟩ ⟨_, rfl, ?_⟩; first | exact ok_name (by decide +kernel) (by decide) (fun N S P hE => hE.g) | exact ok_name (by decide +kernel) (by decide) (fun N S P hE => hE.r4) | exact ok_num hdx (by decide)
set_option maxHeartbeats 4000000 in
theorem leaf_money_t (rules : Int) : TapC G.P 48 [vT tM, vi rules] (fun r => ∃ e, r = vX e ∧ EOk 1 tM e) := by
  intro n g at_ hn h1 h2
  refine ptr_of (G := G.toPg) (fn := Tryd.f48) Tryd.func48 rfl rfl rfl ?_; intro Γ hk
  repeat' (first | refine yo ?_ ?_ | refine yw ?_ ?_ | refine yk ?_ ?_ | exact trivial | with_reducible refine wA ?_ ?_ | refine ys ?_ ?_ | refine xs_done ?_ | refine yl ?_ ?_ | refine xs_start (id := 28) true [.take 0, .take 2, .take 3, .one 1, .take 4, .one 5] 0 rfl rfl (by kernel_rfl) ?_ | (refine pop_opt 88 rfl rfl ?_) | (refine pop_unguard rfl rfl ?_) | (refine pop_gfalse rfl rfl rfl rfl ?_) | (refine tn1 hn ?_; rintro at_ b1 b2 x hx1 hx2) | (refine pop_tapl (G := G) rfl rfl rfl rfl rfl rfl rfl rfl rfl rfl rfl (by omega) rfl (fun _ => rfl) rfl (pick_t _ _ rfl (by decide) (by decide)) hn (by assumption) (by assumption) ?_; rintro at_ _ b1 b2 ⟨x, rfl, hx⟩; simp only [unL, List.mem_cons, List.not_mem_nil, or_false] at hx) | (refine xs_one (ch := [_]) rfl rfl rfl (pz decimal_t hn ?_); rintro at_ _ b1 b2 ⟨dx, rfl, hdx⟩) | refine z1 number_c ?_ | refine z2 number_c ?_ | refine z3 number_c ?_ | refine z4 number_c ?_ | refine z5 number_c ?_ | refine z1 money_c ?_ | refine z2 money_c ?_ | refine z3 money_c ?_ | refine z4 money_c ?_ | refine z5 money_c ?_ | refine z1 hours_c ?_ | refine z2 hours_c ?_ | refine z3 hours_c ?_ | refine z4 hours_c ?_ | refine z5 hours_c ?_ | refine z1 rate_c ?_ | refine z2 rate_c ?_ | refine z3 rate_c ?_ | refine z4 rate_c ?_ | refine z5 rate_c ?_ | refine z1 truth_c ?_ | refine z2 truth_c ?_ | refine z3 truth_c ?_ | refine z4 truth_c ?_ | refine z5 truth_c ?_ | refine w8 ?_ | refine w9 ?_ | refine w1 ?_ | refine w2 ?_ | refine w3 ?_ | refine w4 ?_ | refine w5 ?_ | refine w6 ?_ | refine w7 ?_ | refine yo0 ?_ ?_ | refine yw0 ?_ ?_ | (refine pcond rfl ?_ ?_ <;> intro hc) | exact qq | fail)
  all_goals first
    | (refine xdone ?_; refine ktapL [] (qs := [vX (.mk _ _ _ _ _ _ _ _ _ 0 kn)]) rfl b1 b2 (by simp) rfl ⟨Nat.zero_lt_one, trivial⟩ ⟨argEx argNil, trivial⟩ ⟨_, rfl, ?_⟩; first | exact ok_name (by decide +kernel) (by decide) (fun N S P hE => hE.r2) | exact ok_name (by decide +kernel) (by decide) (fun N S P hE => hE.a) | exact ok_num hdx (by decide) | exact ok_past (by assumption) (by decide +kernel) (by decide) (by rw [w64 (by omega) (by omega)]; omega) (fun N S P hE => hE.gross))
    | skip
  all_goals rcases (by omega : x = 0 ∨ x = 1) with rfl | rfl
  all_goals first
    | (exfalso; omega)
    | skip
  all_goals
    repeat' (first | refine yo ?_ ?_ | refine yw ?_ ?_ | refine yk ?_ ?_ | exact trivial | with_reducible refine wA ?_ ?_ | refine ys ?_ ?_ | refine xs_done ?_ | refine yl ?_ ?_ | refine w8 ?_ | refine w9 ?_ | refine w1 ?_ | refine w2 ?_ | refine w3 ?_ | refine w4 ?_ | refine w5 ?_ | refine w6 ?_ | refine w7 ?_ | refine yo0 ?_ ?_ | refine yw0 ?_ ?_ | exact qq | fail)
    refine xdone ?_; refine ktapL [] (qs := [vX (.mk _ _ _ _ _ _ _ _ _ 0 kn)]) rfl b1 b2 (by simp) rfl ⟨Nat.zero_lt_one, trivial⟩ ⟨argEx argNil, trivial⟩ ⟨_, rfl, ?_⟩; first | exact ok_name (by decide +kernel) (by decide) (fun N S P hE => hE.r2) | exact ok_name (by decide +kernel) (by decide) (fun N S P hE => hE.a) | exact ok_num hdx (by decide) | exact ok_past (by assumption) (by decide +kernel) (by decide) (by rw [w64 (by omega) (by omega)]; omega) (fun N S P hE => hE.gross)
set_option maxHeartbeats 4000000 in
theorem leaf_hours_t (rules : Int) : TapC G.P 48 [vT tH, vi rules] (fun r => ∃ e, r = vX e ∧ EOk 1 tH e) := by
  intro n g at_ hn h1 h2
  refine ptr_of (G := G.toPg) (fn := Tryd.f48) Tryd.func48 rfl rfl rfl ?_; intro Γ hk
  repeat' (first | refine yo ?_ ?_ | refine yw ?_ ?_ | refine yk ?_ ?_ | exact trivial | with_reducible refine wA ?_ ?_ | refine ys ?_ ?_ | refine xs_done ?_ | refine yl ?_ ?_ | refine xs_start (id := 28) true [.take 0, .take 2, .take 3, .one 1, .take 4, .one 5] 0 rfl rfl (by kernel_rfl) ?_ | (refine pop_opt 88 rfl rfl ?_) | (refine pop_unguard rfl rfl ?_) | (refine pop_gfalse rfl rfl rfl rfl ?_) | (refine tn1 hn ?_; rintro at_ b1 b2 x hx1 hx2) | (refine pop_tapl (G := G) rfl rfl rfl rfl rfl rfl rfl rfl rfl rfl rfl (by omega) rfl (fun _ => rfl) rfl (pick_t _ _ rfl (by decide) (by decide)) hn (by assumption) (by assumption) ?_; rintro at_ _ b1 b2 ⟨x, rfl, hx⟩; simp only [unL, List.mem_cons, List.not_mem_nil, or_false] at hx) | (refine xs_one (ch := [_]) rfl rfl rfl (pz decimal_t hn ?_); rintro at_ _ b1 b2 ⟨dx, rfl, hdx⟩) | refine z1 number_c ?_ | refine z2 number_c ?_ | refine z3 number_c ?_ | refine z4 number_c ?_ | refine z5 number_c ?_ | refine z1 money_c ?_ | refine z2 money_c ?_ | refine z3 money_c ?_ | refine z4 money_c ?_ | refine z5 money_c ?_ | refine z1 hours_c ?_ | refine z2 hours_c ?_ | refine z3 hours_c ?_ | refine z4 hours_c ?_ | refine z5 hours_c ?_ | refine z1 rate_c ?_ | refine z2 rate_c ?_ | refine z3 rate_c ?_ | refine z4 rate_c ?_ | refine z5 rate_c ?_ | refine z1 truth_c ?_ | refine z2 truth_c ?_ | refine z3 truth_c ?_ | refine z4 truth_c ?_ | refine z5 truth_c ?_ | refine w8 ?_ | refine w9 ?_ | refine w1 ?_ | refine w2 ?_ | refine w3 ?_ | refine w4 ?_ | refine w5 ?_ | refine w6 ?_ | refine w7 ?_ | refine yo0 ?_ ?_ | refine yw0 ?_ ?_ | (refine pcond rfl ?_ ?_ <;> intro hc) | exact qq | fail)
  all_goals first
    | (refine xdone ?_; refine ktapL [] (qs := [vX (.mk _ _ _ _ _ _ _ _ _ 0 kn)]) rfl b1 b2 (by simp) rfl ⟨Nat.zero_lt_one, trivial⟩ ⟨argEx argNil, trivial⟩ ⟨_, rfl, ?_⟩; first | exact ok_name (by decide +kernel) (by decide) (fun N S P hE => hE.h) | exact ok_num hdx (by decide) | exact ok_past (by assumption) (by decide +kernel) (by decide) (by rw [w64 (by omega) (by omega)]; omega) (fun N S P hE => hE.time))
    | skip
  all_goals rcases (by omega : x = 0 ∨ x = 1) with rfl | rfl
  all_goals first
    | (exfalso; omega)
    | skip
  all_goals
    repeat' (first | refine yo ?_ ?_ | refine yw ?_ ?_ | refine yk ?_ ?_ | exact trivial | with_reducible refine wA ?_ ?_ | refine ys ?_ ?_ | refine xs_done ?_ | refine yl ?_ ?_ | refine w8 ?_ | refine w9 ?_ | refine w1 ?_ | refine w2 ?_ | refine w3 ?_ | refine w4 ?_ | refine w5 ?_ | refine w6 ?_ | refine w7 ?_ | refine yo0 ?_ ?_ | refine yw0 ?_ ?_ | exact qq | fail)
    refine xdone ?_; refine ktapL [] (qs := [vX (.mk _ _ _ _ _ _ _ _ _ 0 kn)]) rfl b1 b2 (by simp) rfl ⟨Nat.zero_lt_one, trivial⟩ ⟨argEx argNil, trivial⟩ ⟨_, rfl, ?_⟩; first | exact ok_name (by decide +kernel) (by decide) (fun N S P hE => hE.h) | exact ok_num hdx (by decide) | exact ok_past (by assumption) (by decide +kernel) (by decide) (by rw [w64 (by omega) (by omega)]; omega) (fun N S P hE => hE.time)
set_option maxHeartbeats 4000000 in
theorem leaf_rate_t (rules : Int) : TapC G.P 48 [vT tR, vi rules] (fun r => ∃ e, r = vX e ∧ EOk 1 tR e) := by
  intro n g at_ hn h1 h2
  refine ptr_of (G := G.toPg) (fn := Tryd.f48) Tryd.func48 rfl rfl rfl ?_; intro Γ hk
  repeat' (first | refine yo ?_ ?_ | refine yw ?_ ?_ | refine yk ?_ ?_ | exact trivial | with_reducible refine wA ?_ ?_ | refine ys ?_ ?_ | refine xs_done ?_ | refine yl ?_ ?_ | refine xs_start (id := 28) true [.take 0, .take 2, .take 3, .one 1, .take 4, .one 5] 0 rfl rfl (by kernel_rfl) ?_ | (refine pop_opt 88 rfl rfl ?_) | (refine pop_unguard rfl rfl ?_) | (refine pop_gfalse rfl rfl rfl rfl ?_) | (refine tn1 hn ?_; rintro at_ b1 b2 x hx1 hx2) | (refine pop_tapl (G := G) rfl rfl rfl rfl rfl rfl rfl rfl rfl rfl rfl (by omega) rfl (fun _ => rfl) rfl (pick_t _ _ rfl (by decide) (by decide)) hn (by assumption) (by assumption) ?_; rintro at_ _ b1 b2 ⟨x, rfl, hx⟩; simp only [unL, List.mem_cons, List.not_mem_nil, or_false] at hx) | (refine xs_one (ch := [_]) rfl rfl rfl (pz decimal_t hn ?_); rintro at_ _ b1 b2 ⟨dx, rfl, hdx⟩) | refine z1 number_c ?_ | refine z2 number_c ?_ | refine z3 number_c ?_ | refine z4 number_c ?_ | refine z5 number_c ?_ | refine z1 money_c ?_ | refine z2 money_c ?_ | refine z3 money_c ?_ | refine z4 money_c ?_ | refine z5 money_c ?_ | refine z1 hours_c ?_ | refine z2 hours_c ?_ | refine z3 hours_c ?_ | refine z4 hours_c ?_ | refine z5 hours_c ?_ | refine z1 rate_c ?_ | refine z2 rate_c ?_ | refine z3 rate_c ?_ | refine z4 rate_c ?_ | refine z5 rate_c ?_ | refine z1 truth_c ?_ | refine z2 truth_c ?_ | refine z3 truth_c ?_ | refine z4 truth_c ?_ | refine z5 truth_c ?_ | refine w8 ?_ | refine w9 ?_ | refine w1 ?_ | refine w2 ?_ | refine w3 ?_ | refine w4 ?_ | refine w5 ?_ | refine w6 ?_ | refine w7 ?_ | refine yo0 ?_ ?_ | refine yw0 ?_ ?_ | (refine pcond rfl ?_ ?_ <;> intro hc) | exact qq | fail)
  all_goals first
    | (refine xdone ?_; refine ktapL [] (qs := [vX (.mk _ _ _ _ _ _ _ _ _ 0 kn)]) rfl b1 b2 (by simp) rfl ⟨Nat.zero_lt_one, trivial⟩ ⟨argEx argNil, trivial⟩ ⟨_, rfl, ?_⟩; first | exact ok_name (by decide +kernel) (by decide) (fun N S P hE => hE.r1) | exact ok_num hdx (by decide))
    | skip
  all_goals rcases (by omega : x = 0 ∨ x = 1) with rfl | rfl
  all_goals first
    | (exfalso; omega)
    | skip
  all_goals
    repeat' (first | refine yo ?_ ?_ | refine yw ?_ ?_ | refine yk ?_ ?_ | exact trivial | with_reducible refine wA ?_ ?_ | refine ys ?_ ?_ | refine xs_done ?_ | refine yl ?_ ?_ | refine w8 ?_ | refine w9 ?_ | refine w1 ?_ | refine w2 ?_ | refine w3 ?_ | refine w4 ?_ | refine w5 ?_ | refine w6 ?_ | refine w7 ?_ | refine yo0 ?_ ?_ | refine yw0 ?_ ?_ | exact qq | fail)
    refine xdone ?_; refine ktapL [] (qs := [vX (.mk _ _ _ _ _ _ _ _ _ 0 kn)]) rfl b1 b2 (by simp) rfl ⟨Nat.zero_lt_one, trivial⟩ ⟨argEx argNil, trivial⟩ ⟨_, rfl, ?_⟩; first | exact ok_name (by decide +kernel) (by decide) (fun N S P hE => hE.r1) | exact ok_num hdx (by decide)
set_option maxHeartbeats 4000000 in
theorem leaf_truth_t (rules : Int) : TapC G.P 48 [vT tB, vi rules] (fun r => ∃ e, r = vX e ∧ EOk 1 tB e) := by
  intro n g at_ hn h1 h2
  refine ptr_of (G := G.toPg) (fn := Tryd.f48) Tryd.func48 rfl rfl rfl ?_; intro Γ hk
  repeat' (first | refine yo ?_ ?_ | refine yw ?_ ?_ | refine yk ?_ ?_ | exact trivial | with_reducible refine wA ?_ ?_ | refine ys ?_ ?_ | refine xs_done ?_ | refine yl ?_ ?_ | refine xs_start (id := 28) true [.take 0, .take 2, .take 3, .one 1, .take 4, .one 5] 0 rfl rfl (by kernel_rfl) ?_ | (refine pop_opt 88 rfl rfl ?_) | (refine pop_unguard rfl rfl ?_) | (refine pop_gfalse rfl rfl rfl rfl ?_) | (refine tn1 hn ?_; rintro at_ b1 b2 x hx1 hx2) | (refine pop_tapl (G := G) rfl rfl rfl rfl rfl rfl rfl rfl rfl rfl rfl (by omega) rfl (fun _ => rfl) rfl (pick_t _ _ rfl (by decide) (by decide)) hn (by assumption) (by assumption) ?_; rintro at_ _ b1 b2 ⟨x, rfl, hx⟩; simp only [unL, List.mem_cons, List.not_mem_nil, or_false] at hx) | (refine xs_one (ch := [_]) rfl rfl rfl (pz decimal_t hn ?_); rintro at_ _ b1 b2 ⟨dx, rfl, hdx⟩) | refine z1 number_c ?_ | refine z2 number_c ?_ | refine z3 number_c ?_ | refine z4 number_c ?_ | refine z5 number_c ?_ | refine z1 money_c ?_ | refine z2 money_c ?_ | refine z3 money_c ?_ | refine z4 money_c ?_ | refine z5 money_c ?_ | refine z1 hours_c ?_ | refine z2 hours_c ?_ | refine z3 hours_c ?_ | refine z4 hours_c ?_ | refine z5 hours_c ?_ | refine z1 rate_c ?_ | refine z2 rate_c ?_ | refine z3 rate_c ?_ | refine z4 rate_c ?_ | refine z5 rate_c ?_ | refine z1 truth_c ?_ | refine z2 truth_c ?_ | refine z3 truth_c ?_ | refine z4 truth_c ?_ | refine z5 truth_c ?_ | refine w8 ?_ | refine w9 ?_ | refine w1 ?_ | refine w2 ?_ | refine w3 ?_ | refine w4 ?_ | refine w5 ?_ | refine w6 ?_ | refine w7 ?_ | refine yo0 ?_ ?_ | refine yw0 ?_ ?_ | (refine pcond rfl ?_ ?_ <;> intro hc) | exact qq | fail)
  all_goals first
    | (refine xdone ?_; refine ktapL [] (qs := [vX (.mk _ _ _ _ _ _ _ _ _ 0 kn)]) rfl b1 b2 (by simp) rfl ⟨Nat.zero_lt_one, trivial⟩ ⟨argEx argNil, trivial⟩ ⟨_, rfl, ?_⟩; first | exact ok_name (by decide +kernel) (by decide) (fun N S P hE => hE.f) | exact ok_name (by decide +kernel) (by decide) (fun N S P hE => hE.r3) | exact ok_truth (by omega))
    | skip
  all_goals rcases (by omega : x = 0 ∨ x = 1) with rfl | rfl
  all_goals first
    | (exfalso; omega)
    | skip
  all_goals
    repeat' (first | refine yo ?_ ?_ | refine yw ?_ ?_ | refine yk ?_ ?_ | exact trivial | with_reducible refine wA ?_ ?_ | refine ys ?_ ?_ | refine xs_done ?_ | refine yl ?_ ?_ | refine w8 ?_ | refine w9 ?_ | refine w1 ?_ | refine w2 ?_ | refine w3 ?_ | refine w4 ?_ | refine w5 ?_ | refine w6 ?_ | refine w7 ?_ | refine yo0 ?_ ?_ | refine yw0 ?_ ?_ | exact qq | fail)
    refine xdone ?_; refine ktapL [] (qs := [vX (.mk _ _ _ _ _ _ _ _ _ 0 kn)]) rfl b1 b2 (by simp) rfl ⟨Nat.zero_lt_one, trivial⟩ ⟨argEx argNil, trivial⟩ ⟨_, rfl, ?_⟩; first | exact ok_name (by decide +kernel) (by decide) (fun N S P hE => hE.f) | exact ok_name (by decide +kernel) (by decide) (fun N S P hE => hE.r3) | exact ok_truth (by omega)
end Go.Proofs.YtcghpepighboaaaDoor
