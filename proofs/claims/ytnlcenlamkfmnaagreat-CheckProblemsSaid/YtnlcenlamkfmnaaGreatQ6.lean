/- The reference's types: units, names. -/
import Derived.Test.YtnlcenlamkfmnaaGreatX8
import Derived.Test.YtnlcenlamkfmnaaGreatQ2
import Derived.Test.YtnlcenlamkfmnaaGreatQ3
set_option linter.unusedSimpArgs false
set_option linter.unusedVariables false
set_option maxRecDepth 100000
namespace Go.Proofs.YtnlcenlamkfmnaaGreat
theorem mul19_c (a b : Ty) : PureC G.P 95 [vU a.m a.h a.d, vU b.m b.h b.d] (fun r => r = vUE (combU a b 1)) := by
  have c1 := isUnit18_c a.m a.h a.d
  have c2 := isUnit18_c b.m b.h b.d
  have ag : ∀ x y : Int, -3 ≤ x ∧ x ≤ 3 → -3 ≤ y ∧ y ≤ 3 → IntKind.i64.wrap (x + y) = x + 1 * y := fun x y hx hy => by
    rw [w64 (by omega) (by omega)]; omega
  have c3 := isUnit18_c (IntKind.i64.wrap (a.m + b.m)) (IntKind.i64.wrap (a.h + b.h)) (IntKind.i64.wrap (a.d + b.d))
  refine pure_of (G := G.toPg) (fn := Tryz.f95) Tryz.func95 rfl rfl rfl ?_; intro Γ hk
  repeat' (first | refine yo ?_ ?_ | refine yw ?_ ?_ | refine yk ?_ ?_ | exact trivial | with_reducible refine wA ?_ ?_ | refine ys ?_ ?_ | refine xs_done ?_ | refine yl ?_ ?_ | refine z1 c1 ?_ | refine z2 c1 ?_ | refine z3 c1 ?_ | refine z4 c1 ?_ | refine z5 c1 ?_ | refine z1 c2 ?_ | refine z2 c2 ?_ | refine z3 c2 ?_ | refine z4 c2 ?_ | refine z5 c2 ?_ | refine w8 ?_ | refine w9 ?_ | refine w1 ?_ | refine w2 ?_ | refine w3 ?_ | refine w4 ?_ | refine w5 ?_ | refine w6 ?_ | refine w7 ?_ | refine yo0 ?_ ?_ | refine yw0 ?_ ?_ | exact qq | fail)
  refine pcond (b := !(unitS a.m a.h a.d && unitS b.m b.h b.d)) ?_ ?_ ?_
  · refine eqB ?_
    cases unitS a.m a.h a.d <;> rfl
  · intro h
    repeat' (first | refine yo ?_ ?_ | refine yw ?_ ?_ | refine yk ?_ ?_ | exact trivial | with_reducible refine wA ?_ ?_ | refine ys ?_ ?_ | refine xs_done ?_ | refine yl ?_ ?_ | refine w8 ?_ | refine w9 ?_ | refine w1 ?_ | refine w2 ?_ | refine w3 ?_ | refine w4 ?_ | refine w5 ?_ | refine w6 ?_ | refine w7 ?_ | refine yo0 ?_ ?_ | refine yw0 ?_ ?_ | exact qq | fail)
    refine kretv rfl ⟨Nat.zero_lt_one, trivial, trivial⟩ rfl ?_
    have := nb_t h
    unfold combU
    rw [if_neg (by rintro ⟨h1, h2⟩; rw [h1, h2] at this; cases this)]; rfl
  · intro h
    have h1 : unitS a.m a.h a.d = true ∧ unitS b.m b.h b.d = true := by simpa using nb_f h
    have b1 := unitS_bd h1.1
    have b2 := unitS_bd h1.2
    have e1 := ag a.m b.m b1.1 b2.1
    have e2 := ag a.h b.h b1.2.1 b2.2.1
    have e3 := ag a.d b.d b1.2.2 b2.2.2
    repeat' (first | refine yo ?_ ?_ | refine yw ?_ ?_ | refine yk ?_ ?_ | exact trivial | with_reducible refine wA ?_ ?_ | refine ys ?_ ?_ | refine xs_done ?_ | refine yl ?_ ?_ | refine z1 c3 ?_ | refine z2 c3 ?_ | refine z3 c3 ?_ | refine z4 c3 ?_ | refine z5 c3 ?_ | refine w8 ?_ | refine w9 ?_ | refine w1 ?_ | refine w2 ?_ | refine w3 ?_ | refine w4 ?_ | refine w5 ?_ | refine w6 ?_ | refine w7 ?_ | refine yo0 ?_ ?_ | refine yw0 ?_ ?_ | exact qq | fail)
    refine pcond rfl ?_ ?_ <;> intro hc
    · have hc := nb_t hc
      rw [e1, e2, e3] at hc
      repeat' (first | refine yo ?_ ?_ | refine yw ?_ ?_ | refine yk ?_ ?_ | exact trivial | with_reducible refine wA ?_ ?_ | refine ys ?_ ?_ | refine xs_done ?_ | refine yl ?_ ?_ | refine w8 ?_ | refine w9 ?_ | refine w1 ?_ | refine w2 ?_ | refine w3 ?_ | refine w4 ?_ | refine w5 ?_ | refine w6 ?_ | refine w7 ?_ | refine yo0 ?_ ?_ | refine yw0 ?_ ?_ | exact qq | fail)
      refine kretv rfl ⟨Nat.zero_lt_one, trivial, trivial⟩ rfl ?_
      unfold combU
      rw [if_pos h1, if_neg (by rw [hc]; simp)]; rfl
    · have hc := nb_f hc
      rw [e1, e2, e3] at hc
      repeat' (first | refine yo ?_ ?_ | refine yw ?_ ?_ | refine yk ?_ ?_ | exact trivial | with_reducible refine wA ?_ ?_ | refine ys ?_ ?_ | refine xs_done ?_ | refine yl ?_ ?_ | refine w8 ?_ | refine w9 ?_ | refine w1 ?_ | refine w2 ?_ | refine w3 ?_ | refine w4 ?_ | refine w5 ?_ | refine w6 ?_ | refine w7 ?_ | refine yo0 ?_ ?_ | refine yw0 ?_ ?_ | exact qq | fail)
      refine kretv rfl ⟨Nat.zero_lt_one, trivial, trivial⟩ rfl ?_
      unfold combU
      rw [if_pos h1, if_pos hc]
      rw [e1, e2, e3]; rfl
theorem div19_c (a b : Ty) : PureC G.P 96 [vU a.m a.h a.d, vU b.m b.h b.d] (fun r => r = vUE (combU a b (-1))) := by
  have c1 := isUnit18_c a.m a.h a.d
  have c2 := isUnit18_c b.m b.h b.d
  have c3 := mul19_c a ⟨false, IntKind.i64.wrap (0 - b.m), IntKind.i64.wrap (0 - b.h), IntKind.i64.wrap (0 - b.d)⟩
  refine pure_of (G := G.toPg) (fn := Tryz.f96) Tryz.func96 rfl rfl rfl ?_; intro Γ hk
  repeat' (first | refine yo ?_ ?_ | refine yw ?_ ?_ | refine yk ?_ ?_ | exact trivial | with_reducible refine wA ?_ ?_ | refine ys ?_ ?_ | refine xs_done ?_ | refine yl ?_ ?_ | refine z1 c1 ?_ | refine z2 c1 ?_ | refine z3 c1 ?_ | refine z4 c1 ?_ | refine z5 c1 ?_ | refine z1 c2 ?_ | refine z2 c2 ?_ | refine z3 c2 ?_ | refine z4 c2 ?_ | refine z5 c2 ?_ | refine w8 ?_ | refine w9 ?_ | refine w1 ?_ | refine w2 ?_ | refine w3 ?_ | refine w4 ?_ | refine w5 ?_ | refine w6 ?_ | refine w7 ?_ | refine yo0 ?_ ?_ | refine yw0 ?_ ?_ | exact qq | fail)
  refine pcond (b := !(unitS a.m a.h a.d && unitS b.m b.h b.d)) ?_ ?_ ?_
  · refine eqB ?_
    cases unitS a.m a.h a.d <;> rfl
  · intro h
    repeat' (first | refine yo ?_ ?_ | refine yw ?_ ?_ | refine yk ?_ ?_ | exact trivial | with_reducible refine wA ?_ ?_ | refine ys ?_ ?_ | refine xs_done ?_ | refine yl ?_ ?_ | refine w8 ?_ | refine w9 ?_ | refine w1 ?_ | refine w2 ?_ | refine w3 ?_ | refine w4 ?_ | refine w5 ?_ | refine w6 ?_ | refine w7 ?_ | refine yo0 ?_ ?_ | refine yw0 ?_ ?_ | exact qq | fail)
    refine kretv rfl ⟨Nat.zero_lt_one, trivial, trivial⟩ rfl ?_
    have := nb_t h
    unfold combU
    rw [if_neg (by rintro ⟨h1, h2⟩; rw [h1, h2] at this; cases this)]; rfl
  · intro h
    have h1 : unitS a.m a.h a.d = true ∧ unitS b.m b.h b.d = true := by simpa using nb_f h
    have b2 := unitS_bd h1.2
    have e1 : IntKind.i64.wrap (0 - b.m) = -b.m := by rw [w64 (by omega) (by omega)]; omega
    have e2 : IntKind.i64.wrap (0 - b.h) = -b.h := by rw [w64 (by omega) (by omega)]; omega
    have e3 : IntKind.i64.wrap (0 - b.d) = -b.d := by rw [w64 (by omega) (by omega)]; omega
    have hu : combU a ⟨false, IntKind.i64.wrap (0 - b.m), IntKind.i64.wrap (0 - b.h), IntKind.i64.wrap (0 - b.d)⟩ 1 = combU a b (-1) := by
      rw [e1, e2, e3]
      have u2 : unitS (-b.m) (-b.h) (-b.d) = true := by
        unfold unitS
        simp only [Bool.and_eq_true, decide_eq_true_eq]
        omega
      unfold combU
      rw [if_pos ⟨h1.1, u2⟩, if_pos h1]
      show (if unitS (a.m + 1 * -b.m) (a.h + 1 * -b.h) (a.d + 1 * -b.d) = true then ((a.m + 1 * -b.m, a.h + 1 * -b.h, a.d + 1 * -b.d), (0 : Int)) else _) = _
      rw [show a.m + 1 * -b.m = a.m + -1 * b.m by omega, show a.h + 1 * -b.h = a.h + -1 * b.h by omega, show a.d + 1 * -b.d = a.d + -1 * b.d by omega]
    rw [hu] at c3
    repeat' (first | refine yo ?_ ?_ | refine yw ?_ ?_ | refine yk ?_ ?_ | exact trivial | with_reducible refine wA ?_ ?_ | refine ys ?_ ?_ | refine xs_done ?_ | refine yl ?_ ?_ | refine z1 c3 ?_ | refine z2 c3 ?_ | refine z3 c3 ?_ | refine z4 c3 ?_ | refine z5 c3 ?_ | refine w8 ?_ | refine w9 ?_ | refine w1 ?_ | refine w2 ?_ | refine w3 ?_ | refine w4 ?_ | refine w5 ?_ | refine w6 ?_ | refine w7 ?_ | refine yo0 ?_ ?_ | refine yw0 ?_ ?_ | exact qq | fail)
    refine kretv rfl ⟨Nat.zero_lt_one, trivial, trivial⟩ rfl ?_
    rfl
theorem named_c (l : List Df) (s : ByteArray) (hl : l.length ≤ 1000000) : PureC G.P 93 [vDs l, vs s] (fun r => r = vTE (findS l s)) := by
  refine pure_of (G := G.toPg) (fn := Tryz.f93) Tryz.func93 rfl rfl rfl ?_; intro Γ hk
  repeat' (first | refine yo ?_ ?_ | refine yw ?_ ?_ | refine yk ?_ ?_ | exact trivial | with_reducible refine wA ?_ ?_ | refine ys ?_ ?_ | refine xs_done ?_ | refine yl ?_ ?_ | refine w8 ?_ | refine w9 ?_ | refine w1 ?_ | refine w2 ?_ | refine w3 ?_ | refine w4 ?_ | refine w5 ?_ | refine w6 ?_ | refine w7 ?_ | refine yo0 ?_ ?_ | refine yw0 ?_ ?_ | exact qq | fail)
  refine pcan (st' := ⟨[(0, vDs l), (1, vs s), (4, .ptr 0 0 0), (6, vi ((0 : Nat) : Int))], [rT t0]⟩) (can_rowsv [0] (k0_sel hk rfl) rfl (by (repeat (refine SelV.cons rfl rqq ?_)); exact SelV.nil) tmq) ?_
  refine ploop (fun q st => ∃ i : Nat, i ≤ l.length ∧ (∀ j, j < i → (lF dD l j).nm.toList ≠ s.toList) ∧ q = l.length - i ∧ st = ⟨[(0, vDs l), (1, vs s), (4, .ptr 0 0 0), (6, vi i)], [rT t0]⟩) l.length ⟨0, by omega, fun j hj => by omega, by omega, rfl⟩ ?_
  rintro _ _ ⟨i, hi, hv, rfl, rfl⟩
  repeat' (first | refine yo ?_ ?_ | refine yw ?_ ?_ | refine yk ?_ ?_ | exact trivial | with_reducible refine wA ?_ ?_ | refine ys ?_ ?_ | refine xs_done ?_ | refine yl ?_ ?_ | refine w8 ?_ | refine w9 ?_ | refine w1 ?_ | refine w2 ?_ | refine w3 ?_ | refine w4 ?_ | refine w5 ?_ | refine w6 ?_ | refine w7 ?_ | refine yo0 ?_ ?_ | refine yw0 ?_ ?_ | exact qq | fail)
  refine pcond rfl ?_ ?_ <;> intro hc <;> simp at hc
  · repeat' (first | refine yo ?_ ?_ | refine yw ?_ ?_ | refine yk ?_ ?_ | exact trivial | with_reducible refine wA ?_ ?_ | refine ys ?_ ?_ | refine xs_done ?_ | refine yl ?_ ?_ | refine w8 ?_ | refine w9 ?_ | refine w1 ?_ | refine w2 ?_ | refine w3 ?_ | refine w4 ?_ | refine w5 ?_ | refine w6 ?_ | refine w7 ?_ | refine yo0 ?_ ?_ | refine yw0 ?_ ?_ | exact qq | fail)
    refine pcond rfl ?_ ?_ <;> intro h1
    · have h1 : (lF dD l i).nm.toList ≠ s.toList := by have := nb_t h1; simpa using this
      repeat' (first | refine yo ?_ ?_ | refine yw ?_ ?_ | refine yk ?_ ?_ | exact trivial | with_reducible refine wA ?_ ?_ | refine ys ?_ ?_ | refine xs_done ?_ | refine yl ?_ ?_ | refine w8 ?_ | refine w9 ?_ | refine w1 ?_ | refine w2 ?_ | refine w3 ?_ | refine w4 ?_ | refine w5 ?_ | refine w6 ?_ | refine w7 ?_ | refine yo0 ?_ ?_ | refine yw0 ?_ ?_ | exact qq | fail)
      rw [show IntKind.i64.wrap ((i : Int) + 1) = ((i + 1 : Nat) : Int) from w64 (by omega) (by omega)]
      exact kloop_next (st' := ⟨[(0, vDs l), (1, vs s), (4, .ptr 0 0 0), (6, vi ((i + 1 : Nat) : Int))], [rT t0]⟩) (l.length - (i + 1)) (can_rowsv [0] (k0_sel hk rfl) rfl (by (repeat (refine SelV.cons rfl rqq ?_)); exact SelV.nil) tmq) (by omega) ⟨i + 1, by omega, fun j hj => by
        by_cases e : j = i
        · subst e; exact h1
        · exact hv j (by omega), rfl, rfl⟩
    · have h1 : (lF dD l i).nm.toList = s.toList := by have := nb_f h1; simpa using this
      have hf := findS_at s l i hc hv h1
      repeat' (first | refine yo ?_ ?_ | refine yw ?_ ?_ | refine yk ?_ ?_ | exact trivial | with_reducible refine wA ?_ ?_ | refine ys ?_ ?_ | refine xs_done ?_ | refine yl ?_ ?_ | refine w8 ?_ | refine w9 ?_ | refine w1 ?_ | refine w2 ?_ | refine w3 ?_ | refine w4 ?_ | refine w5 ?_ | refine w6 ?_ | refine w7 ?_ | refine yo0 ?_ ?_ | refine yw0 ?_ ?_ | exact qq | fail)
      refine pcond rfl ?_ ?_ <;> intro h2
      · have h2 : (lF dD l i).kind = 4 := by have : ((lF dD l i).kind == 4) = true := h2; simpa using this
        repeat' (first | refine yo ?_ ?_ | refine yw ?_ ?_ | refine yk ?_ ?_ | exact trivial | with_reducible refine wA ?_ ?_ | refine ys ?_ ?_ | refine xs_done ?_ | refine yl ?_ ?_ | refine w8 ?_ | refine w9 ?_ | refine w1 ?_ | refine w2 ?_ | refine w3 ?_ | refine w4 ?_ | refine w5 ?_ | refine w6 ?_ | refine w7 ?_ | refine yo0 ?_ ?_ | refine yw0 ?_ ?_ | exact qq | fail)
        refine kretv rfl ⟨Nat.zero_lt_one, trivial, trivial⟩ rfl ?_
        rw [hf, if_pos h2]; rfl
      · have h2 : ¬ (lF dD l i).kind = 4 := by have : ((lF dD l i).kind == 4) = false := h2; simpa using this
        repeat' (first | refine yo ?_ ?_ | refine yw ?_ ?_ | refine yk ?_ ?_ | exact trivial | with_reducible refine wA ?_ ?_ | refine ys ?_ ?_ | refine xs_done ?_ | refine yl ?_ ?_ | refine w8 ?_ | refine w9 ?_ | refine w1 ?_ | refine w2 ?_ | refine w3 ?_ | refine w4 ?_ | refine w5 ?_ | refine w6 ?_ | refine w7 ?_ | refine yo0 ?_ ?_ | refine yw0 ?_ ?_ | exact qq | fail)
        refine kretv rfl ⟨Nat.zero_lt_one, trivial, trivial⟩ rfl ?_
        rw [hf, if_neg h2]; rfl
  · repeat' (first | refine yo ?_ ?_ | refine yw ?_ ?_ | refine yk ?_ ?_ | exact trivial | with_reducible refine wA ?_ ?_ | refine ys ?_ ?_ | refine xs_done ?_ | refine yl ?_ ?_ | refine w8 ?_ | refine w9 ?_ | refine w1 ?_ | refine w2 ?_ | refine w3 ?_ | refine w4 ?_ | refine w5 ?_ | refine w6 ?_ | refine w7 ?_ | refine yo0 ?_ ?_ | refine yw0 ?_ ?_ | exact qq | fail)
    refine kretv rfl ⟨Nat.zero_lt_one, trivial, trivial⟩ rfl ?_
    rw [findS_none s l fun j hj => hv j (by omega)]; rfl
theorem equal19_c (a b : Ty) : PureC G.P 94 [vT a, vT b] (fun r => r = vi (equS a b)) := by
  refine pure_of (G := G.toPg) (fn := Tryz.f94) Tryz.func94 rfl rfl rfl ?_; intro Γ hk
  repeat' (first | refine yo ?_ ?_ | refine yw ?_ ?_ | refine yk ?_ ?_ | exact trivial | with_reducible refine wA ?_ ?_ | refine ys ?_ ?_ | refine xs_done ?_ | refine yl ?_ ?_ | refine w8 ?_ | refine w9 ?_ | refine w1 ?_ | refine w2 ?_ | refine w3 ?_ | refine w4 ?_ | refine w5 ?_ | refine w6 ?_ | refine w7 ?_ | refine yo0 ?_ ?_ | refine yw0 ?_ ?_ | exact qq | fail)
  refine pcond (b := decide (a.b = true ∨ b.b = true)) ?_ ?_ ?_
  · refine eqB ?_
    cases a.b <;> cases b.b <;> rfl
  · intro h
    have h := of_decide_eq_true h
    repeat' (first | refine yo ?_ ?_ | refine yw ?_ ?_ | refine yk ?_ ?_ | exact trivial | with_reducible refine wA ?_ ?_ | refine ys ?_ ?_ | refine xs_done ?_ | refine yl ?_ ?_ | refine w8 ?_ | refine w9 ?_ | refine w1 ?_ | refine w2 ?_ | refine w3 ?_ | refine w4 ?_ | refine w5 ?_ | refine w6 ?_ | refine w7 ?_ | refine yo0 ?_ ?_ | refine yw0 ?_ ?_ | exact qq | fail)
    refine kretv rfl ⟨trivial, trivial⟩ rfl (eqI ?_)
    unfold equS; rw [if_pos h]
  · intro h
    have h := of_decide_eq_false h
    repeat' (first | refine yo ?_ ?_ | refine yw ?_ ?_ | refine yk ?_ ?_ | exact trivial | with_reducible refine wA ?_ ?_ | refine ys ?_ ?_ | refine xs_done ?_ | refine yl ?_ ?_ | refine w8 ?_ | refine w9 ?_ | refine w1 ?_ | refine w2 ?_ | refine w3 ?_ | refine w4 ?_ | refine w5 ?_ | refine w6 ?_ | refine w7 ?_ | refine yo0 ?_ ?_ | refine yw0 ?_ ?_ | exact qq | fail)
    refine pcond (b := decide (¬ (a.m = b.m ∧ a.h = b.h ∧ a.d = b.d))) ?_ ?_ ?_
    · refine eqB ?_
      rw [Bool.eq_iff_iff]; simp
    · intro h2
      have h2 := of_decide_eq_true h2
      repeat' (first | refine yo ?_ ?_ | refine yw ?_ ?_ | refine yk ?_ ?_ | exact trivial | with_reducible refine wA ?_ ?_ | refine ys ?_ ?_ | refine xs_done ?_ | refine yl ?_ ?_ | refine w8 ?_ | refine w9 ?_ | refine w1 ?_ | refine w2 ?_ | refine w3 ?_ | refine w4 ?_ | refine w5 ?_ | refine w6 ?_ | refine w7 ?_ | refine yo0 ?_ ?_ | refine yw0 ?_ ?_ | exact qq | fail)
      refine kretv rfl ⟨trivial, trivial⟩ rfl (eqI ?_)
      unfold equS; rw [if_neg h, if_neg h2]
    · intro h2
      have h2 := Decidable.not_not.1 (of_decide_eq_false h2)
      repeat' (first | refine yo ?_ ?_ | refine yw ?_ ?_ | refine yk ?_ ?_ | exact trivial | with_reducible refine wA ?_ ?_ | refine ys ?_ ?_ | refine xs_done ?_ | refine yl ?_ ?_ | refine w8 ?_ | refine w9 ?_ | refine w1 ?_ | refine w2 ?_ | refine w3 ?_ | refine w4 ?_ | refine w5 ?_ | refine w6 ?_ | refine w7 ?_ | refine yo0 ?_ ?_ | refine yw0 ?_ ?_ | exact qq | fail)
      refine kretv rfl ⟨trivial, trivial⟩ rfl (eqI ?_)
      unfold equS; rw [if_neg h, if_pos h2]
abbrev rAg18 (nm : ByteArray) (l : List Df) : Row := ⟨.own, true, 1, 2, fun _ => nthP [vs nm, vDs l]⟩
theorem valid18_c (nm : ByteArray) (l : List Df) (hs : nm.size ≤ 9223372036854775807) (hb : ∀ d, d ∈ l → BdD d) : PureC G.P 35 [vA nm l] (fun r => r = vb (agrS nm l)) := by
  have c1 := isName17_c nm hs
  have at_ : ∀ i, i < l.length → lF dD l i ∈ l := fun i hi => by
    unfold lF; rw [List.getD_eq_getElem?_getD, List.getElem?_eq_getElem hi]; exact List.getElem_mem _
  refine pure_of (G := G.toPg) (fn := Tryz.f35) Tryz.func35 rfl rfl rfl ?_; intro Γ hk
  repeat' (first | refine yo ?_ ?_ | refine yw ?_ ?_ | refine yk ?_ ?_ | exact trivial | with_reducible refine wA ?_ ?_ | refine ys ?_ ?_ | refine xs_done ?_ | refine yl ?_ ?_ | refine z1 c1 ?_ | refine z2 c1 ?_ | refine z3 c1 ?_ | refine z4 c1 ?_ | refine z5 c1 ?_ | refine w8 ?_ | refine w9 ?_ | refine w1 ?_ | refine w2 ?_ | refine w3 ?_ | refine w4 ?_ | refine w5 ?_ | refine w6 ?_ | refine w7 ?_ | refine yo0 ?_ ?_ | refine yw0 ?_ ?_ | exact qq | fail)
  refine pcond (b := !(nameS nm && decide (l.length ≤ 128))) ?_ ?_ ?_
  · refine eqB ?_
    show (bif !nameS nm then true else decide ((128 : Int) < (l.length : Int))) = _
    cases nameS nm
    · rfl
    · rw [Bool.eq_iff_iff]; simp; omega
  · intro h
    repeat' (first | refine yo ?_ ?_ | refine yw ?_ ?_ | refine yk ?_ ?_ | exact trivial | with_reducible refine wA ?_ ?_ | refine ys ?_ ?_ | refine xs_done ?_ | refine yl ?_ ?_ | refine w8 ?_ | refine w9 ?_ | refine w1 ?_ | refine w2 ?_ | refine w3 ?_ | refine w4 ?_ | refine w5 ?_ | refine w6 ?_ | refine w7 ?_ | refine yo0 ?_ ?_ | refine yw0 ?_ ?_ | exact qq | fail)
    refine kretv rfl ⟨trivial, trivial⟩ rfl (eqB ?_)
    have := nb18_t h
    unfold agrS
    revert this
    cases nameS nm <;> cases decide (l.length ≤ 128) <;> simp
  · intro h
    have h2 := nb18_f h
    have h3 : nameS nm = true ∧ l.length ≤ 128 := by simpa using h2
    repeat' (first | refine yo ?_ ?_ | refine yw ?_ ?_ | refine yk ?_ ?_ | exact trivial | with_reducible refine wA ?_ ?_ | refine ys ?_ ?_ | refine xs_done ?_ | refine yl ?_ ?_ | refine w8 ?_ | refine w9 ?_ | refine w1 ?_ | refine w2 ?_ | refine w3 ?_ | refine w4 ?_ | refine w5 ?_ | refine w6 ?_ | refine w7 ?_ | refine yo0 ?_ ?_ | refine yw0 ?_ ?_ | exact qq | fail)
    refine pcan (st' := ⟨[(1, .ptr 0 0 0), (3, vi ((0 : Nat) : Int))], [rAg18 nm l]⟩) (can_rowsv [0] (k0_sel hk rfl) rfl (.cons rfl rqq .nil) tmq) ?_
    refine ploop (fun q st => ∃ i : Nat, i ≤ l.length ∧ (∀ j, j < i → (nameS (lF dD l j).nm && defS (lF dD l j)) = true) ∧ q = l.length - i ∧ st = ⟨[(1, .ptr 0 0 0), (3, vi i)], [rAg18 nm l]⟩) l.length ⟨0, by omega, fun j hj => by omega, by omega, rfl⟩ ?_
    rintro _ _ ⟨i, hi, hv, rfl, rfl⟩
    repeat' (first | refine yo ?_ ?_ | refine yw ?_ ?_ | refine yk ?_ ?_ | exact trivial | with_reducible refine wA ?_ ?_ | refine ys ?_ ?_ | refine xs_done ?_ | refine yl ?_ ?_ | refine w8 ?_ | refine w9 ?_ | refine w1 ?_ | refine w2 ?_ | refine w3 ?_ | refine w4 ?_ | refine w5 ?_ | refine w6 ?_ | refine w7 ?_ | refine yo0 ?_ ?_ | refine yw0 ?_ ?_ | exact qq | fail)
    refine pcond rfl ?_ ?_ <;> intro hc <;> simp at hc
    · have hbd := hb _ (at_ i hc)
      have c3 := validDef18_c (lF dD l i) hbd
      repeat' (first | refine yo ?_ ?_ | refine yw ?_ ?_ | refine yk ?_ ?_ | exact trivial | with_reducible refine wA ?_ ?_ | refine ys ?_ ?_ | refine xs_done ?_ | refine yl ?_ ?_ | refine z1 c3 ?_ | refine z2 c3 ?_ | refine z3 c3 ?_ | refine z4 c3 ?_ | refine z5 c3 ?_ | refine w8 ?_ | refine w9 ?_ | refine w1 ?_ | refine w2 ?_ | refine w3 ?_ | refine w4 ?_ | refine w5 ?_ | refine w6 ?_ | refine w7 ?_ | refine yo0 ?_ ?_ | refine yw0 ?_ ?_ | exact qq | fail)
      refine pcond (b := !(nameS (lF dD l i).nm && defS (lF dD l i))) ?_ ?_ ?_
      · exact eqB rfl
      · intro h4
        have h5 := nb18_t h4
        repeat' (first | refine yo ?_ ?_ | refine yw ?_ ?_ | refine yk ?_ ?_ | exact trivial | with_reducible refine wA ?_ ?_ | refine ys ?_ ?_ | refine xs_done ?_ | refine yl ?_ ?_ | refine w8 ?_ | refine w9 ?_ | refine w1 ?_ | refine w2 ?_ | refine w3 ?_ | refine w4 ?_ | refine w5 ?_ | refine w6 ?_ | refine w7 ?_ | refine yo0 ?_ ?_ | refine yw0 ?_ ?_ | exact qq | fail)
        refine kretv rfl ⟨trivial, trivial⟩ rfl (eqB ?_)
        unfold agrS
        have : l.all (fun d => nameS d.nm && defS d) = false := by
          rw [List.all_eq_false]
          exact ⟨_, at_ i hc, by rw [h5]; simp⟩
        rw [this]; simp
      · intro h4
        have h5 := nb18_f h4
        repeat' (first | refine yo ?_ ?_ | refine yw ?_ ?_ | refine yk ?_ ?_ | exact trivial | with_reducible refine wA ?_ ?_ | refine ys ?_ ?_ | refine xs_done ?_ | refine yl ?_ ?_ | refine w8 ?_ | refine w9 ?_ | refine w1 ?_ | refine w2 ?_ | refine w3 ?_ | refine w4 ?_ | refine w5 ?_ | refine w6 ?_ | refine w7 ?_ | refine yo0 ?_ ?_ | refine yw0 ?_ ?_ | exact qq | fail)
        rw [show IntKind.i64.wrap ((i : Int) + 1) = ((i + 1 : Nat) : Int) from w64 (by omega) (by omega)]
        exact kloop_next (st' := ⟨[(1, .ptr 0 0 0), (3, vi ((i + 1 : Nat) : Int))], [rAg18 nm l]⟩) (l.length - (i + 1)) (can_rowsv [0] (k0_sel hk rfl) rfl (.cons rfl rqq .nil) tmq) (by omega) ⟨i + 1, by omega, fun j hj => by
          by_cases e : j = i
          · subst e; exact h5
          · exact hv j (by omega), rfl, rfl⟩
    · repeat' (first | refine yo ?_ ?_ | refine yw ?_ ?_ | refine yk ?_ ?_ | exact trivial | with_reducible refine wA ?_ ?_ | refine ys ?_ ?_ | refine xs_done ?_ | refine yl ?_ ?_ | refine w8 ?_ | refine w9 ?_ | refine w1 ?_ | refine w2 ?_ | refine w3 ?_ | refine w4 ?_ | refine w5 ?_ | refine w6 ?_ | refine w7 ?_ | refine yo0 ?_ ?_ | refine yw0 ?_ ?_ | exact qq | fail)
      refine kretv rfl ⟨trivial, trivial⟩ rfl (eqB ?_)
      unfold agrS
      have : l.all (fun d => nameS d.nm && defS d) = true := by
        rw [List.all_eq_true]
        intro d hd
        obtain ⟨j, hj, e⟩ := List.getElem_of_mem hd
        have := hv j (by omega)
        unfold lF at this
        rw [List.getD_eq_getElem?_getD, List.getElem?_eq_getElem hj, e] at this
        exact this
      rw [h3.1, decide_eq_true h3.2, this]; rfl
theorem vte {x y : Ty} {s t : Int} (h : (x, s) = (y, t)) : PV.tup 2 (nthP [vT x, vi s]) = vTE (y, t) := by cases h; rfl
set_option maxHeartbeats 40000000 in
theorem of19_c (N S P : List Df) (hN : N.length ≤ 1000000) (hS : S.length ≤ 1000000) (hP : P.length ≤ 1000000) : ∀ (n : Nat) (e : Ex), validS n e = true → PureC G.P 74 [vSc N S P, vX e] (fun r => r = vTE (typeS N S P n e))
  | 0, e, hv => by cases hv
  | n + 1, e, hv => by
    have hv0 := hv
    simp only [validS, Bool.and_eq_true, decide_eq_true_eq] at hv
    obtain ⟨hnk, hfl, hks⟩ := hv
    have hks := allK_iff.1 hks
    have ih : ∀ i, i < e.nk → PureC G.P 74 [vSc N S P, vX (e.kf i)] (fun r => r = vTE (typeS N S P n (e.kf i))) := fun i hi => of19_c N S P hN hS hP n (e.kf i) (hks i hi)
    have hk3 := kidsN_le e.op
    obtain ⟨T, hT⟩ : ∃ T : Nat → Ty × Int, ∀ i, typeS N S P n (e.kf i) = T i := ⟨_, fun _ => rfl⟩
    obtain ⟨t1, t2⟩ := typeS_succ N S P n e hT (by omega)
    generalize typeS N S P (n + 1) e = R at *
    simp only [hT] at ih
    refine pure_of (G := G.toPg) (fn := Tryz.f74) Tryz.func74 rfl rfl rfl ?_; intro Γ hk
    repeat' (first | refine yo ?_ ?_ | refine yw ?_ ?_ | refine yk ?_ ?_ | exact trivial | with_reducible refine wA ?_ ?_ | refine ys ?_ ?_ | refine xs_done ?_ | refine yl ?_ ?_ | refine w8 ?_ | refine w9 ?_ | refine w1 ?_ | refine w2 ?_ | refine w3 ?_ | refine w4 ?_ | refine w5 ?_ | refine w6 ?_ | refine w7 ?_ | refine yo0 ?_ ?_ | refine yw0 ?_ ?_ | exact qq | fail)
    refine pcan (st' := ⟨[(2, .ptr 0 0 0), (3, .ptr 1 0 0), (4, .ptr 2 0 0), (6, .ptr 3 0 0), (7, vi ((0 : Nat) : Int))], [rSc N S P, rX18 e, rT t0, rK (kt T 0 0) (kt T 0 1) (kt T 0 2)]⟩) (can_rowsv [0, 1, 2, 3] (k0_sel hk rfl) rfl (.cons rfl rqq (.cons rfl (var_eq ⟨PEq.refl _, PEq.refl _, PEq.refl _, PEq.refl _, PEq.refl _, PEq.refl _, PEq.refl _, PEq.refl _, PEq.refl _, peqK18 e, trivial⟩) (.cons rfl rqq (.cons rfl rqq .nil)))) tmq) ?_
    refine ploop (fun q st => ∃ i : Nat, i ≤ e.nk ∧ (∀ j, j < i → (T j).2 = 0) ∧ q = e.nk - i ∧ st = ⟨[(2, .ptr 0 0 0), (3, .ptr 1 0 0), (4, .ptr 2 0 0), (6, .ptr 3 0 0), (7, vi i)], [rSc N S P, rX18 e, rT t0, rK (kt T i 0) (kt T i 1) (kt T i 2)]⟩) e.nk ⟨0, by omega, fun j hj => by omega, by omega, rfl⟩ ?_
    rintro _ _ ⟨i, hi, hz, rfl, rfl⟩
    repeat' (first | refine yo ?_ ?_ | refine yw ?_ ?_ | refine yk ?_ ?_ | exact trivial | with_reducible refine wA ?_ ?_ | refine ys ?_ ?_ | refine xs_done ?_ | refine yl ?_ ?_ | refine w8 ?_ | refine w9 ?_ | refine w1 ?_ | refine w2 ?_ | refine w3 ?_ | refine w4 ?_ | refine w5 ?_ | refine w6 ?_ | refine w7 ?_ | refine yo0 ?_ ?_ | refine yw0 ?_ ?_ | exact qq | fail)
    refine pcond rfl ?_ ?_ <;> intro hc <;> simp at hc
    · have c1 := ih i hc
      repeat' (first | refine yo ?_ ?_ | refine yw ?_ ?_ | refine yk ?_ ?_ | exact trivial | with_reducible refine wA ?_ ?_ | refine ys ?_ ?_ | refine xs_done ?_ | refine yl ?_ ?_ | refine xs_start (id := 5) true [.take 0, .take 1, .take 2, .take 3, .take 4, .take 5, .take 6, .take 7, .take 8, .take 9, .one 10, .one 11, .take 12] 0 rfl rfl (by kernel_rfl) ?_ | refine z1 c1 ?_ | refine z2 c1 ?_ | refine z3 c1 ?_ | refine z4 c1 ?_ | refine z5 c1 ?_ | refine w8 ?_ | refine w9 ?_ | refine w1 ?_ | refine w2 ?_ | refine w3 ?_ | refine w4 ?_ | refine w5 ?_ | refine w6 ?_ | refine w7 ?_ | refine yo0 ?_ ?_ | refine yw0 ?_ ?_ | exact qq | fail)
      refine pcond rfl ?_ ?_ <;> intro hc2
      · have hc2 : (T i).2 ≠ 0 := by simpa using hc2
        repeat' (first | refine yo ?_ ?_ | refine yw ?_ ?_ | refine yk ?_ ?_ | exact trivial | with_reducible refine wA ?_ ?_ | refine ys ?_ ?_ | refine xs_done ?_ | refine yl ?_ ?_ | refine w8 ?_ | refine w9 ?_ | refine w1 ?_ | refine w2 ?_ | refine w3 ?_ | refine w4 ?_ | refine w5 ?_ | refine w6 ?_ | refine w7 ?_ | refine yo0 ?_ ?_ | refine yw0 ?_ ?_ | exact qq | fail)
        refine kretv rfl ⟨Nat.zero_lt_one, trivial, trivial⟩ rfl ?_
        rw [t1 i hc hz hc2]; rfl
      · have hc2 : (T i).2 = 0 := by simpa using hc2
        rcases (by omega : i = 0 ∨ i = 1 ∨ i = 2) with rfl | rfl | rfl
        · repeat' (first | refine yo ?_ ?_ | refine yw ?_ ?_ | refine yk ?_ ?_ | exact trivial | with_reducible refine wA ?_ ?_ | refine ys ?_ ?_ | refine xs_done ?_ | refine yl ?_ ?_ | refine w8 ?_ | refine w9 ?_ | refine w1 ?_ | refine w2 ?_ | refine w3 ?_ | refine w4 ?_ | refine w5 ?_ | refine w6 ?_ | refine w7 ?_ | refine yo0 ?_ ?_ | refine yw0 ?_ ?_ | exact qq | fail)
          exact kloop_next (st' := ⟨[(2, .ptr 0 0 0), (3, .ptr 1 0 0), (4, .ptr 2 0 0), (6, .ptr 3 0 0), (7, vi ((0 + 1 : Nat) : Int))], [rSc N S P, rX18 e, rT t0, rK (kt T (0 + 1) 0) (kt T (0 + 1) 1) (kt T (0 + 1) 2)]⟩) (e.nk - (0 + 1)) (can_rowsv [0, 1, 2, 3] (k0_sel hk rfl) rfl (.cons rfl rqq (.cons rfl (RowEq.cl (rX18_cl e)) (.cons rfl rqq (.cons rfl rqq .nil)))) tmq) (by omega) ⟨0 + 1, by omega, fun j hj => by
            obtain rfl : j = 0 := by omega
            exact hc2, rfl, rfl⟩
        · repeat' (first | refine yo ?_ ?_ | refine yw ?_ ?_ | refine yk ?_ ?_ | exact trivial | with_reducible refine wA ?_ ?_ | refine ys ?_ ?_ | refine xs_done ?_ | refine yl ?_ ?_ | refine w8 ?_ | refine w9 ?_ | refine w1 ?_ | refine w2 ?_ | refine w3 ?_ | refine w4 ?_ | refine w5 ?_ | refine w6 ?_ | refine w7 ?_ | refine yo0 ?_ ?_ | refine yw0 ?_ ?_ | exact qq | fail)
          exact kloop_next (st' := ⟨[(2, .ptr 0 0 0), (3, .ptr 1 0 0), (4, .ptr 2 0 0), (6, .ptr 3 0 0), (7, vi ((1 + 1 : Nat) : Int))], [rSc N S P, rX18 e, rT t0, rK (kt T (1 + 1) 0) (kt T (1 + 1) 1) (kt T (1 + 1) 2)]⟩) (e.nk - (1 + 1)) (can_rowsv [0, 1, 2, 3] (k0_sel hk rfl) rfl (.cons rfl rqq (.cons rfl (RowEq.cl (rX18_cl e)) (.cons rfl rqq (.cons rfl rqq .nil)))) tmq) (by omega) ⟨1 + 1, by omega, fun j hj => by
            rcases (by omega : j < 1 ∨ j = 1) with h | rfl
            · exact hz j h
            · exact hc2, rfl, rfl⟩
        · repeat' (first | refine yo ?_ ?_ | refine yw ?_ ?_ | refine yk ?_ ?_ | exact trivial | with_reducible refine wA ?_ ?_ | refine ys ?_ ?_ | refine xs_done ?_ | refine yl ?_ ?_ | refine w8 ?_ | refine w9 ?_ | refine w1 ?_ | refine w2 ?_ | refine w3 ?_ | refine w4 ?_ | refine w5 ?_ | refine w6 ?_ | refine w7 ?_ | refine yo0 ?_ ?_ | refine yw0 ?_ ?_ | exact qq | fail)
          exact kloop_next (st' := ⟨[(2, .ptr 0 0 0), (3, .ptr 1 0 0), (4, .ptr 2 0 0), (6, .ptr 3 0 0), (7, vi ((2 + 1 : Nat) : Int))], [rSc N S P, rX18 e, rT t0, rK (kt T (2 + 1) 0) (kt T (2 + 1) 1) (kt T (2 + 1) 2)]⟩) (e.nk - (2 + 1)) (can_rowsv [0, 1, 2, 3] (k0_sel hk rfl) rfl (.cons rfl rqq (.cons rfl (RowEq.cl (rX18_cl e)) (.cons rfl rqq (.cons rfl rqq .nil)))) tmq) (by omega) ⟨2 + 1, by omega, fun j hj => by
            rcases (by omega : j < 2 ∨ j = 2) with h | rfl
            · exact hz j h
            · exact hc2, rfl, rfl⟩
    · obtain rfl : i = e.nk := by omega
      rw [t2 hz]
      unfold opK
      generalize kt T e.nk 0 = a at *
      generalize kt T e.nk 1 = b at *
      generalize kt T e.nk 2 = c at *
      clear t1 t2 ih hz
      have f1 := named_c N e.nm hN
      have f2 := named_c S e.nm hS
      have f3 := named_c P e.nm hP
      have u1 := equal19_c a b
      have u2 := equal19_c b c
      have u3 := equal19_c a t0
      have u4 := equal19_c a ⟨false, e.um, e.uh, e.ud⟩
      have p1 := mul19_c a b
      have p2 := div19_c a b
      have hop : e.op = 1 ∨ e.op = 2 ∨ e.op = 3 ∨ e.op = 20 ∨ e.op = 21 ∨ e.op = 4 ∨ e.op = 5 ∨ e.op = 6 ∨ e.op = 14 ∨ e.op = 15 ∨ e.op = 7 ∨ e.op = 8 ∨ e.op = 9 ∨ e.op = 10 ∨ e.op = 11 ∨ e.op = 12 ∨ e.op = 13 ∨ e.op = 17 ∨ e.op = 16 ∨ e.op = 18 ∨ e.op = 19 := by
        by_cases h : 1 ≤ e.op ∧ e.op ≤ 21
        · omega
        · exfalso
          unfold kidsN at hnk
          rw [if_neg (by omega), if_neg (by omega), if_neg (by omega), if_neg (by omega)] at hnk
          omega
      rcases hop with h | h | h | h | h | hop
      iterate 5
        · repeat' (first | refine yo ?_ ?_ | refine yw ?_ ?_ | refine yk ?_ ?_ | exact trivial | with_reducible refine wA ?_ ?_ | refine ys ?_ ?_ | refine xs_done ?_ | refine yl ?_ ?_ | (refine pcond_y rfl (by rw [h]; rfl) ?_) | (refine pcond_n rfl (by rw [h]; rfl) ?_) | refine z1 f1 ?_ | refine z2 f1 ?_ | refine z3 f1 ?_ | refine z4 f1 ?_ | refine z5 f1 ?_ | refine z1 f3 ?_ | refine z2 f3 ?_ | refine z3 f3 ?_ | refine z4 f3 ?_ | refine z5 f3 ?_ | refine w8 ?_ | refine w9 ?_ | refine w1 ?_ | refine w2 ?_ | refine w3 ?_ | refine w4 ?_ | refine w5 ?_ | refine w6 ?_ | refine w7 ?_ | refine yo0 ?_ ?_ | refine yw0 ?_ ?_ | exact qq | fail)
          refine kretv rfl ⟨Nat.zero_lt_one, trivial, trivial⟩ rfl ?_
          simp only [opS, h]; rfl
      rcases hop with h | h | h | h | h | hop
      · -- a scale
        obtain ⟨F, hF⟩ : ∃ F, F = findS S e.nm := ⟨_, rfl⟩
        rw [← hF] at f2
        have ho : opS N S P e a b c = if F.2 ≠ 0 then (t0, F.2) else resS F.1 (equS a t0) := by simp only [opS, h, hF]; rfl
        rw [ho]
        repeat' (first | refine yo ?_ ?_ | refine yw ?_ ?_ | refine yk ?_ ?_ | exact trivial | with_reducible refine wA ?_ ?_ | refine ys ?_ ?_ | refine xs_done ?_ | refine yl ?_ ?_ | (refine pcond_y rfl (by rw [h]; rfl) ?_) | (refine pcond_n rfl (by rw [h]; rfl) ?_) | refine z1 f2 ?_ | refine z2 f2 ?_ | refine z3 f2 ?_ | refine z4 f2 ?_ | refine z5 f2 ?_ | refine w8 ?_ | refine w9 ?_ | refine w1 ?_ | refine w2 ?_ | refine w3 ?_ | refine w4 ?_ | refine w5 ?_ | refine w6 ?_ | refine w7 ?_ | refine yo0 ?_ ?_ | refine yw0 ?_ ?_ | exact qq | fail)
        refine pcond rfl ?_ ?_ <;> intro h0
        · have h0 : ¬ F.2 = 0 := by simpa using h0
          repeat' (first | refine yo ?_ ?_ | refine yw ?_ ?_ | refine yk ?_ ?_ | exact trivial | with_reducible refine wA ?_ ?_ | refine ys ?_ ?_ | refine xs_done ?_ | refine yl ?_ ?_ | refine w8 ?_ | refine w9 ?_ | refine w1 ?_ | refine w2 ?_ | refine w3 ?_ | refine w4 ?_ | refine w5 ?_ | refine w6 ?_ | refine w7 ?_ | refine yo0 ?_ ?_ | refine yw0 ?_ ?_ | exact qq | fail)
          refine kretv rfl ⟨Nat.zero_lt_one, trivial, trivial⟩ rfl ?_
          rw [if_pos h0]; rfl
        · have h0 : F.2 = 0 := by simpa using h0
          rw [if_neg (by simp [h0])]
          repeat' (first | refine yo ?_ ?_ | refine yw ?_ ?_ | refine yk ?_ ?_ | exact trivial | with_reducible refine wA ?_ ?_ | refine ys ?_ ?_ | refine xs_done ?_ | refine yl ?_ ?_ | refine z1 u3 ?_ | refine z2 u3 ?_ | refine z3 u3 ?_ | refine z4 u3 ?_ | refine z5 u3 ?_ | refine w8 ?_ | refine w9 ?_ | refine w1 ?_ | refine w2 ?_ | refine w3 ?_ | refine w4 ?_ | refine w5 ?_ | refine w6 ?_ | refine w7 ?_ | refine yo0 ?_ ?_ | refine yw0 ?_ ?_ | exact qq | fail)
          refine pcond rfl ?_ ?_ <;> intro h1
          · have h1 : ¬ equS a t0 = 0 := by simpa using h1
            repeat' (first | refine yo ?_ ?_ | refine yw ?_ ?_ | refine yk ?_ ?_ | exact trivial | with_reducible refine wA ?_ ?_ | refine ys ?_ ?_ | refine xs_done ?_ | refine yl ?_ ?_ | refine w8 ?_ | refine w9 ?_ | refine w1 ?_ | refine w2 ?_ | refine w3 ?_ | refine w4 ?_ | refine w5 ?_ | refine w6 ?_ | refine w7 ?_ | refine yo0 ?_ ?_ | refine yw0 ?_ ?_ | exact qq | fail)
            refine kretv rfl ⟨Nat.zero_lt_one, trivial, trivial⟩ rfl ?_
            unfold resS; rw [if_neg h1]; rfl
          · have h1 : equS a t0 = 0 := by simpa using h1
            repeat' (first | refine yo ?_ ?_ | refine yw ?_ ?_ | refine yk ?_ ?_ | exact trivial | with_reducible refine wA ?_ ?_ | refine ys ?_ ?_ | refine xs_done ?_ | refine yl ?_ ?_ | refine w8 ?_ | refine w9 ?_ | refine w1 ?_ | refine w2 ?_ | refine w3 ?_ | refine w4 ?_ | refine w5 ?_ | refine w6 ?_ | refine w7 ?_ | refine yo0 ?_ ?_ | refine yw0 ?_ ?_ | exact qq | fail)
            refine kretv rfl ⟨Nat.zero_lt_one, trivial, trivial⟩ rfl ?_
            unfold resS; rw [if_pos h1]; rfl
      iterate 4
        · rw [show opS N S P e a b c = resS a (equS a b) from by simp only [opS, h]; rfl]
          repeat' (first | refine yo ?_ ?_ | refine yw ?_ ?_ | refine yk ?_ ?_ | exact trivial | with_reducible refine wA ?_ ?_ | refine ys ?_ ?_ | refine xs_done ?_ | refine yl ?_ ?_ | (refine pcond_y rfl (by rw [h]; rfl) ?_) | (refine pcond_n rfl (by rw [h]; rfl) ?_) | refine z1 u1 ?_ | refine z2 u1 ?_ | refine z3 u1 ?_ | refine z4 u1 ?_ | refine z5 u1 ?_ | refine w8 ?_ | refine w9 ?_ | refine w1 ?_ | refine w2 ?_ | refine w3 ?_ | refine w4 ?_ | refine w5 ?_ | refine w6 ?_ | refine w7 ?_ | refine yo0 ?_ ?_ | refine yw0 ?_ ?_ | exact qq | fail)
          refine pcond rfl ?_ ?_ <;> intro h1
          · have h1 : ¬ equS a b = 0 := by simpa using h1
            repeat' (first | refine yo ?_ ?_ | refine yw ?_ ?_ | refine yk ?_ ?_ | exact trivial | with_reducible refine wA ?_ ?_ | refine ys ?_ ?_ | refine xs_done ?_ | refine yl ?_ ?_ | refine w8 ?_ | refine w9 ?_ | refine w1 ?_ | refine w2 ?_ | refine w3 ?_ | refine w4 ?_ | refine w5 ?_ | refine w6 ?_ | refine w7 ?_ | refine yo0 ?_ ?_ | refine yw0 ?_ ?_ | exact qq | fail)
            refine kretv rfl ⟨Nat.zero_lt_one, trivial, trivial⟩ rfl ?_
            unfold resS; rw [if_neg h1]; rfl
          · have h1 : equS a b = 0 := by simpa using h1
            repeat' (first | refine yo ?_ ?_ | refine yw ?_ ?_ | refine yk ?_ ?_ | exact trivial | with_reducible refine wA ?_ ?_ | refine ys ?_ ?_ | refine xs_done ?_ | refine yl ?_ ?_ | refine w8 ?_ | refine w9 ?_ | refine w1 ?_ | refine w2 ?_ | refine w3 ?_ | refine w4 ?_ | refine w5 ?_ | refine w6 ?_ | refine w7 ?_ | refine yo0 ?_ ?_ | refine yw0 ?_ ?_ | exact qq | fail)
            refine kretv rfl ⟨Nat.zero_lt_one, trivial, trivial⟩ rfl ?_
            unfold resS; rw [if_pos h1]; rfl
      rcases hop with h | hop
      · rw [show opS N S P e a b c = if a.b = true ∨ b.b = true then (t0, 9) else mulT a b 1 from by simp only [opS, h]; rfl]
        repeat' (first | refine yo ?_ ?_ | refine yw ?_ ?_ | refine yk ?_ ?_ | exact trivial | with_reducible refine wA ?_ ?_ | refine ys ?_ ?_ | refine xs_done ?_ | refine yl ?_ ?_ | (refine pcond_y rfl (by rw [h]; rfl) ?_) | (refine pcond_n rfl (by rw [h]; rfl) ?_) | refine w8 ?_ | refine w9 ?_ | refine w1 ?_ | refine w2 ?_ | refine w3 ?_ | refine w4 ?_ | refine w5 ?_ | refine w6 ?_ | refine w7 ?_ | refine yo0 ?_ ?_ | refine yw0 ?_ ?_ | exact qq | fail)
        refine pcond (b := decide (a.b = true ∨ b.b = true)) ?_ ?_ ?_
        · refine eqB ?_
          cases a.b <;> cases b.b <;> rfl
        · intro h1
          have h1 := of_decide_eq_true h1
          repeat' (first | refine yo ?_ ?_ | refine yw ?_ ?_ | refine yk ?_ ?_ | exact trivial | with_reducible refine wA ?_ ?_ | refine ys ?_ ?_ | refine xs_done ?_ | refine yl ?_ ?_ | refine w8 ?_ | refine w9 ?_ | refine w1 ?_ | refine w2 ?_ | refine w3 ?_ | refine w4 ?_ | refine w5 ?_ | refine w6 ?_ | refine w7 ?_ | refine yo0 ?_ ?_ | refine yw0 ?_ ?_ | exact qq | fail)
          refine kretv rfl ⟨Nat.zero_lt_one, trivial, trivial⟩ rfl ?_
          rw [if_pos h1]; rfl
        · intro h1
          have h1 := of_decide_eq_false h1
          rw [if_neg h1, mulT_eq]
          generalize combU a b 1 = X at *
          repeat' (first | refine yo ?_ ?_ | refine yw ?_ ?_ | refine yk ?_ ?_ | exact trivial | with_reducible refine wA ?_ ?_ | refine ys ?_ ?_ | refine xs_done ?_ | refine yl ?_ ?_ | (refine pcond_y rfl (by rw [h]; rfl) ?_) | (refine pcond_n rfl (by rw [h]; rfl) ?_) | refine z1 p1 ?_ | refine z2 p1 ?_ | refine z3 p1 ?_ | refine z4 p1 ?_ | refine z5 p1 ?_ | refine w8 ?_ | refine w9 ?_ | refine w1 ?_ | refine w2 ?_ | refine w3 ?_ | refine w4 ?_ | refine w5 ?_ | refine w6 ?_ | refine w7 ?_ | refine yo0 ?_ ?_ | refine yw0 ?_ ?_ | exact qq | fail)
          refine pcond rfl ?_ ?_ <;> intro h2
          · have h2 : ¬ X.2 = 0 := by simpa using h2
            repeat' (first | refine yo ?_ ?_ | refine yw ?_ ?_ | refine yk ?_ ?_ | exact trivial | with_reducible refine wA ?_ ?_ | refine ys ?_ ?_ | refine xs_done ?_ | refine yl ?_ ?_ | refine w8 ?_ | refine w9 ?_ | refine w1 ?_ | refine w2 ?_ | refine w3 ?_ | refine w4 ?_ | refine w5 ?_ | refine w6 ?_ | refine w7 ?_ | refine yo0 ?_ ?_ | refine yw0 ?_ ?_ | exact qq | fail)
            refine kretv rfl ⟨Nat.zero_lt_one, trivial, trivial⟩ rfl ?_
            rw [if_neg h2]; rfl
          · have h2 : X.2 = 0 := by simpa using h2
            repeat' (first | refine yo ?_ ?_ | refine yw ?_ ?_ | refine yk ?_ ?_ | exact trivial | with_reducible refine wA ?_ ?_ | refine ys ?_ ?_ | refine xs_done ?_ | refine yl ?_ ?_ | refine w8 ?_ | refine w9 ?_ | refine w1 ?_ | refine w2 ?_ | refine w3 ?_ | refine w4 ?_ | refine w5 ?_ | refine w6 ?_ | refine w7 ?_ | refine yo0 ?_ ?_ | refine yw0 ?_ ?_ | exact qq | fail)
            refine kretv rfl ⟨Nat.zero_lt_one, trivial, trivial⟩ rfl ?_
            rw [if_pos h2]; rfl
      rcases hop with h | hop
      · rw [show opS N S P e a b c = if a.b = true ∨ b.b = true then (t0, 9) else mulT a b (-1) from by simp only [opS, h]; rfl]
        repeat' (first | refine yo ?_ ?_ | refine yw ?_ ?_ | refine yk ?_ ?_ | exact trivial | with_reducible refine wA ?_ ?_ | refine ys ?_ ?_ | refine xs_done ?_ | refine yl ?_ ?_ | (refine pcond_y rfl (by rw [h]; rfl) ?_) | (refine pcond_n rfl (by rw [h]; rfl) ?_) | refine w8 ?_ | refine w9 ?_ | refine w1 ?_ | refine w2 ?_ | refine w3 ?_ | refine w4 ?_ | refine w5 ?_ | refine w6 ?_ | refine w7 ?_ | refine yo0 ?_ ?_ | refine yw0 ?_ ?_ | exact qq | fail)
        refine pcond (b := decide (a.b = true ∨ b.b = true)) ?_ ?_ ?_
        · refine eqB ?_
          cases a.b <;> cases b.b <;> rfl
        · intro h1
          have h1 := of_decide_eq_true h1
          repeat' (first | refine yo ?_ ?_ | refine yw ?_ ?_ | refine yk ?_ ?_ | exact trivial | with_reducible refine wA ?_ ?_ | refine ys ?_ ?_ | refine xs_done ?_ | refine yl ?_ ?_ | refine w8 ?_ | refine w9 ?_ | refine w1 ?_ | refine w2 ?_ | refine w3 ?_ | refine w4 ?_ | refine w5 ?_ | refine w6 ?_ | refine w7 ?_ | refine yo0 ?_ ?_ | refine yw0 ?_ ?_ | exact qq | fail)
          refine kretv rfl ⟨Nat.zero_lt_one, trivial, trivial⟩ rfl ?_
          rw [if_pos h1]; rfl
        · intro h1
          have h1 := of_decide_eq_false h1
          rw [if_neg h1, mulT_eq]
          generalize combU a b (-1) = X at *
          generalize combU a b 1 = Y at *
          repeat' (first | refine yo ?_ ?_ | refine yw ?_ ?_ | refine yk ?_ ?_ | exact trivial | with_reducible refine wA ?_ ?_ | refine ys ?_ ?_ | refine xs_done ?_ | refine yl ?_ ?_ | (refine pcond_y rfl (by rw [h]; rfl) ?_) | (refine pcond_n rfl (by rw [h]; rfl) ?_) | refine z1 p1 ?_ | refine z2 p1 ?_ | refine z3 p1 ?_ | refine z4 p1 ?_ | refine z5 p1 ?_ | refine z1 p2 ?_ | refine z2 p2 ?_ | refine z3 p2 ?_ | refine z4 p2 ?_ | refine z5 p2 ?_ | refine w8 ?_ | refine w9 ?_ | refine w1 ?_ | refine w2 ?_ | refine w3 ?_ | refine w4 ?_ | refine w5 ?_ | refine w6 ?_ | refine w7 ?_ | refine yo0 ?_ ?_ | refine yw0 ?_ ?_ | exact qq | fail)
          refine pcond rfl ?_ ?_ <;> intro h2
          · have h2 : ¬ X.2 = 0 := by simpa using h2
            repeat' (first | refine yo ?_ ?_ | refine yw ?_ ?_ | refine yk ?_ ?_ | exact trivial | with_reducible refine wA ?_ ?_ | refine ys ?_ ?_ | refine xs_done ?_ | refine yl ?_ ?_ | refine w8 ?_ | refine w9 ?_ | refine w1 ?_ | refine w2 ?_ | refine w3 ?_ | refine w4 ?_ | refine w5 ?_ | refine w6 ?_ | refine w7 ?_ | refine yo0 ?_ ?_ | refine yw0 ?_ ?_ | exact qq | fail)
            refine kretv rfl ⟨Nat.zero_lt_one, trivial, trivial⟩ rfl ?_
            rw [if_neg h2]; rfl
          · have h2 : X.2 = 0 := by simpa using h2
            repeat' (first | refine yo ?_ ?_ | refine yw ?_ ?_ | refine yk ?_ ?_ | exact trivial | with_reducible refine wA ?_ ?_ | refine ys ?_ ?_ | refine xs_done ?_ | refine yl ?_ ?_ | refine w8 ?_ | refine w9 ?_ | refine w1 ?_ | refine w2 ?_ | refine w3 ?_ | refine w4 ?_ | refine w5 ?_ | refine w6 ?_ | refine w7 ?_ | refine yo0 ?_ ?_ | refine yw0 ?_ ?_ | exact qq | fail)
            refine kretv rfl ⟨Nat.zero_lt_one, trivial, trivial⟩ rfl ?_
            rw [if_pos h2]; rfl
      rcases hop with h | h | hop
      iterate 2
        · rw [show opS N S P e a b c = resS tB (equS a b) from by simp only [opS, h]; rfl]
          repeat' (first | refine yo ?_ ?_ | refine yw ?_ ?_ | refine yk ?_ ?_ | exact trivial | with_reducible refine wA ?_ ?_ | refine ys ?_ ?_ | refine xs_done ?_ | refine yl ?_ ?_ | (refine pcond_y rfl (by rw [h]; rfl) ?_) | (refine pcond_n rfl (by rw [h]; rfl) ?_) | refine z1 u1 ?_ | refine z2 u1 ?_ | refine z3 u1 ?_ | refine z4 u1 ?_ | refine z5 u1 ?_ | refine w8 ?_ | refine w9 ?_ | refine w1 ?_ | refine w2 ?_ | refine w3 ?_ | refine w4 ?_ | refine w5 ?_ | refine w6 ?_ | refine w7 ?_ | refine yo0 ?_ ?_ | refine yw0 ?_ ?_ | exact qq | fail)
          refine pcond rfl ?_ ?_ <;> intro h2
          · have h2 : ¬ equS a b = 0 := by simpa using h2
            repeat' (first | refine yo ?_ ?_ | refine yw ?_ ?_ | refine yk ?_ ?_ | exact trivial | with_reducible refine wA ?_ ?_ | refine ys ?_ ?_ | refine xs_done ?_ | refine yl ?_ ?_ | refine w8 ?_ | refine w9 ?_ | refine w1 ?_ | refine w2 ?_ | refine w3 ?_ | refine w4 ?_ | refine w5 ?_ | refine w6 ?_ | refine w7 ?_ | refine yo0 ?_ ?_ | refine yw0 ?_ ?_ | exact qq | fail)
            refine kretv rfl ⟨Nat.zero_lt_one, trivial, trivial⟩ rfl ?_
            unfold resS; rw [if_neg h2]; rfl
          · have h2 : equS a b = 0 := by simpa using h2
            repeat' (first | refine yo ?_ ?_ | refine yw ?_ ?_ | refine yk ?_ ?_ | exact trivial | with_reducible refine wA ?_ ?_ | refine ys ?_ ?_ | refine xs_done ?_ | refine yl ?_ ?_ | refine w8 ?_ | refine w9 ?_ | refine w1 ?_ | refine w2 ?_ | refine w3 ?_ | refine w4 ?_ | refine w5 ?_ | refine w6 ?_ | refine w7 ?_ | refine yo0 ?_ ?_ | refine yw0 ?_ ?_ | exact qq | fail)
            refine kretv rfl ⟨Nat.zero_lt_one, trivial, trivial⟩ rfl ?_
            unfold resS; rw [if_pos h2]; rfl
      rcases hop with h | hop
      · rw [show opS N S P e a b c = if a.b = true ∧ b.b = true then (tB, 0) else resS tB (equS a b) from by simp only [opS, h]; rfl]
        repeat' (first | refine yo ?_ ?_ | refine yw ?_ ?_ | refine yk ?_ ?_ | exact trivial | with_reducible refine wA ?_ ?_ | refine ys ?_ ?_ | refine xs_done ?_ | refine yl ?_ ?_ | (refine pcond_y rfl (by rw [h]; rfl) ?_) | (refine pcond_n rfl (by rw [h]; rfl) ?_) | refine w8 ?_ | refine w9 ?_ | refine w1 ?_ | refine w2 ?_ | refine w3 ?_ | refine w4 ?_ | refine w5 ?_ | refine w6 ?_ | refine w7 ?_ | refine yo0 ?_ ?_ | refine yw0 ?_ ?_ | exact qq | fail)
        refine pcond (b := decide (a.b = true ∧ b.b = true)) ?_ ?_ ?_
        · refine eqB ?_
          cases a.b <;> cases b.b <;> rfl
        · intro h1
          have h1 := of_decide_eq_true h1
          repeat' (first | refine yo ?_ ?_ | refine yw ?_ ?_ | refine yk ?_ ?_ | exact trivial | with_reducible refine wA ?_ ?_ | refine ys ?_ ?_ | refine xs_done ?_ | refine yl ?_ ?_ | refine w8 ?_ | refine w9 ?_ | refine w1 ?_ | refine w2 ?_ | refine w3 ?_ | refine w4 ?_ | refine w5 ?_ | refine w6 ?_ | refine w7 ?_ | refine yo0 ?_ ?_ | refine yw0 ?_ ?_ | exact qq | fail)
          refine kretv rfl ⟨Nat.zero_lt_one, trivial, trivial⟩ rfl ?_
          rw [if_pos h1]; rfl
        · intro h1
          have h1 := of_decide_eq_false h1
          rw [if_neg h1]
          repeat' (first | refine yo ?_ ?_ | refine yw ?_ ?_ | refine yk ?_ ?_ | exact trivial | with_reducible refine wA ?_ ?_ | refine ys ?_ ?_ | refine xs_done ?_ | refine yl ?_ ?_ | refine z1 u1 ?_ | refine z2 u1 ?_ | refine z3 u1 ?_ | refine z4 u1 ?_ | refine z5 u1 ?_ | refine w8 ?_ | refine w9 ?_ | refine w1 ?_ | refine w2 ?_ | refine w3 ?_ | refine w4 ?_ | refine w5 ?_ | refine w6 ?_ | refine w7 ?_ | refine yo0 ?_ ?_ | refine yw0 ?_ ?_ | exact qq | fail)
          refine pcond rfl ?_ ?_ <;> intro h2
          · have h2 : ¬ equS a b = 0 := by simpa using h2
            repeat' (first | refine yo ?_ ?_ | refine yw ?_ ?_ | refine yk ?_ ?_ | exact trivial | with_reducible refine wA ?_ ?_ | refine ys ?_ ?_ | refine xs_done ?_ | refine yl ?_ ?_ | refine w8 ?_ | refine w9 ?_ | refine w1 ?_ | refine w2 ?_ | refine w3 ?_ | refine w4 ?_ | refine w5 ?_ | refine w6 ?_ | refine w7 ?_ | refine yo0 ?_ ?_ | refine yw0 ?_ ?_ | exact qq | fail)
            refine kretv rfl ⟨Nat.zero_lt_one, trivial, trivial⟩ rfl ?_
            unfold resS; rw [if_neg h2]; rfl
          · have h2 : equS a b = 0 := by simpa using h2
            repeat' (first | refine yo ?_ ?_ | refine yw ?_ ?_ | refine yk ?_ ?_ | exact trivial | with_reducible refine wA ?_ ?_ | refine ys ?_ ?_ | refine xs_done ?_ | refine yl ?_ ?_ | refine w8 ?_ | refine w9 ?_ | refine w1 ?_ | refine w2 ?_ | refine w3 ?_ | refine w4 ?_ | refine w5 ?_ | refine w6 ?_ | refine w7 ?_ | refine yo0 ?_ ?_ | refine yw0 ?_ ?_ | exact qq | fail)
            refine kretv rfl ⟨Nat.zero_lt_one, trivial, trivial⟩ rfl ?_
            unfold resS; rw [if_pos h2]; rfl
      rcases hop with h | h | hop
      iterate 2
        · rw [show opS N S P e a b c = if a.b = true ∧ b.b = true then (tB, 0) else (t0, 9) from by simp only [opS, h]; rfl]
          repeat' (first | refine yo ?_ ?_ | refine yw ?_ ?_ | refine yk ?_ ?_ | exact trivial | with_reducible refine wA ?_ ?_ | refine ys ?_ ?_ | refine xs_done ?_ | refine yl ?_ ?_ | (refine pcond_y rfl (by rw [h]; rfl) ?_) | (refine pcond_n rfl (by rw [h]; rfl) ?_) | refine w8 ?_ | refine w9 ?_ | refine w1 ?_ | refine w2 ?_ | refine w3 ?_ | refine w4 ?_ | refine w5 ?_ | refine w6 ?_ | refine w7 ?_ | refine yo0 ?_ ?_ | refine yw0 ?_ ?_ | exact qq | fail)
          refine pcond (b := decide (¬ (a.b = true ∧ b.b = true))) ?_ ?_ ?_
          · refine eqB ?_
            cases a.b <;> cases b.b <;> rfl
          · intro h1
            have h1 := of_decide_eq_true h1
            repeat' (first | refine yo ?_ ?_ | refine yw ?_ ?_ | refine yk ?_ ?_ | exact trivial | with_reducible refine wA ?_ ?_ | refine ys ?_ ?_ | refine xs_done ?_ | refine yl ?_ ?_ | refine w8 ?_ | refine w9 ?_ | refine w1 ?_ | refine w2 ?_ | refine w3 ?_ | refine w4 ?_ | refine w5 ?_ | refine w6 ?_ | refine w7 ?_ | refine yo0 ?_ ?_ | refine yw0 ?_ ?_ | exact qq | fail)
            refine kretv rfl ⟨Nat.zero_lt_one, trivial, trivial⟩ rfl ?_
            rw [if_neg h1]; rfl
          · intro h1
            have h1 := of_decide_eq_false h1
            repeat' (first | refine yo ?_ ?_ | refine yw ?_ ?_ | refine yk ?_ ?_ | exact trivial | with_reducible refine wA ?_ ?_ | refine ys ?_ ?_ | refine xs_done ?_ | refine yl ?_ ?_ | refine w8 ?_ | refine w9 ?_ | refine w1 ?_ | refine w2 ?_ | refine w3 ?_ | refine w4 ?_ | refine w5 ?_ | refine w6 ?_ | refine w7 ?_ | refine yo0 ?_ ?_ | refine yw0 ?_ ?_ | exact qq | fail)
            refine kretv rfl ⟨Nat.zero_lt_one, trivial, trivial⟩ rfl ?_
            rw [if_pos (Decidable.not_not.1 h1)]; rfl
      rcases hop with h | hop
      · rw [show opS N S P e a b c = if a.b = true then (tB, 0) else (t0, 9) from by simp only [opS, h]; rfl]
        repeat' (first | refine yo ?_ ?_ | refine yw ?_ ?_ | refine yk ?_ ?_ | exact trivial | with_reducible refine wA ?_ ?_ | refine ys ?_ ?_ | refine xs_done ?_ | refine yl ?_ ?_ | (refine pcond_y rfl (by rw [h]; rfl) ?_) | (refine pcond_n rfl (by rw [h]; rfl) ?_) | refine w8 ?_ | refine w9 ?_ | refine w1 ?_ | refine w2 ?_ | refine w3 ?_ | refine w4 ?_ | refine w5 ?_ | refine w6 ?_ | refine w7 ?_ | refine yo0 ?_ ?_ | refine yw0 ?_ ?_ | exact qq | fail)
        refine pcond (b := decide (¬ (a.b = true))) ?_ ?_ ?_
        · refine eqB ?_
          cases a.b <;> rfl
        · intro h1
          have h1 := of_decide_eq_true h1
          repeat' (first | refine yo ?_ ?_ | refine yw ?_ ?_ | refine yk ?_ ?_ | exact trivial | with_reducible refine wA ?_ ?_ | refine ys ?_ ?_ | refine xs_done ?_ | refine yl ?_ ?_ | refine w8 ?_ | refine w9 ?_ | refine w1 ?_ | refine w2 ?_ | refine w3 ?_ | refine w4 ?_ | refine w5 ?_ | refine w6 ?_ | refine w7 ?_ | refine yo0 ?_ ?_ | refine yw0 ?_ ?_ | exact qq | fail)
          refine kretv rfl ⟨Nat.zero_lt_one, trivial, trivial⟩ rfl ?_
          rw [if_neg h1]; rfl
        · intro h1
          have h1 := of_decide_eq_false h1
          repeat' (first | refine yo ?_ ?_ | refine yw ?_ ?_ | refine yk ?_ ?_ | exact trivial | with_reducible refine wA ?_ ?_ | refine ys ?_ ?_ | refine xs_done ?_ | refine yl ?_ ?_ | refine w8 ?_ | refine w9 ?_ | refine w1 ?_ | refine w2 ?_ | refine w3 ?_ | refine w4 ?_ | refine w5 ?_ | refine w6 ?_ | refine w7 ?_ | refine yo0 ?_ ?_ | refine yw0 ?_ ?_ | exact qq | fail)
          refine kretv rfl ⟨Nat.zero_lt_one, trivial, trivial⟩ rfl ?_
          rw [if_pos (Decidable.not_not.1 h1)]; rfl
      rcases hop with h | hop
      · rw [show opS N S P e a b c = if a.b = true then (t0, 9) else (a, 0) from by simp only [opS, h]; rfl]
        repeat' (first | refine yo ?_ ?_ | refine yw ?_ ?_ | refine yk ?_ ?_ | exact trivial | with_reducible refine wA ?_ ?_ | refine ys ?_ ?_ | refine xs_done ?_ | refine yl ?_ ?_ | (refine pcond_y rfl (by rw [h]; rfl) ?_) | (refine pcond_n rfl (by rw [h]; rfl) ?_) | refine w8 ?_ | refine w9 ?_ | refine w1 ?_ | refine w2 ?_ | refine w3 ?_ | refine w4 ?_ | refine w5 ?_ | refine w6 ?_ | refine w7 ?_ | refine yo0 ?_ ?_ | refine yw0 ?_ ?_ | exact qq | fail)
        refine pcond (b := decide (a.b = true)) ?_ ?_ ?_
        · refine eqB ?_
          cases a.b <;> rfl
        · intro h1
          have h1 := of_decide_eq_true h1
          repeat' (first | refine yo ?_ ?_ | refine yw ?_ ?_ | refine yk ?_ ?_ | exact trivial | with_reducible refine wA ?_ ?_ | refine ys ?_ ?_ | refine xs_done ?_ | refine yl ?_ ?_ | refine w8 ?_ | refine w9 ?_ | refine w1 ?_ | refine w2 ?_ | refine w3 ?_ | refine w4 ?_ | refine w5 ?_ | refine w6 ?_ | refine w7 ?_ | refine yo0 ?_ ?_ | refine yw0 ?_ ?_ | exact qq | fail)
          refine kretv rfl ⟨Nat.zero_lt_one, trivial, trivial⟩ rfl ?_
          rw [if_pos h1]; rfl
        · intro h1
          have h1 := of_decide_eq_false h1
          repeat' (first | refine yo ?_ ?_ | refine yw ?_ ?_ | refine yk ?_ ?_ | exact trivial | with_reducible refine wA ?_ ?_ | refine ys ?_ ?_ | refine xs_done ?_ | refine yl ?_ ?_ | refine w8 ?_ | refine w9 ?_ | refine w1 ?_ | refine w2 ?_ | refine w3 ?_ | refine w4 ?_ | refine w5 ?_ | refine w6 ?_ | refine w7 ?_ | refine yo0 ?_ ?_ | refine yw0 ?_ ?_ | exact qq | fail)
          refine kretv rfl ⟨Nat.zero_lt_one, trivial, trivial⟩ rfl ?_
          rw [if_neg h1]; rfl
      rcases hop with h | h
      · rw [show opS N S P e a b c = if a.b = true then (if b.b = true ∧ c.b = true then (b, 0) else resS b (equS b c)) else (t0, 9) from by simp only [opS, h]; rfl]
        repeat' (first | refine yo ?_ ?_ | refine yw ?_ ?_ | refine yk ?_ ?_ | exact trivial | with_reducible refine wA ?_ ?_ | refine ys ?_ ?_ | refine xs_done ?_ | refine yl ?_ ?_ | (refine pcond_y rfl (by rw [h]; rfl) ?_) | (refine pcond_n rfl (by rw [h]; rfl) ?_) | refine w8 ?_ | refine w9 ?_ | refine w1 ?_ | refine w2 ?_ | refine w3 ?_ | refine w4 ?_ | refine w5 ?_ | refine w6 ?_ | refine w7 ?_ | refine yo0 ?_ ?_ | refine yw0 ?_ ?_ | exact qq | fail)
        refine pcond (b := decide (¬ (a.b = true))) ?_ ?_ ?_
        · refine eqB ?_
          cases a.b <;> rfl
        · intro h1
          have h1 := of_decide_eq_true h1
          repeat' (first | refine yo ?_ ?_ | refine yw ?_ ?_ | refine yk ?_ ?_ | exact trivial | with_reducible refine wA ?_ ?_ | refine ys ?_ ?_ | refine xs_done ?_ | refine yl ?_ ?_ | refine w8 ?_ | refine w9 ?_ | refine w1 ?_ | refine w2 ?_ | refine w3 ?_ | refine w4 ?_ | refine w5 ?_ | refine w6 ?_ | refine w7 ?_ | refine yo0 ?_ ?_ | refine yw0 ?_ ?_ | exact qq | fail)
          refine kretv rfl ⟨Nat.zero_lt_one, trivial, trivial⟩ rfl ?_
          rw [if_neg h1]; rfl
        · intro h1
          have h1 := of_decide_eq_false h1
          rw [if_pos (Decidable.not_not.1 h1)]
          repeat' (first | refine yo ?_ ?_ | refine yw ?_ ?_ | refine yk ?_ ?_ | exact trivial | with_reducible refine wA ?_ ?_ | refine ys ?_ ?_ | refine xs_done ?_ | refine yl ?_ ?_ | refine w8 ?_ | refine w9 ?_ | refine w1 ?_ | refine w2 ?_ | refine w3 ?_ | refine w4 ?_ | refine w5 ?_ | refine w6 ?_ | refine w7 ?_ | refine yo0 ?_ ?_ | refine yw0 ?_ ?_ | exact qq | fail)
          refine pcond (b := decide (b.b = true ∧ c.b = true)) ?_ ?_ ?_
          · refine eqB ?_
            cases b.b <;> cases c.b <;> rfl
          · intro h1
            have h1 := of_decide_eq_true h1
            repeat' (first | refine yo ?_ ?_ | refine yw ?_ ?_ | refine yk ?_ ?_ | exact trivial | with_reducible refine wA ?_ ?_ | refine ys ?_ ?_ | refine xs_done ?_ | refine yl ?_ ?_ | refine w8 ?_ | refine w9 ?_ | refine w1 ?_ | refine w2 ?_ | refine w3 ?_ | refine w4 ?_ | refine w5 ?_ | refine w6 ?_ | refine w7 ?_ | refine yo0 ?_ ?_ | refine yw0 ?_ ?_ | exact qq | fail)
            refine kretv rfl ⟨Nat.zero_lt_one, trivial, trivial⟩ rfl ?_
            rw [if_pos h1]; rfl
          · intro h1
            have h1 := of_decide_eq_false h1
            rw [if_neg h1]
            repeat' (first | refine yo ?_ ?_ | refine yw ?_ ?_ | refine yk ?_ ?_ | exact trivial | with_reducible refine wA ?_ ?_ | refine ys ?_ ?_ | refine xs_done ?_ | refine yl ?_ ?_ | refine z1 u2 ?_ | refine z2 u2 ?_ | refine z3 u2 ?_ | refine z4 u2 ?_ | refine z5 u2 ?_ | refine w8 ?_ | refine w9 ?_ | refine w1 ?_ | refine w2 ?_ | refine w3 ?_ | refine w4 ?_ | refine w5 ?_ | refine w6 ?_ | refine w7 ?_ | refine yo0 ?_ ?_ | refine yw0 ?_ ?_ | exact qq | fail)
            refine pcond rfl ?_ ?_ <;> intro h2
            · have h2 : ¬ equS b c = 0 := by simpa using h2
              repeat' (first | refine yo ?_ ?_ | refine yw ?_ ?_ | refine yk ?_ ?_ | exact trivial | with_reducible refine wA ?_ ?_ | refine ys ?_ ?_ | refine xs_done ?_ | refine yl ?_ ?_ | refine w8 ?_ | refine w9 ?_ | refine w1 ?_ | refine w2 ?_ | refine w3 ?_ | refine w4 ?_ | refine w5 ?_ | refine w6 ?_ | refine w7 ?_ | refine yo0 ?_ ?_ | refine yw0 ?_ ?_ | exact qq | fail)
              refine kretv rfl ⟨Nat.zero_lt_one, trivial, trivial⟩ rfl ?_
              unfold resS; rw [if_neg h2]; rfl
            · have h2 : equS b c = 0 := by simpa using h2
              repeat' (first | refine yo ?_ ?_ | refine yw ?_ ?_ | refine yk ?_ ?_ | exact trivial | with_reducible refine wA ?_ ?_ | refine ys ?_ ?_ | refine xs_done ?_ | refine yl ?_ ?_ | refine w8 ?_ | refine w9 ?_ | refine w1 ?_ | refine w2 ?_ | refine w3 ?_ | refine w4 ?_ | refine w5 ?_ | refine w6 ?_ | refine w7 ?_ | refine yo0 ?_ ?_ | refine yw0 ?_ ?_ | exact qq | fail)
              refine kretv rfl ⟨Nat.zero_lt_one, trivial, trivial⟩ rfl ?_
              unfold resS; rw [if_pos h2]; rfl
      · rw [show opS N S P e a b c = resS a (equS a ⟨false, e.um, e.uh, e.ud⟩) from by simp only [opS, h]; rfl]
        repeat' (first | refine yo ?_ ?_ | refine yw ?_ ?_ | refine yk ?_ ?_ | exact trivial | with_reducible refine wA ?_ ?_ | refine ys ?_ ?_ | refine xs_done ?_ | refine yl ?_ ?_ | (refine pcond_y rfl (by rw [h]; rfl) ?_) | (refine pcond_n rfl (by rw [h]; rfl) ?_) | refine z1 u4 ?_ | refine z2 u4 ?_ | refine z3 u4 ?_ | refine z4 u4 ?_ | refine z5 u4 ?_ | refine w8 ?_ | refine w9 ?_ | refine w1 ?_ | refine w2 ?_ | refine w3 ?_ | refine w4 ?_ | refine w5 ?_ | refine w6 ?_ | refine w7 ?_ | refine yo0 ?_ ?_ | refine yw0 ?_ ?_ | exact qq | fail)
        refine pcond rfl ?_ ?_ <;> intro h2
        · have h2 : ¬ equS a ⟨false, e.um, e.uh, e.ud⟩ = 0 := by simpa using h2
          repeat' (first | refine yo ?_ ?_ | refine yw ?_ ?_ | refine yk ?_ ?_ | exact trivial | with_reducible refine wA ?_ ?_ | refine ys ?_ ?_ | refine xs_done ?_ | refine yl ?_ ?_ | refine w8 ?_ | refine w9 ?_ | refine w1 ?_ | refine w2 ?_ | refine w3 ?_ | refine w4 ?_ | refine w5 ?_ | refine w6 ?_ | refine w7 ?_ | refine yo0 ?_ ?_ | refine yw0 ?_ ?_ | exact qq | fail)
          refine kretv rfl ⟨Nat.zero_lt_one, trivial, trivial⟩ rfl ?_
          unfold resS; rw [if_neg h2]; rfl
        · have h2 : equS a ⟨false, e.um, e.uh, e.ud⟩ = 0 := by simpa using h2
          repeat' (first | refine yo ?_ ?_ | refine yw ?_ ?_ | refine yk ?_ ?_ | exact trivial | with_reducible refine wA ?_ ?_ | refine ys ?_ ?_ | refine xs_done ?_ | refine yl ?_ ?_ | refine w8 ?_ | refine w9 ?_ | refine w1 ?_ | refine w2 ?_ | refine w3 ?_ | refine w4 ?_ | refine w5 ?_ | refine w6 ?_ | refine w7 ?_ | refine yo0 ?_ ?_ | refine yw0 ?_ ?_ | exact qq | fail)
          refine kretv rfl ⟨Nat.zero_lt_one, trivial, trivial⟩ rfl ?_
          unfold resS; rw [if_pos h2]; rfl
end Go.Proofs.YtnlcenlamkfmnaaGreat
