/- Package unit: small functions. -/
import Derived.Test.YtnlcenlamkfmnaaGreatX4
import Derived.Test.YtnlcenlamkfmnaaGreatPvF
set_option linter.unusedSimpArgs false
set_option linter.unusedVariables false
set_option maxRecDepth 100000
namespace Go.Proofs.YtnlcenlamkfmnaaGreat
abbrev vU (m h d : Int) : PV := .agg 3 (nthP [vi m, vi h, vi d])
/-- a type and an error -/
abbrev vTE (x : Ty × Int) : PV := .tup 2 (nthP [vT x.1, vi x.2])
theorem inRange_c (n : Int) : PureC G.P 111 [vi n] (fun r => r = vb (decide (-3 ≤ n ∧ n ≤ 3))) := by
  refine pure_of (G := G.toPg) (fn := Tryz.f111) Tryz.func111 rfl rfl rfl ?_; intro Γ hk
  repeat' (first | refine yo ?_ ?_ | refine yw ?_ ?_ | refine yk ?_ ?_ | exact trivial | with_reducible refine wA ?_ ?_ | refine ys ?_ ?_ | refine xs_done ?_ | refine yl ?_ ?_ | refine w8 ?_ | refine w9 ?_ | refine w1 ?_ | refine w2 ?_ | refine w3 ?_ | refine w4 ?_ | refine w5 ?_ | refine w6 ?_ | refine w7 ?_ | refine yo0 ?_ ?_ | refine yw0 ?_ ?_ | exact qq | fail)
  refine kretv rfl ⟨trivial, trivial⟩ rfl (eqB ?_)
  rw [Bool.eq_iff_iff]; simp
theorem uValid_c (m h d : Int) : PureC G.P 110 [vU m h d] (fun r => r = vb (unitS m h d)) := by
  have c1 := inRange_c m
  have c2 := inRange_c h
  have c3 := inRange_c d
  refine pure_of (G := G.toPg) (fn := Tryz.f110) Tryz.func110 rfl rfl rfl ?_; intro Γ hk
  repeat' (first | refine yo ?_ ?_ | refine yw ?_ ?_ | refine yk ?_ ?_ | exact trivial | with_reducible refine wA ?_ ?_ | refine ys ?_ ?_ | refine xs_done ?_ | refine yl ?_ ?_ | refine z1 c1 ?_ | refine z2 c1 ?_ | refine z3 c1 ?_ | refine z4 c1 ?_ | refine z5 c1 ?_ | refine z1 c2 ?_ | refine z2 c2 ?_ | refine z3 c2 ?_ | refine z4 c2 ?_ | refine z5 c2 ?_ | refine z1 c3 ?_ | refine z2 c3 ?_ | refine z3 c3 ?_ | refine z4 c3 ?_ | refine z5 c3 ?_ | refine w8 ?_ | refine w9 ?_ | refine w1 ?_ | refine w2 ?_ | refine w3 ?_ | refine w4 ?_ | refine w5 ?_ | refine w6 ?_ | refine w7 ?_ | refine yo0 ?_ ?_ | refine yw0 ?_ ?_ | exact qq | fail)
  refine kretv rfl ⟨trivial, trivial⟩ rfl (eqB ?_)
  unfold unitS
  cases decide (-3 ≤ m ∧ m ≤ 3) <;> cases decide (-3 ≤ h ∧ h ≤ 3) <;> cases decide (-3 ≤ d ∧ d ≤ 3) <;> rfl
theorem unitS_bd {m h d : Int} (hh : unitS m h d = true) : (-3 ≤ m ∧ m ≤ 3) ∧ (-3 ≤ h ∧ h ≤ 3) ∧ (-3 ≤ d ∧ d ≤ 3) := by
  simpa [unitS] using hh
/-- a sum of exponents, or the error -/
def combU (a b : Ty) (s : Int) : (Int × Int × Int) × Int :=
  if unitS a.m a.h a.d = true ∧ unitS b.m b.h b.d = true then (if unitS (a.m + s * b.m) (a.h + s * b.h) (a.d + s * b.d) = true then ((a.m + s * b.m, a.h + s * b.h, a.d + s * b.d), 0) else ((0, 0, 0), 10)) else ((0, 0, 0), 1)
abbrev vUE (x : (Int × Int × Int) × Int) : PV := .tup 2 (nthP [vU x.1.1 x.1.2.1 x.1.2.2, vi x.2])
theorem combine_c (a b : Ty) (s : Int) (hs : s = 1 ∨ s = -1) : PureC G.P 109 [vU a.m a.h a.d, vU b.m b.h b.d, vi s] (fun r => r = vUE (combU a b s)) := by
  have c1 := uValid_c a.m a.h a.d
  have c2 := uValid_c b.m b.h b.d
  have ag : ∀ x y : Int, -3 ≤ x ∧ x ≤ 3 → -3 ≤ y ∧ y ≤ 3 → IntKind.i64.wrap (x + IntKind.i64.wrap (s * y)) = x + s * y := fun x y hx hy => by
    have : s * y = y ∨ s * y = -y := by rcases hs with rfl | rfl <;> omega
    rw [w64 (n := s * y) (by omega) (by omega), w64 (by omega) (by omega)]
  have c3 := uValid_c (IntKind.i64.wrap (a.m + IntKind.i64.wrap (s * b.m))) (IntKind.i64.wrap (a.h + IntKind.i64.wrap (s * b.h))) (IntKind.i64.wrap (a.d + IntKind.i64.wrap (s * b.d)))
  refine pure_of (G := G.toPg) (fn := Tryz.f109) Tryz.func109 rfl rfl rfl ?_; intro Γ hk
  repeat' (first | refine yo ?_ ?_ | refine yw ?_ ?_ | refine yk ?_ ?_ | exact trivial | with_reducible refine wA ?_ ?_ | refine ys ?_ ?_ | refine xs_done ?_ | refine yl ?_ ?_ | refine z1 c1 ?_ | refine z2 c1 ?_ | refine z3 c1 ?_ | refine z4 c1 ?_ | refine z5 c1 ?_ | refine z1 c2 ?_ | refine z2 c2 ?_ | refine z3 c2 ?_ | refine z4 c2 ?_ | refine z5 c2 ?_ | refine w8 ?_ | refine w9 ?_ | refine w1 ?_ | refine w2 ?_ | refine w3 ?_ | refine w4 ?_ | refine w5 ?_ | refine w6 ?_ | refine w7 ?_ | refine yo0 ?_ ?_ | refine yw0 ?_ ?_ | exact qq | fail)
  refine pcond (b := !(unitS a.m a.h a.d && unitS b.m b.h b.d)) ?_ ?_ ?_
  · refine eqB ?_
    cases unitS a.m a.h a.d <;> rfl
  · intro h
    repeat' (first | refine yo ?_ ?_ | refine yw ?_ ?_ | refine yk ?_ ?_ | exact trivial | with_reducible refine wA ?_ ?_ | refine ys ?_ ?_ | refine xs_done ?_ | refine yl ?_ ?_ | refine w8 ?_ | refine w9 ?_ | refine w1 ?_ | refine w2 ?_ | refine w3 ?_ | refine w4 ?_ | refine w5 ?_ | refine w6 ?_ | refine w7 ?_ | refine yo0 ?_ ?_ | refine yw0 ?_ ?_ | exact qq | fail)
    refine kretv rfl ⟨Nat.zero_lt_one, trivial, trivial⟩ rfl ?_
    have := nb_t h
    unfold combU
    rw [if_neg (by rintro ⟨h1, h2⟩; rw [h1, h2] at this; cases this)]; rfl
  · intro h
    have h1 : unitS a.m a.h a.d = true ∧ unitS b.m b.h b.d = true := by simpa using nb_f h
    have b1 := unitS_bd h1.1
    have b2 := unitS_bd h1.2
    have e1 := ag a.m b.m b1.1 b2.1
    have e2 := ag a.h b.h b1.2.1 b2.2.1
    have e3 := ag a.d b.d b1.2.2 b2.2.2
    repeat' (first | refine yo ?_ ?_ | refine yw ?_ ?_ | refine yk ?_ ?_ | exact trivial | with_reducible refine wA ?_ ?_ | refine ys ?_ ?_ | refine xs_done ?_ | refine yl ?_ ?_ | refine z1 c3 ?_ | refine z2 c3 ?_ | refine z3 c3 ?_ | refine z4 c3 ?_ | refine z5 c3 ?_ | refine w8 ?_ | refine w9 ?_ | refine w1 ?_ | refine w2 ?_ | refine w3 ?_ | refine w4 ?_ | refine w5 ?_ | refine w6 ?_ | refine w7 ?_ | refine yo0 ?_ ?_ | refine yw0 ?_ ?_ | exact qq | fail)
    refine pcond rfl ?_ ?_ <;> intro hc
    · have hc := nb_t hc
      rw [e1, e2, e3] at hc
      repeat' (first | refine yo ?_ ?_ | refine yw ?_ ?_ | refine yk ?_ ?_ | exact trivial | with_reducible refine wA ?_ ?_ | refine ys ?_ ?_ | refine xs_done ?_ | refine yl ?_ ?_ | refine w8 ?_ | refine w9 ?_ | refine w1 ?_ | refine w2 ?_ | refine w3 ?_ | refine w4 ?_ | refine w5 ?_ | refine w6 ?_ | refine w7 ?_ | refine yo0 ?_ ?_ | refine yw0 ?_ ?_ | exact qq | fail)
      refine kretv rfl ⟨Nat.zero_lt_one, trivial, trivial⟩ rfl ?_
      unfold combU
      rw [if_pos h1, if_neg (by rw [hc]; simp)]; rfl
    · have hc := nb_f hc
      rw [e1, e2, e3] at hc
      repeat' (first | refine yo ?_ ?_ | refine yw ?_ ?_ | refine yk ?_ ?_ | exact trivial | with_reducible refine wA ?_ ?_ | refine ys ?_ ?_ | refine xs_done ?_ | refine yl ?_ ?_ | refine w8 ?_ | refine w9 ?_ | refine w1 ?_ | refine w2 ?_ | refine w3 ?_ | refine w4 ?_ | refine w5 ?_ | refine w6 ?_ | refine w7 ?_ | refine yo0 ?_ ?_ | refine yw0 ?_ ?_ | exact qq | fail)
      refine kretv rfl ⟨Nat.zero_lt_one, trivial, trivial⟩ rfl ?_
      unfold combU
      rw [if_pos h1, if_pos hc]
      rw [e1, e2, e3]; rfl
theorem uMul_c (a b : Ty) : PureC G.P 101 [vU a.m a.h a.d, vU b.m b.h b.d] (fun r => r = vUE (combU a b 1)) := by
  have c1 := combine_c a b 1 (.inl rfl)
  refine pure_of (G := G.toPg) (fn := Tryz.f101) Tryz.func101 rfl rfl rfl ?_; intro Γ hk
  repeat' (first | refine yo ?_ ?_ | refine yw ?_ ?_ | refine yk ?_ ?_ | exact trivial | with_reducible refine wA ?_ ?_ | refine ys ?_ ?_ | refine xs_done ?_ | refine yl ?_ ?_ | refine z1 c1 ?_ | refine z2 c1 ?_ | refine z3 c1 ?_ | refine z4 c1 ?_ | refine z5 c1 ?_ | refine w8 ?_ | refine w9 ?_ | refine w1 ?_ | refine w2 ?_ | refine w3 ?_ | refine w4 ?_ | refine w5 ?_ | refine w6 ?_ | refine w7 ?_ | refine yo0 ?_ ?_ | refine yw0 ?_ ?_ | exact qq | fail)
  exact kretv rfl ⟨Nat.zero_lt_one, trivial, trivial⟩ rfl rfl
theorem uDiv_c (a b : Ty) : PureC G.P 102 [vU a.m a.h a.d, vU b.m b.h b.d] (fun r => r = vUE (combU a b (-1))) := by
  have c1 := combine_c a b (-1) (.inr rfl)
  refine pure_of (G := G.toPg) (fn := Tryz.f102) Tryz.func102 rfl rfl rfl ?_; intro Γ hk
  repeat' (first | refine yo ?_ ?_ | refine yw ?_ ?_ | refine yk ?_ ?_ | exact trivial | with_reducible refine wA ?_ ?_ | refine ys ?_ ?_ | refine xs_done ?_ | refine yl ?_ ?_ | refine z1 c1 ?_ | refine z2 c1 ?_ | refine z3 c1 ?_ | refine z4 c1 ?_ | refine z5 c1 ?_ | refine w8 ?_ | refine w9 ?_ | refine w1 ?_ | refine w2 ?_ | refine w3 ?_ | refine w4 ?_ | refine w5 ?_ | refine w6 ?_ | refine w7 ?_ | refine yo0 ?_ ?_ | refine yw0 ?_ ?_ | exact qq | fail)
  exact kretv rfl ⟨Nat.zero_lt_one, trivial, trivial⟩ rfl rfl
theorem measured_c (t : Ty) (m h d : Int) : PureC G.P 81 [vT t, vU m h d] (fun r => r = vi (equS t ⟨false, m, h, d⟩)) := by
  refine pure_of (G := G.toPg) (fn := Tryz.f81) Tryz.func81 rfl rfl rfl ?_; intro Γ hk
  repeat' (first | refine yo ?_ ?_ | refine yw ?_ ?_ | refine yk ?_ ?_ | exact trivial | with_reducible refine wA ?_ ?_ | refine ys ?_ ?_ | refine xs_done ?_ | refine yl ?_ ?_ | refine w8 ?_ | refine w9 ?_ | refine w1 ?_ | refine w2 ?_ | refine w3 ?_ | refine w4 ?_ | refine w5 ?_ | refine w6 ?_ | refine w7 ?_ | refine yo0 ?_ ?_ | refine yw0 ?_ ?_ | exact qq | fail)
  refine pcond rfl ?_ ?_ <;> intro hc
  · repeat' (first | refine yo ?_ ?_ | refine yw ?_ ?_ | refine yk ?_ ?_ | exact trivial | with_reducible refine wA ?_ ?_ | refine ys ?_ ?_ | refine xs_done ?_ | refine yl ?_ ?_ | refine w8 ?_ | refine w9 ?_ | refine w1 ?_ | refine w2 ?_ | refine w3 ?_ | refine w4 ?_ | refine w5 ?_ | refine w6 ?_ | refine w7 ?_ | refine yo0 ?_ ?_ | refine yw0 ?_ ?_ | exact qq | fail)
    refine kretv rfl ⟨trivial, trivial⟩ rfl (eqI ?_)
    unfold equS; rw [if_pos (.inl hc)]
  · repeat' (first | refine yo ?_ ?_ | refine yw ?_ ?_ | refine yk ?_ ?_ | exact trivial | with_reducible refine wA ?_ ?_ | refine ys ?_ ?_ | refine xs_done ?_ | refine yl ?_ ?_ | refine w8 ?_ | refine w9 ?_ | refine w1 ?_ | refine w2 ?_ | refine w3 ?_ | refine w4 ?_ | refine w5 ?_ | refine w6 ?_ | refine w7 ?_ | refine yo0 ?_ ?_ | refine yw0 ?_ ?_ | exact qq | fail)
    refine pcond (b := !decide (t.m = m ∧ t.h = h ∧ t.d = d)) ?_ ?_ ?_
    · refine eqB ?_
      show (!((t.m == m) && ((t.h == h) && ((t.d == d) && true)))) = _
      simp [bqd]
    · intro h1
      have h1 := of_decide_eq_false (nb_t h1)
      repeat' (first | refine yo ?_ ?_ | refine yw ?_ ?_ | refine yk ?_ ?_ | exact trivial | with_reducible refine wA ?_ ?_ | refine ys ?_ ?_ | refine xs_done ?_ | refine yl ?_ ?_ | refine w8 ?_ | refine w9 ?_ | refine w1 ?_ | refine w2 ?_ | refine w3 ?_ | refine w4 ?_ | refine w5 ?_ | refine w6 ?_ | refine w7 ?_ | refine yo0 ?_ ?_ | refine yw0 ?_ ?_ | exact qq | fail)
      refine kretv rfl ⟨trivial, trivial⟩ rfl (eqI ?_)
      unfold equS; rw [if_neg (by simp [hc]), if_neg h1]
    · intro h1
      have h1 := of_decide_eq_true (nb_f h1)
      repeat' (first | refine yo ?_ ?_ | refine yw ?_ ?_ | refine yk ?_ ?_ | exact trivial | with_reducible refine wA ?_ ?_ | refine ys ?_ ?_ | refine xs_done ?_ | refine yl ?_ ?_ | refine w8 ?_ | refine w9 ?_ | refine w1 ?_ | refine w2 ?_ | refine w3 ?_ | refine w4 ?_ | refine w5 ?_ | refine w6 ?_ | refine w7 ?_ | refine yo0 ?_ ?_ | refine yw0 ?_ ?_ | exact qq | fail)
      refine kretv rfl ⟨trivial, trivial⟩ rfl (eqI ?_)
      unfold equS; rw [if_neg (by simp [hc]), if_pos h1]
theorem result_c (t : Ty) (e : Int) : PureC G.P 82 [vT t, vi e] (fun r => r = vTE (resS t e)) := by
  refine pure_of (G := G.toPg) (fn := Tryz.f82) Tryz.func82 rfl rfl rfl ?_; intro Γ hk
  repeat' (first | refine yo ?_ ?_ | refine yw ?_ ?_ | refine yk ?_ ?_ | exact trivial | with_reducible refine wA ?_ ?_ | refine ys ?_ ?_ | refine xs_done ?_ | refine yl ?_ ?_ | refine w8 ?_ | refine w9 ?_ | refine w1 ?_ | refine w2 ?_ | refine w3 ?_ | refine w4 ?_ | refine w5 ?_ | refine w6 ?_ | refine w7 ?_ | refine yo0 ?_ ?_ | refine yw0 ?_ ?_ | exact qq | fail)
  refine pcond rfl ?_ ?_ <;> intro hc
  · have hc : e ≠ 0 := by simpa using hc
    repeat' (first | refine yo ?_ ?_ | refine yw ?_ ?_ | refine yk ?_ ?_ | exact trivial | with_reducible refine wA ?_ ?_ | refine ys ?_ ?_ | refine xs_done ?_ | refine yl ?_ ?_ | refine w8 ?_ | refine w9 ?_ | refine w1 ?_ | refine w2 ?_ | refine w3 ?_ | refine w4 ?_ | refine w5 ?_ | refine w6 ?_ | refine w7 ?_ | refine yo0 ?_ ?_ | refine yw0 ?_ ?_ | exact qq | fail)
    refine kretv rfl ⟨Nat.zero_lt_one, trivial, trivial⟩ rfl ?_
    unfold resS; rw [if_neg hc]; rfl
  · have hc : e = 0 := by simpa using hc
    repeat' (first | refine yo ?_ ?_ | refine yw ?_ ?_ | refine yk ?_ ?_ | exact trivial | with_reducible refine wA ?_ ?_ | refine ys ?_ ?_ | refine xs_done ?_ | refine yl ?_ ?_ | refine w8 ?_ | refine w9 ?_ | refine w1 ?_ | refine w2 ?_ | refine w3 ?_ | refine w4 ?_ | refine w5 ?_ | refine w6 ?_ | refine w7 ?_ | refine yo0 ?_ ?_ | refine yw0 ?_ ?_ | exact qq | fail)
    refine kretv rfl ⟨Nat.zero_lt_one, trivial, trivial⟩ rfl ?_
    unfold resS; rw [if_pos hc]; rfl
theorem sameUnit_c (a b : Ty) : PureC G.P 83 [vT a, vT b] (fun r => r = vi (equS a b)) := by
  have c1 := measured_c b a.m a.h a.d
  refine pure_of (G := G.toPg) (fn := Tryz.f83) Tryz.func83 rfl rfl rfl ?_; intro Γ hk
  repeat' (first | refine yo ?_ ?_ | refine yw ?_ ?_ | refine yk ?_ ?_ | exact trivial | with_reducible refine wA ?_ ?_ | refine ys ?_ ?_ | refine xs_done ?_ | refine yl ?_ ?_ | refine w8 ?_ | refine w9 ?_ | refine w1 ?_ | refine w2 ?_ | refine w3 ?_ | refine w4 ?_ | refine w5 ?_ | refine w6 ?_ | refine w7 ?_ | refine yo0 ?_ ?_ | refine yw0 ?_ ?_ | exact qq | fail)
  refine pcond rfl ?_ ?_ <;> intro hc
  · repeat' (first | refine yo ?_ ?_ | refine yw ?_ ?_ | refine yk ?_ ?_ | exact trivial | with_reducible refine wA ?_ ?_ | refine ys ?_ ?_ | refine xs_done ?_ | refine yl ?_ ?_ | refine w8 ?_ | refine w9 ?_ | refine w1 ?_ | refine w2 ?_ | refine w3 ?_ | refine w4 ?_ | refine w5 ?_ | refine w6 ?_ | refine w7 ?_ | refine yo0 ?_ ?_ | refine yw0 ?_ ?_ | exact qq | fail)
    refine kretv rfl ⟨trivial, trivial⟩ rfl (eqI ?_)
    unfold equS; rw [if_pos (.inl hc)]
  · repeat' (first | refine yo ?_ ?_ | refine yw ?_ ?_ | refine yk ?_ ?_ | exact trivial | with_reducible refine wA ?_ ?_ | refine ys ?_ ?_ | refine xs_done ?_ | refine yl ?_ ?_ | refine z1 c1 ?_ | refine z2 c1 ?_ | refine z3 c1 ?_ | refine z4 c1 ?_ | refine z5 c1 ?_ | refine w8 ?_ | refine w9 ?_ | refine w1 ?_ | refine w2 ?_ | refine w3 ?_ | refine w4 ?_ | refine w5 ?_ | refine w6 ?_ | refine w7 ?_ | refine yo0 ?_ ?_ | refine yw0 ?_ ?_ | exact qq | fail)
    refine kretv rfl ⟨trivial, trivial⟩ rfl (eqI ?_)
    unfold equS
    simp only [hc]
    have e : (b.m = a.m ∧ b.h = a.h ∧ b.d = a.d) = (a.m = b.m ∧ a.h = b.h ∧ a.d = b.d) := by
      apply propext; constructor <;> rintro ⟨h1, h2, h3⟩ <;> exact ⟨h1.symm, h2.symm, h3.symm⟩
    cases b.b <;> simp [e]
def alikeS (a b : Ty) : Int := if a.b = true ∧ b.b = true then 0 else equS a b
theorem alike_c (a b : Ty) : PureC G.P 85 [vT a, vT b] (fun r => r = vi (alikeS a b)) := by
  have c1 := sameUnit_c a b
  refine pure_of (G := G.toPg) (fn := Tryz.f85) Tryz.func85 rfl rfl rfl ?_; intro Γ hk
  repeat' (first | refine yo ?_ ?_ | refine yw ?_ ?_ | refine yk ?_ ?_ | exact trivial | with_reducible refine wA ?_ ?_ | refine ys ?_ ?_ | refine xs_done ?_ | refine yl ?_ ?_ | refine w8 ?_ | refine w9 ?_ | refine w1 ?_ | refine w2 ?_ | refine w3 ?_ | refine w4 ?_ | refine w5 ?_ | refine w6 ?_ | refine w7 ?_ | refine yo0 ?_ ?_ | refine yw0 ?_ ?_ | exact qq | fail)
  refine pcond (b := a.b && b.b) ?_ ?_ ?_
  · refine eqB ?_
    cases a.b <;> cases b.b <;> rfl
  · intro h
    repeat' (first | refine yo ?_ ?_ | refine yw ?_ ?_ | refine yk ?_ ?_ | exact trivial | with_reducible refine wA ?_ ?_ | refine ys ?_ ?_ | refine xs_done ?_ | refine yl ?_ ?_ | refine w8 ?_ | refine w9 ?_ | refine w1 ?_ | refine w2 ?_ | refine w3 ?_ | refine w4 ?_ | refine w5 ?_ | refine w6 ?_ | refine w7 ?_ | refine yo0 ?_ ?_ | refine yw0 ?_ ?_ | exact qq | fail)
    refine kretv rfl ⟨trivial, trivial⟩ rfl (eqI ?_)
    unfold alikeS; rw [if_pos (by simpa using h)]
  · intro h
    repeat' (first | refine yo ?_ ?_ | refine yw ?_ ?_ | refine yk ?_ ?_ | exact trivial | with_reducible refine wA ?_ ?_ | refine ys ?_ ?_ | refine xs_done ?_ | refine yl ?_ ?_ | refine z1 c1 ?_ | refine z2 c1 ?_ | refine z3 c1 ?_ | refine z4 c1 ?_ | refine z5 c1 ?_ | refine w8 ?_ | refine w9 ?_ | refine w1 ?_ | refine w2 ?_ | refine w3 ?_ | refine w4 ?_ | refine w5 ?_ | refine w6 ?_ | refine w7 ?_ | refine yo0 ?_ ?_ | refine yw0 ?_ ?_ | exact qq | fail)
    refine kretv rfl ⟨trivial, trivial⟩ rfl (eqI ?_)
    unfold alikeS; rw [if_neg (by simpa using h)]
theorem numbers_c (n : Nat) (g : Nat → Ty) (hn : n ≤ 3) : PureC G.P 87 [.vsl n 4 (tF cT g)] (fun r => r = vi (if allK n (fun i => !(g i).b) = true then 0 else 9)) := by
  refine pure_of (G := G.toPg) (fn := Tryz.f87) Tryz.func87 rfl rfl rfl ?_; intro Γ hk
  repeat' (first | refine yo ?_ ?_ | refine yw ?_ ?_ | refine yk ?_ ?_ | exact trivial | with_reducible refine wA ?_ ?_ | refine ys ?_ ?_ | refine xs_done ?_ | refine yl ?_ ?_ | refine w8 ?_ | refine w9 ?_ | refine w1 ?_ | refine w2 ?_ | refine w3 ?_ | refine w4 ?_ | refine w5 ?_ | refine w6 ?_ | refine w7 ?_ | refine yo0 ?_ ?_ | refine yw0 ?_ ?_ | exact qq | fail)
  refine pcan (st' := ⟨[(5, .vsl n 4 (tF cT g)), (6, vi n), (7, vi ((0 : Nat) : Int))], []⟩) (can_rowsv [] (k0_sel hk rfl) rfl .nil tmq) ?_
  refine ploop (fun q st => ∃ i : Nat, i ≤ n ∧ (∀ j, j < i → (!(g j).b) = true) ∧ q = n - i ∧ st = ⟨[(5, .vsl n 4 (tF cT g)), (6, vi n), (7, vi i)], []⟩) n ⟨0, by omega, fun j hj => by omega, by omega, rfl⟩ ?_
  rintro _ _ ⟨i, hi, hv, rfl, rfl⟩
  repeat' (first | refine yo ?_ ?_ | refine yw ?_ ?_ | refine yk ?_ ?_ | exact trivial | with_reducible refine wA ?_ ?_ | refine ys ?_ ?_ | refine xs_done ?_ | refine yl ?_ ?_ | refine w8 ?_ | refine w9 ?_ | refine w1 ?_ | refine w2 ?_ | refine w3 ?_ | refine w4 ?_ | refine w5 ?_ | refine w6 ?_ | refine w7 ?_ | refine yo0 ?_ ?_ | refine yw0 ?_ ?_ | exact qq | fail)
  refine pcond rfl ?_ ?_ <;> intro hc <;> simp at hc
  · repeat' (first | refine yo ?_ ?_ | refine yw ?_ ?_ | refine yk ?_ ?_ | exact trivial | with_reducible refine wA ?_ ?_ | refine ys ?_ ?_ | refine xs_done ?_ | refine yl ?_ ?_ | refine w8 ?_ | refine w9 ?_ | refine w1 ?_ | refine w2 ?_ | refine w3 ?_ | refine w4 ?_ | refine w5 ?_ | refine w6 ?_ | refine w7 ?_ | refine yo0 ?_ ?_ | refine yw0 ?_ ?_ | exact qq | fail)
    refine pcond rfl ?_ ?_ <;> intro h1
    · have h1 : (g i).b = true := h1
      repeat' (first | refine yo ?_ ?_ | refine yw ?_ ?_ | refine yk ?_ ?_ | exact trivial | with_reducible refine wA ?_ ?_ | refine ys ?_ ?_ | refine xs_done ?_ | refine yl ?_ ?_ | refine w8 ?_ | refine w9 ?_ | refine w1 ?_ | refine w2 ?_ | refine w3 ?_ | refine w4 ?_ | refine w5 ?_ | refine w6 ?_ | refine w7 ?_ | refine yo0 ?_ ?_ | refine yw0 ?_ ?_ | exact qq | fail)
      refine kretv rfl ⟨trivial, trivial⟩ rfl (eqI ?_)
      rw [if_neg (by rw [allK_no hc (by rw [h1]; rfl)]; simp)]
    · have h1 : (g i).b = false := h1
      repeat' (first | refine yo ?_ ?_ | refine yw ?_ ?_ | refine yk ?_ ?_ | exact trivial | with_reducible refine wA ?_ ?_ | refine ys ?_ ?_ | refine xs_done ?_ | refine yl ?_ ?_ | refine w8 ?_ | refine w9 ?_ | refine w1 ?_ | refine w2 ?_ | refine w3 ?_ | refine w4 ?_ | refine w5 ?_ | refine w6 ?_ | refine w7 ?_ | refine yo0 ?_ ?_ | refine yw0 ?_ ?_ | exact qq | fail)
      rw [show IntKind.i64.wrap ((i : Int) + 1) = ((i + 1 : Nat) : Int) from w64 (by omega) (by omega)]
      exact kloop_next (st' := ⟨[(5, .vsl n 4 (tF cT g)), (6, vi n), (7, vi ((i + 1 : Nat) : Int))], []⟩) (n - (i + 1)) (can_rowsv [] (k0_sel hk rfl) rfl .nil tmq) (by omega) ⟨i + 1, by omega, fun j hj => by
        by_cases e : j = i
        · subst e; rw [h1]; rfl
        · exact hv j (by omega), rfl, rfl⟩
  · repeat' (first | refine yo ?_ ?_ | refine yw ?_ ?_ | refine yk ?_ ?_ | exact trivial | with_reducible refine wA ?_ ?_ | refine ys ?_ ?_ | refine xs_done ?_ | refine yl ?_ ?_ | refine w8 ?_ | refine w9 ?_ | refine w1 ?_ | refine w2 ?_ | refine w3 ?_ | refine w4 ?_ | refine w5 ?_ | refine w6 ?_ | refine w7 ?_ | refine yo0 ?_ ?_ | refine yw0 ?_ ?_ | exact qq | fail)
    refine kretv rfl ⟨trivial, trivial⟩ rfl (eqI ?_)
    rw [if_pos (allK_iff.2 fun j hj => hv j (by omega))]
theorem bools_c (n : Nat) (g : Nat → Ty) (hn : n ≤ 3) : PureC G.P 86 [.vsl n 4 (tF cT g)] (fun r => r = vi (if allK n (fun i => (g i).b) = true then 0 else 9)) := by
  refine pure_of (G := G.toPg) (fn := Tryz.f86) Tryz.func86 rfl rfl rfl ?_; intro Γ hk
  repeat' (first | refine yo ?_ ?_ | refine yw ?_ ?_ | refine yk ?_ ?_ | exact trivial | with_reducible refine wA ?_ ?_ | refine ys ?_ ?_ | refine xs_done ?_ | refine yl ?_ ?_ | refine w8 ?_ | refine w9 ?_ | refine w1 ?_ | refine w2 ?_ | refine w3 ?_ | refine w4 ?_ | refine w5 ?_ | refine w6 ?_ | refine w7 ?_ | refine yo0 ?_ ?_ | refine yw0 ?_ ?_ | exact qq | fail)
  refine pcan (st' := ⟨[(5, .vsl n 4 (tF cT g)), (6, vi n), (7, vi ((0 : Nat) : Int))], []⟩) (can_rowsv [] (k0_sel hk rfl) rfl .nil tmq) ?_
  refine ploop (fun q st => ∃ i : Nat, i ≤ n ∧ (∀ j, j < i → (g j).b = true) ∧ q = n - i ∧ st = ⟨[(5, .vsl n 4 (tF cT g)), (6, vi n), (7, vi i)], []⟩) n ⟨0, by omega, fun j hj => by omega, by omega, rfl⟩ ?_
  rintro _ _ ⟨i, hi, hv, rfl, rfl⟩
  repeat' (first | refine yo ?_ ?_ | refine yw ?_ ?_ | refine yk ?_ ?_ | exact trivial | with_reducible refine wA ?_ ?_ | refine ys ?_ ?_ | refine xs_done ?_ | refine yl ?_ ?_ | refine w8 ?_ | refine w9 ?_ | refine w1 ?_ | refine w2 ?_ | refine w3 ?_ | refine w4 ?_ | refine w5 ?_ | refine w6 ?_ | refine w7 ?_ | refine yo0 ?_ ?_ | refine yw0 ?_ ?_ | exact qq | fail)
  refine pcond rfl ?_ ?_ <;> intro hc <;> simp at hc
  · repeat' (first | refine yo ?_ ?_ | refine yw ?_ ?_ | refine yk ?_ ?_ | exact trivial | with_reducible refine wA ?_ ?_ | refine ys ?_ ?_ | refine xs_done ?_ | refine yl ?_ ?_ | refine w8 ?_ | refine w9 ?_ | refine w1 ?_ | refine w2 ?_ | refine w3 ?_ | refine w4 ?_ | refine w5 ?_ | refine w6 ?_ | refine w7 ?_ | refine yo0 ?_ ?_ | refine yw0 ?_ ?_ | exact qq | fail)
    refine pcond rfl ?_ ?_ <;> intro h1
    · have h1 : (g i).b = false := nb_t h1
      repeat' (first | refine yo ?_ ?_ | refine yw ?_ ?_ | refine yk ?_ ?_ | exact trivial | with_reducible refine wA ?_ ?_ | refine ys ?_ ?_ | refine xs_done ?_ | refine yl ?_ ?_ | refine w8 ?_ | refine w9 ?_ | refine w1 ?_ | refine w2 ?_ | refine w3 ?_ | refine w4 ?_ | refine w5 ?_ | refine w6 ?_ | refine w7 ?_ | refine yo0 ?_ ?_ | refine yw0 ?_ ?_ | exact qq | fail)
      refine kretv rfl ⟨trivial, trivial⟩ rfl (eqI ?_)
      rw [if_neg (by rw [allK_no hc h1]; simp)]
    · have h1 : (g i).b = true := nb_f h1
      repeat' (first | refine yo ?_ ?_ | refine yw ?_ ?_ | refine yk ?_ ?_ | exact trivial | with_reducible refine wA ?_ ?_ | refine ys ?_ ?_ | refine xs_done ?_ | refine yl ?_ ?_ | refine w8 ?_ | refine w9 ?_ | refine w1 ?_ | refine w2 ?_ | refine w3 ?_ | refine w4 ?_ | refine w5 ?_ | refine w6 ?_ | refine w7 ?_ | refine yo0 ?_ ?_ | refine yw0 ?_ ?_ | exact qq | fail)
      rw [show IntKind.i64.wrap ((i : Int) + 1) = ((i + 1 : Nat) : Int) from w64 (by omega) (by omega)]
      exact kloop_next (st' := ⟨[(5, .vsl n 4 (tF cT g)), (6, vi n), (7, vi ((i + 1 : Nat) : Int))], []⟩) (n - (i + 1)) (can_rowsv [] (k0_sel hk rfl) rfl .nil tmq) (by omega) ⟨i + 1, by omega, fun j hj => by
        by_cases e : j = i
        · subst e; exact h1
        · exact hv j (by omega), rfl, rfl⟩
  · repeat' (first | refine yo ?_ ?_ | refine yw ?_ ?_ | refine yk ?_ ?_ | exact trivial | with_reducible refine wA ?_ ?_ | refine ys ?_ ?_ | refine xs_done ?_ | refine yl ?_ ?_ | refine w8 ?_ | refine w9 ?_ | refine w1 ?_ | refine w2 ?_ | refine w3 ?_ | refine w4 ?_ | refine w5 ?_ | refine w6 ?_ | refine w7 ?_ | refine yo0 ?_ ?_ | refine yw0 ?_ ?_ | exact qq | fail)
    refine kretv rfl ⟨trivial, trivial⟩ rfl (eqI ?_)
    rw [if_pos (allK_iff.2 fun j hj => hv j (by omega))]
theorem findS_at (s : ByteArray) : ∀ (l : List Df) (i : Nat), i < l.length → (∀ j, j < i → (lF dD l j).nm.toList ≠ s.toList) → (lF dD l i).nm.toList = s.toList → findS l s = if (lF dD l i).kind = 4 then (tM, 0) else ((lF dD l i).ty, 0)
  | [], i, h, _, _ => by simp at h
  | d :: l, 0, _, _, h => by
    have h : d.nm.toList = s.toList := h
    rw [findS, if_pos h]; rfl
  | d :: l, i + 1, h, hj, h1 => by
    have h0 : d.nm.toList ≠ s.toList := hj 0 (by omega)
    have e : ∀ k, lF dD (d :: l) (k + 1) = lF dD l k := fun k => by unfold lF; simp
    rw [findS, if_neg h0, e]
    rw [e] at h1
    exact findS_at s l i (by simpa using h) (fun j hj2 => by have := hj (j + 1) (by omega); rwa [e] at this) h1
theorem findS_none (s : ByteArray) : ∀ (l : List Df), (∀ j, j < l.length → (lF dD l j).nm.toList ≠ s.toList) → findS l s = (t0, 7)
  | [], _ => rfl
  | d :: l, h => by
    have h0 : d.nm.toList ≠ s.toList := h 0 (by simp)
    have e : ∀ k, lF dD (d :: l) (k + 1) = lF dD l k := fun k => by unfold lF; simp
    rw [findS, if_neg h0]
    exact findS_none s l fun j hj => by have := h (j + 1) (by simpa using hj); rwa [e] at this
abbrev rT (t : Ty) : Row := ⟨.own, true, 1, 4, fun _ => nthP (cT t)⟩
theorem find_c (l : List Df) (s : ByteArray) (hl : l.length ≤ 1000000) : PureC G.P 80 [vDs l, vs s] (fun r => r = vTE (findS l s)) := by
  refine pure_of (G := G.toPg) (fn := Tryz.f80) Tryz.func80 rfl rfl rfl ?_; intro Γ hk
  repeat' (first | refine yo ?_ ?_ | refine yw ?_ ?_ | refine yk ?_ ?_ | exact trivial | with_reducible refine wA ?_ ?_ | refine ys ?_ ?_ | refine xs_done ?_ | refine yl ?_ ?_ | refine w8 ?_ | refine w9 ?_ | refine w1 ?_ | refine w2 ?_ | refine w3 ?_ | refine w4 ?_ | refine w5 ?_ | refine w6 ?_ | refine w7 ?_ | refine yo0 ?_ ?_ | refine yw0 ?_ ?_ | exact qq | fail)
  refine pcan (st' := ⟨[(1, vs s), (4, .ptr 0 0 0), (8, vDs l), (9, vi l.length), (10, vi ((0 : Nat) : Int))], [rT t0]⟩) (can_rowsv [0] (k0_sel hk rfl) rfl (by (repeat (refine SelV.cons rfl rqq ?_)); exact SelV.nil) tmq) ?_
  refine ploop (fun q st => ∃ i : Nat, i ≤ l.length ∧ (∀ j, j < i → (lF dD l j).nm.toList ≠ s.toList) ∧ q = l.length - i ∧ st = ⟨[(1, vs s), (4, .ptr 0 0 0), (8, vDs l), (9, vi l.length), (10, vi i)], [rT t0]⟩) l.length ⟨0, by omega, fun j hj => by omega, by omega, rfl⟩ ?_
  rintro _ _ ⟨i, hi, hv, rfl, rfl⟩
  repeat' (first | refine yo ?_ ?_ | refine yw ?_ ?_ | refine yk ?_ ?_ | exact trivial | with_reducible refine wA ?_ ?_ | refine ys ?_ ?_ | refine xs_done ?_ | refine yl ?_ ?_ | refine w8 ?_ | refine w9 ?_ | refine w1 ?_ | refine w2 ?_ | refine w3 ?_ | refine w4 ?_ | refine w5 ?_ | refine w6 ?_ | refine w7 ?_ | refine yo0 ?_ ?_ | refine yw0 ?_ ?_ | exact qq | fail)
  refine pcond rfl ?_ ?_ <;> intro hc <;> simp at hc
  · repeat' (first | refine yo ?_ ?_ | refine yw ?_ ?_ | refine yk ?_ ?_ | exact trivial | with_reducible refine wA ?_ ?_ | refine ys ?_ ?_ | refine xs_done ?_ | refine yl ?_ ?_ | refine w8 ?_ | refine w9 ?_ | refine w1 ?_ | refine w2 ?_ | refine w3 ?_ | refine w4 ?_ | refine w5 ?_ | refine w6 ?_ | refine w7 ?_ | refine yo0 ?_ ?_ | refine yw0 ?_ ?_ | exact qq | fail)
    refine pcond rfl ?_ ?_ <;> intro h1
    · have h1 : (lF dD l i).nm.toList ≠ s.toList := by have := nb_t h1; simpa using this
      repeat' (first | refine yo ?_ ?_ | refine yw ?_ ?_ | refine yk ?_ ?_ | exact trivial | with_reducible refine wA ?_ ?_ | refine ys ?_ ?_ | refine xs_done ?_ | refine yl ?_ ?_ | refine w8 ?_ | refine w9 ?_ | refine w1 ?_ | refine w2 ?_ | refine w3 ?_ | refine w4 ?_ | refine w5 ?_ | refine w6 ?_ | refine w7 ?_ | refine yo0 ?_ ?_ | refine yw0 ?_ ?_ | exact qq | fail)
      rw [show IntKind.i64.wrap ((i : Int) + 1) = ((i + 1 : Nat) : Int) from w64 (by omega) (by omega)]
      exact kloop_next (st' := ⟨[(1, vs s), (4, .ptr 0 0 0), (8, vDs l), (9, vi l.length), (10, vi ((i + 1 : Nat) : Int))], [rT t0]⟩) (l.length - (i + 1)) (can_rowsv [0] (k0_sel hk rfl) rfl (by (repeat (refine SelV.cons rfl rqq ?_)); exact SelV.nil) tmq) (by omega) ⟨i + 1, by omega, fun j hj => by
        by_cases e : j = i
        · subst e; exact h1
        · exact hv j (by omega), rfl, rfl⟩
    · have h1 : (lF dD l i).nm.toList = s.toList := by have := nb_f h1; simpa using this
      have hf := findS_at s l i hc hv h1
      repeat' (first | refine yo ?_ ?_ | refine yw ?_ ?_ | refine yk ?_ ?_ | exact trivial | with_reducible refine wA ?_ ?_ | refine ys ?_ ?_ | refine xs_done ?_ | refine yl ?_ ?_ | refine w8 ?_ | refine w9 ?_ | refine w1 ?_ | refine w2 ?_ | refine w3 ?_ | refine w4 ?_ | refine w5 ?_ | refine w6 ?_ | refine w7 ?_ | refine yo0 ?_ ?_ | refine yw0 ?_ ?_ | exact qq | fail)
      refine pcond rfl ?_ ?_ <;> intro h2
      · have h2 : (lF dD l i).kind = 4 := by have : ((lF dD l i).kind == 4) = true := h2; simpa using this
        repeat' (first | refine yo ?_ ?_ | refine yw ?_ ?_ | refine yk ?_ ?_ | exact trivial | with_reducible refine wA ?_ ?_ | refine ys ?_ ?_ | refine xs_done ?_ | refine yl ?_ ?_ | refine w8 ?_ | refine w9 ?_ | refine w1 ?_ | refine w2 ?_ | refine w3 ?_ | refine w4 ?_ | refine w5 ?_ | refine w6 ?_ | refine w7 ?_ | refine yo0 ?_ ?_ | refine yw0 ?_ ?_ | exact qq | fail)
        refine kretv rfl ⟨Nat.zero_lt_one, trivial, trivial⟩ rfl ?_
        rw [hf, if_pos h2]; rfl
      · have h2 : ¬ (lF dD l i).kind = 4 := by have : ((lF dD l i).kind == 4) = false := h2; simpa using this
        repeat' (first | refine yo ?_ ?_ | refine yw ?_ ?_ | refine yk ?_ ?_ | exact trivial | with_reducible refine wA ?_ ?_ | refine ys ?_ ?_ | refine xs_done ?_ | refine yl ?_ ?_ | refine w8 ?_ | refine w9 ?_ | refine w1 ?_ | refine w2 ?_ | refine w3 ?_ | refine w4 ?_ | refine w5 ?_ | refine w6 ?_ | refine w7 ?_ | refine yo0 ?_ ?_ | refine yw0 ?_ ?_ | exact qq | fail)
        refine kretv rfl ⟨Nat.zero_lt_one, trivial, trivial⟩ rfl ?_
        rw [hf, if_neg h2]; rfl
  · repeat' (first | refine yo ?_ ?_ | refine yw ?_ ?_ | refine yk ?_ ?_ | exact trivial | with_reducible refine wA ?_ ?_ | refine ys ?_ ?_ | refine xs_done ?_ | refine yl ?_ ?_ | refine w8 ?_ | refine w9 ?_ | refine w1 ?_ | refine w2 ?_ | refine w3 ?_ | refine w4 ?_ | refine w5 ?_ | refine w6 ?_ | refine w7 ?_ | refine yo0 ?_ ?_ | refine yw0 ?_ ?_ | exact qq | fail)
    refine kretv rfl ⟨Nat.zero_lt_one, trivial, trivial⟩ rfl ?_
    rw [findS_none s l fun j hj => hv j (by omega)]; rfl
def two2 (a b : Ty) (i : Nat) : Ty := if i = 0 then a else b
theorem arg2 {mem : List Row} {L : List Nat} {l : Nat} {a b : Ty} (hr : rowAt mem l = some ⟨.own, false, 2, 4, fun x y => nthP [vb a.b, vi a.m, vi a.h, vi a.d, vb b.b, vi b.m, vi b.h, vi b.d] (x * 4 + y)⟩) (hL : l ∈ L) : ArgOk mem L (.lsl l 0 2) (.vsl 2 4 (tF cT (two2 a b))) :=
  argLsl (r := ⟨.own, false, 2, 4, _⟩) hr trivial hL (by simp) fun x hx y hy => ⟨by
    rcases (by omega : x = 0 ∨ x = 1) with rfl | rfl <;> rcases (by have : y < 4 := hy; omega : y = 0 ∨ y = 1 ∨ y = 2 ∨ y = 3) with rfl | rfl | rfl | rfl <;> rfl, tF_cl cT_cl _ _ _⟩
theorem arg1 {mem : List Row} {L : List Nat} {l : Nat} {a : Ty} (hr : rowAt mem l = some ⟨.own, false, 1, 4, fun x y => nthP [vb a.b, vi a.m, vi a.h, vi a.d] (x * 4 + y)⟩) (hL : l ∈ L) : ArgOk mem L (.lsl l 0 1) (.vsl 1 4 (tF cT (fun _ => a))) :=
  argLsl (r := ⟨.own, false, 1, 4, _⟩) hr trivial hL (by simp) fun x hx y hy => ⟨by
    obtain rfl : x = 0 := by omega
    rcases (by have : y < 4 := hy; omega : y = 0 ∨ y = 1 ∨ y = 2 ∨ y = 3) with rfl | rfl | rfl | rfl <;> rfl, tF_cl cT_cl _ _ _⟩
theorem all2 (a b : Ty) (p : Ty → Bool) : allK 2 (fun i => p (two2 a b i)) = (p a && p b) := by
  show ((List.range 2).all _) = _
  simp [List.range, List.range.loop, two2]
theorem all1 (a : Ty) (p : Ty → Bool) : allK 1 (fun _ => p a) = p a := by
  show ((List.range 1).all _) = _
  simp [List.range, List.range.loop]
def prodS (op : Int) (a b : Ty) : Ty × Int := if a.b = true ∨ b.b = true then (t0, 9) else mulT a b (if op = 8 then -1 else 1)
theorem mulT_eq (a b : Ty) (s : Int) : mulT a b s = if (combU a b s).2 = 0 then (⟨false, (combU a b s).1.1, (combU a b s).1.2.1, (combU a b s).1.2.2⟩, 0) else (t0, 10) := by
  unfold mulT combU
  by_cases h1 : unitS a.m a.h a.d = true ∧ unitS b.m b.h b.d = true
  · rw [if_pos h1]
    by_cases h2 : unitS (a.m + s * b.m) (a.h + s * b.h) (a.d + s * b.d) = true
    · rw [if_pos ⟨h1.1, h1.2, h2⟩, if_pos h2]; rfl
    · rw [if_neg (fun h => h2 h.2.2), if_neg h2]; rfl
  · rw [if_neg (fun h => h1 ⟨h.1, h.2.1⟩), if_neg h1]; rfl
set_option maxHeartbeats 1000000 in
theorem product_c (op : Int) (a b : Ty) : PureC G.P 84 [vi op, vT a, vT b] (fun r => r = vTE (prodS op a b)) := by
  have c1 := uMul_c a b
  have c2 := uDiv_c a b
  refine pure_of (G := G.toPg) (fn := Tryz.f84) Tryz.func84 rfl rfl rfl ?_; intro Γ hk
  repeat' (first | refine yo ?_ ?_ | refine yw ?_ ?_ | refine yk ?_ ?_ | exact trivial | with_reducible refine wA ?_ ?_ | refine ys ?_ ?_ | refine xs_done ?_ | refine yl ?_ ?_ | refine w8 ?_ | refine w9 ?_ | refine w1 ?_ | refine w2 ?_ | refine w3 ?_ | refine w4 ?_ | refine w5 ?_ | refine w6 ?_ | refine w7 ?_ | refine yo0 ?_ ?_ | refine yw0 ?_ ?_ | exact qq | fail)
  refine pop_callc [3] rfl rfl rfl rfl rfl rfl (by intro l hl; rw [hk]; exact Nat.zero_le _) (numbers_c 2 (two2 a b) (by omega)) ⟨arg2 rfl (List.Mem.head _), trivial⟩ ?_
  rintro _ rfl
  rw [all2 a b (fun t => !t.b)]
  by_cases h : a.b = true ∨ b.b = true
  · rw [if_neg (by rcases h with h | h <;> rw [h] <;> simp)]
    repeat' (first | refine yo ?_ ?_ | refine yw ?_ ?_ | refine yk ?_ ?_ | exact trivial | with_reducible refine wA ?_ ?_ | refine ys ?_ ?_ | refine xs_done ?_ | refine yl ?_ ?_ | refine w8 ?_ | refine w9 ?_ | refine w1 ?_ | refine w2 ?_ | refine w3 ?_ | refine w4 ?_ | refine w5 ?_ | refine w6 ?_ | refine w7 ?_ | refine yo0 ?_ ?_ | refine yw0 ?_ ?_ | exact qq | fail)
    refine kretv rfl ⟨Nat.zero_lt_one, trivial, trivial⟩ rfl ?_
    unfold prodS; rw [if_pos h]; rfl
  · have h2 : a.b = false ∧ b.b = false := by cases ha : a.b <;> cases hb : b.b <;> simp_all
    rw [if_pos (by rw [h2.1, h2.2]; rfl)]
    repeat' (first | refine yo ?_ ?_ | refine yw ?_ ?_ | refine yk ?_ ?_ | exact trivial | with_reducible refine wA ?_ ?_ | refine ys ?_ ?_ | refine xs_done ?_ | refine yl ?_ ?_ | refine w8 ?_ | refine w9 ?_ | refine w1 ?_ | refine w2 ?_ | refine w3 ?_ | refine w4 ?_ | refine w5 ?_ | refine w6 ?_ | refine w7 ?_ | refine yo0 ?_ ?_ | refine yw0 ?_ ?_ | exact qq | fail)
    refine pcond rfl ?_ ?_ <;> intro hc
    · have hc : op = 8 := by simpa using hc
      have hp : prodS op a b = mulT a b (-1) := by unfold prodS; rw [if_neg h, if_pos hc]
      rw [hp, mulT_eq]
      generalize combU a b (-1) = X at *
      repeat' (first | refine yo ?_ ?_ | refine yw ?_ ?_ | refine yk ?_ ?_ | exact trivial | with_reducible refine wA ?_ ?_ | refine ys ?_ ?_ | refine xs_done ?_ | refine yl ?_ ?_ | refine z1 c2 ?_ | refine z2 c2 ?_ | refine z3 c2 ?_ | refine z4 c2 ?_ | refine z5 c2 ?_ | refine w8 ?_ | refine w9 ?_ | refine w1 ?_ | refine w2 ?_ | refine w3 ?_ | refine w4 ?_ | refine w5 ?_ | refine w6 ?_ | refine w7 ?_ | refine yo0 ?_ ?_ | refine yw0 ?_ ?_ | exact qq | fail)
      refine pcond rfl ?_ ?_ <;> intro hc2
      · have hc2 : X.2 ≠ 0 := by simpa using hc2
        repeat' (first | refine yo ?_ ?_ | refine yw ?_ ?_ | refine yk ?_ ?_ | exact trivial | with_reducible refine wA ?_ ?_ | refine ys ?_ ?_ | refine xs_done ?_ | refine yl ?_ ?_ | refine w8 ?_ | refine w9 ?_ | refine w1 ?_ | refine w2 ?_ | refine w3 ?_ | refine w4 ?_ | refine w5 ?_ | refine w6 ?_ | refine w7 ?_ | refine yo0 ?_ ?_ | refine yw0 ?_ ?_ | exact qq | fail)
        refine kretv rfl ⟨Nat.zero_lt_one, trivial, trivial⟩ rfl ?_
        rw [if_neg hc2]; rfl
      · have hc2 : X.2 = 0 := by simpa using hc2
        repeat' (first | refine yo ?_ ?_ | refine yw ?_ ?_ | refine yk ?_ ?_ | exact trivial | with_reducible refine wA ?_ ?_ | refine ys ?_ ?_ | refine xs_done ?_ | refine yl ?_ ?_ | refine w8 ?_ | refine w9 ?_ | refine w1 ?_ | refine w2 ?_ | refine w3 ?_ | refine w4 ?_ | refine w5 ?_ | refine w6 ?_ | refine w7 ?_ | refine yo0 ?_ ?_ | refine yw0 ?_ ?_ | exact qq | fail)
        refine kretv rfl ⟨Nat.zero_lt_one, trivial, trivial⟩ rfl ?_
        rw [if_pos hc2]; rfl
    · have hc : ¬ op = 8 := by simpa using hc
      have hp : prodS op a b = mulT a b 1 := by unfold prodS; rw [if_neg h, if_neg hc]
      rw [hp, mulT_eq]
      generalize combU a b 1 = X at *
      repeat' (first | refine yo ?_ ?_ | refine yw ?_ ?_ | refine yk ?_ ?_ | exact trivial | with_reducible refine wA ?_ ?_ | refine ys ?_ ?_ | refine xs_done ?_ | refine yl ?_ ?_ | refine z1 c1 ?_ | refine z2 c1 ?_ | refine z3 c1 ?_ | refine z4 c1 ?_ | refine z5 c1 ?_ | refine w8 ?_ | refine w9 ?_ | refine w1 ?_ | refine w2 ?_ | refine w3 ?_ | refine w4 ?_ | refine w5 ?_ | refine w6 ?_ | refine w7 ?_ | refine yo0 ?_ ?_ | refine yw0 ?_ ?_ | exact qq | fail)
      refine pcond rfl ?_ ?_ <;> intro hc2
      · have hc2 : X.2 ≠ 0 := by simpa using hc2
        repeat' (first | refine yo ?_ ?_ | refine yw ?_ ?_ | refine yk ?_ ?_ | exact trivial | with_reducible refine wA ?_ ?_ | refine ys ?_ ?_ | refine xs_done ?_ | refine yl ?_ ?_ | refine w8 ?_ | refine w9 ?_ | refine w1 ?_ | refine w2 ?_ | refine w3 ?_ | refine w4 ?_ | refine w5 ?_ | refine w6 ?_ | refine w7 ?_ | refine yo0 ?_ ?_ | refine yw0 ?_ ?_ | exact qq | fail)
        refine kretv rfl ⟨Nat.zero_lt_one, trivial, trivial⟩ rfl ?_
        rw [if_neg hc2]; rfl
      · have hc2 : X.2 = 0 := by simpa using hc2
        repeat' (first | refine yo ?_ ?_ | refine yw ?_ ?_ | refine yk ?_ ?_ | exact trivial | with_reducible refine wA ?_ ?_ | refine ys ?_ ?_ | refine xs_done ?_ | refine yl ?_ ?_ | refine w8 ?_ | refine w9 ?_ | refine w1 ?_ | refine w2 ?_ | refine w3 ?_ | refine w4 ?_ | refine w5 ?_ | refine w6 ?_ | refine w7 ?_ | refine yo0 ?_ ?_ | refine yw0 ?_ ?_ | exact qq | fail)
        refine kretv rfl ⟨Nat.zero_lt_one, trivial, trivial⟩ rfl ?_
        rw [if_pos hc2]; rfl
abbrev vSc (N S P : List Df) : PV := .agg 3 (nthP [vDs N, vDs S, vDs P])
abbrev rK (a b c : Ty) : Row := ⟨.own, true, 1, 12, fun _ => nthP [vb a.b, vi a.m, vi a.h, vi a.d, vb b.b, vi b.m, vi b.h, vi b.d, vb c.b, vi c.m, vi c.h, vi c.d]⟩
abbrev rX (e : Ex) : Row := ⟨.own, true, 1, 10, fun _ => nthP (cX e)⟩
abbrev rSc (N S P : List Df) : Row := ⟨.own, true, 1, 3, fun _ => nthP [vDs N, vDs S, vDs P]⟩
set_option maxHeartbeats 4000000 in
theorem typeOf_c (N S P : List Df) (hN : N.length ≤ 1000000) (hS : S.length ≤ 1000000) (hP : P.length ≤ 1000000) : ∀ (n : Nat) (e : Ex), validS n e = true → PureC G.P 64 [vSc N S P, vX e] (fun r => r = vTE (typeS N S P n e))
  | 0, e, hv => by cases hv
  | n + 1, e, hv => by
    have hv0 := hv
    simp only [validS, Bool.and_eq_true, decide_eq_true_eq] at hv
    obtain ⟨hnk, hfl, hks⟩ := hv
    have hks := allK_iff.1 hks
    have ih : ∀ i, i < e.nk → PureC G.P 64 [vSc N S P, vX (e.kf i)] (fun r => r = vTE (typeS N S P n (e.kf i))) := fun i hi => typeOf_c N S P hN hS hP n (e.kf i) (hks i hi)
    have hk3 := kidsN_le e.op
    obtain ⟨T, hT⟩ : ∃ T : Nat → Ty × Int, ∀ i, typeS N S P n (e.kf i) = T i := ⟨_, fun _ => rfl⟩
    obtain ⟨t1, t2⟩ := typeS_succ N S P n e hT (by omega)
    generalize typeS N S P (n + 1) e = R at *
    simp only [hT] at ih
    refine pure_of (G := G.toPg) (fn := Tryz.f64) Tryz.func64 rfl rfl rfl ?_; intro Γ hk
    repeat' (first | refine yo ?_ ?_ | refine yw ?_ ?_ | refine yk ?_ ?_ | exact trivial | with_reducible refine wA ?_ ?_ | refine ys ?_ ?_ | refine xs_done ?_ | refine yl ?_ ?_ | refine w8 ?_ | refine w9 ?_ | refine w1 ?_ | refine w2 ?_ | refine w3 ?_ | refine w4 ?_ | refine w5 ?_ | refine w6 ?_ | refine w7 ?_ | refine yo0 ?_ ?_ | refine yw0 ?_ ?_ | exact qq | fail)
    refine pcan (st' := ⟨[(2, .ptr 0 0 0), (3, .ptr 1 0 0), (4, .ptr 2 0 0), (6, .ptr 3 0 0), (16, .vsl e.nk 10 (tF cX e.kf)), (17, vi e.nk), (18, vi ((0 : Nat) : Int))], [rSc N S P, rX e, rT t0, rK (kt T 0 0) (kt T 0 1) (kt T 0 2)]⟩) (can_rowsv [0, 1, 2, 3] (k0_sel hk rfl) rfl (.cons rfl rqq (.cons rfl rqq (.cons rfl rqq (.cons rfl rqq .nil)))) (by exact ⟨PEq.refl _, PEq.refl _, PEq.refl _, PEq.refl _, peqK e, PEq.refl _, PEq.refl _, trivial⟩)) ?_
    refine ploop (fun q st => ∃ i : Nat, i ≤ e.nk ∧ (∀ j, j < i → (T j).2 = 0) ∧ q = e.nk - i ∧ st = ⟨[(2, .ptr 0 0 0), (3, .ptr 1 0 0), (4, .ptr 2 0 0), (6, .ptr 3 0 0), (16, .vsl e.nk 10 (tF cX e.kf)), (17, vi e.nk), (18, vi i)], [rSc N S P, rX e, rT t0, rK (kt T i 0) (kt T i 1) (kt T i 2)]⟩) e.nk ⟨0, by omega, fun j hj => by omega, by omega, rfl⟩ ?_
    rintro _ _ ⟨i, hi, hz, rfl, rfl⟩
    repeat' (first | refine yo ?_ ?_ | refine yw ?_ ?_ | refine yk ?_ ?_ | exact trivial | with_reducible refine wA ?_ ?_ | refine ys ?_ ?_ | refine xs_done ?_ | refine yl ?_ ?_ | refine w8 ?_ | refine w9 ?_ | refine w1 ?_ | refine w2 ?_ | refine w3 ?_ | refine w4 ?_ | refine w5 ?_ | refine w6 ?_ | refine w7 ?_ | refine yo0 ?_ ?_ | refine yw0 ?_ ?_ | exact qq | fail)
    refine pcond rfl ?_ ?_ <;> intro hc <;> simp at hc
    · have c1 := ih i hc
      repeat' (first | refine yo ?_ ?_ | refine yw ?_ ?_ | refine yk ?_ ?_ | exact trivial | with_reducible refine wA ?_ ?_ | refine ys ?_ ?_ | refine xs_done ?_ | refine yl ?_ ?_ | refine z1 c1 ?_ | refine z2 c1 ?_ | refine z3 c1 ?_ | refine z4 c1 ?_ | refine z5 c1 ?_ | refine w8 ?_ | refine w9 ?_ | refine w1 ?_ | refine w2 ?_ | refine w3 ?_ | refine w4 ?_ | refine w5 ?_ | refine w6 ?_ | refine w7 ?_ | refine yo0 ?_ ?_ | refine yw0 ?_ ?_ | exact qq | fail)
      refine pcond rfl ?_ ?_ <;> intro hc2
      · have hc2 : (T i).2 ≠ 0 := by simpa using hc2
        repeat' (first | refine yo ?_ ?_ | refine yw ?_ ?_ | refine yk ?_ ?_ | exact trivial | with_reducible refine wA ?_ ?_ | refine ys ?_ ?_ | refine xs_done ?_ | refine yl ?_ ?_ | refine w8 ?_ | refine w9 ?_ | refine w1 ?_ | refine w2 ?_ | refine w3 ?_ | refine w4 ?_ | refine w5 ?_ | refine w6 ?_ | refine w7 ?_ | refine yo0 ?_ ?_ | refine yw0 ?_ ?_ | exact qq | fail)
        refine kretv rfl ⟨Nat.zero_lt_one, trivial, trivial⟩ rfl ?_
        rw [t1 i hc hz hc2]; rfl
      · have hc2 : (T i).2 = 0 := by simpa using hc2
        rcases (by omega : i = 0 ∨ i = 1 ∨ i = 2) with rfl | rfl | rfl
        · repeat' (first | refine yo ?_ ?_ | refine yw ?_ ?_ | refine yk ?_ ?_ | exact trivial | with_reducible refine wA ?_ ?_ | refine ys ?_ ?_ | refine xs_done ?_ | refine yl ?_ ?_ | refine w8 ?_ | refine w9 ?_ | refine w1 ?_ | refine w2 ?_ | refine w3 ?_ | refine w4 ?_ | refine w5 ?_ | refine w6 ?_ | refine w7 ?_ | refine yo0 ?_ ?_ | refine yw0 ?_ ?_ | exact qq | fail)
          exact kloop_next (st' := ⟨[(2, .ptr 0 0 0), (3, .ptr 1 0 0), (4, .ptr 2 0 0), (6, .ptr 3 0 0), (16, .vsl e.nk 10 (tF cX e.kf)), (17, vi e.nk), (18, vi ((0 + 1 : Nat) : Int))], [rSc N S P, rX e, rT t0, rK (kt T (0 + 1) 0) (kt T (0 + 1) 1) (kt T (0 + 1) 2)]⟩) (e.nk - (0 + 1)) (can_rowsv [0, 1, 2, 3] (k0_sel hk rfl) rfl (.cons rfl rqq (.cons rfl rqq (.cons rfl rqq (.cons rfl rqq .nil)))) tmq) (by omega) ⟨0 + 1, by omega, fun j hj => by
            obtain rfl : j = 0 := by omega
            exact hc2, rfl, rfl⟩
        · repeat' (first | refine yo ?_ ?_ | refine yw ?_ ?_ | refine yk ?_ ?_ | exact trivial | with_reducible refine wA ?_ ?_ | refine ys ?_ ?_ | refine xs_done ?_ | refine yl ?_ ?_ | refine w8 ?_ | refine w9 ?_ | refine w1 ?_ | refine w2 ?_ | refine w3 ?_ | refine w4 ?_ | refine w5 ?_ | refine w6 ?_ | refine w7 ?_ | refine yo0 ?_ ?_ | refine yw0 ?_ ?_ | exact qq | fail)
          exact kloop_next (st' := ⟨[(2, .ptr 0 0 0), (3, .ptr 1 0 0), (4, .ptr 2 0 0), (6, .ptr 3 0 0), (16, .vsl e.nk 10 (tF cX e.kf)), (17, vi e.nk), (18, vi ((1 + 1 : Nat) : Int))], [rSc N S P, rX e, rT t0, rK (kt T (1 + 1) 0) (kt T (1 + 1) 1) (kt T (1 + 1) 2)]⟩) (e.nk - (1 + 1)) (can_rowsv [0, 1, 2, 3] (k0_sel hk rfl) rfl (.cons rfl rqq (.cons rfl rqq (.cons rfl rqq (.cons rfl rqq .nil)))) tmq) (by omega) ⟨1 + 1, by omega, fun j hj => by
            rcases (by omega : j < 1 ∨ j = 1) with h | rfl
            · exact hz j h
            · exact hc2, rfl, rfl⟩
        · repeat' (first | refine yo ?_ ?_ | refine yw ?_ ?_ | refine yk ?_ ?_ | exact trivial | with_reducible refine wA ?_ ?_ | refine ys ?_ ?_ | refine xs_done ?_ | refine yl ?_ ?_ | refine w8 ?_ | refine w9 ?_ | refine w1 ?_ | refine w2 ?_ | refine w3 ?_ | refine w4 ?_ | refine w5 ?_ | refine w6 ?_ | refine w7 ?_ | refine yo0 ?_ ?_ | refine yw0 ?_ ?_ | exact qq | fail)
          exact kloop_next (st' := ⟨[(2, .ptr 0 0 0), (3, .ptr 1 0 0), (4, .ptr 2 0 0), (6, .ptr 3 0 0), (16, .vsl e.nk 10 (tF cX e.kf)), (17, vi e.nk), (18, vi ((2 + 1 : Nat) : Int))], [rSc N S P, rX e, rT t0, rK (kt T (2 + 1) 0) (kt T (2 + 1) 1) (kt T (2 + 1) 2)]⟩) (e.nk - (2 + 1)) (can_rowsv [0, 1, 2, 3] (k0_sel hk rfl) rfl (.cons rfl rqq (.cons rfl rqq (.cons rfl rqq (.cons rfl rqq .nil)))) tmq) (by omega) ⟨2 + 1, by omega, fun j hj => by
            rcases (by omega : j < 2 ∨ j = 2) with h | rfl
            · exact hz j h
            · exact hc2, rfl, rfl⟩
    · obtain rfl : i = e.nk := by omega
      rw [t2 hz]
      unfold opK
      generalize kt T e.nk 0 = a at *
      generalize kt T e.nk 1 = b at *
      generalize kt T e.nk 2 = c at *
      clear t1 t2 ih hz
      have f1 := find_c N e.nm hN
      have f2 := find_c S e.nm hS
      have f3 := find_c P e.nm hP
      have m1 := measured_c a 0 0 0
      have m2 := measured_c a e.um e.uh e.ud
      have u1 := sameUnit_c a b
      have u2 := alike_c a b
      have u3 := alike_c b c
      have r1 := fun x => result_c a x
      have r2 := fun x => result_c b x
      have r3 := fun x => result_c tB x
      have r4 := fun x => result_c (findS S e.nm).1 x
      have p1 := product_c e.op a b
      have hop : e.op = 1 ∨ e.op = 2 ∨ e.op = 3 ∨ e.op = 20 ∨ e.op = 21 ∨ e.op = 4 ∨ e.op = 5 ∨ e.op = 6 ∨ e.op = 14 ∨ e.op = 15 ∨ e.op = 7 ∨ e.op = 8 ∨ e.op = 9 ∨ e.op = 10 ∨ e.op = 11 ∨ e.op = 12 ∨ e.op = 13 ∨ e.op = 17 ∨ e.op = 16 ∨ e.op = 18 ∨ e.op = 19 := by
        by_cases h : 1 ≤ e.op ∧ e.op ≤ 21
        · omega
        · exfalso
          unfold kidsN at hnk
          rw [if_neg (by omega), if_neg (by omega), if_neg (by omega), if_neg (by omega)] at hnk
          omega
      rcases hop with h | h | h | h | h | hop
      · repeat' (first | refine yo ?_ ?_ | refine yw ?_ ?_ | refine yk ?_ ?_ | exact trivial | with_reducible refine wA ?_ ?_ | refine ys ?_ ?_ | refine xs_done ?_ | refine yl ?_ ?_ | (refine pcond_y rfl (by rw [h]; rfl) ?_) | (refine pcond_n rfl (by rw [h]; rfl) ?_) | refine z1 f1 ?_ | refine z2 f1 ?_ | refine z3 f1 ?_ | refine z4 f1 ?_ | refine z5 f1 ?_ | refine z1 f3 ?_ | refine z2 f3 ?_ | refine z3 f3 ?_ | refine z4 f3 ?_ | refine z5 f3 ?_ | refine w8 ?_ | refine w9 ?_ | refine w1 ?_ | refine w2 ?_ | refine w3 ?_ | refine w4 ?_ | refine w5 ?_ | refine w6 ?_ | refine w7 ?_ | refine yo0 ?_ ?_ | refine yw0 ?_ ?_ | exact qq | fail)
        refine kretv rfl ⟨Nat.zero_lt_one, trivial, trivial⟩ rfl ?_
        simp only [opS, h]; rfl
      · repeat' (first | refine yo ?_ ?_ | refine yw ?_ ?_ | refine yk ?_ ?_ | exact trivial | with_reducible refine wA ?_ ?_ | refine ys ?_ ?_ | refine xs_done ?_ | refine yl ?_ ?_ | (refine pcond_y rfl (by rw [h]; rfl) ?_) | (refine pcond_n rfl (by rw [h]; rfl) ?_) | refine z1 f1 ?_ | refine z2 f1 ?_ | refine z3 f1 ?_ | refine z4 f1 ?_ | refine z5 f1 ?_ | refine z1 f3 ?_ | refine z2 f3 ?_ | refine z3 f3 ?_ | refine z4 f3 ?_ | refine z5 f3 ?_ | refine w8 ?_ | refine w9 ?_ | refine w1 ?_ | refine w2 ?_ | refine w3 ?_ | refine w4 ?_ | refine w5 ?_ | refine w6 ?_ | refine w7 ?_ | refine yo0 ?_ ?_ | refine yw0 ?_ ?_ | exact qq | fail)
        refine kretv rfl ⟨Nat.zero_lt_one, trivial, trivial⟩ rfl ?_
        simp only [opS, h]; rfl
      · repeat' (first | refine yo ?_ ?_ | refine yw ?_ ?_ | refine yk ?_ ?_ | exact trivial | with_reducible refine wA ?_ ?_ | refine ys ?_ ?_ | refine xs_done ?_ | refine yl ?_ ?_ | (refine pcond_y rfl (by rw [h]; rfl) ?_) | (refine pcond_n rfl (by rw [h]; rfl) ?_) | refine z1 f1 ?_ | refine z2 f1 ?_ | refine z3 f1 ?_ | refine z4 f1 ?_ | refine z5 f1 ?_ | refine z1 f3 ?_ | refine z2 f3 ?_ | refine z3 f3 ?_ | refine z4 f3 ?_ | refine z5 f3 ?_ | refine w8 ?_ | refine w9 ?_ | refine w1 ?_ | refine w2 ?_ | refine w3 ?_ | refine w4 ?_ | refine w5 ?_ | refine w6 ?_ | refine w7 ?_ | refine yo0 ?_ ?_ | refine yw0 ?_ ?_ | exact qq | fail)
        refine kretv rfl ⟨Nat.zero_lt_one, trivial, trivial⟩ rfl ?_
        simp only [opS, h]; rfl
      · repeat' (first | refine yo ?_ ?_ | refine yw ?_ ?_ | refine yk ?_ ?_ | exact trivial | with_reducible refine wA ?_ ?_ | refine ys ?_ ?_ | refine xs_done ?_ | refine yl ?_ ?_ | (refine pcond_y rfl (by rw [h]; rfl) ?_) | (refine pcond_n rfl (by rw [h]; rfl) ?_) | refine z1 f1 ?_ | refine z2 f1 ?_ | refine z3 f1 ?_ | refine z4 f1 ?_ | refine z5 f1 ?_ | refine z1 f3 ?_ | refine z2 f3 ?_ | refine z3 f3 ?_ | refine z4 f3 ?_ | refine z5 f3 ?_ | refine w8 ?_ | refine w9 ?_ | refine w1 ?_ | refine w2 ?_ | refine w3 ?_ | refine w4 ?_ | refine w5 ?_ | refine w6 ?_ | refine w7 ?_ | refine yo0 ?_ ?_ | refine yw0 ?_ ?_ | exact qq | fail)
        refine kretv rfl ⟨Nat.zero_lt_one, trivial, trivial⟩ rfl ?_
        simp only [opS, h]; rfl
      · repeat' (first | refine yo ?_ ?_ | refine yw ?_ ?_ | refine yk ?_ ?_ | exact trivial | with_reducible refine wA ?_ ?_ | refine ys ?_ ?_ | refine xs_done ?_ | refine yl ?_ ?_ | (refine pcond_y rfl (by rw [h]; rfl) ?_) | (refine pcond_n rfl (by rw [h]; rfl) ?_) | refine z1 f1 ?_ | refine z2 f1 ?_ | refine z3 f1 ?_ | refine z4 f1 ?_ | refine z5 f1 ?_ | refine z1 f3 ?_ | refine z2 f3 ?_ | refine z3 f3 ?_ | refine z4 f3 ?_ | refine z5 f3 ?_ | refine w8 ?_ | refine w9 ?_ | refine w1 ?_ | refine w2 ?_ | refine w3 ?_ | refine w4 ?_ | refine w5 ?_ | refine w6 ?_ | refine w7 ?_ | refine yo0 ?_ ?_ | refine yw0 ?_ ?_ | exact qq | fail)
        refine kretv rfl ⟨Nat.zero_lt_one, trivial, trivial⟩ rfl ?_
        simp only [opS, h]; rfl
      have r5 := result_c a (equS a b)
      have r6 := result_c tB (equS a b)
      have r7 := result_c tB (alikeS a b)
      have r8 := result_c a (equS a ⟨false, e.um, e.uh, e.ud⟩)
      have r9 := result_c b (alikeS b c)
      rcases hop with h | h | h | h | h | hop
      · obtain ⟨F, hF⟩ : ∃ F, F = findS S e.nm := ⟨_, rfl⟩
        rw [← hF] at f2
        have ho : opS N S P e a b c = if F.2 ≠ 0 then (t0, F.2) else resS F.1 (equS a t0) := by simp only [opS, h, hF]; rfl
        rw [ho]
        have r4 := result_c F.1 F.2
        have r4' := result_c F.1 (equS a ⟨false, 0, 0, 0⟩)
        repeat' (first | refine yo ?_ ?_ | refine yw ?_ ?_ | refine yk ?_ ?_ | exact trivial | with_reducible refine wA ?_ ?_ | refine ys ?_ ?_ | refine xs_done ?_ | refine yl ?_ ?_ | (refine pcond_y rfl (by rw [h]; rfl) ?_) | (refine pcond_n rfl (by rw [h]; rfl) ?_) | refine z1 f2 ?_ | refine z2 f2 ?_ | refine z3 f2 ?_ | refine z4 f2 ?_ | refine z5 f2 ?_ | refine w8 ?_ | refine w9 ?_ | refine w1 ?_ | refine w2 ?_ | refine w3 ?_ | refine w4 ?_ | refine w5 ?_ | refine w6 ?_ | refine w7 ?_ | refine yo0 ?_ ?_ | refine yw0 ?_ ?_ | exact qq | fail)
        refine pcond rfl ?_ ?_ <;> intro h0
        · have h0 : F.2 = 0 := by simpa using h0
          repeat' (first | refine yo ?_ ?_ | refine yw ?_ ?_ | refine yk ?_ ?_ | exact trivial | with_reducible refine wA ?_ ?_ | refine ys ?_ ?_ | refine xs_done ?_ | refine yl ?_ ?_ | refine z1 m1 ?_ | refine z2 m1 ?_ | refine z3 m1 ?_ | refine z4 m1 ?_ | refine z5 m1 ?_ | refine z1 (r4') ?_ | refine z2 (r4') ?_ | refine z3 (r4') ?_ | refine z4 (r4') ?_ | refine z5 (r4') ?_ | refine w8 ?_ | refine w9 ?_ | refine w1 ?_ | refine w2 ?_ | refine w3 ?_ | refine w4 ?_ | refine w5 ?_ | refine w6 ?_ | refine w7 ?_ | refine yo0 ?_ ?_ | refine yw0 ?_ ?_ | exact qq | fail)
          refine kretv rfl ⟨Nat.zero_lt_one, trivial, trivial⟩ rfl ?_
          rw [if_neg (by rw [h0]; simp)]; rfl
        · have h0 : ¬ F.2 = 0 := by simpa using h0
          repeat' (first | refine yo ?_ ?_ | refine yw ?_ ?_ | refine yk ?_ ?_ | exact trivial | with_reducible refine wA ?_ ?_ | refine ys ?_ ?_ | refine xs_done ?_ | refine yl ?_ ?_ | refine z1 r4 ?_ | refine z2 r4 ?_ | refine z3 r4 ?_ | refine z4 r4 ?_ | refine z5 r4 ?_ | refine w8 ?_ | refine w9 ?_ | refine w1 ?_ | refine w2 ?_ | refine w3 ?_ | refine w4 ?_ | refine w5 ?_ | refine w6 ?_ | refine w7 ?_ | refine yo0 ?_ ?_ | refine yw0 ?_ ?_ | exact qq | fail)
          refine kretv rfl ⟨Nat.zero_lt_one, trivial, trivial⟩ rfl ?_
          rw [if_pos h0, show resS F.1 F.2 = (t0, F.2) from by unfold resS; rw [if_neg h0]]; rfl
      iterate 4
        · repeat' (first | refine yo ?_ ?_ | refine yw ?_ ?_ | refine yk ?_ ?_ | exact trivial | with_reducible refine wA ?_ ?_ | refine ys ?_ ?_ | refine xs_done ?_ | refine yl ?_ ?_ | refine xs_start (id := 30) true [.take 0, .take 1, .take 2, .take 3, .take 4, .take 5, .one 6, .one 7, .take 8, .take 9, .one 10, .take 11] 0 rfl rfl (by kernel_rfl) ?_ | refine xs_start (id := 36) true [.take 0, .take 1, .take 2, .take 3, .take 4, .one 5, .one 6, .take 7, .take 8, .one 9, .take 10] 0 rfl rfl (by kernel_rfl) ?_ | refine xs_start (id := 38) true [.take 0, .take 1, .take 2, .take 3, .take 4, .one 5, .one 6, .take 7, .take 8, .one 9, .take 10] 0 rfl rfl (by kernel_rfl) ?_ | refine xs_start (id := 41) true [.take 0, .take 1, .take 2, .take 3, .take 4, .one 5, .one 6, .one 7, .take 8, .take 9, .one 10, .take 11] 0 rfl rfl (by kernel_rfl) ?_ | refine xs_start (id := 43) true [.take 0, .take 1, .take 2, .one 3, .one 4, .one 5, .take 6, .take 7, .one 8, .take 9] 0 rfl rfl (by kernel_rfl) ?_ | refine xs_start (id := 45) true [.take 0, .take 1, .take 2, .take 3, .one 4, .one 5, .one 6, .take 7, .take 8, .one 9, .take 10] 0 rfl rfl (by kernel_rfl) ?_ | refine xs_start (id := 52) true [.take 0, .take 1, .take 2, .take 3, .take 4, .take 5, .one 6, .one 7, .take 8, .take 9, .one 10, .take 11] 0 rfl rfl (by kernel_rfl) ?_ | (refine pcond_y rfl (by rw [h]; rfl) ?_) | (refine pcond_n rfl (by rw [h]; rfl) ?_) | refine z1 u1 ?_ | refine z2 u1 ?_ | refine z3 u1 ?_ | refine z4 u1 ?_ | refine z5 u1 ?_ | refine z1 r5 ?_ | refine z2 r5 ?_ | refine z3 r5 ?_ | refine z4 r5 ?_ | refine z5 r5 ?_ | refine w8 ?_ | refine w9 ?_ | refine w1 ?_ | refine w2 ?_ | refine w3 ?_ | refine w4 ?_ | refine w5 ?_ | refine w6 ?_ | refine w7 ?_ | refine yo0 ?_ ?_ | refine yw0 ?_ ?_ | exact qq | fail)
          refine kretv rfl ⟨Nat.zero_lt_one, trivial, trivial⟩ rfl ?_
          simp only [opS, h]; rfl
      rcases hop with h | h | h | h | h | hop
      · repeat' (first | refine yo ?_ ?_ | refine yw ?_ ?_ | refine yk ?_ ?_ | exact trivial | with_reducible refine wA ?_ ?_ | refine ys ?_ ?_ | refine xs_done ?_ | refine yl ?_ ?_ | (refine pcond_y rfl (by rw [h]; rfl) ?_) | (refine pcond_n rfl (by rw [h]; rfl) ?_) | refine z1 p1 ?_ | refine z2 p1 ?_ | refine z3 p1 ?_ | refine z4 p1 ?_ | refine z5 p1 ?_ | refine w8 ?_ | refine w9 ?_ | refine w1 ?_ | refine w2 ?_ | refine w3 ?_ | refine w4 ?_ | refine w5 ?_ | refine w6 ?_ | refine w7 ?_ | refine yo0 ?_ ?_ | refine yw0 ?_ ?_ | exact qq | fail)
        refine kretv rfl ⟨Nat.zero_lt_one, trivial, trivial⟩ rfl ?_
        simp only [opS, h, prodS]; rfl
      · repeat' (first | refine yo ?_ ?_ | refine yw ?_ ?_ | refine yk ?_ ?_ | exact trivial | with_reducible refine wA ?_ ?_ | refine ys ?_ ?_ | refine xs_done ?_ | refine yl ?_ ?_ | (refine pcond_y rfl (by rw [h]; rfl) ?_) | (refine pcond_n rfl (by rw [h]; rfl) ?_) | refine z1 p1 ?_ | refine z2 p1 ?_ | refine z3 p1 ?_ | refine z4 p1 ?_ | refine z5 p1 ?_ | refine w8 ?_ | refine w9 ?_ | refine w1 ?_ | refine w2 ?_ | refine w3 ?_ | refine w4 ?_ | refine w5 ?_ | refine w6 ?_ | refine w7 ?_ | refine yo0 ?_ ?_ | refine yw0 ?_ ?_ | exact qq | fail)
        refine kretv rfl ⟨Nat.zero_lt_one, trivial, trivial⟩ rfl ?_
        simp only [opS, h, prodS]; rfl
      iterate 2
        · repeat' (first | refine yo ?_ ?_ | refine yw ?_ ?_ | refine yk ?_ ?_ | exact trivial | with_reducible refine wA ?_ ?_ | refine ys ?_ ?_ | refine xs_done ?_ | refine yl ?_ ?_ | refine xs_start (id := 30) true [.take 0, .take 1, .take 2, .take 3, .take 4, .take 5, .one 6, .one 7, .take 8, .take 9, .one 10, .take 11] 0 rfl rfl (by kernel_rfl) ?_ | refine xs_start (id := 36) true [.take 0, .take 1, .take 2, .take 3, .take 4, .one 5, .one 6, .take 7, .take 8, .one 9, .take 10] 0 rfl rfl (by kernel_rfl) ?_ | refine xs_start (id := 38) true [.take 0, .take 1, .take 2, .take 3, .take 4, .one 5, .one 6, .take 7, .take 8, .one 9, .take 10] 0 rfl rfl (by kernel_rfl) ?_ | refine xs_start (id := 41) true [.take 0, .take 1, .take 2, .take 3, .take 4, .one 5, .one 6, .one 7, .take 8, .take 9, .one 10, .take 11] 0 rfl rfl (by kernel_rfl) ?_ | refine xs_start (id := 43) true [.take 0, .take 1, .take 2, .one 3, .one 4, .one 5, .take 6, .take 7, .one 8, .take 9] 0 rfl rfl (by kernel_rfl) ?_ | refine xs_start (id := 45) true [.take 0, .take 1, .take 2, .take 3, .one 4, .one 5, .one 6, .take 7, .take 8, .one 9, .take 10] 0 rfl rfl (by kernel_rfl) ?_ | refine xs_start (id := 52) true [.take 0, .take 1, .take 2, .take 3, .take 4, .take 5, .one 6, .one 7, .take 8, .take 9, .one 10, .take 11] 0 rfl rfl (by kernel_rfl) ?_ | (refine pcond_y rfl (by rw [h]; rfl) ?_) | (refine pcond_n rfl (by rw [h]; rfl) ?_) | refine z1 u1 ?_ | refine z2 u1 ?_ | refine z3 u1 ?_ | refine z4 u1 ?_ | refine z5 u1 ?_ | refine z1 r6 ?_ | refine z2 r6 ?_ | refine z3 r6 ?_ | refine z4 r6 ?_ | refine z5 r6 ?_ | refine w8 ?_ | refine w9 ?_ | refine w1 ?_ | refine w2 ?_ | refine w3 ?_ | refine w4 ?_ | refine w5 ?_ | refine w6 ?_ | refine w7 ?_ | refine yo0 ?_ ?_ | refine yw0 ?_ ?_ | exact qq | fail)
          refine kretv rfl ⟨Nat.zero_lt_one, trivial, trivial⟩ rfl ?_
          simp only [opS, h]; rfl
      · repeat' (first | refine yo ?_ ?_ | refine yw ?_ ?_ | refine yk ?_ ?_ | exact trivial | with_reducible refine wA ?_ ?_ | refine ys ?_ ?_ | refine xs_done ?_ | refine yl ?_ ?_ | refine xs_start (id := 30) true [.take 0, .take 1, .take 2, .take 3, .take 4, .take 5, .one 6, .one 7, .take 8, .take 9, .one 10, .take 11] 0 rfl rfl (by kernel_rfl) ?_ | refine xs_start (id := 36) true [.take 0, .take 1, .take 2, .take 3, .take 4, .one 5, .one 6, .take 7, .take 8, .one 9, .take 10] 0 rfl rfl (by kernel_rfl) ?_ | refine xs_start (id := 38) true [.take 0, .take 1, .take 2, .take 3, .take 4, .one 5, .one 6, .take 7, .take 8, .one 9, .take 10] 0 rfl rfl (by kernel_rfl) ?_ | refine xs_start (id := 41) true [.take 0, .take 1, .take 2, .take 3, .take 4, .one 5, .one 6, .one 7, .take 8, .take 9, .one 10, .take 11] 0 rfl rfl (by kernel_rfl) ?_ | refine xs_start (id := 43) true [.take 0, .take 1, .take 2, .one 3, .one 4, .one 5, .take 6, .take 7, .one 8, .take 9] 0 rfl rfl (by kernel_rfl) ?_ | refine xs_start (id := 45) true [.take 0, .take 1, .take 2, .take 3, .one 4, .one 5, .one 6, .take 7, .take 8, .one 9, .take 10] 0 rfl rfl (by kernel_rfl) ?_ | refine xs_start (id := 52) true [.take 0, .take 1, .take 2, .take 3, .take 4, .take 5, .one 6, .one 7, .take 8, .take 9, .one 10, .take 11] 0 rfl rfl (by kernel_rfl) ?_ | (refine pcond_y rfl (by rw [h]; rfl) ?_) | (refine pcond_n rfl (by rw [h]; rfl) ?_) | refine z1 u2 ?_ | refine z2 u2 ?_ | refine z3 u2 ?_ | refine z4 u2 ?_ | refine z5 u2 ?_ | refine z1 r7 ?_ | refine z2 r7 ?_ | refine z3 r7 ?_ | refine z4 r7 ?_ | refine z5 r7 ?_ | refine w8 ?_ | refine w9 ?_ | refine w1 ?_ | refine w2 ?_ | refine w3 ?_ | refine w4 ?_ | refine w5 ?_ | refine w6 ?_ | refine w7 ?_ | refine yo0 ?_ ?_ | refine yw0 ?_ ?_ | exact qq | fail)
        refine kretv rfl ⟨Nat.zero_lt_one, trivial, trivial⟩ rfl ?_
        rw [show opS N S P e a b c = resS tB (alikeS a b) from by
          simp only [opS, h, alikeS]
          by_cases hb : a.b = true ∧ b.b = true
          · simp [hb, resS]
          · simp [hb]]
        rfl
      rcases hop with h | h | h | h | h | h
      iterate 2
        · have q1 := result_c tB (if allK 2 (fun i => (two2 a b i).b) = true then 0 else 9)
          repeat' (first | refine yo ?_ ?_ | refine yw ?_ ?_ | refine yk ?_ ?_ | exact trivial | with_reducible refine wA ?_ ?_ | refine ys ?_ ?_ | refine xs_done ?_ | refine yl ?_ ?_ | (refine pcond_y rfl (by rw [h]; rfl) ?_) | (refine pcond_n rfl (by rw [h]; rfl) ?_) | refine w8 ?_ | refine w9 ?_ | refine w1 ?_ | refine w2 ?_ | refine w3 ?_ | refine w4 ?_ | refine w5 ?_ | refine w6 ?_ | refine w7 ?_ | refine yo0 ?_ ?_ | refine yw0 ?_ ?_ | exact qq | fail)
          (refine any_start [0,1,3,4] 12 rfl ?_); (first | refine any_take 0 rfl (by kernel_rfl) (by kernel_rfl) (by kernel_rfl) rfl rfl rfl rfl rfl qtk ?_ | refine any_take2 0 rfl (by kernel_rfl) (by kernel_rfl) (by kernel_rfl) rfl rfl rfl rfl trivial ?_ | (refine any_take 0 rfl (by kernel_rfl) (by kernel_rfl) (by kernel_rfl) rfl rfl rfl rfl rfl ?_ ?_; rotate_left)); (first | refine any_take 1 rfl (by kernel_rfl) (by kernel_rfl) (by kernel_rfl) rfl rfl rfl rfl rfl qtk ?_ | refine any_take2 1 rfl (by kernel_rfl) (by kernel_rfl) (by kernel_rfl) rfl rfl rfl rfl trivial ?_ | (refine any_take 1 rfl (by kernel_rfl) (by kernel_rfl) (by kernel_rfl) rfl rfl rfl rfl rfl ?_ ?_; rotate_left)); (first | refine any_take 2 rfl (by kernel_rfl) (by kernel_rfl) (by kernel_rfl) rfl rfl rfl rfl rfl qtk ?_ | refine any_take2 2 rfl (by kernel_rfl) (by kernel_rfl) (by kernel_rfl) rfl rfl rfl rfl trivial ?_ | (refine any_take 2 rfl (by kernel_rfl) (by kernel_rfl) (by kernel_rfl) rfl rfl rfl rfl rfl ?_ ?_; rotate_left)); (first | refine any_take 3 rfl (by kernel_rfl) (by kernel_rfl) (by kernel_rfl) rfl rfl rfl rfl rfl qtk ?_ | refine any_take2 3 rfl (by kernel_rfl) (by kernel_rfl) (by kernel_rfl) rfl rfl rfl rfl trivial ?_ | (refine any_take 3 rfl (by kernel_rfl) (by kernel_rfl) (by kernel_rfl) rfl rfl rfl rfl rfl ?_ ?_; rotate_left)); (first | refine any_take 4 rfl (by kernel_rfl) (by kernel_rfl) (by kernel_rfl) rfl rfl rfl rfl rfl qtk ?_ | refine any_take2 4 rfl (by kernel_rfl) (by kernel_rfl) (by kernel_rfl) rfl rfl rfl rfl trivial ?_ | (refine any_take 4 rfl (by kernel_rfl) (by kernel_rfl) (by kernel_rfl) rfl rfl rfl rfl rfl ?_ ?_; rotate_left)); (refine any_one 5 rfl (by kernel_rfl) (ch := []) rfl rfl (pst_make rfl rfl rfl rfl trivial ?_)); (refine any_one 6 rfl (by kernel_rfl) (ch := []) rfl rfl (pst_call [5] rfl rfl rfl rfl rfl (bools_c 2 (two2 a b) (by omega)) ⟨arg2 rfl (List.Mem.head _), trivial⟩ ?_)); (rintro _ rfl; refine ⟨scB_spec _ rfl, ?_⟩); (refine any_one 7 rfl (by kernel_rfl) (ch := []) rfl rfl (pst_callv rfl rfl rfl rfl rfl q1 rfl rfl rfl ?_)); (first | refine any_take 8 rfl (by kernel_rfl) (by kernel_rfl) (by kernel_rfl) rfl rfl rfl rfl rfl qtk ?_ | refine any_take2 8 rfl (by kernel_rfl) (by kernel_rfl) (by kernel_rfl) rfl rfl rfl rfl trivial ?_ | (refine any_take 8 rfl (by kernel_rfl) (by kernel_rfl) (by kernel_rfl) rfl rfl rfl rfl rfl ?_ ?_; rotate_left)); (first | refine any_take 9 rfl (by kernel_rfl) (by kernel_rfl) (by kernel_rfl) rfl rfl rfl rfl rfl qtk ?_ | refine any_take2 9 rfl (by kernel_rfl) (by kernel_rfl) (by kernel_rfl) rfl rfl rfl rfl trivial ?_ | (refine any_take 9 rfl (by kernel_rfl) (by kernel_rfl) (by kernel_rfl) rfl rfl rfl rfl rfl ?_ ?_; rotate_left)); (refine any_one 10 rfl (by kernel_rfl) (ch := [_]) rfl rfl (pst_store rfl rfl rfl rfl Nat.zero_lt_one ?_)); (first | refine any_take 11 rfl (by kernel_rfl) (by kernel_rfl) (by kernel_rfl) rfl rfl rfl rfl rfl qtk ?_ | refine any_take2 11 rfl (by kernel_rfl) (by kernel_rfl) (by kernel_rfl) rfl rfl rfl rfl trivial ?_ | (refine any_take 11 rfl (by kernel_rfl) (by kernel_rfl) (by kernel_rfl) rfl rfl rfl rfl rfl ?_ ?_; rotate_left)); (refine any_done (by kernel_rfl) ?_)
          repeat' (first | refine yo ?_ ?_ | refine yw ?_ ?_ | refine yk ?_ ?_ | exact trivial | with_reducible refine wA ?_ ?_ | refine ys ?_ ?_ | refine xs_done ?_ | refine yl ?_ ?_ | refine w8 ?_ | refine w9 ?_ | refine w1 ?_ | refine w2 ?_ | refine w3 ?_ | refine w4 ?_ | refine w5 ?_ | refine w6 ?_ | refine w7 ?_ | refine yo0 ?_ ?_ | refine yw0 ?_ ?_ | exact qq | fail)
          refine kretv rfl ⟨Nat.zero_lt_one, trivial, trivial⟩ rfl ?_
          rw [all2 a b (fun t => t.b)]
          simp only [opS, h]
          cases a.b <;> cases b.b <;> rfl
      · have q1 := result_c tB (if allK 1 (fun _ => a.b) = true then 0 else 9)
        repeat' (first | refine yo ?_ ?_ | refine yw ?_ ?_ | refine yk ?_ ?_ | exact trivial | with_reducible refine wA ?_ ?_ | refine ys ?_ ?_ | refine xs_done ?_ | refine yl ?_ ?_ | (refine pcond_y rfl (by rw [h]; rfl) ?_) | (refine pcond_n rfl (by rw [h]; rfl) ?_) | refine w8 ?_ | refine w9 ?_ | refine w1 ?_ | refine w2 ?_ | refine w3 ?_ | refine w4 ?_ | refine w5 ?_ | refine w6 ?_ | refine w7 ?_ | refine yo0 ?_ ?_ | refine yw0 ?_ ?_ | exact qq | fail)
        (refine any_start [0,1,3,4] 10 rfl ?_); (first | refine any_take 0 rfl (by kernel_rfl) (by kernel_rfl) (by kernel_rfl) rfl rfl rfl rfl rfl qtk ?_ | refine any_take2 0 rfl (by kernel_rfl) (by kernel_rfl) (by kernel_rfl) rfl rfl rfl rfl trivial ?_ | (refine any_take 0 rfl (by kernel_rfl) (by kernel_rfl) (by kernel_rfl) rfl rfl rfl rfl rfl ?_ ?_; rotate_left)); (first | refine any_take 1 rfl (by kernel_rfl) (by kernel_rfl) (by kernel_rfl) rfl rfl rfl rfl rfl qtk ?_ | refine any_take2 1 rfl (by kernel_rfl) (by kernel_rfl) (by kernel_rfl) rfl rfl rfl rfl trivial ?_ | (refine any_take 1 rfl (by kernel_rfl) (by kernel_rfl) (by kernel_rfl) rfl rfl rfl rfl rfl ?_ ?_; rotate_left)); (first | refine any_take 2 rfl (by kernel_rfl) (by kernel_rfl) (by kernel_rfl) rfl rfl rfl rfl rfl qtk ?_ | refine any_take2 2 rfl (by kernel_rfl) (by kernel_rfl) (by kernel_rfl) rfl rfl rfl rfl trivial ?_ | (refine any_take 2 rfl (by kernel_rfl) (by kernel_rfl) (by kernel_rfl) rfl rfl rfl rfl rfl ?_ ?_; rotate_left)); (refine any_one 3 rfl (by kernel_rfl) (ch := []) rfl rfl (pst_make rfl rfl rfl rfl trivial ?_)); (refine any_one 4 rfl (by kernel_rfl) (ch := []) rfl rfl (pst_call [5] rfl rfl rfl rfl rfl (bools_c 1 (fun _ => a) (by omega)) ⟨arg1 rfl (List.Mem.head _), trivial⟩ ?_)); (rintro _ rfl; refine ⟨scB_spec _ rfl, ?_⟩); (refine any_one 5 rfl (by kernel_rfl) (ch := []) rfl rfl (pst_callv rfl rfl rfl rfl rfl q1 rfl rfl rfl ?_)); (first | refine any_take 6 rfl (by kernel_rfl) (by kernel_rfl) (by kernel_rfl) rfl rfl rfl rfl rfl qtk ?_ | refine any_take2 6 rfl (by kernel_rfl) (by kernel_rfl) (by kernel_rfl) rfl rfl rfl rfl trivial ?_ | (refine any_take 6 rfl (by kernel_rfl) (by kernel_rfl) (by kernel_rfl) rfl rfl rfl rfl rfl ?_ ?_; rotate_left)); (first | refine any_take 7 rfl (by kernel_rfl) (by kernel_rfl) (by kernel_rfl) rfl rfl rfl rfl rfl qtk ?_ | refine any_take2 7 rfl (by kernel_rfl) (by kernel_rfl) (by kernel_rfl) rfl rfl rfl rfl trivial ?_ | (refine any_take 7 rfl (by kernel_rfl) (by kernel_rfl) (by kernel_rfl) rfl rfl rfl rfl rfl ?_ ?_; rotate_left)); (refine any_one 8 rfl (by kernel_rfl) (ch := [_]) rfl rfl (pst_store rfl rfl rfl rfl Nat.zero_lt_one ?_)); (first | refine any_take 9 rfl (by kernel_rfl) (by kernel_rfl) (by kernel_rfl) rfl rfl rfl rfl rfl qtk ?_ | refine any_take2 9 rfl (by kernel_rfl) (by kernel_rfl) (by kernel_rfl) rfl rfl rfl rfl trivial ?_ | (refine any_take 9 rfl (by kernel_rfl) (by kernel_rfl) (by kernel_rfl) rfl rfl rfl rfl rfl ?_ ?_; rotate_left)); (refine any_done (by kernel_rfl) ?_)
        repeat' (first | refine yo ?_ ?_ | refine yw ?_ ?_ | refine yk ?_ ?_ | exact trivial | with_reducible refine wA ?_ ?_ | refine ys ?_ ?_ | refine xs_done ?_ | refine yl ?_ ?_ | refine w8 ?_ | refine w9 ?_ | refine w1 ?_ | refine w2 ?_ | refine w3 ?_ | refine w4 ?_ | refine w5 ?_ | refine w6 ?_ | refine w7 ?_ | refine yo0 ?_ ?_ | refine yw0 ?_ ?_ | exact qq | fail)
        refine kretv rfl ⟨Nat.zero_lt_one, trivial, trivial⟩ rfl ?_
        rw [all1 a (fun t => t.b)]
        simp only [opS, h]
        cases a.b <;> rfl
      · have q1 := result_c a (if allK 1 (fun _ => !a.b) = true then 0 else 9)
        repeat' (first | refine yo ?_ ?_ | refine yw ?_ ?_ | refine yk ?_ ?_ | exact trivial | with_reducible refine wA ?_ ?_ | refine ys ?_ ?_ | refine xs_done ?_ | refine yl ?_ ?_ | (refine pcond_y rfl (by rw [h]; rfl) ?_) | (refine pcond_n rfl (by rw [h]; rfl) ?_) | refine w8 ?_ | refine w9 ?_ | refine w1 ?_ | refine w2 ?_ | refine w3 ?_ | refine w4 ?_ | refine w5 ?_ | refine w6 ?_ | refine w7 ?_ | refine yo0 ?_ ?_ | refine yw0 ?_ ?_ | exact qq | fail)
        (refine any_start [0,1,3,4] 11 rfl ?_); (first | refine any_take 0 rfl (by kernel_rfl) (by kernel_rfl) (by kernel_rfl) rfl rfl rfl rfl rfl qtk ?_ | refine any_take2 0 rfl (by kernel_rfl) (by kernel_rfl) (by kernel_rfl) rfl rfl rfl rfl trivial ?_ | (refine any_take 0 rfl (by kernel_rfl) (by kernel_rfl) (by kernel_rfl) rfl rfl rfl rfl rfl ?_ ?_; rotate_left)); (first | refine any_take 1 rfl (by kernel_rfl) (by kernel_rfl) (by kernel_rfl) rfl rfl rfl rfl rfl qtk ?_ | refine any_take2 1 rfl (by kernel_rfl) (by kernel_rfl) (by kernel_rfl) rfl rfl rfl rfl trivial ?_ | (refine any_take 1 rfl (by kernel_rfl) (by kernel_rfl) (by kernel_rfl) rfl rfl rfl rfl rfl ?_ ?_; rotate_left)); (first | refine any_take 2 rfl (by kernel_rfl) (by kernel_rfl) (by kernel_rfl) rfl rfl rfl rfl rfl qtk ?_ | refine any_take2 2 rfl (by kernel_rfl) (by kernel_rfl) (by kernel_rfl) rfl rfl rfl rfl trivial ?_ | (refine any_take 2 rfl (by kernel_rfl) (by kernel_rfl) (by kernel_rfl) rfl rfl rfl rfl rfl ?_ ?_; rotate_left)); (first | refine any_take 3 rfl (by kernel_rfl) (by kernel_rfl) (by kernel_rfl) rfl rfl rfl rfl rfl qtk ?_ | refine any_take2 3 rfl (by kernel_rfl) (by kernel_rfl) (by kernel_rfl) rfl rfl rfl rfl trivial ?_ | (refine any_take 3 rfl (by kernel_rfl) (by kernel_rfl) (by kernel_rfl) rfl rfl rfl rfl rfl ?_ ?_; rotate_left)); (refine any_one 4 rfl (by kernel_rfl) (ch := []) rfl rfl (pst_make rfl rfl rfl rfl trivial ?_)); (refine any_one 5 rfl (by kernel_rfl) (ch := []) rfl rfl (pst_call [5] rfl rfl rfl rfl rfl (numbers_c 1 (fun _ => a) (by omega)) ⟨arg1 rfl (List.Mem.head _), trivial⟩ ?_)); (rintro _ rfl; refine ⟨scB_spec _ rfl, ?_⟩); (refine any_one 6 rfl (by kernel_rfl) (ch := []) rfl rfl (pst_callv rfl rfl rfl rfl rfl q1 rfl rfl rfl ?_)); (first | refine any_take 7 rfl (by kernel_rfl) (by kernel_rfl) (by kernel_rfl) rfl rfl rfl rfl rfl qtk ?_ | refine any_take2 7 rfl (by kernel_rfl) (by kernel_rfl) (by kernel_rfl) rfl rfl rfl rfl trivial ?_ | (refine any_take 7 rfl (by kernel_rfl) (by kernel_rfl) (by kernel_rfl) rfl rfl rfl rfl rfl ?_ ?_; rotate_left)); (first | refine any_take 8 rfl (by kernel_rfl) (by kernel_rfl) (by kernel_rfl) rfl rfl rfl rfl rfl qtk ?_ | refine any_take2 8 rfl (by kernel_rfl) (by kernel_rfl) (by kernel_rfl) rfl rfl rfl rfl trivial ?_ | (refine any_take 8 rfl (by kernel_rfl) (by kernel_rfl) (by kernel_rfl) rfl rfl rfl rfl rfl ?_ ?_; rotate_left)); (refine any_one 9 rfl (by kernel_rfl) (ch := [_]) rfl rfl (pst_store rfl rfl rfl rfl Nat.zero_lt_one ?_)); (first | refine any_take 10 rfl (by kernel_rfl) (by kernel_rfl) (by kernel_rfl) rfl rfl rfl rfl rfl qtk ?_ | refine any_take2 10 rfl (by kernel_rfl) (by kernel_rfl) (by kernel_rfl) rfl rfl rfl rfl trivial ?_ | (refine any_take 10 rfl (by kernel_rfl) (by kernel_rfl) (by kernel_rfl) rfl rfl rfl rfl rfl ?_ ?_; rotate_left)); (refine any_done (by kernel_rfl) ?_)
        repeat' (first | refine yo ?_ ?_ | refine yw ?_ ?_ | refine yk ?_ ?_ | exact trivial | with_reducible refine wA ?_ ?_ | refine ys ?_ ?_ | refine xs_done ?_ | refine yl ?_ ?_ | refine w8 ?_ | refine w9 ?_ | refine w1 ?_ | refine w2 ?_ | refine w3 ?_ | refine w4 ?_ | refine w5 ?_ | refine w6 ?_ | refine w7 ?_ | refine yo0 ?_ ?_ | refine yw0 ?_ ?_ | exact qq | fail)
        refine kretv rfl ⟨Nat.zero_lt_one, trivial, trivial⟩ rfl ?_
        rw [all1 a (fun t => !t.b)]
        simp only [opS, h]
        cases a.b <;> rfl
      · repeat' (first | refine yo ?_ ?_ | refine yw ?_ ?_ | refine yk ?_ ?_ | exact trivial | with_reducible refine wA ?_ ?_ | refine ys ?_ ?_ | refine xs_done ?_ | refine yl ?_ ?_ | (refine pcond_y rfl (by rw [h]; rfl) ?_) | (refine pcond_n rfl (by rw [h]; rfl) ?_) | refine w8 ?_ | refine w9 ?_ | refine w1 ?_ | refine w2 ?_ | refine w3 ?_ | refine w4 ?_ | refine w5 ?_ | refine w6 ?_ | refine w7 ?_ | refine yo0 ?_ ?_ | refine yw0 ?_ ?_ | exact qq | fail)
        refine pop_callc [5] rfl rfl rfl rfl rfl rfl (by intro l hl; rw [hk]; exact Nat.zero_le _) (bools_c 1 (fun _ => a) (by omega)) ⟨arg1 rfl (List.Mem.head _), trivial⟩ ?_
        rintro _ rfl
        rw [all1 a (fun t => t.b)]
        have q2 := result_c b 9
        by_cases hb : a.b = true
        · rw [if_pos hb]
          repeat' (first | refine yo ?_ ?_ | refine yw ?_ ?_ | refine yk ?_ ?_ | exact trivial | with_reducible refine wA ?_ ?_ | refine ys ?_ ?_ | refine xs_done ?_ | refine yl ?_ ?_ | refine z1 u3 ?_ | refine z2 u3 ?_ | refine z3 u3 ?_ | refine z4 u3 ?_ | refine z5 u3 ?_ | refine z1 r9 ?_ | refine z2 r9 ?_ | refine z3 r9 ?_ | refine z4 r9 ?_ | refine z5 r9 ?_ | refine w8 ?_ | refine w9 ?_ | refine w1 ?_ | refine w2 ?_ | refine w3 ?_ | refine w4 ?_ | refine w5 ?_ | refine w6 ?_ | refine w7 ?_ | refine yo0 ?_ ?_ | refine yw0 ?_ ?_ | exact qq | fail)
          refine kretv rfl ⟨Nat.zero_lt_one, trivial, trivial⟩ rfl ?_
          rw [show opS N S P e a b c = resS b (alikeS b c) from by
            simp only [opS, h, alikeS]
            by_cases hb2 : b.b = true ∧ c.b = true
            · simp [hb, hb2, resS]
            · simp [hb, hb2]]
          rfl
        · rw [if_neg hb]
          repeat' (first | refine yo ?_ ?_ | refine yw ?_ ?_ | refine yk ?_ ?_ | exact trivial | with_reducible refine wA ?_ ?_ | refine ys ?_ ?_ | refine xs_done ?_ | refine yl ?_ ?_ | refine z1 q2 ?_ | refine z2 q2 ?_ | refine z3 q2 ?_ | refine z4 q2 ?_ | refine z5 q2 ?_ | refine w8 ?_ | refine w9 ?_ | refine w1 ?_ | refine w2 ?_ | refine w3 ?_ | refine w4 ?_ | refine w5 ?_ | refine w6 ?_ | refine w7 ?_ | refine yo0 ?_ ?_ | refine yw0 ?_ ?_ | exact qq | fail)
          refine kretv rfl ⟨Nat.zero_lt_one, trivial, trivial⟩ rfl ?_
          rw [show opS N S P e a b c = (t0, 9) from by simp only [opS, h]; simp [hb]]
          rfl
      · repeat' (first | refine yo ?_ ?_ | refine yw ?_ ?_ | refine yk ?_ ?_ | exact trivial | with_reducible refine wA ?_ ?_ | refine ys ?_ ?_ | refine xs_done ?_ | refine yl ?_ ?_ | refine xs_start (id := 30) true [.take 0, .take 1, .take 2, .take 3, .take 4, .take 5, .one 6, .one 7, .take 8, .take 9, .one 10, .take 11] 0 rfl rfl (by kernel_rfl) ?_ | refine xs_start (id := 36) true [.take 0, .take 1, .take 2, .take 3, .take 4, .one 5, .one 6, .take 7, .take 8, .one 9, .take 10] 0 rfl rfl (by kernel_rfl) ?_ | refine xs_start (id := 38) true [.take 0, .take 1, .take 2, .take 3, .take 4, .one 5, .one 6, .take 7, .take 8, .one 9, .take 10] 0 rfl rfl (by kernel_rfl) ?_ | refine xs_start (id := 41) true [.take 0, .take 1, .take 2, .take 3, .take 4, .one 5, .one 6, .one 7, .take 8, .take 9, .one 10, .take 11] 0 rfl rfl (by kernel_rfl) ?_ | refine xs_start (id := 43) true [.take 0, .take 1, .take 2, .one 3, .one 4, .one 5, .take 6, .take 7, .one 8, .take 9] 0 rfl rfl (by kernel_rfl) ?_ | refine xs_start (id := 45) true [.take 0, .take 1, .take 2, .take 3, .one 4, .one 5, .one 6, .take 7, .take 8, .one 9, .take 10] 0 rfl rfl (by kernel_rfl) ?_ | refine xs_start (id := 52) true [.take 0, .take 1, .take 2, .take 3, .take 4, .take 5, .one 6, .one 7, .take 8, .take 9, .one 10, .take 11] 0 rfl rfl (by kernel_rfl) ?_ | (refine pcond_y rfl (by rw [h]; rfl) ?_) | (refine pcond_n rfl (by rw [h]; rfl) ?_) | refine z1 m2 ?_ | refine z2 m2 ?_ | refine z3 m2 ?_ | refine z4 m2 ?_ | refine z5 m2 ?_ | refine z1 r8 ?_ | refine z2 r8 ?_ | refine z3 r8 ?_ | refine z4 r8 ?_ | refine z5 r8 ?_ | refine w8 ?_ | refine w9 ?_ | refine w1 ?_ | refine w2 ?_ | refine w3 ?_ | refine w4 ?_ | refine w5 ?_ | refine w6 ?_ | refine w7 ?_ | refine yo0 ?_ ?_ | refine yw0 ?_ ?_ | exact qq | fail)
        refine kretv rfl ⟨Nat.zero_lt_one, trivial, trivial⟩ rfl ?_
        simp only [opS, h]; rfl
theorem type_c (N S P : List Df) (hN : N.length ≤ 1000000) (hS : S.length ≤ 1000000) (hP : P.length ≤ 1000000) (e : Ex) (hb : Bd e) (hv : validS 32 e = true) : PureC G.P 45 [vX e, vDs N, vDs S, vDs P] (fun r => r = vTE (typeS N S P 32 e)) := by
  have c1 := validExpr0_c e hb
  rw [hv] at c1
  have c2 := typeOf_c N S P hN hS hP 32 e hv
  refine pure_of (G := G.toPg) (fn := Tryz.f45) Tryz.func45 rfl rfl rfl ?_; intro Γ hk
  repeat' (first | refine yo ?_ ?_ | refine yw ?_ ?_ | refine yk ?_ ?_ | exact trivial | with_reducible refine wA ?_ ?_ | refine ys ?_ ?_ | refine xs_done ?_ | refine yl ?_ ?_ | refine z1 c1 ?_ | refine z2 c1 ?_ | refine z3 c1 ?_ | refine z4 c1 ?_ | refine z5 c1 ?_ | refine z1 c2 ?_ | refine z2 c2 ?_ | refine z3 c2 ?_ | refine z4 c2 ?_ | refine z5 c2 ?_ | refine w8 ?_ | refine w9 ?_ | refine w1 ?_ | refine w2 ?_ | refine w3 ?_ | refine w4 ?_ | refine w5 ?_ | refine w6 ?_ | refine w7 ?_ | refine yo0 ?_ ?_ | refine yw0 ?_ ?_ | exact qq | fail)
  exact kretv rfl ⟨Nat.zero_lt_one, trivial, trivial⟩ rfl rfl
theorem ty_eq (s t : Ty) : (s.b == t.b && (s.m == t.m && (s.h == t.h && (s.d == t.d && true)) && true)) = decide (s = t) := by
  obtain ⟨b, m, h, d⟩ := s
  obtain ⟨b', m', h', d'⟩ := t
  rw [Bool.eq_iff_iff]; simp
theorem ctypeOf_c (d : Df) : PureC G.P 42 [vD d] (fun r => r = vT (tyD d)) := by
  refine pure_of (G := G.toPg) (fn := Tryz.f42) Tryz.func42 rfl rfl rfl ?_; intro Γ hk
  repeat' (first | refine yo ?_ ?_ | refine yw ?_ ?_ | refine yk ?_ ?_ | exact trivial | with_reducible refine wA ?_ ?_ | refine ys ?_ ?_ | refine xs_done ?_ | refine yl ?_ ?_ | refine w8 ?_ | refine w9 ?_ | refine w1 ?_ | refine w2 ?_ | refine w3 ?_ | refine w4 ?_ | refine w5 ?_ | refine w6 ?_ | refine w7 ?_ | refine yo0 ?_ ?_ | refine yw0 ?_ ?_ | exact qq | fail)
  refine pcond rfl ?_ ?_ <;> intro hc
  · have hc : d.kind = 4 := by have : (d.kind == 4) = true := hc; simpa using this
    repeat' (first | refine yo ?_ ?_ | refine yw ?_ ?_ | refine yk ?_ ?_ | exact trivial | with_reducible refine wA ?_ ?_ | refine ys ?_ ?_ | refine xs_done ?_ | refine yl ?_ ?_ | refine w8 ?_ | refine w9 ?_ | refine w1 ?_ | refine w2 ?_ | refine w3 ?_ | refine w4 ?_ | refine w5 ?_ | refine w6 ?_ | refine w7 ?_ | refine yo0 ?_ ?_ | refine yw0 ?_ ?_ | exact qq | fail)
    refine kretv rfl ⟨Nat.zero_lt_one, trivial⟩ rfl ?_
    unfold tyD; rw [if_pos hc]; rfl
  · have hc : ¬ d.kind = 4 := by have : (d.kind == 4) = false := hc; simpa using this
    repeat' (first | refine yo ?_ ?_ | refine yw ?_ ?_ | refine yk ?_ ?_ | exact trivial | with_reducible refine wA ?_ ?_ | refine ys ?_ ?_ | refine xs_done ?_ | refine yl ?_ ?_ | refine w8 ?_ | refine w9 ?_ | refine w1 ?_ | refine w2 ?_ | refine w3 ?_ | refine w4 ?_ | refine w5 ?_ | refine w6 ?_ | refine w7 ?_ | refine yo0 ?_ ?_ | refine yw0 ?_ ?_ | exact qq | fail)
    refine kretv rfl ⟨Nat.zero_lt_one, trivial⟩ rfl ?_
    unfold tyD; rw [if_neg hc]; rfl
theorem collide_c (a b : Df) : PureC G.P 32 [vD a, vD b] (fun r => r = vb (collS a b)) := by
  have c1 := ctypeOf_c a
  have c2 := ctypeOf_c b
  refine pure_of (G := G.toPg) (fn := Tryz.f32) Tryz.func32 rfl rfl rfl ?_; intro Γ hk
  repeat' (first | refine yo ?_ ?_ | refine yw ?_ ?_ | refine yk ?_ ?_ | exact trivial | with_reducible refine wA ?_ ?_ | refine ys ?_ ?_ | refine xs_done ?_ | refine yl ?_ ?_ | refine w8 ?_ | refine w9 ?_ | refine w1 ?_ | refine w2 ?_ | refine w3 ?_ | refine w4 ?_ | refine w5 ?_ | refine w6 ?_ | refine w7 ?_ | refine yo0 ?_ ?_ | refine yw0 ?_ ?_ | exact qq | fail)
  refine pcond rfl ?_ ?_ <;> intro hc
  · have hc := nb_t hc
    repeat' (first | refine yo ?_ ?_ | refine yw ?_ ?_ | refine yk ?_ ?_ | exact trivial | with_reducible refine wA ?_ ?_ | refine ys ?_ ?_ | refine xs_done ?_ | refine yl ?_ ?_ | refine w8 ?_ | refine w9 ?_ | refine w1 ?_ | refine w2 ?_ | refine w3 ?_ | refine w4 ?_ | refine w5 ?_ | refine w6 ?_ | refine w7 ?_ | refine yo0 ?_ ?_ | refine yw0 ?_ ?_ | exact qq | fail)
    refine kretv rfl ⟨trivial, trivial⟩ rfl (eqB ?_)
    unfold collS; rw [hc]; rfl
  · have hc := nb_f hc
    repeat' (first | refine yo ?_ ?_ | refine yw ?_ ?_ | refine yk ?_ ?_ | exact trivial | with_reducible refine wA ?_ ?_ | refine ys ?_ ?_ | refine xs_done ?_ | refine yl ?_ ?_ | refine w8 ?_ | refine w9 ?_ | refine w1 ?_ | refine w2 ?_ | refine w3 ?_ | refine w4 ?_ | refine w5 ?_ | refine w6 ?_ | refine w7 ?_ | refine yo0 ?_ ?_ | refine yw0 ?_ ?_ | exact qq | fail)
    refine pcond (b := decide (a.kind = 5 ∨ b.kind = 5)) ?_ ?_ ?_
    · refine eqB ?_
      show (bif (a.kind == 5) then true else (b.kind == 5)) = _
      rw [bqd, bqd]
      by_cases h1 : a.kind = 5 <;> simp [h1]
    · intro h
      have h := of_decide_eq_true h
      repeat' (first | refine yo ?_ ?_ | refine yw ?_ ?_ | refine yk ?_ ?_ | exact trivial | with_reducible refine wA ?_ ?_ | refine ys ?_ ?_ | refine xs_done ?_ | refine yl ?_ ?_ | refine w8 ?_ | refine w9 ?_ | refine w1 ?_ | refine w2 ?_ | refine w3 ?_ | refine w4 ?_ | refine w5 ?_ | refine w6 ?_ | refine w7 ?_ | refine yo0 ?_ ?_ | refine yw0 ?_ ?_ | exact qq | fail)
      refine kretv rfl ⟨trivial, trivial⟩ rfl (eqB ?_)
      unfold collS; rw [hc, if_pos h, bqd]; rfl
    · intro h
      have h := of_decide_eq_false h
      repeat' (first | refine yo ?_ ?_ | refine yw ?_ ?_ | refine yk ?_ ?_ | exact trivial | with_reducible refine wA ?_ ?_ | refine ys ?_ ?_ | refine xs_done ?_ | refine yl ?_ ?_ | refine xs_start (id := 5) true [.take 0, .take 1, .take 2, .take 3, .take 4, .take 5, .take 6, .take 7, .take 8, .take 9, .take 10, .take 11, .take 13, .one 12, .one 14, .take 15, .take 16, .take 17, .take 18, .take 19, .take 20, .take 21, .take 22, .take 23, .take 24] 0 rfl rfl (by kernel_rfl) ?_ | refine z1 c1 ?_ | refine z2 c1 ?_ | refine z3 c1 ?_ | refine z4 c1 ?_ | refine z5 c1 ?_ | refine z1 c2 ?_ | refine z2 c2 ?_ | refine z3 c2 ?_ | refine z4 c2 ?_ | refine z5 c2 ?_ | refine w8 ?_ | refine w9 ?_ | refine w1 ?_ | refine w2 ?_ | refine w3 ?_ | refine w4 ?_ | refine w5 ?_ | refine w6 ?_ | refine w7 ?_ | refine yo0 ?_ ?_ | refine yw0 ?_ ?_ | exact qq | fail)
      refine kretv rfl ⟨trivial, trivial⟩ rfl (eqB ?_)
      unfold collS; rw [hc, if_neg h]
      rw [ty_eq, show (a.kind != b.kind) = decide (a.kind ≠ b.kind) from by rw [Bool.eq_iff_iff]; simp, bqd, bqd]
      cases decide (a.kind ≠ b.kind) <;> cases decide (a.kind = 1) <;> simp
theorem agree_c (a b : Ty) : PureC G.P 44 [vT a, vT b] (fun r => r = vi (agreeS a b)) := by
  refine pure_of (G := G.toPg) (fn := Tryz.f44) Tryz.func44 rfl rfl rfl ?_; intro Γ hk
  repeat' (first | refine yo ?_ ?_ | refine yw ?_ ?_ | refine yk ?_ ?_ | exact trivial | with_reducible refine wA ?_ ?_ | refine ys ?_ ?_ | refine xs_done ?_ | refine yl ?_ ?_ | refine w8 ?_ | refine w9 ?_ | refine w1 ?_ | refine w2 ?_ | refine w3 ?_ | refine w4 ?_ | refine w5 ?_ | refine w6 ?_ | refine w7 ?_ | refine yo0 ?_ ?_ | refine yw0 ?_ ?_ | exact qq | fail)
  refine pcond (b := decide (a.b ≠ b.b)) ?_ ?_ ?_
  · refine eqB ?_
    cases a.b <;> cases b.b <;> rfl
  · intro h
    have h := of_decide_eq_true h
    repeat' (first | refine yo ?_ ?_ | refine yw ?_ ?_ | refine yk ?_ ?_ | exact trivial | with_reducible refine wA ?_ ?_ | refine ys ?_ ?_ | refine xs_done ?_ | refine yl ?_ ?_ | refine w8 ?_ | refine w9 ?_ | refine w1 ?_ | refine w2 ?_ | refine w3 ?_ | refine w4 ?_ | refine w5 ?_ | refine w6 ?_ | refine w7 ?_ | refine yo0 ?_ ?_ | refine yw0 ?_ ?_ | exact qq | fail)
    refine kretv rfl ⟨trivial, trivial⟩ rfl (eqI ?_)
    unfold agreeS; rw [if_pos h]
  · intro h
    have h := of_decide_eq_false h
    repeat' (first | refine yo ?_ ?_ | refine yw ?_ ?_ | refine yk ?_ ?_ | exact trivial | with_reducible refine wA ?_ ?_ | refine ys ?_ ?_ | refine xs_done ?_ | refine yl ?_ ?_ | refine w8 ?_ | refine w9 ?_ | refine w1 ?_ | refine w2 ?_ | refine w3 ?_ | refine w4 ?_ | refine w5 ?_ | refine w6 ?_ | refine w7 ?_ | refine yo0 ?_ ?_ | refine yw0 ?_ ?_ | exact qq | fail)
    refine pcond (b := decide (a.b = false ∧ ¬ (a.m = b.m ∧ a.h = b.h ∧ a.d = b.d))) ?_ ?_ ?_
    · refine eqB ?_
      show (bif !a.b then !((a.m == b.m) && ((a.h == b.h) && ((a.d == b.d) && true))) else false) = _
      cases a.b
      · rw [Bool.eq_iff_iff]; simp [bqd]
      · simp
    · intro h2
      have h2 := of_decide_eq_true h2
      repeat' (first | refine yo ?_ ?_ | refine yw ?_ ?_ | refine yk ?_ ?_ | exact trivial | with_reducible refine wA ?_ ?_ | refine ys ?_ ?_ | refine xs_done ?_ | refine yl ?_ ?_ | refine w8 ?_ | refine w9 ?_ | refine w1 ?_ | refine w2 ?_ | refine w3 ?_ | refine w4 ?_ | refine w5 ?_ | refine w6 ?_ | refine w7 ?_ | refine yo0 ?_ ?_ | refine yw0 ?_ ?_ | exact qq | fail)
      refine kretv rfl ⟨trivial, trivial⟩ rfl (eqI ?_)
      unfold agreeS; rw [if_neg h, if_pos h2]
    · intro h2
      have h2 := of_decide_eq_false h2
      repeat' (first | refine yo ?_ ?_ | refine yw ?_ ?_ | refine yk ?_ ?_ | exact trivial | with_reducible refine wA ?_ ?_ | refine ys ?_ ?_ | refine xs_done ?_ | refine yl ?_ ?_ | refine w8 ?_ | refine w9 ?_ | refine w1 ?_ | refine w2 ?_ | refine w3 ?_ | refine w4 ?_ | refine w5 ?_ | refine w6 ?_ | refine w7 ?_ | refine yo0 ?_ ?_ | refine yw0 ?_ ?_ | exact qq | fail)
      refine kretv rfl ⟨trivial, trivial⟩ rfl (eqI ?_)
      unfold agreeS; rw [if_neg h, if_neg h2]
/-- the first index -/
def idxS (n : Nat) (p : Nat → Bool) : Int := match (List.range n).find? p with
  | some i => i
  | none => -1
theorem idxS_at {n i : Nat} {p : Nat → Bool} (hi : i < n) (hj : ∀ j, j < i → p j = false) (h : p i = true) : idxS n p = i := by
  unfold idxS
  have : (List.range n).find? p = some i := by
    rw [List.find?_range_eq_some]
    exact ⟨h, by simpa using hi, fun j hj' => by simp [hj j hj']⟩
  rw [this]
theorem idxS_none {n : Nat} {p : Nat → Bool} (hj : ∀ j, j < n → p j = false) : idxS n p = -1 := by
  unfold idxS
  have : (List.range n).find? p = none := by
    rw [List.find?_range_eq_none]
    exact fun j hj' => by simp [hj j hj']
  rw [this]
theorem indexFunc_c (n : Nat) (g : Nat → Df) (F : FuncId) (c : Nat → PV) (p : Nat → Bool) (hn : n ≤ 1000000) (hcl : clB (c 0) = true) (hF : ∀ i, i < n → PureC G.P F [vD (g i), c 0] (fun r => r = vb (p i))) :
    PureC G.P 41 [.vsl n 21 (tF cD g), .clo F 1 c] (fun r => r = vi (idxS n p)) := by
  refine pure_of (G := G.toPg) (fn := Tryz.f41) Tryz.func41 rfl rfl rfl ?_; intro Γ hk
  repeat' (first | refine yo ?_ ?_ | refine yw ?_ ?_ | refine yk ?_ ?_ | exact trivial | with_reducible refine wA ?_ ?_ | refine ys ?_ ?_ | refine xs_done ?_ | refine yl ?_ ?_ | refine w8 ?_ | refine w9 ?_ | refine w1 ?_ | refine w2 ?_ | refine w3 ?_ | refine w4 ?_ | refine w5 ?_ | refine w6 ?_ | refine w7 ?_ | refine yo0 ?_ ?_ | refine yw0 ?_ ?_ | exact qq | fail)
  refine pcan (st' := ⟨[(0, .vsl n 21 (tF cD g)), (1, .clo F 1 c), (7, vi n), (8, vi ((0 : Nat) : Int))], []⟩) (can_rowsv [] (k0_sel hk rfl) rfl .nil (by exact ⟨PEq.refl _, PEq.cl _ (fun i hi => (by obtain rfl : i = 0 := (by omega); exact clB_spec _ hcl)), PEq.refl _, PEq.refl _, trivial⟩)) ?_
  refine ploop (fun q st => ∃ i : Nat, i ≤ n ∧ (∀ j, j < i → p j = false) ∧ q = n - i ∧ st = ⟨[(0, .vsl n 21 (tF cD g)), (1, .clo F 1 c), (7, vi n), (8, vi i)], []⟩) n ⟨0, by omega, fun j hj => by omega, by omega, rfl⟩ ?_
  rintro _ _ ⟨i, hi, hv, rfl, rfl⟩
  repeat' (first | refine yo ?_ ?_ | refine yw ?_ ?_ | refine yk ?_ ?_ | exact trivial | with_reducible refine wA ?_ ?_ | refine ys ?_ ?_ | refine xs_done ?_ | refine yl ?_ ?_ | refine w8 ?_ | refine w9 ?_ | refine w1 ?_ | refine w2 ?_ | refine w3 ?_ | refine w4 ?_ | refine w5 ?_ | refine w6 ?_ | refine w7 ?_ | refine yo0 ?_ ?_ | refine yw0 ?_ ?_ | exact qq | fail)
  refine pcond rfl ?_ ?_ <;> intro hc <;> simp at hc
  · repeat' (first | refine yo ?_ ?_ | refine yw ?_ ?_ | refine yk ?_ ?_ | exact trivial | with_reducible refine wA ?_ ?_ | refine ys ?_ ?_ | refine xs_done ?_ | refine yl ?_ ?_ | refine w8 ?_ | refine w9 ?_ | refine w1 ?_ | refine w2 ?_ | refine w3 ?_ | refine w4 ?_ | refine w5 ?_ | refine w6 ?_ | refine w7 ?_ | refine yo0 ?_ ?_ | refine yw0 ?_ ?_ | exact qq | fail)
    refine pop_rowsc [] rfl rfl rfl rfl rfl rfl .nil (pure_rows (hF i hc)) (by exact ⟨PEq.cl _ (clB_spec _ rfl), PEq.cl _ (clB_spec _ hcl), trivial⟩) ?_
    rintro r rows ⟨rfl, rfl⟩
    refine ⟨_, _, rfl, trivial, rfl, ?_⟩
    repeat' (first | refine yo ?_ ?_ | refine yw ?_ ?_ | refine yk ?_ ?_ | exact trivial | with_reducible refine wA ?_ ?_ | refine ys ?_ ?_ | refine xs_done ?_ | refine yl ?_ ?_ | refine w8 ?_ | refine w9 ?_ | refine w1 ?_ | refine w2 ?_ | refine w3 ?_ | refine w4 ?_ | refine w5 ?_ | refine w6 ?_ | refine w7 ?_ | refine yo0 ?_ ?_ | refine yw0 ?_ ?_ | exact qq | fail)
    refine pcond rfl ?_ ?_ <;> intro h1
    · repeat' (first | refine yo ?_ ?_ | refine yw ?_ ?_ | refine yk ?_ ?_ | exact trivial | with_reducible refine wA ?_ ?_ | refine ys ?_ ?_ | refine xs_done ?_ | refine yl ?_ ?_ | refine w8 ?_ | refine w9 ?_ | refine w1 ?_ | refine w2 ?_ | refine w3 ?_ | refine w4 ?_ | refine w5 ?_ | refine w6 ?_ | refine w7 ?_ | refine yo0 ?_ ?_ | refine yw0 ?_ ?_ | exact qq | fail)
      refine kretv rfl ⟨trivial, trivial⟩ rfl (eqI ?_)
      rw [idxS_at hc hv h1]
    · repeat' (first | refine yo ?_ ?_ | refine yw ?_ ?_ | refine yk ?_ ?_ | exact trivial | with_reducible refine wA ?_ ?_ | refine ys ?_ ?_ | refine xs_done ?_ | refine yl ?_ ?_ | refine w8 ?_ | refine w9 ?_ | refine w1 ?_ | refine w2 ?_ | refine w3 ?_ | refine w4 ?_ | refine w5 ?_ | refine w6 ?_ | refine w7 ?_ | refine yo0 ?_ ?_ | refine yw0 ?_ ?_ | exact qq | fail)
      rw [show IntKind.i64.wrap ((i : Int) + 1) = ((i + 1 : Nat) : Int) from w64 (by omega) (by omega)]
      exact kloop_next (st' := ⟨[(0, .vsl n 21 (tF cD g)), (1, .clo F 1 c), (7, vi n), (8, vi ((i + 1 : Nat) : Int))], []⟩) (n - (i + 1)) (can_rowsv [] (k0_sel hk rfl) rfl .nil (by exact ⟨PEq.refl _, PEq.cl _ (fun i hi => (by obtain rfl : i = 0 := (by omega); exact clB_spec _ hcl)), PEq.refl _, PEq.refl _, trivial⟩)) (by omega) ⟨i + 1, by omega, fun j hj => by
        by_cases e : j = i
        · subst e; exact h1
        · exact hv j (by omega), rfl, rfl⟩
  · repeat' (first | refine yo ?_ ?_ | refine yw ?_ ?_ | refine yk ?_ ?_ | exact trivial | with_reducible refine wA ?_ ?_ | refine ys ?_ ?_ | refine xs_done ?_ | refine yl ?_ ?_ | refine w8 ?_ | refine w9 ?_ | refine w1 ?_ | refine w2 ?_ | refine w3 ?_ | refine w4 ?_ | refine w5 ?_ | refine w6 ?_ | refine w7 ?_ | refine yo0 ?_ ?_ | refine yw0 ?_ ?_ | exact qq | fail)
    refine kretv rfl ⟨trivial, trivial⟩ rfl (eqI ?_)
    rw [idxS_none fun j hj => hv j (by omega)]
theorem containsFunc_c (n : Nat) (g : Nat → Df) (F : FuncId) (c : Nat → PV) (p : Nat → Bool) (hn : n ≤ 1000000) (hcl : clB (c 0) = true) (hF : ∀ i, i < n → PureC G.P F [vD (g i), c 0] (fun r => r = vb (p i))) :
    PureC G.P 30 [.vsl n 21 (tF cD g), .clo F 1 c] (fun r => r = vb (!allK n (fun i => !p i))) := by
  have c1 := indexFunc_c n g F c p hn hcl hF
  refine pure_of (G := G.toPg) (fn := Tryz.f30) Tryz.func30 rfl rfl rfl ?_; intro Γ hk
  repeat' (first | refine yo ?_ ?_ | refine yw ?_ ?_ | refine yk ?_ ?_ | exact trivial | with_reducible refine wA ?_ ?_ | refine ys ?_ ?_ | refine xs_done ?_ | refine yl ?_ ?_ | refine w8 ?_ | refine w9 ?_ | refine w1 ?_ | refine w2 ?_ | refine w3 ?_ | refine w4 ?_ | refine w5 ?_ | refine w6 ?_ | refine w7 ?_ | refine yo0 ?_ ?_ | refine yw0 ?_ ?_ | exact qq | fail)
  refine pop_callc [] rfl rfl rfl rfl rfl rfl (fun _ h => by cases h) c1 ⟨argCl trivial, argCl (fun i hi => (by obtain rfl : i = 0 := (by omega); exact clB_spec _ hcl)), trivial⟩ ?_
  rintro _ rfl
  repeat' (first | refine yo ?_ ?_ | refine yw ?_ ?_ | refine yk ?_ ?_ | exact trivial | with_reducible refine wA ?_ ?_ | refine ys ?_ ?_ | refine xs_done ?_ | refine yl ?_ ?_ | refine w8 ?_ | refine w9 ?_ | refine w1 ?_ | refine w2 ?_ | refine w3 ?_ | refine w4 ?_ | refine w5 ?_ | refine w6 ?_ | refine w7 ?_ | refine yo0 ?_ ?_ | refine yw0 ?_ ?_ | exact qq | fail)
  refine kretv rfl ⟨trivial, trivial⟩ rfl (eqB ?_)
  cases hb : allK n (fun i => !p i)
  · have : ∃ j, j < n ∧ p j = true := by
      rcases Classical.em (∃ j, j < n ∧ p j = true) with h | h
      · exact h
      · exfalso
        have : allK n (fun i => !p i) = true := allK_iff.2 fun j hj => by
          cases hp : p j
          · rfl
          · exact absurd ⟨j, hj, hp⟩ h
        rw [this] at hb; cases hb
    have hge : 0 ≤ idxS n p := by
      unfold idxS
      cases hf : (List.range n).find? p with
      | none =>
        obtain ⟨j, hj, hp⟩ := this
        have := List.find?_eq_none.1 hf j (by simpa using hj)
        exact absurd hp this
      | some k => exact Int.natCast_nonneg k
    rw [decide_eq_true hge]; rfl
  · have h := allK_iff.1 hb
    rw [idxS_none (fun j hj => by have := h j hj; cases hp : p j; rfl; rw [hp] at this; cases this)]; rfl
/-- a slice of definitions, by its numbers -/
def gD (l : List Df) : Nat → Df := lF dD l
theorem checkPast1_c (n d : Df) : PureC G.P 43 [vD n, .vptr 1 21 (fun _ => nthP (cD d)) 0 0] (fun r => r = vb (n.nm.toList == d.nm.toList)) := by
  refine pure_of (G := G.toPg) (fn := Tryz.f43) Tryz.func43 rfl rfl rfl ?_; intro Γ hk
  repeat' (first | refine yo ?_ ?_ | refine yw ?_ ?_ | refine yk ?_ ?_ | exact trivial | with_reducible refine wA ?_ ?_ | refine ys ?_ ?_ | refine xs_done ?_ | refine yl ?_ ?_ | refine w8 ?_ | refine w9 ?_ | refine w1 ?_ | refine w2 ?_ | refine w3 ?_ | refine w4 ?_ | refine w5 ?_ | refine w6 ?_ | refine w7 ?_ | refine yo0 ?_ ?_ | refine yw0 ?_ ?_ | exact qq | fail)
  exact kretv rfl ⟨trivial, trivial⟩ rfl rfl
theorem check1_c (b d : Df) : PureC G.P 31 [vD b, .vptr 1 21 (fun _ => nthP (cD d)) 0 0] (fun r => r = vb (collS b d)) := by
  have c1 := collide_c b d
  refine pure_of (G := G.toPg) (fn := Tryz.f31) Tryz.func31 rfl rfl rfl ?_; intro Γ hk
  repeat' (first | refine yo ?_ ?_ | refine yw ?_ ?_ | refine yk ?_ ?_ | exact trivial | with_reducible refine wA ?_ ?_ | refine ys ?_ ?_ | refine xs_done ?_ | refine yl ?_ ?_ | refine z1 c1 ?_ | refine z2 c1 ?_ | refine z3 c1 ?_ | refine z4 c1 ?_ | refine z5 c1 ?_ | refine w8 ?_ | refine w9 ?_ | refine w1 ?_ | refine w2 ?_ | refine w3 ?_ | refine w4 ?_ | refine w5 ?_ | refine w6 ?_ | refine w7 ?_ | refine yo0 ?_ ?_ | refine yw0 ?_ ?_ | exact qq | fail)
  exact kretv rfl ⟨trivial, trivial⟩ rfl rfl
theorem idx_find (l : List Df) (p : Df → Bool) : (idxS l.length (fun i => p (lF dD l i)) = -1 ∧ l.find? p = none) ∨ ∃ i, i < l.length ∧ idxS l.length (fun i => p (lF dD l i)) = i ∧ l.find? p = some (lF dD l i) := by
  have at_ : ∀ i (h : i < l.length), lF dD l i = l[i] := fun i h => by
    unfold lF; rw [List.getD_eq_getElem?_getD, List.getElem?_eq_getElem h]; rfl
  cases hf : l.find? p with
  | none =>
    refine .inl ⟨idxS_none fun j hj => ?_, rfl⟩
    have := List.find?_eq_none.1 hf l[j] (List.getElem_mem hj)
    show p (lF dD l j) = false
    rw [at_ j hj]; simpa using this
  | some d =>
    obtain ⟨h1, i, hi, h2, h3⟩ := List.find?_eq_some_iff_getElem.1 hf
    refine .inr ⟨i, hi, idxS_at hi (fun j hj => ?_) ?_, by rw [at_ i hi, h2]⟩
    · show p (lF dD l j) = false
      rw [at_ j (by omega)]; simpa using h3 j hj
    · show p (lF dD l i) = true
      rw [at_ i hi, h2]; exact h1
theorem checkPast_c (d : Df) (N : List Df) (hN : N.length ≤ 1000000) : PureC G.P 33 [vD d, vDs N] (fun r => r = vi (pastS N d)) := by
  have c1 := indexFunc_c N.length (lF dD N) 43 (fun _ => .vptr 1 21 (fun _ => nthP (cD d)) 0 0) (fun i => (lF dD N i).nm.toList == d.nm.toList) hN rfl (fun i hi => checkPast1_c _ d)
  have c3 := fun x => agree_c (tyD x) d.ty
  rcases idx_find N (fun n => n.nm.toList == d.nm.toList) with ⟨e1, e2⟩ | ⟨i, hi, e1, e2⟩
  · rw [e1] at c1
    refine pure_of (G := G.toPg) (fn := Tryz.f33) Tryz.func33 rfl rfl rfl ?_; intro Γ hk
    repeat' (first | refine yo ?_ ?_ | refine yw ?_ ?_ | refine yk ?_ ?_ | exact trivial | with_reducible refine wA ?_ ?_ | refine ys ?_ ?_ | refine xs_done ?_ | refine yl ?_ ?_ | refine w8 ?_ | refine w9 ?_ | refine w1 ?_ | refine w2 ?_ | refine w3 ?_ | refine w4 ?_ | refine w5 ?_ | refine w6 ?_ | refine w7 ?_ | refine yo0 ?_ ?_ | refine yw0 ?_ ?_ | exact qq | fail)
    refine pop_callc [0] rfl rfl rfl rfl rfl rfl (by intro l hl; rw [hk]; exact Nat.zero_le _) c1 ⟨argCl trivial, argClo1 (argPtr rfl trivial (List.Mem.head _) (Nat.le_refl _) rfl (fun a ha b hb => argCl (clL_nth _ b (cD_cl d)))), trivial⟩ ?_
    rintro _ rfl
    repeat' (first | refine yo ?_ ?_ | refine yw ?_ ?_ | refine yk ?_ ?_ | exact trivial | with_reducible refine wA ?_ ?_ | refine ys ?_ ?_ | refine xs_done ?_ | refine yl ?_ ?_ | refine w8 ?_ | refine w9 ?_ | refine w1 ?_ | refine w2 ?_ | refine w3 ?_ | refine w4 ?_ | refine w5 ?_ | refine w6 ?_ | refine w7 ?_ | refine yo0 ?_ ?_ | refine yw0 ?_ ?_ | exact qq | fail)
    refine kretv rfl ⟨trivial, trivial⟩ rfl (eqI ?_)
    unfold pastS; rw [e2]
  · rw [e1] at c1
    have c2 := ctypeOf_c (lF dD N i)
    have c4 := c3 (lF dD N i)
    refine pure_of (G := G.toPg) (fn := Tryz.f33) Tryz.func33 rfl rfl rfl ?_; intro Γ hk
    repeat' (first | refine yo ?_ ?_ | refine yw ?_ ?_ | refine yk ?_ ?_ | exact trivial | with_reducible refine wA ?_ ?_ | refine ys ?_ ?_ | refine xs_done ?_ | refine yl ?_ ?_ | refine w8 ?_ | refine w9 ?_ | refine w1 ?_ | refine w2 ?_ | refine w3 ?_ | refine w4 ?_ | refine w5 ?_ | refine w6 ?_ | refine w7 ?_ | refine yo0 ?_ ?_ | refine yw0 ?_ ?_ | exact qq | fail)
    refine pop_callc [0] rfl rfl rfl rfl rfl rfl (by intro l hl; rw [hk]; exact Nat.zero_le _) c1 ⟨argCl trivial, argClo1 (argPtr rfl trivial (List.Mem.head _) (Nat.le_refl _) rfl (fun a ha b hb => argCl (clL_nth _ b (cD_cl d)))), trivial⟩ ?_
    rintro _ rfl
    repeat' (first | refine yo ?_ ?_ | refine yw ?_ ?_ | refine yk ?_ ?_ | exact trivial | with_reducible refine wA ?_ ?_ | refine ys ?_ ?_ | refine xs_done ?_ | refine yl ?_ ?_ | refine xs_start (id := 4) true [.take 0, .take 1, .take 2, .take 3, .take 5, .take 6, .one 4, .one 7, .take 8] 0 rfl rfl (by kernel_rfl) ?_ | (refine pcond_n rfl (by simp) ?_) | refine z1 c2 ?_ | refine z2 c2 ?_ | refine z3 c2 ?_ | refine z4 c2 ?_ | refine z5 c2 ?_ | refine z1 c4 ?_ | refine z2 c4 ?_ | refine z3 c4 ?_ | refine z4 c4 ?_ | refine z5 c4 ?_ | refine w8 ?_ | refine w9 ?_ | refine w1 ?_ | refine w2 ?_ | refine w3 ?_ | refine w4 ?_ | refine w5 ?_ | refine w6 ?_ | refine w7 ?_ | refine yo0 ?_ ?_ | refine yw0 ?_ ?_ | exact qq | fail)
    refine kretv rfl ⟨trivial, trivial⟩ rfl (eqI ?_)
    unfold pastS; rw [e2]
theorem checkBody_c (d : Df) (N S P : List Df) (hN : N.length ≤ 1000000) (hS : S.length ≤ 1000000) (hP : P.length ≤ 1000000) (hb : Bd d.body) (hv : validS 32 d.body = true) : PureC G.P 34 [vD d, vDs N, vDs S, vDs P] (fun r => r = vi (bodyS N S P d)) := by
  have c1 := type_c N S P hN hS hP d.body hb hv
  have c2 := ctypeOf_c d
  unfold bodyS
  generalize typeS N S P 32 d.body = X at *
  have c3 := agree_c X.1 (tyD d)
  refine pure_of (G := G.toPg) (fn := Tryz.f34) Tryz.func34 rfl rfl rfl ?_; intro Γ hk
  repeat' (first | refine yo ?_ ?_ | refine yw ?_ ?_ | refine yk ?_ ?_ | exact trivial | with_reducible refine wA ?_ ?_ | refine ys ?_ ?_ | refine xs_done ?_ | refine yl ?_ ?_ | refine z1 c1 ?_ | refine z2 c1 ?_ | refine z3 c1 ?_ | refine z4 c1 ?_ | refine z5 c1 ?_ | refine w8 ?_ | refine w9 ?_ | refine w1 ?_ | refine w2 ?_ | refine w3 ?_ | refine w4 ?_ | refine w5 ?_ | refine w6 ?_ | refine w7 ?_ | refine yo0 ?_ ?_ | refine yw0 ?_ ?_ | exact qq | fail)
  refine pcond rfl ?_ ?_ <;> intro hc
  · have hc : X.2 ≠ 0 := by simpa using hc
    repeat' (first | refine yo ?_ ?_ | refine yw ?_ ?_ | refine yk ?_ ?_ | exact trivial | with_reducible refine wA ?_ ?_ | refine ys ?_ ?_ | refine xs_done ?_ | refine yl ?_ ?_ | refine w8 ?_ | refine w9 ?_ | refine w1 ?_ | refine w2 ?_ | refine w3 ?_ | refine w4 ?_ | refine w5 ?_ | refine w6 ?_ | refine w7 ?_ | refine yo0 ?_ ?_ | refine yw0 ?_ ?_ | exact qq | fail)
    refine kretv rfl ⟨trivial, trivial⟩ rfl (eqI ?_)
    rw [if_pos hc]
  · have hc : ¬ X.2 ≠ 0 := by simpa using hc
    repeat' (first | refine yo ?_ ?_ | refine yw ?_ ?_ | refine yk ?_ ?_ | exact trivial | with_reducible refine wA ?_ ?_ | refine ys ?_ ?_ | refine xs_done ?_ | refine yl ?_ ?_ | refine xs_start (id := 4) true [.take 0, .take 1, .one 2, .one 3, .take 4] 0 rfl rfl (by kernel_rfl) ?_ | refine z1 c2 ?_ | refine z2 c2 ?_ | refine z3 c2 ?_ | refine z4 c2 ?_ | refine z5 c2 ?_ | refine z1 c3 ?_ | refine z2 c3 ?_ | refine z3 c3 ?_ | refine z4 c3 ?_ | refine z5 c3 ?_ | refine w8 ?_ | refine w9 ?_ | refine w1 ?_ | refine w2 ?_ | refine w3 ?_ | refine w4 ?_ | refine w5 ?_ | refine w6 ?_ | refine w7 ?_ | refine yo0 ?_ ?_ | refine yw0 ?_ ?_ | exact qq | fail)
    refine kretv rfl ⟨trivial, trivial⟩ rfl (eqI ?_)
    rw [if_neg hc]
theorem lF_take1 {l : List Df} {i : Nat} (hi : i < l.length) : l.take (i + 1) = l.take i ++ [lF dD l i] := by
  rw [List.take_add_one, List.getElem?_eq_getElem hi]
  unfold lF; rw [List.getD_eq_getElem?_getD, List.getElem?_eq_getElem hi]; rfl
/-- the first definitions of a kind -/
def fk (p : Df → Bool) (l : List Df) (i : Nat) : List Df := (l.take i).filter p
theorem fk_y {p : Df → Bool} {l : List Df} {i : Nat} (hi : i < l.length) (h : p (lF dD l i) = true) : fk p l (i + 1) = fk p l i ++ [lF dD l i] := by
  unfold fk; rw [lF_take1 hi, List.filter_append]; simp [h]
theorem fk_n {p : Df → Bool} {l : List Df} {i : Nat} (hi : i < l.length) (h : p (lF dD l i) = false) : fk p l (i + 1) = fk p l i := by
  unfold fk; rw [lF_take1 hi, List.filter_append]; simp [h]
theorem fk_le (p : Df → Bool) (l : List Df) (i : Nat) : (fk p l i).length ≤ i := by
  unfold fk; have := List.length_filter_le p (l.take i); have := List.length_take_le i l; omega
theorem fk_all (p : Df → Bool) (l : List Df) : fk p l l.length = l.filter p := by unfold fk; rw [List.take_length]
set_option maxHeartbeats 4000000 in
theorem divide_c (nm : ByteArray) (l : List Df) (hl : l.length ≤ 1000) : PureC G.P 29 [vA nm l] (fun r => r = .tup 3 (nthP [vDs (l.filter isNm), vDs (l.filter isSc), vDs (l.filter isPa)])) := by
  refine pure_of (G := G.toPg) (fn := Tryz.f29) Tryz.func29 rfl rfl rfl ?_; intro Γ hk
  repeat' (first | refine yo ?_ ?_ | refine yw ?_ ?_ | refine yk ?_ ?_ | exact trivial | with_reducible refine wA ?_ ?_ | refine ys ?_ ?_ | refine xs_done ?_ | refine yl ?_ ?_ | refine w8 ?_ | refine w9 ?_ | refine w1 ?_ | refine w2 ?_ | refine w3 ?_ | refine w4 ?_ | refine w5 ?_ | refine w6 ?_ | refine w7 ?_ | refine yo0 ?_ ?_ | refine yw0 ?_ ?_ | exact qq | fail)
  refine pcan (can_virt (vRow cD 21 0 (lF dD [])) rfl) ?_
  refine pcan (can_virt (vRow cD 21 0 (lF dD [])) rfl) ?_
  refine pcan (can_virt (vRow cD 21 0 (lF dD [])) rfl) ?_
  refine pcan (st' := ⟨[(2, slP 0 0), (3, slP 0 1), (4, slP 0 2), (8, vDs l), (9, vi l.length), (10, vi ((0 : Nat) : Int))], [vRow cD 21 0 (lF dD (fk isNm l 0)), vRow cD 21 0 (lF dD (fk isSc l 0)), vRow cD 21 0 (lF dD (fk isPa l 0))]⟩) (can_rowsv [1, 2, 3] (k0_sel hk rfl) rfl (.cons rfl (RowEq.cl (v_cl cD_cl _ _ _)) (.cons rfl (RowEq.cl (v_cl cD_cl _ _ _)) (.cons rfl (RowEq.cl (v_cl cD_cl _ _ _)) .nil))) tmq) ?_
  refine ploop (fun q st => ∃ i a b c : Nat, i ≤ l.length ∧ (fk isNm l i).length = a ∧ (fk isSc l i).length = b ∧ (fk isPa l i).length = c ∧ q = l.length - i ∧ st = ⟨[(2, slP a 0), (3, slP b 1), (4, slP c 2), (8, vDs l), (9, vi l.length), (10, vi i)], [vRow cD 21 a (lF dD (fk isNm l i)), vRow cD 21 b (lF dD (fk isSc l i)), vRow cD 21 c (lF dD (fk isPa l i))]⟩) l.length ⟨0, 0, 0, 0, by omega, rfl, rfl, rfl, by omega, rfl⟩ ?_
  rintro _ _ ⟨i, a, b, c, hi, ha, hb, hc, rfl, rfl⟩
  have la := fk_le isNm l i
  have lb := fk_le isSc l i
  have lc := fk_le isPa l i
  repeat' (first | refine yo ?_ ?_ | refine yw ?_ ?_ | refine yk ?_ ?_ | exact trivial | with_reducible refine wA ?_ ?_ | refine ys ?_ ?_ | refine xs_done ?_ | refine yl ?_ ?_ | refine w8 ?_ | refine w9 ?_ | refine w1 ?_ | refine w2 ?_ | refine w3 ?_ | refine w4 ?_ | refine w5 ?_ | refine w6 ?_ | refine w7 ?_ | refine yo0 ?_ ?_ | refine yw0 ?_ ?_ | exact qq | fail)
  refine pcond rfl ?_ ?_ <;> intro hlt <;> simp at hlt
  · have hw : IntKind.i64.wrap ((i : Int) + 1) = ((i + 1 : Nat) : Int) := w64 (by omega) (by omega)
    by_cases hk1 : (lF dD l i).kind = 1 ∨ (lF dD l i).kind = 3 ∨ (lF dD l i).kind = 4
    · have e1 := fk_y (p := isNm) hlt (decide_eq_true hk1)
      have e2 := fk_n (p := isSc) hlt (decide_eq_false (by omega))
      have e3 := fk_n (p := isPa) hlt (decide_eq_false (by omega))
      rcases hk1 with h | h | h
      all_goals
        rcases a with _ | a
        · repeat' (first | refine yo ?_ ?_ | refine yw ?_ ?_ | refine yk ?_ ?_ | exact trivial | with_reducible refine wA ?_ ?_ | refine ys ?_ ?_ | refine xs_done ?_ | refine yl ?_ ?_ | exact ⟨Nat.le_refl _, (by rw [hk]; exact Nat.le_of_ble_eq_true rfl), Nat.le_of_eq (Nat.zero_add _), (show (_ : Nat) * 216 ≤ 140737488355328 from by omega), (show (_ : Nat) ≤ 9223372036854775807 from by omega)⟩ | (refine pcond_y rfl (by show ((lF dD l i).kind == _) = true; rw [h]; rfl) ?_) | (refine pcond_n rfl (by show ((lF dD l i).kind == _) = false; rw [h]; rfl) ?_) | refine w8 ?_ | refine w9 ?_ | refine w1 ?_ | refine w2 ?_ | refine w3 ?_ | refine w4 ?_ | refine w5 ?_ | refine w6 ?_ | refine w7 ?_ | refine yo0 ?_ ?_ | refine yw0 ?_ ?_ | exact qq | fail)
          rw [hw]
          refine kloop_next (st' := ⟨[(2, slP (0 + 1) 0), (3, slP b 1), (4, slP c 2), (8, vDs l), (9, vi l.length), (10, vi ((i + 1 : Nat) : Int))], [vRow cD 21 (0 + 1) (lF dD (fk isNm l i ++ [lF dD l i])), vRow cD 21 b (lF dD (fk isSc l i)), vRow cD 21 c (lF dD (fk isPa l i))]⟩) (l.length - (i + 1)) (can_rowsv [5, 1, 2] (k0_sel hk rfl) rfl (.cons rfl (app_l0 cD_cl ha rfl) (.cons rfl (RowEq.cl (v_cl cD_cl _ _ _)) (.cons rfl (RowEq.cl (v_cl cD_cl _ _ _)) .nil))) tmq) (by omega) ⟨i + 1, (0 + 1), b, c, by omega, by rw [e1, List.length_append, ha]; rfl, by rw [e2]; exact hb, by rw [e3]; exact hc, rfl, by rw [e1, e2, e3]⟩
        · repeat' (first | refine yo ?_ ?_ | refine yw ?_ ?_ | refine yk ?_ ?_ | exact trivial | with_reducible refine wA ?_ ?_ | refine ys ?_ ?_ | refine xs_done ?_ | refine yl ?_ ?_ | exact ⟨Nat.le_refl _, (by rw [hk]; exact Nat.le_of_ble_eq_true rfl), Nat.le_of_eq (Nat.zero_add _), (show (_ : Nat) * 216 ≤ 140737488355328 from by omega), (show (_ : Nat) ≤ 9223372036854775807 from by omega)⟩ | (refine pcond_y rfl (by show ((lF dD l i).kind == _) = true; rw [h]; rfl) ?_) | (refine pcond_n rfl (by show ((lF dD l i).kind == _) = false; rw [h]; rfl) ?_) | refine w8 ?_ | refine w9 ?_ | refine w1 ?_ | refine w2 ?_ | refine w3 ?_ | refine w4 ?_ | refine w5 ?_ | refine w6 ?_ | refine w7 ?_ | refine yo0 ?_ ?_ | refine yw0 ?_ ?_ | exact qq | fail)
          rw [hw]
          refine kloop_next (st' := ⟨[(2, slP (a + 1 + 1) 0), (3, slP b 1), (4, slP c 2), (8, vDs l), (9, vi l.length), (10, vi ((i + 1 : Nat) : Int))], [vRow cD 21 (a + 1 + 1) (lF dD (fk isNm l i ++ [lF dD l i])), vRow cD 21 b (lF dD (fk isSc l i)), vRow cD 21 c (lF dD (fk isPa l i))]⟩) (l.length - (i + 1)) (can_rowsv [5, 1, 2] (k0_sel hk rfl) rfl (.cons rfl (app_l cD_cl ha rfl rfl) (.cons rfl (RowEq.cl (v_cl cD_cl _ _ _)) (.cons rfl (RowEq.cl (v_cl cD_cl _ _ _)) .nil))) tmq) (by omega) ⟨i + 1, (a + 1 + 1), b, c, by omega, by rw [e1, List.length_append, ha]; rfl, by rw [e2]; exact hb, by rw [e3]; exact hc, rfl, by rw [e1, e2, e3]⟩
    · by_cases h : (lF dD l i).kind = 2
      · have e1 := fk_n (p := isNm) hlt (decide_eq_false hk1)
        have e2 := fk_y (p := isSc) hlt (decide_eq_true h)
        have e3 := fk_n (p := isPa) hlt (decide_eq_false (by omega))
        rcases b with _ | b
        · repeat' (first | refine yo ?_ ?_ | refine yw ?_ ?_ | refine yk ?_ ?_ | exact trivial | with_reducible refine wA ?_ ?_ | refine ys ?_ ?_ | refine xs_done ?_ | refine yl ?_ ?_ | exact ⟨Nat.le_refl _, (by rw [hk]; exact Nat.le_of_ble_eq_true rfl), Nat.le_of_eq (Nat.zero_add _), (show (_ : Nat) * 216 ≤ 140737488355328 from by omega), (show (_ : Nat) ≤ 9223372036854775807 from by omega)⟩ | (refine pcond_y rfl (by show ((lF dD l i).kind == _) = true; rw [h]; rfl) ?_) | (refine pcond_n rfl (by show ((lF dD l i).kind == _) = false; rw [h]; rfl) ?_) | refine w8 ?_ | refine w9 ?_ | refine w1 ?_ | refine w2 ?_ | refine w3 ?_ | refine w4 ?_ | refine w5 ?_ | refine w6 ?_ | refine w7 ?_ | refine yo0 ?_ ?_ | refine yw0 ?_ ?_ | exact qq | fail)
          rw [hw]
          refine kloop_next (st' := ⟨[(2, slP a 0), (3, slP (0 + 1) 1), (4, slP c 2), (8, vDs l), (9, vi l.length), (10, vi ((i + 1 : Nat) : Int))], [vRow cD 21 a (lF dD (fk isNm l i)), vRow cD 21 (0 + 1) (lF dD (fk isSc l i ++ [lF dD l i])), vRow cD 21 c (lF dD (fk isPa l i))]⟩) (l.length - (i + 1)) (can_rowsv [0, 5, 2] (k0_sel hk rfl) rfl (.cons rfl (RowEq.cl (v_cl cD_cl _ _ _)) (.cons rfl (app_l0 cD_cl hb rfl) (.cons rfl (RowEq.cl (v_cl cD_cl _ _ _)) .nil))) tmq) (by omega) ⟨i + 1, a, (0 + 1), c, by omega, by rw [e1]; exact ha, by rw [e2, List.length_append, hb]; rfl, by rw [e3]; exact hc, rfl, by rw [e1, e2, e3]⟩
        · repeat' (first | refine yo ?_ ?_ | refine yw ?_ ?_ | refine yk ?_ ?_ | exact trivial | with_reducible refine wA ?_ ?_ | refine ys ?_ ?_ | refine xs_done ?_ | refine yl ?_ ?_ | exact ⟨Nat.le_refl _, (by rw [hk]; exact Nat.le_of_ble_eq_true rfl), Nat.le_of_eq (Nat.zero_add _), (show (_ : Nat) * 216 ≤ 140737488355328 from by omega), (show (_ : Nat) ≤ 9223372036854775807 from by omega)⟩ | (refine pcond_y rfl (by show ((lF dD l i).kind == _) = true; rw [h]; rfl) ?_) | (refine pcond_n rfl (by show ((lF dD l i).kind == _) = false; rw [h]; rfl) ?_) | refine w8 ?_ | refine w9 ?_ | refine w1 ?_ | refine w2 ?_ | refine w3 ?_ | refine w4 ?_ | refine w5 ?_ | refine w6 ?_ | refine w7 ?_ | refine yo0 ?_ ?_ | refine yw0 ?_ ?_ | exact qq | fail)
          rw [hw]
          refine kloop_next (st' := ⟨[(2, slP a 0), (3, slP (b + 1 + 1) 1), (4, slP c 2), (8, vDs l), (9, vi l.length), (10, vi ((i + 1 : Nat) : Int))], [vRow cD 21 a (lF dD (fk isNm l i)), vRow cD 21 (b + 1 + 1) (lF dD (fk isSc l i ++ [lF dD l i])), vRow cD 21 c (lF dD (fk isPa l i))]⟩) (l.length - (i + 1)) (can_rowsv [0, 5, 2] (k0_sel hk rfl) rfl (.cons rfl (RowEq.cl (v_cl cD_cl _ _ _)) (.cons rfl (app_l cD_cl hb rfl rfl) (.cons rfl (RowEq.cl (v_cl cD_cl _ _ _)) .nil))) tmq) (by omega) ⟨i + 1, a, (b + 1 + 1), c, by omega, by rw [e1]; exact ha, by rw [e2, List.length_append, hb]; rfl, by rw [e3]; exact hc, rfl, by rw [e1, e2, e3]⟩
      · by_cases h : (lF dD l i).kind = 5
        · have e1 := fk_n (p := isNm) hlt (decide_eq_false hk1)
          have e2 := fk_n (p := isSc) hlt (decide_eq_false (by omega))
          have e3 := fk_y (p := isPa) hlt (decide_eq_true h)
          rcases c with _ | c
          · repeat' (first | refine yo ?_ ?_ | refine yw ?_ ?_ | refine yk ?_ ?_ | exact trivial | with_reducible refine wA ?_ ?_ | refine ys ?_ ?_ | refine xs_done ?_ | refine yl ?_ ?_ | exact ⟨Nat.le_refl _, (by rw [hk]; exact Nat.le_of_ble_eq_true rfl), Nat.le_of_eq (Nat.zero_add _), (show (_ : Nat) * 216 ≤ 140737488355328 from by omega), (show (_ : Nat) ≤ 9223372036854775807 from by omega)⟩ | (refine pcond_y rfl (by show ((lF dD l i).kind == _) = true; rw [h]; rfl) ?_) | (refine pcond_n rfl (by show ((lF dD l i).kind == _) = false; rw [h]; rfl) ?_) | refine w8 ?_ | refine w9 ?_ | refine w1 ?_ | refine w2 ?_ | refine w3 ?_ | refine w4 ?_ | refine w5 ?_ | refine w6 ?_ | refine w7 ?_ | refine yo0 ?_ ?_ | refine yw0 ?_ ?_ | exact qq | fail)
            rw [hw]
            refine kloop_next (st' := ⟨[(2, slP a 0), (3, slP b 1), (4, slP (0 + 1) 2), (8, vDs l), (9, vi l.length), (10, vi ((i + 1 : Nat) : Int))], [vRow cD 21 a (lF dD (fk isNm l i)), vRow cD 21 b (lF dD (fk isSc l i)), vRow cD 21 (0 + 1) (lF dD (fk isPa l i ++ [lF dD l i]))]⟩) (l.length - (i + 1)) (can_rowsv [0, 1, 5] (k0_sel hk rfl) rfl (.cons rfl (RowEq.cl (v_cl cD_cl _ _ _)) (.cons rfl (RowEq.cl (v_cl cD_cl _ _ _)) (.cons rfl (app_l0 cD_cl hc rfl) .nil))) tmq) (by omega) ⟨i + 1, a, b, (0 + 1), by omega, by rw [e1]; exact ha, by rw [e2]; exact hb, by rw [e3, List.length_append, hc]; rfl, rfl, by rw [e1, e2, e3]⟩
          · repeat' (first | refine yo ?_ ?_ | refine yw ?_ ?_ | refine yk ?_ ?_ | exact trivial | with_reducible refine wA ?_ ?_ | refine ys ?_ ?_ | refine xs_done ?_ | refine yl ?_ ?_ | exact ⟨Nat.le_refl _, (by rw [hk]; exact Nat.le_of_ble_eq_true rfl), Nat.le_of_eq (Nat.zero_add _), (show (_ : Nat) * 216 ≤ 140737488355328 from by omega), (show (_ : Nat) ≤ 9223372036854775807 from by omega)⟩ | (refine pcond_y rfl (by show ((lF dD l i).kind == _) = true; rw [h]; rfl) ?_) | (refine pcond_n rfl (by show ((lF dD l i).kind == _) = false; rw [h]; rfl) ?_) | refine w8 ?_ | refine w9 ?_ | refine w1 ?_ | refine w2 ?_ | refine w3 ?_ | refine w4 ?_ | refine w5 ?_ | refine w6 ?_ | refine w7 ?_ | refine yo0 ?_ ?_ | refine yw0 ?_ ?_ | exact qq | fail)
            rw [hw]
            refine kloop_next (st' := ⟨[(2, slP a 0), (3, slP b 1), (4, slP (c + 1 + 1) 2), (8, vDs l), (9, vi l.length), (10, vi ((i + 1 : Nat) : Int))], [vRow cD 21 a (lF dD (fk isNm l i)), vRow cD 21 b (lF dD (fk isSc l i)), vRow cD 21 (c + 1 + 1) (lF dD (fk isPa l i ++ [lF dD l i]))]⟩) (l.length - (i + 1)) (can_rowsv [0, 1, 5] (k0_sel hk rfl) rfl (.cons rfl (RowEq.cl (v_cl cD_cl _ _ _)) (.cons rfl (RowEq.cl (v_cl cD_cl _ _ _)) (.cons rfl (app_l cD_cl hc rfl rfl) .nil))) tmq) (by omega) ⟨i + 1, a, b, (c + 1 + 1), by omega, by rw [e1]; exact ha, by rw [e2]; exact hb, by rw [e3, List.length_append, hc]; rfl, rfl, by rw [e1, e2, e3]⟩
        · have e1 := fk_n (p := isNm) hlt (decide_eq_false hk1)
          have e2 := fk_n (p := isSc) hlt (decide_eq_false (by omega))
          have e3 := fk_n (p := isPa) hlt (decide_eq_false (by omega))
          have g1 : ¬ (lF dD l i).kind = 1 := by omega
          have g3 : ¬ (lF dD l i).kind = 3 := by omega
          have g4 : ¬ (lF dD l i).kind = 4 := by omega
          have g2 : ¬ (lF dD l i).kind = 2 := by omega
          repeat' (first | refine yo ?_ ?_ | refine yw ?_ ?_ | refine yk ?_ ?_ | exact trivial | with_reducible refine wA ?_ ?_ | refine ys ?_ ?_ | refine xs_done ?_ | refine yl ?_ ?_ | (refine pcond_n rfl (by show ((lF dD l i).kind == _) = false; rw [bqd]; exact decide_eq_false (by assumption)) ?_) | refine w8 ?_ | refine w9 ?_ | refine w1 ?_ | refine w2 ?_ | refine w3 ?_ | refine w4 ?_ | refine w5 ?_ | refine w6 ?_ | refine w7 ?_ | refine yo0 ?_ ?_ | refine yw0 ?_ ?_ | exact qq | fail)
          rw [hw]
          refine kloop_next (st' := ⟨[(2, slP a 0), (3, slP b 1), (4, slP c 2), (8, vDs l), (9, vi l.length), (10, vi ((i + 1 : Nat) : Int))], [vRow cD 21 a (lF dD (fk isNm l i)), vRow cD 21 b (lF dD (fk isSc l i)), vRow cD 21 c (lF dD (fk isPa l i))]⟩) (l.length - (i + 1)) (can_rowsv [0, 1, 2] (k0_sel hk rfl) rfl (.cons rfl (RowEq.cl (v_cl cD_cl _ _ _)) (.cons rfl (RowEq.cl (v_cl cD_cl _ _ _)) (.cons rfl (RowEq.cl (v_cl cD_cl _ _ _)) .nil))) tmq) (by omega) ⟨i + 1, a, b, c, by omega, by rw [e1]; exact ha, by rw [e2]; exact hb, by rw [e3]; exact hc, rfl, by rw [e1, e2, e3]⟩
  · obtain rfl : i = l.length := by omega
    rw [fk_all] at ha hb hc
    rw [fk_all, fk_all, fk_all]
    refine pcan (can_frz [0, 1, 2] (by intro _ _; rw [hk]; exact Nat.zero_le _) rfl (tm := [(2, .vsl a 21 (tF cD (lF dD (l.filter isNm)))), (3, .vsl b 21 (tF cD (lF dD (l.filter isSc)))), (4, .vsl c 21 (tF cD (lF dD (l.filter isPa))))]) (by exact ⟨.inr (arg_v cD_cl rfl (by simp)), .inr (arg_v cD_cl rfl (by simp)), .inr (arg_v cD_cl rfl (by simp)), trivial⟩)) ?_
    repeat' (first | refine yo ?_ ?_ | refine yw ?_ ?_ | refine yk ?_ ?_ | exact trivial | with_reducible refine wA ?_ ?_ | refine ys ?_ ?_ | refine xs_done ?_ | refine yl ?_ ?_ | refine w8 ?_ | refine w9 ?_ | refine w1 ?_ | refine w2 ?_ | refine w3 ?_ | refine w4 ?_ | refine w5 ?_ | refine w6 ?_ | refine w7 ?_ | refine yo0 ?_ ?_ | refine yw0 ?_ ?_ | exact qq | fail)
    refine xdone ?_
    exact kretv rfl ⟨trivial, trivial, trivial, trivial⟩ rfl (by rw [← ha, ← hb, ← hc]; rfl)
theorem anyTk (l : List Df) (i : Nat) (hi : i ≤ l.length) (p : Df → Bool) : (l.take i).any p = !allK i (fun j => !p (lF dD l j)) := by
  have at_ : ∀ j (h : j < l.length), lF dD l j = l[j] := fun j h => by
    unfold lF; rw [List.getD_eq_getElem?_getD, List.getElem?_eq_getElem h]; rfl
  rw [Bool.eq_iff_iff]
  constructor
  · intro h
    obtain ⟨x, hx, hp⟩ := List.any_eq_true.1 h
    obtain ⟨j, hj, e⟩ := List.getElem_of_mem hx
    have hj2 : j < i := by have := List.length_take_le i l; omega
    have : lF dD l j = x := by rw [at_ j (by omega), ← e, List.getElem_take]
    rw [allK_no hj2 (by rw [this, hp]; rfl)]; rfl
  · intro h
    have h := nb_t h
    rcases Classical.em (∃ j, j < i ∧ p (lF dD l j) = true) with ⟨j, hj, hp⟩ | hn
    · refine List.any_eq_true.2 ⟨lF dD l j, ?_, hp⟩
      rw [at_ j (by omega)]
      exact List.mem_take_iff_getElem.2 ⟨j, by omega, rfl⟩
    · exfalso
      rw [allK_iff.2 (fun j hj => by
        cases hp : p (lF dD l j)
        · rfl
        · exact absurd ⟨j, hj, hp⟩ hn)] at h
      cases h
abbrev dPr : Int × Int := (0, 0)
theorem cPr_cl : CellsCl cPr := fun _ => ⟨trivial, trivial, trivial⟩
abbrev vPr (L : List (Int × Int)) : PV := .vsl L.length 2 (tF cPr (lF dPr L))
theorem probS_len (l : List Df) : ∀ n, (probS l n).length ≤ n
  | 0 => Nat.le_refl _
  | n + 1 => by
    have := probS_len l n
    rw [probS]; split
    · omega
    · rw [List.length_append]; simp; omega
theorem cPr_sc {g : Nat → Int × Int} (a b : Nat) : Sc (nthP (cPr (g a)) b) := by
  rcases b with _ | _ | _ <;> trivial
set_option maxHeartbeats 4000000 in
theorem check_f (nm : ByteArray) (l : List Df) (hs : nm.size ≤ 9223372036854775807) (hb : ∀ d, d ∈ l → BdD d) : PureF G.P 21 [vA nm l] (fun r => r = .tup 2 (nthP [vPr (chkL nm l).1, vi (chkL nm l).2])) := by
  have c1 := validAgr_c nm l hs hb
  have at_ : ∀ i, i < l.length → lF dD l i ∈ l := fun i hi => by
    unfold lF; rw [List.getD_eq_getElem?_getD, List.getElem?_eq_getElem hi]; exact List.getElem_mem _
  refine pureF_of (G := G.toPg) (fn := Tryz.f21) Tryz.func21 rfl rfl rfl ?_; intro Γ hk
  repeat' (first | refine yo ?_ ?_ | refine yw ?_ ?_ | refine yk ?_ ?_ | exact trivial | with_reducible refine wA ?_ ?_ | refine ys ?_ ?_ | refine xs_done ?_ | refine yl ?_ ?_ | refine z1 c1 ?_ | refine z2 c1 ?_ | refine z3 c1 ?_ | refine z4 c1 ?_ | refine z5 c1 ?_ | refine w8 ?_ | refine w9 ?_ | refine w1 ?_ | refine w2 ?_ | refine w3 ?_ | refine w4 ?_ | refine w5 ?_ | refine w6 ?_ | refine w7 ?_ | refine yo0 ?_ ?_ | refine yw0 ?_ ?_ | exact qq | fail)
  refine pcond rfl ?_ ?_ <;> intro hc
  · have hc := nb_t hc
    repeat' (first | refine yo ?_ ?_ | refine yw ?_ ?_ | refine yk ?_ ?_ | exact trivial | with_reducible refine wA ?_ ?_ | refine ys ?_ ?_ | refine xs_done ?_ | refine yl ?_ ?_ | refine w8 ?_ | refine w9 ?_ | refine w1 ?_ | refine w2 ?_ | refine w3 ?_ | refine w4 ?_ | refine w5 ?_ | refine w6 ?_ | refine w7 ?_ | refine yo0 ?_ ?_ | refine yw0 ?_ ?_ | exact qq | fail)
    refine xdone ?_
    refine kretF [] rfl ⟨trivial, trivial, trivial⟩ (qs := [vPr [], vi 1]) ⟨argFNil, argFVal, trivial⟩ ?_
    unfold chkL; rw [if_neg (by rw [hc]; simp)]; rfl
  · have hc := nb_f hc
    have hv : l.length ≤ 128 ∧ ∀ d, d ∈ l → defS d = true := by
      unfold agrS at hc
      simp only [Bool.and_eq_true, decide_eq_true_eq, List.all_eq_true] at hc
      exact ⟨hc.2.1, fun d hd => (hc.2.2 d hd).2⟩
    have c2 := divide_c nm l (by omega)
    unfold chkL
    rw [if_pos hc]
    have lN : (l.filter isNm).length ≤ 1000000 := by have := List.length_filter_le isNm l; omega
    have lS : (l.filter isSc).length ≤ 1000000 := by have := List.length_filter_le isSc l; omega
    have lP : (l.filter isPa).length ≤ 1000000 := by have := List.length_filter_le isPa l; omega
    have hE : ∀ i, i < l.length → errD l (l.take i) (lF dD l i) = if (!allK i (fun j => !collS (lF dD l j) (lF dD l i))) = true then 8 else if (lF dD l i).kind = 5 then pastS (l.filter isNm) (lF dD l i) else if (lF dD l i).kind = 3 ∨ (lF dD l i).kind = 4 then bodyS (l.filter isNm) (l.filter isSc) (l.filter isPa) (lF dD l i) else 0 := fun i hi => by
      unfold errD; rw [anyTk l i (by omega)]
    obtain ⟨Ns, hNs⟩ : ∃ x, x = l.filter isNm := ⟨_, rfl⟩
    obtain ⟨Ss, hSs⟩ : ∃ x, x = l.filter isSc := ⟨_, rfl⟩
    obtain ⟨Ps, hPs⟩ : ∃ x, x = l.filter isPa := ⟨_, rfl⟩
    rw [← hNs, ← hSs, ← hPs] at c2
    rw [← hNs] at lN
    rw [← hSs] at lS
    rw [← hPs] at lP
    simp only [← hNs, ← hSs, ← hPs] at hE
    repeat' (first | refine yo ?_ ?_ | refine yw ?_ ?_ | refine yk ?_ ?_ | exact trivial | with_reducible refine wA ?_ ?_ | refine ys ?_ ?_ | refine xs_done ?_ | refine yl ?_ ?_ | (refine pop_callc [] rfl rfl rfl rfl rfl rfl (fun _ h => by cases h) (c2) (args_cl _ rfl) ?_; rintro _ rfl) | refine w8 ?_ | refine w9 ?_ | refine w1 ?_ | refine w2 ?_ | refine w3 ?_ | refine w4 ?_ | refine w5 ?_ | refine w6 ?_ | refine w7 ?_ | refine yo0 ?_ ?_ | refine yw0 ?_ ?_ | exact qq | fail)
    refine pcan (can_virt (vRow cPr 2 0 (lF dPr (probS l 0))) rfl) ?_
    refine pcan (st' := ⟨[(1, .ptr 0 0 0), (4, vDs Ns), (5, vDs Ss), (6, vDs Ps), (7, slP 0 1), (21, vDs l), (22, vi l.length), (23, vi ((0 : Nat) : Int))], [⟨.own, true, 1, 2, fun _ => nthP [vs nm, vDs l]⟩, vRow cPr 2 0 (lF dPr (probS l 0))]⟩) (can_rowsv [0, 1] (k0_sel hk rfl) rfl (.cons rfl rqq (.cons rfl (RowEq.cl (v_cl cPr_cl _ _ _)) .nil)) tmq) ?_
    refine ploop (fun q st => ∃ i k : Nat, i ≤ l.length ∧ (probS l i).length = k ∧ q = l.length - i ∧ st = ⟨[(1, .ptr 0 0 0), (4, vDs Ns), (5, vDs Ss), (6, vDs Ps), (7, slP k 1), (21, vDs l), (22, vi l.length), (23, vi i)], [⟨.own, true, 1, 2, fun _ => nthP [vs nm, vDs l]⟩, vRow cPr 2 k (lF dPr (probS l i))]⟩) l.length ⟨0, 0, by omega, rfl, by omega, rfl⟩ ?_
    rintro _ _ ⟨i, k, hi, hkl, rfl, rfl⟩
    have hpl := probS_len l i
    repeat' (first | refine yo ?_ ?_ | refine yw ?_ ?_ | refine yk ?_ ?_ | exact trivial | with_reducible refine wA ?_ ?_ | refine ys ?_ ?_ | refine xs_done ?_ | refine yl ?_ ?_ | refine w8 ?_ | refine w9 ?_ | refine w1 ?_ | refine w2 ?_ | refine w3 ?_ | refine w4 ?_ | refine w5 ?_ | refine w6 ?_ | refine w7 ?_ | refine yo0 ?_ ?_ | refine yw0 ?_ ?_ | exact qq | fail)
    refine pcond rfl ?_ ?_ <;> intro hlt <;> simp at hlt
    · obtain ⟨d, hd⟩ : ∃ d, d = lF dD l i := ⟨_, rfl⟩
      have hdl : d ∈ l := hd ▸ at_ i hlt
      have hbd := hb d hdl
      have hvd := hv.2 d hdl
      have hEi := hE i hlt
      rw [← hd] at hEi
      have k1 : PureC G.P 30 [.vsl ((i : Int) - ((0 : Nat) : Int)).toNat 21 (fun a => tF cD (lF dD l) (((0 : Nat) : Int).toNat + a)), .clo 31 1 (fun _ => .vptr 1 21 (fun _ => nthP (cD d)) 0 0)] (fun r => r = vb (!allK i (fun j => !collS (lF dD l j) d))) := by
        rw [show ((i : Int) - ((0 : Nat) : Int)).toNat = i by omega, show (fun a => tF cD (lF dD l) (((0 : Nat) : Int).toNat + a)) = tF cD (lF dD l) from by funext a; rw [show ((0 : Nat) : Int).toNat + a = a by simp]]
        exact containsFunc_c i (lF dD l) _ _ (fun j => collS (lF dD l j) d) (by omega) rfl (fun j hj => check1_c _ d)
      have k2 := checkPast_c d Ns lN
      have e0 : lF dD l ((i : Int)).toNat = d := by rw [hd]; rfl
      repeat' (first | refine yo ?_ ?_ | refine yw ?_ ?_ | refine yk ?_ ?_ | exact trivial | with_reducible refine wA ?_ ?_ | refine ys ?_ ?_ | refine xs_done ?_ | refine yl ?_ ?_ | exact ⟨trivial, trivial, (by decide), (by omega), (by omega)⟩ | refine w8 ?_ | refine w9 ?_ | refine w1 ?_ | refine w2 ?_ | refine w3 ?_ | refine w4 ?_ | refine w5 ?_ | refine w6 ?_ | refine w7 ?_ | refine yo0 ?_ ?_ | refine yw0 ?_ ?_ | exact qq | fail)
      rw [e0]
      refine pop_callc [2] rfl rfl rfl rfl rfl rfl (by intro l hl; rw [hk]; exact Nat.zero_le _) k1 ⟨argCl trivial, argClo1 (argPtr rfl trivial (List.Mem.head _) (Nat.le_refl _) rfl (fun a ha b hb => argCl (clL_nth _ b (cD_cl d)))), trivial⟩ ?_
      rintro _ rfl
      repeat' (first | refine yo ?_ ?_ | refine yw ?_ ?_ | refine yk ?_ ?_ | exact trivial | with_reducible refine wA ?_ ?_ | refine ys ?_ ?_ | refine xs_done ?_ | refine yl ?_ ?_ | refine w8 ?_ | refine w9 ?_ | refine w1 ?_ | refine w2 ?_ | refine w3 ?_ | refine w4 ?_ | refine w5 ?_ | refine w6 ?_ | refine w7 ?_ | refine yo0 ?_ ?_ | refine yw0 ?_ ?_ | exact qq | fail)
      refine pcut (fun st => st = ⟨[(1, .ptr 0 0 0), (4, vDs Ns), (5, vDs Ss), (6, vDs Ps), (7, slP k 1), (8, vi i), (10, vi (errD l (l.take i) d)), (21, vDs l), (22, vi l.length), (23, vi i)], [⟨.own, true, 1, 2, fun _ => nthP [vs nm, vDs l]⟩, vRow cPr 2 k (lF dPr (probS l i))]⟩) ?_ ?_
      · refine pcond rfl ?_ ?_ <;> intro hdup
        · repeat' (first | refine yo ?_ ?_ | refine yw ?_ ?_ | refine yk ?_ ?_ | exact trivial | with_reducible refine wA ?_ ?_ | refine ys ?_ ?_ | refine xs_done ?_ | refine yl ?_ ?_ | refine w8 ?_ | refine w9 ?_ | refine w1 ?_ | refine w2 ?_ | refine w3 ?_ | refine w4 ?_ | refine w5 ?_ | refine w6 ?_ | refine w7 ?_ | refine yo0 ?_ ?_ | refine yw0 ?_ ?_ | exact qq | fail)
          exact kcut (st' := ⟨[(1, .ptr 0 0 0), (4, vDs Ns), (5, vDs Ss), (6, vDs Ps), (7, slP k 1), (8, vi i), (10, vi 8), (21, vDs l), (22, vi l.length), (23, vi i)], [⟨.own, true, 1, 2, fun _ => nthP [vs nm, vDs l]⟩, vRow cPr 2 k (lF dPr (probS l i))]⟩) (can_rowsv [0, 1] (k0_sel hk rfl) rfl (.cons rfl rqq (.cons rfl (RowEq.cl (v_cl cPr_cl _ _ _)) .nil)) tmq) (by rw [hEi, if_pos hdup])
        · rw [if_neg (by rw [hdup]; simp)] at hEi
          repeat' (first | refine yo ?_ ?_ | refine yw ?_ ?_ | refine yk ?_ ?_ | exact trivial | with_reducible refine wA ?_ ?_ | refine ys ?_ ?_ | refine xs_done ?_ | refine yl ?_ ?_ | refine w8 ?_ | refine w9 ?_ | refine w1 ?_ | refine w2 ?_ | refine w3 ?_ | refine w4 ?_ | refine w5 ?_ | refine w6 ?_ | refine w7 ?_ | refine yo0 ?_ ?_ | refine yw0 ?_ ?_ | exact qq | fail)
          refine pcond rfl ?_ ?_ <;> intro h5
          · have h5 : d.kind = 5 := by have : (d.kind == 5) = true := h5; simpa using this
            rw [if_pos h5] at hEi
            repeat' (first | refine yo ?_ ?_ | refine yw ?_ ?_ | refine yk ?_ ?_ | exact trivial | with_reducible refine wA ?_ ?_ | refine ys ?_ ?_ | refine xs_done ?_ | refine yl ?_ ?_ | refine z1 k2 ?_ | refine z2 k2 ?_ | refine z3 k2 ?_ | refine z4 k2 ?_ | refine z5 k2 ?_ | refine w8 ?_ | refine w9 ?_ | refine w1 ?_ | refine w2 ?_ | refine w3 ?_ | refine w4 ?_ | refine w5 ?_ | refine w6 ?_ | refine w7 ?_ | refine yo0 ?_ ?_ | refine yw0 ?_ ?_ | exact qq | fail)
            exact kcut (st' := ⟨[(1, .ptr 0 0 0), (4, vDs Ns), (5, vDs Ss), (6, vDs Ps), (7, slP k 1), (8, vi i), (10, vi (pastS Ns d)), (21, vDs l), (22, vi l.length), (23, vi i)], [⟨.own, true, 1, 2, fun _ => nthP [vs nm, vDs l]⟩, vRow cPr 2 k (lF dPr (probS l i))]⟩) (can_rowsv [0, 1] (k0_sel hk rfl) rfl (.cons rfl rqq (.cons rfl (RowEq.cl (v_cl cPr_cl _ _ _)) .nil)) tmq) (by rw [hEi])
          · have h5 : ¬ d.kind = 5 := by have : (d.kind == 5) = false := h5; simpa using this
            rw [if_neg h5] at hEi
            repeat' (first | refine yo ?_ ?_ | refine yw ?_ ?_ | refine yk ?_ ?_ | exact trivial | with_reducible refine wA ?_ ?_ | refine ys ?_ ?_ | refine xs_done ?_ | refine yl ?_ ?_ | refine w8 ?_ | refine w9 ?_ | refine w1 ?_ | refine w2 ?_ | refine w3 ?_ | refine w4 ?_ | refine w5 ?_ | refine w6 ?_ | refine w7 ?_ | refine yo0 ?_ ?_ | refine yw0 ?_ ?_ | exact qq | fail)
            refine pcond (b := decide (d.kind = 3 ∨ d.kind = 4)) ?_ ?_ ?_
            · refine eqB ?_
              show (bif (d.kind == 3) then true else (d.kind == 4)) = _
              rw [bqd, bqd]
              by_cases h1 : d.kind = 3 <;> simp [h1]
            · intro h6
              have h6 := of_decide_eq_true h6
              rw [if_pos h6] at hEi
              have hbv : validS 32 d.body = true := by
                unfold defS at hvd
                rcases h6 with h6 | h6 <;> (rw [h6] at hvd; simp at hvd; exact hvd.2.2.2.1)
              have k3 := checkBody_c d Ns Ss Ps lN lS lP hbd.body hbv
              repeat' (first | refine yo ?_ ?_ | refine yw ?_ ?_ | refine yk ?_ ?_ | exact trivial | with_reducible refine wA ?_ ?_ | refine ys ?_ ?_ | refine xs_done ?_ | refine yl ?_ ?_ | refine z1 k3 ?_ | refine z2 k3 ?_ | refine z3 k3 ?_ | refine z4 k3 ?_ | refine z5 k3 ?_ | refine w8 ?_ | refine w9 ?_ | refine w1 ?_ | refine w2 ?_ | refine w3 ?_ | refine w4 ?_ | refine w5 ?_ | refine w6 ?_ | refine w7 ?_ | refine yo0 ?_ ?_ | refine yw0 ?_ ?_ | exact qq | fail)
              exact kcut (st' := ⟨[(1, .ptr 0 0 0), (4, vDs Ns), (5, vDs Ss), (6, vDs Ps), (7, slP k 1), (8, vi i), (10, vi (bodyS Ns Ss Ps d)), (21, vDs l), (22, vi l.length), (23, vi i)], [⟨.own, true, 1, 2, fun _ => nthP [vs nm, vDs l]⟩, vRow cPr 2 k (lF dPr (probS l i))]⟩) (can_rowsv [0, 1] (k0_sel hk rfl) rfl (.cons rfl rqq (.cons rfl (RowEq.cl (v_cl cPr_cl _ _ _)) .nil)) tmq) (by rw [hEi])
            · intro h6
              have h6 := of_decide_eq_false h6
              rw [if_neg h6] at hEi
              repeat' (first | refine yo ?_ ?_ | refine yw ?_ ?_ | refine yk ?_ ?_ | exact trivial | with_reducible refine wA ?_ ?_ | refine ys ?_ ?_ | refine xs_done ?_ | refine yl ?_ ?_ | refine w8 ?_ | refine w9 ?_ | refine w1 ?_ | refine w2 ?_ | refine w3 ?_ | refine w4 ?_ | refine w5 ?_ | refine w6 ?_ | refine w7 ?_ | refine yo0 ?_ ?_ | refine yw0 ?_ ?_ | exact qq | fail)
              exact kcut (st' := ⟨[(1, .ptr 0 0 0), (4, vDs Ns), (5, vDs Ss), (6, vDs Ps), (7, slP k 1), (8, vi i), (10, vi 0), (21, vDs l), (22, vi l.length), (23, vi i)], [⟨.own, true, 1, 2, fun _ => nthP [vs nm, vDs l]⟩, vRow cPr 2 k (lF dPr (probS l i))]⟩) (can_rowsv [0, 1] (k0_sel hk rfl) rfl (.cons rfl rqq (.cons rfl (RowEq.cl (v_cl cPr_cl _ _ _)) .nil)) tmq) (by rw [hEi])
      · rintro _ rfl
        have hw : IntKind.i64.wrap ((i : Int) + 1) = ((i + 1 : Nat) : Int) := w64 (by omega) (by omega)
        have hp1 : probS l (i + 1) = if errD l (l.take i) d = 0 then probS l i else probS l i ++ [((i : Int), errD l (l.take i) d)] := by rw [probS, ← hd]
        generalize errD l (l.take i) d = er at *
        rcases k with _ | k
        · repeat' (first | refine yo ?_ ?_ | refine yw ?_ ?_ | refine yk ?_ ?_ | exact trivial | with_reducible refine wA ?_ ?_ | refine ys ?_ ?_ | refine xs_done ?_ | refine yl ?_ ?_ | refine w8 ?_ | refine w9 ?_ | refine w1 ?_ | refine w2 ?_ | refine w3 ?_ | refine w4 ?_ | refine w5 ?_ | refine w6 ?_ | refine w7 ?_ | refine yo0 ?_ ?_ | refine yw0 ?_ ?_ | exact qq | fail)
          refine pcond rfl ?_ ?_ <;> intro he
          · have he : ¬ er = 0 := by simpa using he
            rw [if_neg he] at hp1
            repeat' (first | refine yo ?_ ?_ | refine yw ?_ ?_ | refine yk ?_ ?_ | exact trivial | with_reducible refine wA ?_ ?_ | refine ys ?_ ?_ | refine xs_done ?_ | refine yl ?_ ?_ | refine w8 ?_ | refine w9 ?_ | refine w1 ?_ | refine w2 ?_ | refine w3 ?_ | refine w4 ?_ | refine w5 ?_ | refine w6 ?_ | refine w7 ?_ | refine yo0 ?_ ?_ | refine yw0 ?_ ?_ | exact qq | fail)
            rw [hw]
            exact kloop_next (st' := ⟨[(1, .ptr 0 0 0), (4, vDs Ns), (5, vDs Ss), (6, vDs Ps), (7, slP (0 + 1) 1), (21, vDs l), (22, vi l.length), (23, vi ((i + 1 : Nat) : Int))], [⟨.own, true, 1, 2, fun _ => nthP [vs nm, vDs l]⟩, vRow cPr 2 (0 + 1) (lF dPr (probS l i ++ [((i : Int), er)]))]⟩) (l.length - (i + 1)) (can_rowsv [0, 3] (k0_sel hk rfl) rfl (.cons rfl rqq (.cons rfl (app_l0 cPr_cl hkl rfl) .nil)) tmq) (by omega) ⟨i + 1, 0 + 1, by omega, by rw [hp1, List.length_append, hkl]; rfl, rfl, by rw [hp1]⟩
          · have he : er = 0 := by simpa using he
            rw [if_pos he] at hp1
            repeat' (first | refine yo ?_ ?_ | refine yw ?_ ?_ | refine yk ?_ ?_ | exact trivial | with_reducible refine wA ?_ ?_ | refine ys ?_ ?_ | refine xs_done ?_ | refine yl ?_ ?_ | refine w8 ?_ | refine w9 ?_ | refine w1 ?_ | refine w2 ?_ | refine w3 ?_ | refine w4 ?_ | refine w5 ?_ | refine w6 ?_ | refine w7 ?_ | refine yo0 ?_ ?_ | refine yw0 ?_ ?_ | exact qq | fail)
            rw [hw]
            exact kloop_next (st' := ⟨[(1, .ptr 0 0 0), (4, vDs Ns), (5, vDs Ss), (6, vDs Ps), (7, slP 0 1), (21, vDs l), (22, vi l.length), (23, vi ((i + 1 : Nat) : Int))], [⟨.own, true, 1, 2, fun _ => nthP [vs nm, vDs l]⟩, vRow cPr 2 0 (lF dPr (probS l i))]⟩) (l.length - (i + 1)) (can_rowsv [0, 1] (k0_sel hk rfl) rfl (.cons rfl rqq (.cons rfl (RowEq.cl (v_cl cPr_cl _ _ _)) .nil)) tmq) (by omega) ⟨i + 1, 0, by omega, by rw [hp1]; exact hkl, rfl, by rw [hp1]⟩
        · repeat' (first | refine yo ?_ ?_ | refine yw ?_ ?_ | refine yk ?_ ?_ | exact trivial | with_reducible refine wA ?_ ?_ | refine ys ?_ ?_ | refine xs_done ?_ | refine yl ?_ ?_ | refine w8 ?_ | refine w9 ?_ | refine w1 ?_ | refine w2 ?_ | refine w3 ?_ | refine w4 ?_ | refine w5 ?_ | refine w6 ?_ | refine w7 ?_ | refine yo0 ?_ ?_ | refine yw0 ?_ ?_ | exact qq | fail)
          refine pcond rfl ?_ ?_ <;> intro he
          · have he : ¬ er = 0 := by simpa using he
            rw [if_neg he] at hp1
            repeat' (first | refine yo ?_ ?_ | refine yw ?_ ?_ | refine yk ?_ ?_ | exact trivial | with_reducible refine wA ?_ ?_ | refine ys ?_ ?_ | refine xs_done ?_ | refine yl ?_ ?_ | refine w8 ?_ | refine w9 ?_ | refine w1 ?_ | refine w2 ?_ | refine w3 ?_ | refine w4 ?_ | refine w5 ?_ | refine w6 ?_ | refine w7 ?_ | refine yo0 ?_ ?_ | refine yw0 ?_ ?_ | exact qq | fail)
            rw [hw]
            exact kloop_next (st' := ⟨[(1, .ptr 0 0 0), (4, vDs Ns), (5, vDs Ss), (6, vDs Ps), (7, slP (k + 1 + 1) 1), (21, vDs l), (22, vi l.length), (23, vi ((i + 1 : Nat) : Int))], [⟨.own, true, 1, 2, fun _ => nthP [vs nm, vDs l]⟩, vRow cPr 2 (k + 1 + 1) (lF dPr (probS l i ++ [((i : Int), er)]))]⟩) (l.length - (i + 1)) (can_rowsv [0, 3] (k0_sel hk rfl) rfl (.cons rfl rqq (.cons rfl (app_l cPr_cl hkl rfl rfl) .nil)) tmq) (by omega) ⟨i + 1, k + 1 + 1, by omega, by rw [hp1, List.length_append, hkl]; rfl, rfl, by rw [hp1]⟩
          · have he : er = 0 := by simpa using he
            rw [if_pos he] at hp1
            repeat' (first | refine yo ?_ ?_ | refine yw ?_ ?_ | refine yk ?_ ?_ | exact trivial | with_reducible refine wA ?_ ?_ | refine ys ?_ ?_ | refine xs_done ?_ | refine yl ?_ ?_ | refine w8 ?_ | refine w9 ?_ | refine w1 ?_ | refine w2 ?_ | refine w3 ?_ | refine w4 ?_ | refine w5 ?_ | refine w6 ?_ | refine w7 ?_ | refine yo0 ?_ ?_ | refine yw0 ?_ ?_ | exact qq | fail)
            rw [hw]
            exact kloop_next (st' := ⟨[(1, .ptr 0 0 0), (4, vDs Ns), (5, vDs Ss), (6, vDs Ps), (7, slP (k + 1) 1), (21, vDs l), (22, vi l.length), (23, vi ((i + 1 : Nat) : Int))], [⟨.own, true, 1, 2, fun _ => nthP [vs nm, vDs l]⟩, vRow cPr 2 (k + 1) (lF dPr (probS l i))]⟩) (l.length - (i + 1)) (can_rowsv [0, 1] (k0_sel hk rfl) rfl (.cons rfl rqq (.cons rfl (RowEq.cl (v_cl cPr_cl _ _ _)) .nil)) tmq) (by omega) ⟨i + 1, k + 1, by omega, by rw [hp1]; exact hkl, rfl, by rw [hp1]⟩
    · obtain rfl : i = l.length := by omega
      rcases k with _ | k
      · repeat' (first | refine yo ?_ ?_ | refine yw ?_ ?_ | refine yk ?_ ?_ | exact trivial | with_reducible refine wA ?_ ?_ | refine ys ?_ ?_ | refine xs_done ?_ | refine yl ?_ ?_ | refine w8 ?_ | refine w9 ?_ | refine w1 ?_ | refine w2 ?_ | refine w3 ?_ | refine w4 ?_ | refine w5 ?_ | refine w6 ?_ | refine w7 ?_ | refine yo0 ?_ ?_ | refine yw0 ?_ ?_ | exact qq | fail)
        refine xdone ?_
        refine kretF [] rfl ⟨trivial, trivial, trivial⟩ (qs := [.vsl 0 2 (tF cPr (lF dPr (probS l l.length))), vi 0]) ⟨argFNil, argFVal, trivial⟩ ?_
        show _ = PV.tup 2 (nthP [.vsl (probS l l.length).length 2 _, _])
        rw [hkl]; rfl
      · repeat' (first | refine yo ?_ ?_ | refine yw ?_ ?_ | refine yk ?_ ?_ | exact trivial | with_reducible refine wA ?_ ?_ | refine ys ?_ ?_ | refine xs_done ?_ | refine yl ?_ ?_ | refine w8 ?_ | refine w9 ?_ | refine w1 ?_ | refine w2 ?_ | refine w3 ?_ | refine w4 ?_ | refine w5 ?_ | refine w6 ?_ | refine w7 ?_ | refine yo0 ?_ ?_ | refine yw0 ?_ ?_ | exact qq | fail)
        refine xdone ?_
        refine kretF [1] rfl ⟨trivial, trivial, trivial⟩ (qs := [.vsl (k + 1) 2 (tF cPr (lF dPr (probS l l.length))), vi 0]) ⟨argF_o rfl (List.Mem.head _) cPr_sc, argFVal, trivial⟩ ?_
        show _ = PV.tup 2 (nthP [.vsl (probS l l.length).length 2 _, _])
        rw [hkl]; rfl
theorem check_c (nm : ByteArray) (l : List Df) (hs : nm.size ≤ 9223372036854775807) (hb : ∀ d, d ∈ l → BdD d) : PureC G.P 21 [vA nm l] (fun r => r = .tup 2 (nthP [vPr (chkL nm l).1, vi (chkL nm l).2])) := (check_f nm l hs hb).pure
end Go.Proofs.YtnlcenlamkfmnaaGreat
