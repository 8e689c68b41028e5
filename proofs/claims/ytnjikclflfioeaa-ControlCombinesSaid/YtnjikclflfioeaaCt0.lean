/- Control totals: what they are; Of, valid, Add, Check and their references. -/
import Derived.Test.YtnjikclflfioeaaPvMap
import Derived.Test.YtnjikclflfioeaaDek
import Derived.Test.YtnjikclflfioeaaSum0
set_option linter.unusedSimpArgs false
set_option linter.unusedVariables false
set_option maxRecDepth 100000
namespace Go.Proofs.Ytnjikclflfioeaa
/-- a payment: employee, amount -/
abbrev Pay := Int × Int
def dP : Pay := (0, 0)
abbrev cP (p : Pay) : List PV := [vi p.1, vi p.2]
theorem cP_cl : CellsCl cP := fun _ => ⟨trivial, trivial, trivial⟩
abbrev vPs (n : Nat) (g : Nat → Pay) : PV := .vsl n 2 (tF cP g)
/-- totals: count, sum, hash -/
abbrev Cto := Int × Int × Int
abbrev vC (c : Cto) : PV := .agg 3 (nthP [vi c.1, vi c.2.1, vi c.2.2])
abbrev rC (c : Cto) : Row := ⟨.own, true, 1, 3, fun _ => nthP [vi c.1, vi c.2.1, vi c.2.2]⟩
def payOk (p : Pay) : Bool := decide (1 ≤ p.1 ∧ p.1 ≤ 2147483647 ∧ 1 ≤ p.2 ∧ p.2 ≤ 1000000000000)
def paysOk (n : Nat) (g : Nat → Pay) : Bool := (List.range n).all fun i => payOk (g i)
theorem payOk_iff {p : Pay} : payOk p = true ↔ 1 ≤ p.1 ∧ p.1 ≤ 2147483647 ∧ 1 ≤ p.2 ∧ p.2 ≤ 1000000000000 := by simp [payOk]
theorem paysOk_iff {n : Nat} {g : Nat → Pay} : paysOk n g = true ↔ ∀ i, i < n → payOk (g i) = true := by simp [paysOk, List.all_eq_true]
theorem paysOk_no {n : Nat} {g : Nat → Pay} {i : Nat} (hi : i < n) (h : payOk (g i) = false) : paysOk n g = false := by
  cases hb : paysOk n g
  · rfl
  · have := paysOk_iff.1 hb i hi; rw [h] at this; cases this
def ofS (n : Nat) (g : Nat → Pay) : Cto × Int :=
  if 4096 < n then ((0, 0, 0), 3) else if paysOk n g = true then ((n, sumN n (fun i => (g i).2), sumN n (fun i => (g i).1)), 0) else ((0, 0, 0), 2)
abbrev vO (x : Cto × Int) : PV := .tup 2 (nthP [vC x.1, vi x.2])
def ctlOk (c : Cto) : Bool := decide (0 ≤ c.1 ∧ c.1 ≤ 1048576 ∧ c.1 ≤ c.2.1 ∧ c.2.1 ≤ c.1 * 1000000000000 ∧ c.1 ≤ c.2.2 ∧ c.2.2 ≤ c.1 * 1000000000000)
def addS (a b : Cto) : Cto × Int :=
  if ctlOk a = true ∧ ctlOk b = true then (if ctlOk (a.1 + b.1, a.2.1 + b.2.1, a.2.2 + b.2.2) = true then ((a.1 + b.1, a.2.1 + b.2.1, a.2.2 + b.2.2), 0) else ((0, 0, 0), 4)) else ((0, 0, 0), 1)
def chkS (x : Cto × Int) (c : Cto) : Int := if x.2 = 0 then (if x.1 = c then 0 else 17) else x.2
/-- the sums so far -/
theorem of_bd {n i : Nat} {g : Nat → Pay} (hn : n ≤ 4096) (hi : i ≤ n) (h : ∀ j, j < i → payOk (g j) = true) : 0 ≤ sumN i (fun j => (g j).2) ∧ sumN i (fun j => (g j).2) ≤ i * 1000000000000 ∧ 0 ≤ sumN i (fun j => (g j).1) ∧ sumN i (fun j => (g j).1) ≤ i * 2147483647 := by
  refine ⟨sumN_nonneg fun j hj => by have := payOk_iff.1 (h j hj); omega, ?_, sumN_nonneg fun j hj => by have := payOk_iff.1 (h j hj); omega, ?_⟩
  · have := sumN_le (n := i) (f := fun j => (g j).2) (g := fun _ => 1000000000000) fun j hj => (payOk_iff.1 (h j hj)).2.2.2
    rw [sumN_const] at this; exact this
  · have := sumN_le (n := i) (f := fun j => (g j).1) (g := fun _ => 2147483647) fun j hj => (payOk_iff.1 (h j hj)).2.1
    rw [sumN_const] at this; exact this
theorem of_c (n : Nat) (g : Nat → Pay) (hn : n ≤ 9223372036854775807) : PureC G.P 13 [vPs n g] (fun r => r = vO (ofS n g)) := by
  refine pure_of (G := G.toPg) (fn := Try.f13) Try.func13 rfl rfl rfl ?_; intro Γ hk
  repeat' (first | refine xo 4000 rfl ?_ ?_ | refine xw 4000 rfl ?_ ?_ | refine xk 4000 rfl ?_ ?_ | exact trivial | ((with_reducible (show AllP (_ :: _))); refine And.intro ?_ ?_) | refine xs rfl ?_ ?_ | refine xs_done ?_ | refine pcond_t rfl ?_ | refine pcond_f rfl ?_ | refine kround_exit ?_ | refine kround_ret ?_ | refine kround_next ?_ | refine kloop_ret ?_ | refine kloop_exit ?_ | refine kcut_ret ?_ | refine kcut_exit ?_ | refine xo0 4000 rfl ?_ ?_ | refine xw0 4000 rfl ?_ ?_ | exact qq | fail)
  refine pcond rfl ?_ ?_ <;> intro hc <;> simp at hc
  · repeat' (first | refine xo 4000 rfl ?_ ?_ | refine xw 4000 rfl ?_ ?_ | refine xk 4000 rfl ?_ ?_ | exact trivial | ((with_reducible (show AllP (_ :: _))); refine And.intro ?_ ?_) | refine xs rfl ?_ ?_ | refine xs_done ?_ | refine pcond_t rfl ?_ | refine pcond_f rfl ?_ | refine kround_exit ?_ | refine kround_ret ?_ | refine kround_next ?_ | refine kloop_ret ?_ | refine kloop_exit ?_ | refine kcut_ret ?_ | refine kcut_exit ?_ | refine xo0 4000 rfl ?_ ?_ | refine xw0 4000 rfl ?_ ?_ | exact qq | fail)
    exact kretv rfl ⟨Nat.zero_lt_one, trivial, trivial⟩ rfl (by rw [ofS, if_pos (by omega)]; rfl)
  · repeat' (first | refine xo 4000 rfl ?_ ?_ | refine xw 4000 rfl ?_ ?_ | refine xk 4000 rfl ?_ ?_ | exact trivial | ((with_reducible (show AllP (_ :: _))); refine And.intro ?_ ?_) | refine xs rfl ?_ ?_ | refine xs_done ?_ | refine pcond_t rfl ?_ | refine pcond_f rfl ?_ | refine kround_exit ?_ | refine kround_ret ?_ | refine kround_next ?_ | refine kloop_ret ?_ | refine kloop_exit ?_ | refine kcut_ret ?_ | refine kcut_exit ?_ | refine xo0 4000 rfl ?_ ?_ | refine xw0 4000 rfl ?_ ?_ | exact qq | fail)
    refine pcan (st' := ⟨[(2, .ptr 0 0 0), (4, .ptr 1 0 0), (14, vPs n g), (15, vi n), (16, vi ((0 : Nat) : Int))], [rC (0, 0, 0), rC (n, 0, 0)]⟩) (can_rowsv [0,1] (k0_sel hk rfl) rfl (by (repeat (refine SelV.cons rfl rqq ?_)); exact SelV.nil) tmq) ?_
    refine ploop (fun q st => ∃ i : Nat, i ≤ n ∧ (∀ j, j < i → payOk (g j) = true) ∧ q = n - i ∧ st = ⟨[(2, .ptr 0 0 0), (4, .ptr 1 0 0), (14, vPs n g), (15, vi n), (16, vi i)], [rC (0, 0, 0), rC (n, sumN i (fun j => (g j).2), sumN i (fun j => (g j).1))]⟩) n ⟨0, by omega, fun j hj => by omega, rfl, rfl⟩ ?_
    rintro _ _ ⟨i, hi, hok, rfl, rfl⟩
    obtain ⟨s1, s2, s3, s4⟩ := of_bd (by omega) hi hok
    repeat' (first | refine xo 4000 rfl ?_ ?_ | refine xw 4000 rfl ?_ ?_ | refine xk 4000 rfl ?_ ?_ | exact trivial | ((with_reducible (show AllP (_ :: _))); refine And.intro ?_ ?_) | refine xs rfl ?_ ?_ | refine xs_done ?_ | refine pcond_t rfl ?_ | refine pcond_f rfl ?_ | refine kround_exit ?_ | refine kround_ret ?_ | refine kround_next ?_ | refine kloop_ret ?_ | refine kloop_exit ?_ | refine kcut_ret ?_ | refine kcut_exit ?_ | refine xo0 4000 rfl ?_ ?_ | refine xw0 4000 rfl ?_ ?_ | exact qq | fail)
    refine pcond rfl ?_ ?_ <;> intro hc2 <;> simp at hc2
    · repeat' (first | refine xo 4000 rfl ?_ ?_ | refine xw 4000 rfl ?_ ?_ | refine xk 4000 rfl ?_ ?_ | exact trivial | ((with_reducible (show AllP (_ :: _))); refine And.intro ?_ ?_) | refine xs rfl ?_ ?_ | refine xs_done ?_ | refine pcond_t rfl ?_ | refine pcond_f rfl ?_ | refine kround_exit ?_ | refine kround_ret ?_ | refine kround_next ?_ | refine kloop_ret ?_ | refine kloop_exit ?_ | refine kcut_ret ?_ | refine kcut_exit ?_ | refine xo0 4000 rfl ?_ ?_ | refine xw0 4000 rfl ?_ ?_ | exact qq | fail)
      refine pcond rfl ?_ ?_ <;> intro hc3
      · repeat' (first | refine xo 4000 rfl ?_ ?_ | refine xw 4000 rfl ?_ ?_ | refine xk 4000 rfl ?_ ?_ | exact trivial | ((with_reducible (show AllP (_ :: _))); refine And.intro ?_ ?_) | refine xs rfl ?_ ?_ | refine xs_done ?_ | refine pcond_t rfl ?_ | refine pcond_f rfl ?_ | refine kround_exit ?_ | refine kround_ret ?_ | refine kround_next ?_ | refine kloop_ret ?_ | refine kloop_exit ?_ | refine kcut_ret ?_ | refine kcut_exit ?_ | refine xo0 4000 rfl ?_ ?_ | refine xw0 4000 rfl ?_ ?_ | exact qq | fail)
        refine kretv rfl ⟨Nat.zero_lt_one, trivial, trivial⟩ rfl ?_
        have : payOk (g i) = false := by
          cases hb : payOk (g i)
          · rfl
          · exfalso
            have h1 := payOk_iff.1 hb
            revert hc3
            show ¬ _
            simp; omega
        rw [ofS, if_neg (by omega), paysOk_no hc2 this]; rfl
      · have hp : payOk (g i) = true := by
          rw [payOk_iff]
          simp at hc3
          have e : (i : Int).toNat = i := by simp
          try rw [e] at hc3
          omega
        have h1 := payOk_iff.1 hp
        repeat' (first | refine xo 4000 rfl ?_ ?_ | refine xw 4000 rfl ?_ ?_ | refine xk 4000 rfl ?_ ?_ | exact trivial | ((with_reducible (show AllP (_ :: _))); refine And.intro ?_ ?_) | refine xs rfl ?_ ?_ | refine xs_done ?_ | refine pcond_t rfl ?_ | refine pcond_f rfl ?_ | refine kround_exit ?_ | refine kround_ret ?_ | refine kround_next ?_ | refine kloop_ret ?_ | refine kloop_exit ?_ | refine kcut_ret ?_ | refine kcut_exit ?_ | refine xo0 4000 rfl ?_ ?_ | refine xw0 4000 rfl ?_ ?_ | exact qq | fail)
        rw [show IntKind.i64.wrap (sumN i (fun j => (g j).2) + (g (i : Int).toNat).2) = sumN (i + 1) (fun j => (g j).2) from by show IntKind.i64.wrap (sumN i (fun j => (g j).2) + (g i).2) = _; rw [w64 (by omega) (by omega)]; rfl,
          show IntKind.i64.wrap (sumN i (fun j => (g j).1) + (g (i : Int).toNat).1) = sumN (i + 1) (fun j => (g j).1) from by show IntKind.i64.wrap (sumN i (fun j => (g j).1) + (g i).1) = _; rw [w64 (by omega) (by omega)]; rfl,
          show IntKind.i64.wrap ((i : Int) + 1) = ((i + 1 : Nat) : Int) from w64 (by omega) (by omega)]
        exact kloop_next (st' := ⟨[(2, .ptr 0 0 0), (4, .ptr 1 0 0), (14, vPs n g), (15, vi n), (16, vi ((i + 1 : Nat) : Int))], [rC (0, 0, 0), rC (n, sumN (i + 1) (fun j => (g j).2), sumN (i + 1) (fun j => (g j).1))]⟩) (n - (i + 1)) (can_rowsv [0,1] (k0_sel hk rfl) rfl (by (repeat (refine SelV.cons rfl rqq ?_)); exact SelV.nil) tmq) (by omega) ⟨i + 1, by omega, fun j hj => by
          by_cases e : j = i
          · subst e; exact hp
          · exact hok j (by omega), rfl, rfl⟩
    · have hin : i = n := by omega
      subst hin
      repeat' (first | refine xo 4000 rfl ?_ ?_ | refine xw 4000 rfl ?_ ?_ | refine xk 4000 rfl ?_ ?_ | exact trivial | ((with_reducible (show AllP (_ :: _))); refine And.intro ?_ ?_) | refine xs rfl ?_ ?_ | refine xs_done ?_ | refine pcond_t rfl ?_ | refine pcond_f rfl ?_ | refine kround_exit ?_ | refine kround_ret ?_ | refine kround_next ?_ | refine kloop_ret ?_ | refine kloop_exit ?_ | refine kcut_ret ?_ | refine kcut_exit ?_ | refine xo0 4000 rfl ?_ ?_ | refine xw0 4000 rfl ?_ ?_ | exact qq | fail)
      exact kretv rfl ⟨Nat.zero_lt_one, trivial, trivial⟩ rfl (by rw [ofS, if_neg (by omega), if_pos (paysOk_iff.2 hok)]; rfl)
theorem valid39_c (p : Pay) : PureC G.P 31 [.agg 2 (nthP (cP p))] (fun r => r = vb (payOk p)) := by
  refine pure_of (G := G.toPg) (fn := Try.f31) Try.func31 rfl rfl rfl ?_; intro Γ hk
  repeat' (first | refine xo 4000 rfl ?_ ?_ | refine xw 4000 rfl ?_ ?_ | refine xk 4000 rfl ?_ ?_ | exact trivial | ((with_reducible (show AllP (_ :: _))); refine And.intro ?_ ?_) | refine xs rfl ?_ ?_ | refine xs_done ?_ | refine pcond_t rfl ?_ | refine pcond_f rfl ?_ | refine kround_exit ?_ | refine kround_ret ?_ | refine kround_next ?_ | refine kloop_ret ?_ | refine kloop_exit ?_ | refine kcut_ret ?_ | refine kcut_exit ?_ | refine xo0 4000 rfl ?_ ?_ | refine xw0 4000 rfl ?_ ?_ | exact qq | fail)
  refine kretv rfl ⟨trivial, trivial⟩ rfl (eqB ?_)
  rw [Bool.eq_iff_iff, payOk_iff]
  simp
  try omega
theorem of39_c (n : Nat) (g : Nat → Pay) (hn : n ≤ 9223372036854775807) : PureC G.P 24 [vPs n g] (fun r => r = vO (ofS n g)) := by
  refine pure_of (G := G.toPg) (fn := Try.f24) Try.func24 rfl rfl rfl ?_; intro Γ hk
  repeat' (first | refine xo 4000 rfl ?_ ?_ | refine xw 4000 rfl ?_ ?_ | refine xk 4000 rfl ?_ ?_ | exact trivial | ((with_reducible (show AllP (_ :: _))); refine And.intro ?_ ?_) | refine xs rfl ?_ ?_ | refine xs_done ?_ | refine pcond_t rfl ?_ | refine pcond_f rfl ?_ | refine kround_exit ?_ | refine kround_ret ?_ | refine kround_next ?_ | refine kloop_ret ?_ | refine kloop_exit ?_ | refine kcut_ret ?_ | refine kcut_exit ?_ | refine xo0 4000 rfl ?_ ?_ | refine xw0 4000 rfl ?_ ?_ | exact qq | fail)
  refine pcond rfl ?_ ?_ <;> intro hc <;> simp at hc
  · repeat' (first | refine xo 4000 rfl ?_ ?_ | refine xw 4000 rfl ?_ ?_ | refine xk 4000 rfl ?_ ?_ | exact trivial | ((with_reducible (show AllP (_ :: _))); refine And.intro ?_ ?_) | refine xs rfl ?_ ?_ | refine xs_done ?_ | refine pcond_t rfl ?_ | refine pcond_f rfl ?_ | refine kround_exit ?_ | refine kround_ret ?_ | refine kround_next ?_ | refine kloop_ret ?_ | refine kloop_exit ?_ | refine kcut_ret ?_ | refine kcut_exit ?_ | refine xo0 4000 rfl ?_ ?_ | refine xw0 4000 rfl ?_ ?_ | exact qq | fail)
    exact kretv rfl ⟨Nat.zero_lt_one, trivial, trivial⟩ rfl (by rw [ofS, if_pos (by omega)]; rfl)
  · repeat' (first | refine xo 4000 rfl ?_ ?_ | refine xw 4000 rfl ?_ ?_ | refine xk 4000 rfl ?_ ?_ | exact trivial | ((with_reducible (show AllP (_ :: _))); refine And.intro ?_ ?_) | refine xs rfl ?_ ?_ | refine xs_done ?_ | refine pcond_t rfl ?_ | refine pcond_f rfl ?_ | refine kround_exit ?_ | refine kround_ret ?_ | refine kround_next ?_ | refine kloop_ret ?_ | refine kloop_exit ?_ | refine kcut_ret ?_ | refine kcut_exit ?_ | refine xo0 4000 rfl ?_ ?_ | refine xw0 4000 rfl ?_ ?_ | exact qq | fail)
    refine pcan (st' := ⟨[(0, vPs n g), (2, .ptr 0 0 0), (4, .ptr 1 0 0), (5, vi ((0 : Nat) : Int))], [rC (0, 0, 0), rC (n, 0, 0)]⟩) (can_rowsv [0,1] (k0_sel hk rfl) rfl (by (repeat (refine SelV.cons rfl rqq ?_)); exact SelV.nil) tmq) ?_
    refine ploop (fun q st => ∃ i : Nat, i ≤ n ∧ (∀ j, j < i → payOk (g j) = true) ∧ q = n - i ∧ st = ⟨[(0, vPs n g), (2, .ptr 0 0 0), (4, .ptr 1 0 0), (5, vi i)], [rC (0, 0, 0), rC (n, sumN i (fun j => (g j).2), sumN i (fun j => (g j).1))]⟩) n ⟨0, by omega, fun j hj => by omega, rfl, rfl⟩ ?_
    rintro _ _ ⟨i, hi, hok, rfl, rfl⟩
    obtain ⟨s1, s2, s3, s4⟩ := of_bd (by omega) hi hok
    repeat' (first | refine xo 4000 rfl ?_ ?_ | refine xw 4000 rfl ?_ ?_ | refine xk 4000 rfl ?_ ?_ | exact trivial | ((with_reducible (show AllP (_ :: _))); refine And.intro ?_ ?_) | refine xs rfl ?_ ?_ | refine xs_done ?_ | refine pcond_t rfl ?_ | refine pcond_f rfl ?_ | refine kround_exit ?_ | refine kround_ret ?_ | refine kround_next ?_ | refine kloop_ret ?_ | refine kloop_exit ?_ | refine kcut_ret ?_ | refine kcut_exit ?_ | refine xo0 4000 rfl ?_ ?_ | refine xw0 4000 rfl ?_ ?_ | exact qq | fail)
    refine pcond rfl ?_ ?_ <;> intro hc2 <;> simp at hc2
    · have hv := valid39_c (g i)
      repeat' (first | refine xo 4000 rfl ?_ ?_ | refine xw 4000 rfl ?_ ?_ | refine xk 4000 rfl ?_ ?_ | exact trivial | ((with_reducible (show AllP (_ :: _))); refine And.intro ?_ ?_) | refine xs rfl ?_ ?_ | refine xs_done ?_ | refine pop_callv rfl rfl rfl rfl rfl (hv) rfl rfl rfl ?_ | refine xs_call rfl rfl rfl rfl rfl rfl (hv) rfl rfl rfl ?_ | refine xs_one (ch := []) rfl rfl rfl (pst_callv rfl rfl rfl rfl rfl (hv) rfl rfl rfl ?_) | refine pop_callgv rfl rfl rfl rfl rfl rfl (fun _ => hv) (by first | exact fun h => ⟨h, trivial⟩ | exact fun _ => trivial | exact fun h => ⟨h, h, trivial⟩) rfl rfl rfl ?_ | refine xs_one (ch := []) rfl rfl rfl (pst_callgv rfl rfl rfl rfl rfl rfl (fun _ => hv) (by first | exact fun h => ⟨h, trivial⟩ | exact fun _ => trivial | exact fun h => ⟨h, h, trivial⟩) rfl rfl rfl ?_) | refine pcond_t rfl ?_ | refine pcond_f rfl ?_ | refine kround_exit ?_ | refine kround_ret ?_ | refine kround_next ?_ | refine kloop_ret ?_ | refine kloop_exit ?_ | refine kcut_ret ?_ | refine kcut_exit ?_ | refine xo0 4000 rfl ?_ ?_ | refine xw0 4000 rfl ?_ ?_ | exact qq | fail)
      refine pcond rfl ?_ ?_ <;> intro hc3
      · have hp : payOk (g i) = false := by simpa using hc3
        repeat' (first | refine xo 4000 rfl ?_ ?_ | refine xw 4000 rfl ?_ ?_ | refine xk 4000 rfl ?_ ?_ | exact trivial | ((with_reducible (show AllP (_ :: _))); refine And.intro ?_ ?_) | refine xs rfl ?_ ?_ | refine xs_done ?_ | refine pcond_t rfl ?_ | refine pcond_f rfl ?_ | refine kround_exit ?_ | refine kround_ret ?_ | refine kround_next ?_ | refine kloop_ret ?_ | refine kloop_exit ?_ | refine kcut_ret ?_ | refine kcut_exit ?_ | refine xo0 4000 rfl ?_ ?_ | refine xw0 4000 rfl ?_ ?_ | exact qq | fail)
        refine kretv rfl ⟨Nat.zero_lt_one, trivial, trivial⟩ rfl ?_
        rw [ofS, if_neg (by omega), paysOk_no hc2 hp]; rfl
      · have hp : payOk (g i) = true := by simpa using hc3
        have h1 := payOk_iff.1 hp
        repeat' (first | refine xo 4000 rfl ?_ ?_ | refine xw 4000 rfl ?_ ?_ | refine xk 4000 rfl ?_ ?_ | exact trivial | ((with_reducible (show AllP (_ :: _))); refine And.intro ?_ ?_) | refine xs rfl ?_ ?_ | refine xs_done ?_ | refine xs_start (id := 9) true [.take 0, .take 2, .take 3, .take 4, .take 5, .take 6, .one 1, .take 7, .take 8, .one 9] 0 rfl rfl (by kernel_rfl) ?_ | refine xs_start (id := 10) true [.take 0, .take 2, .take 3, .take 4, .take 5, .take 6, .one 1, .take 7, .take 8, .one 9] 0 rfl rfl (by kernel_rfl) ?_ | refine pcond_t rfl ?_ | refine pcond_f rfl ?_ | refine kround_exit ?_ | refine kround_ret ?_ | refine kround_next ?_ | refine kloop_ret ?_ | refine kloop_exit ?_ | refine kcut_ret ?_ | refine kcut_exit ?_ | refine xo0 4000 rfl ?_ ?_ | refine xw0 4000 rfl ?_ ?_ | exact qq | fail)
        rw [show IntKind.i64.wrap (sumN i (fun j => (g j).2) + (g (i : Int).toNat).2) = sumN (i + 1) (fun j => (g j).2) from by show IntKind.i64.wrap (sumN i (fun j => (g j).2) + (g i).2) = _; rw [w64 (by omega) (by omega)]; rfl,
          show IntKind.i64.wrap (sumN i (fun j => (g j).1) + (g (i : Int).toNat).1) = sumN (i + 1) (fun j => (g j).1) from by show IntKind.i64.wrap (sumN i (fun j => (g j).1) + (g i).1) = _; rw [w64 (by omega) (by omega)]; rfl,
          show IntKind.i64.wrap ((i : Int) + 1) = ((i + 1 : Nat) : Int) from w64 (by omega) (by omega)]
        exact kloop_next (st' := ⟨[(0, vPs n g), (2, .ptr 0 0 0), (4, .ptr 1 0 0), (5, vi ((i + 1 : Nat) : Int))], [rC (0, 0, 0), rC (n, sumN (i + 1) (fun j => (g j).2), sumN (i + 1) (fun j => (g j).1))]⟩) (n - (i + 1)) (can_rowsv [0,1] (k0_sel hk rfl) rfl (by (repeat (refine SelV.cons rfl rqq ?_)); exact SelV.nil) tmq) (by omega) ⟨i + 1, by omega, fun j hj => by
          by_cases e : j = i
          · subst e; exact hp
          · exact hok j (by omega), rfl, rfl⟩
    · have hin : i = n := by omega
      subst hin
      repeat' (first | refine xo 4000 rfl ?_ ?_ | refine xw 4000 rfl ?_ ?_ | refine xk 4000 rfl ?_ ?_ | exact trivial | ((with_reducible (show AllP (_ :: _))); refine And.intro ?_ ?_) | refine xs rfl ?_ ?_ | refine xs_done ?_ | refine pcond_t rfl ?_ | refine pcond_f rfl ?_ | refine kround_exit ?_ | refine kround_ret ?_ | refine kround_next ?_ | refine kloop_ret ?_ | refine kloop_exit ?_ | refine kcut_ret ?_ | refine kcut_exit ?_ | refine xo0 4000 rfl ?_ ?_ | refine xw0 4000 rfl ?_ ?_ | exact qq | fail)
      exact kretv rfl ⟨Nat.zero_lt_one, trivial, trivial⟩ rfl (by rw [ofS, if_neg (by omega), if_pos (paysOk_iff.2 hok)]; rfl)
theorem ctlOk_iff {c : Cto} : ctlOk c = true ↔ 0 ≤ c.1 ∧ c.1 ≤ 1048576 ∧ c.1 ≤ c.2.1 ∧ c.2.1 ≤ c.1 * 1000000000000 ∧ c.1 ≤ c.2.2 ∧ c.2.2 ≤ c.1 * 1000000000000 := by simp [ctlOk]
theorem cvalid_c (c : Cto) : PureC G.P 32 [vC c] (fun r => r = vb (ctlOk c)) := by
  refine pure_of (G := G.toPg) (fn := Try.f32) Try.func32 rfl rfl rfl ?_; intro Γ hk
  repeat' (first | refine xo 4000 rfl ?_ ?_ | refine xw 4000 rfl ?_ ?_ | refine xk 4000 rfl ?_ ?_ | exact trivial | ((with_reducible (show AllP (_ :: _))); refine And.intro ?_ ?_) | refine xs rfl ?_ ?_ | refine xs_done ?_ | refine pcond_t rfl ?_ | refine pcond_f rfl ?_ | refine kround_exit ?_ | refine kround_ret ?_ | refine kround_next ?_ | refine kloop_ret ?_ | refine kloop_exit ?_ | refine kcut_ret ?_ | refine kcut_exit ?_ | refine xo0 4000 rfl ?_ ?_ | refine xw0 4000 rfl ?_ ?_ | exact qq | fail)
  refine pcond rfl ?_ ?_ <;> intro hc <;> simp at hc
  · repeat' (first | refine xo 4000 rfl ?_ ?_ | refine xw 4000 rfl ?_ ?_ | refine xk 4000 rfl ?_ ?_ | exact trivial | ((with_reducible (show AllP (_ :: _))); refine And.intro ?_ ?_) | refine xs rfl ?_ ?_ | refine xs_done ?_ | refine pcond_t rfl ?_ | refine pcond_f rfl ?_ | refine kround_exit ?_ | refine kround_ret ?_ | refine kround_next ?_ | refine kloop_ret ?_ | refine kloop_exit ?_ | refine kcut_ret ?_ | refine kcut_exit ?_ | refine xo0 4000 rfl ?_ ?_ | refine xw0 4000 rfl ?_ ?_ | exact qq | fail)
    refine kretv rfl ⟨trivial, trivial⟩ rfl (eqB ?_)
    cases hb : ctlOk c
    · rfl
    · have := ctlOk_iff.1 hb; omega
  · repeat' (first | refine xo 4000 rfl ?_ ?_ | refine xw 4000 rfl ?_ ?_ | refine xk 4000 rfl ?_ ?_ | exact trivial | ((with_reducible (show AllP (_ :: _))); refine And.intro ?_ ?_) | refine xs rfl ?_ ?_ | refine xs_done ?_ | refine pcond_t rfl ?_ | refine pcond_f rfl ?_ | refine kround_exit ?_ | refine kround_ret ?_ | refine kround_next ?_ | refine kloop_ret ?_ | refine kloop_exit ?_ | refine kcut_ret ?_ | refine kcut_exit ?_ | refine xo0 4000 rfl ?_ ?_ | refine xw0 4000 rfl ?_ ?_ | exact qq | fail)
    refine kretv rfl ⟨trivial, trivial⟩ rfl (eqB ?_)
    rw [w64 (n := c.1 * 1000000000000) (by omega) (by omega)]
    rw [Bool.eq_iff_iff, ctlOk_iff]
    simp
    try omega
theorem valid39ctl_c (c : Cto) : PureC G.P 33 [vC c] (fun r => r = vb (ctlOk c)) := by
  refine pure_of (G := G.toPg) (fn := Try.f33) Try.func33 rfl rfl rfl ?_; intro Γ hk
  repeat' (first | refine xo 4000 rfl ?_ ?_ | refine xw 4000 rfl ?_ ?_ | refine xk 4000 rfl ?_ ?_ | exact trivial | ((with_reducible (show AllP (_ :: _))); refine And.intro ?_ ?_) | refine xs rfl ?_ ?_ | refine xs_done ?_ | refine pcond_t rfl ?_ | refine pcond_f rfl ?_ | refine kround_exit ?_ | refine kround_ret ?_ | refine kround_next ?_ | refine kloop_ret ?_ | refine kloop_exit ?_ | refine kcut_ret ?_ | refine kcut_exit ?_ | refine xo0 4000 rfl ?_ ?_ | refine xw0 4000 rfl ?_ ?_ | exact qq | fail)
  refine kretv rfl ⟨trivial, trivial⟩ rfl (eqB ?_)
  by_cases h1 : 0 ≤ c.1 ∧ c.1 ≤ 1048576
  · rw [w64 (n := c.1 * 1000000000000) (by omega) (by omega)]
    rw [Bool.eq_iff_iff, ctlOk_iff]
    simp
    try omega
  · have h2 : ctlOk c = false := by
      cases hb : ctlOk c
      · rfl
      · have := ctlOk_iff.1 hb; omega
    rw [h2]
    simp
    try omega
theorem cadd_c (a b : Cto) : PureC G.P 25 [vC a, vC b] (fun r => r = vO (addS a b)) := by
  have ha := cvalid_c a
  have hb := cvalid_c b
  refine pure_of (G := G.toPg) (fn := Try.f25) Try.func25 rfl rfl rfl ?_; intro Γ hk
  repeat' (first | refine xo 4000 rfl ?_ ?_ | refine xw 4000 rfl ?_ ?_ | refine xk 4000 rfl ?_ ?_ | exact trivial | ((with_reducible (show AllP (_ :: _))); refine And.intro ?_ ?_) | refine xs rfl ?_ ?_ | refine xs_done ?_ | refine pop_callv rfl rfl rfl rfl rfl (ha) rfl rfl rfl ?_ | refine xs_call rfl rfl rfl rfl rfl rfl (ha) rfl rfl rfl ?_ | refine xs_one (ch := []) rfl rfl rfl (pst_callv rfl rfl rfl rfl rfl (ha) rfl rfl rfl ?_) | refine pop_callgv rfl rfl rfl rfl rfl rfl (fun _ => ha) (by first | exact fun h => ⟨h, trivial⟩ | exact fun _ => trivial | exact fun h => ⟨h, h, trivial⟩) rfl rfl rfl ?_ | refine xs_one (ch := []) rfl rfl rfl (pst_callgv rfl rfl rfl rfl rfl rfl (fun _ => ha) (by first | exact fun h => ⟨h, trivial⟩ | exact fun _ => trivial | exact fun h => ⟨h, h, trivial⟩) rfl rfl rfl ?_) | refine pop_callv rfl rfl rfl rfl rfl (hb) rfl rfl rfl ?_ | refine xs_call rfl rfl rfl rfl rfl rfl (hb) rfl rfl rfl ?_ | refine xs_one (ch := []) rfl rfl rfl (pst_callv rfl rfl rfl rfl rfl (hb) rfl rfl rfl ?_) | refine pop_callgv rfl rfl rfl rfl rfl rfl (fun _ => hb) (by first | exact fun h => ⟨h, trivial⟩ | exact fun _ => trivial | exact fun h => ⟨h, h, trivial⟩) rfl rfl rfl ?_ | refine xs_one (ch := []) rfl rfl rfl (pst_callgv rfl rfl rfl rfl rfl rfl (fun _ => hb) (by first | exact fun h => ⟨h, trivial⟩ | exact fun _ => trivial | exact fun h => ⟨h, h, trivial⟩) rfl rfl rfl ?_) | refine pcond_t rfl ?_ | refine pcond_f rfl ?_ | refine kround_exit ?_ | refine kround_ret ?_ | refine kround_next ?_ | refine kloop_ret ?_ | refine kloop_exit ?_ | refine kcut_ret ?_ | refine kcut_exit ?_ | refine xo0 4000 rfl ?_ ?_ | refine xw0 4000 rfl ?_ ?_ | exact qq | fail)
  refine pcond rfl ?_ ?_ <;> intro hc
  · repeat' (first | refine xo 4000 rfl ?_ ?_ | refine xw 4000 rfl ?_ ?_ | refine xk 4000 rfl ?_ ?_ | exact trivial | ((with_reducible (show AllP (_ :: _))); refine And.intro ?_ ?_) | refine xs rfl ?_ ?_ | refine xs_done ?_ | refine pcond_t rfl ?_ | refine pcond_f rfl ?_ | refine kround_exit ?_ | refine kround_ret ?_ | refine kround_next ?_ | refine kloop_ret ?_ | refine kloop_exit ?_ | refine kcut_ret ?_ | refine kcut_exit ?_ | refine xo0 4000 rfl ?_ ?_ | refine xw0 4000 rfl ?_ ?_ | exact qq | fail)
    refine kretv rfl ⟨Nat.zero_lt_one, trivial, trivial⟩ rfl ?_
    rw [addS, if_neg (by revert hc; cases ctlOk a <;> cases ctlOk b <;> simp)]; rfl
  · have hab : ctlOk a = true ∧ ctlOk b = true := by revert hc; cases ctlOk a <;> cases ctlOk b <;> simp
    have a1 := ctlOk_iff.1 hab.1
    have b1 := ctlOk_iff.1 hab.2
    have w1 : IntKind.i64.wrap (a.1 + b.1) = a.1 + b.1 := w64 (by omega) (by omega)
    have w2 : IntKind.i64.wrap (a.2.1 + b.2.1) = a.2.1 + b.2.1 := w64 (by omega) (by omega)
    have w3 : IntKind.i64.wrap (a.2.2 + b.2.2) = a.2.2 + b.2.2 := w64 (by omega) (by omega)
    have hs := cvalid_c (IntKind.i64.wrap (a.1 + b.1), IntKind.i64.wrap (a.2.1 + b.2.1), IntKind.i64.wrap (a.2.2 + b.2.2))
    repeat' (first | refine xo 4000 rfl ?_ ?_ | refine xw 4000 rfl ?_ ?_ | refine xk 4000 rfl ?_ ?_ | exact trivial | ((with_reducible (show AllP (_ :: _))); refine And.intro ?_ ?_) | refine xs rfl ?_ ?_ | refine xs_done ?_ | refine pop_callv rfl rfl rfl rfl rfl (hs) rfl rfl rfl ?_ | refine xs_call rfl rfl rfl rfl rfl rfl (hs) rfl rfl rfl ?_ | refine xs_one (ch := []) rfl rfl rfl (pst_callv rfl rfl rfl rfl rfl (hs) rfl rfl rfl ?_) | refine pop_callgv rfl rfl rfl rfl rfl rfl (fun _ => hs) (by first | exact fun h => ⟨h, trivial⟩ | exact fun _ => trivial | exact fun h => ⟨h, h, trivial⟩) rfl rfl rfl ?_ | refine xs_one (ch := []) rfl rfl rfl (pst_callgv rfl rfl rfl rfl rfl rfl (fun _ => hs) (by first | exact fun h => ⟨h, trivial⟩ | exact fun _ => trivial | exact fun h => ⟨h, h, trivial⟩) rfl rfl rfl ?_) | refine pcond_t rfl ?_ | refine pcond_f rfl ?_ | refine kround_exit ?_ | refine kround_ret ?_ | refine kround_next ?_ | refine kloop_ret ?_ | refine kloop_exit ?_ | refine kcut_ret ?_ | refine kcut_exit ?_ | refine xo0 4000 rfl ?_ ?_ | refine xw0 4000 rfl ?_ ?_ | exact qq | fail)
    refine pcond rfl ?_ ?_ <;> intro hc2
    · repeat' (first | refine xo 4000 rfl ?_ ?_ | refine xw 4000 rfl ?_ ?_ | refine xk 4000 rfl ?_ ?_ | exact trivial | ((with_reducible (show AllP (_ :: _))); refine And.intro ?_ ?_) | refine xs rfl ?_ ?_ | refine xs_done ?_ | refine pcond_t rfl ?_ | refine pcond_f rfl ?_ | refine kround_exit ?_ | refine kround_ret ?_ | refine kround_next ?_ | refine kloop_ret ?_ | refine kloop_exit ?_ | refine kcut_ret ?_ | refine kcut_exit ?_ | refine xo0 4000 rfl ?_ ?_ | refine xw0 4000 rfl ?_ ?_ | exact qq | fail)
      refine kretv rfl ⟨Nat.zero_lt_one, trivial, trivial⟩ rfl ?_
      rw [w1, w2, w3] at hc2
      rw [addS, if_pos hab, if_neg (by simpa using hc2)]; rfl
    · repeat' (first | refine xo 4000 rfl ?_ ?_ | refine xw 4000 rfl ?_ ?_ | refine xk 4000 rfl ?_ ?_ | exact trivial | ((with_reducible (show AllP (_ :: _))); refine And.intro ?_ ?_) | refine xs rfl ?_ ?_ | refine xs_done ?_ | refine pcond_t rfl ?_ | refine pcond_f rfl ?_ | refine kround_exit ?_ | refine kround_ret ?_ | refine kround_next ?_ | refine kloop_ret ?_ | refine kloop_exit ?_ | refine kcut_ret ?_ | refine kcut_exit ?_ | refine xo0 4000 rfl ?_ ?_ | refine xw0 4000 rfl ?_ ?_ | exact qq | fail)
      refine kretv rfl ⟨Nat.zero_lt_one, trivial, trivial⟩ rfl ?_
      rw [w1, w2, w3] at hc2 ⊢
      rw [addS, if_pos hab, if_pos (by simpa using hc2)]; rfl
theorem add39_c (a b : Cto) : PureC G.P 26 [vC a, vC b] (fun r => r = vO (addS a b)) := by
  have ha := valid39ctl_c a
  have hb := valid39ctl_c b
  refine pure_of (G := G.toPg) (fn := Try.f26) Try.func26 rfl rfl rfl ?_; intro Γ hk
  repeat' (first | refine xo 4000 rfl ?_ ?_ | refine xw 4000 rfl ?_ ?_ | refine xk 4000 rfl ?_ ?_ | exact trivial | ((with_reducible (show AllP (_ :: _))); refine And.intro ?_ ?_) | refine xs rfl ?_ ?_ | refine xs_done ?_ | refine pop_callv rfl rfl rfl rfl rfl (ha) rfl rfl rfl ?_ | refine xs_call rfl rfl rfl rfl rfl rfl (ha) rfl rfl rfl ?_ | refine xs_one (ch := []) rfl rfl rfl (pst_callv rfl rfl rfl rfl rfl (ha) rfl rfl rfl ?_) | refine pop_callgv rfl rfl rfl rfl rfl rfl (fun _ => ha) (by first | exact fun h => ⟨h, trivial⟩ | exact fun _ => trivial | exact fun h => ⟨h, h, trivial⟩) rfl rfl rfl ?_ | refine xs_one (ch := []) rfl rfl rfl (pst_callgv rfl rfl rfl rfl rfl rfl (fun _ => ha) (by first | exact fun h => ⟨h, trivial⟩ | exact fun _ => trivial | exact fun h => ⟨h, h, trivial⟩) rfl rfl rfl ?_) | refine pop_callv rfl rfl rfl rfl rfl (hb) rfl rfl rfl ?_ | refine xs_call rfl rfl rfl rfl rfl rfl (hb) rfl rfl rfl ?_ | refine xs_one (ch := []) rfl rfl rfl (pst_callv rfl rfl rfl rfl rfl (hb) rfl rfl rfl ?_) | refine pop_callgv rfl rfl rfl rfl rfl rfl (fun _ => hb) (by first | exact fun h => ⟨h, trivial⟩ | exact fun _ => trivial | exact fun h => ⟨h, h, trivial⟩) rfl rfl rfl ?_ | refine xs_one (ch := []) rfl rfl rfl (pst_callgv rfl rfl rfl rfl rfl rfl (fun _ => hb) (by first | exact fun h => ⟨h, trivial⟩ | exact fun _ => trivial | exact fun h => ⟨h, h, trivial⟩) rfl rfl rfl ?_) | refine pcond_t rfl ?_ | refine pcond_f rfl ?_ | refine kround_exit ?_ | refine kround_ret ?_ | refine kround_next ?_ | refine kloop_ret ?_ | refine kloop_exit ?_ | refine kcut_ret ?_ | refine kcut_exit ?_ | refine xo0 4000 rfl ?_ ?_ | refine xw0 4000 rfl ?_ ?_ | exact qq | fail)
  refine pcond rfl ?_ ?_ <;> intro hc
  · repeat' (first | refine xo 4000 rfl ?_ ?_ | refine xw 4000 rfl ?_ ?_ | refine xk 4000 rfl ?_ ?_ | exact trivial | ((with_reducible (show AllP (_ :: _))); refine And.intro ?_ ?_) | refine xs rfl ?_ ?_ | refine xs_done ?_ | refine pcond_t rfl ?_ | refine pcond_f rfl ?_ | refine kround_exit ?_ | refine kround_ret ?_ | refine kround_next ?_ | refine kloop_ret ?_ | refine kloop_exit ?_ | refine kcut_ret ?_ | refine kcut_exit ?_ | refine xo0 4000 rfl ?_ ?_ | refine xw0 4000 rfl ?_ ?_ | exact qq | fail)
    refine kretv rfl ⟨Nat.zero_lt_one, trivial, trivial⟩ rfl ?_
    rw [addS, if_neg (by revert hc; cases ctlOk a <;> cases ctlOk b <;> simp)]; rfl
  · have hab : ctlOk a = true ∧ ctlOk b = true := by revert hc; cases ctlOk a <;> cases ctlOk b <;> simp
    have a1 := ctlOk_iff.1 hab.1
    have b1 := ctlOk_iff.1 hab.2
    have w1 : IntKind.i64.wrap (a.1 + b.1) = a.1 + b.1 := w64 (by omega) (by omega)
    have w2 : IntKind.i64.wrap (a.2.1 + b.2.1) = a.2.1 + b.2.1 := w64 (by omega) (by omega)
    have w3 : IntKind.i64.wrap (a.2.2 + b.2.2) = a.2.2 + b.2.2 := w64 (by omega) (by omega)
    have hs := valid39ctl_c (IntKind.i64.wrap (a.1 + b.1), IntKind.i64.wrap (a.2.1 + b.2.1), IntKind.i64.wrap (a.2.2 + b.2.2))
    repeat' (first | refine xo 4000 rfl ?_ ?_ | refine xw 4000 rfl ?_ ?_ | refine xk 4000 rfl ?_ ?_ | exact trivial | ((with_reducible (show AllP (_ :: _))); refine And.intro ?_ ?_) | refine xs rfl ?_ ?_ | refine xs_done ?_ | refine pop_callv rfl rfl rfl rfl rfl (hs) rfl rfl rfl ?_ | refine xs_call rfl rfl rfl rfl rfl rfl (hs) rfl rfl rfl ?_ | refine xs_one (ch := []) rfl rfl rfl (pst_callv rfl rfl rfl rfl rfl (hs) rfl rfl rfl ?_) | refine pop_callgv rfl rfl rfl rfl rfl rfl (fun _ => hs) (by first | exact fun h => ⟨h, trivial⟩ | exact fun _ => trivial | exact fun h => ⟨h, h, trivial⟩) rfl rfl rfl ?_ | refine xs_one (ch := []) rfl rfl rfl (pst_callgv rfl rfl rfl rfl rfl rfl (fun _ => hs) (by first | exact fun h => ⟨h, trivial⟩ | exact fun _ => trivial | exact fun h => ⟨h, h, trivial⟩) rfl rfl rfl ?_) | refine pcond_t rfl ?_ | refine pcond_f rfl ?_ | refine kround_exit ?_ | refine kround_ret ?_ | refine kround_next ?_ | refine kloop_ret ?_ | refine kloop_exit ?_ | refine kcut_ret ?_ | refine kcut_exit ?_ | refine xo0 4000 rfl ?_ ?_ | refine xw0 4000 rfl ?_ ?_ | exact qq | fail)
    refine pcond rfl ?_ ?_ <;> intro hc2
    · repeat' (first | refine xo 4000 rfl ?_ ?_ | refine xw 4000 rfl ?_ ?_ | refine xk 4000 rfl ?_ ?_ | exact trivial | ((with_reducible (show AllP (_ :: _))); refine And.intro ?_ ?_) | refine xs rfl ?_ ?_ | refine xs_done ?_ | refine pcond_t rfl ?_ | refine pcond_f rfl ?_ | refine kround_exit ?_ | refine kround_ret ?_ | refine kround_next ?_ | refine kloop_ret ?_ | refine kloop_exit ?_ | refine kcut_ret ?_ | refine kcut_exit ?_ | refine xo0 4000 rfl ?_ ?_ | refine xw0 4000 rfl ?_ ?_ | exact qq | fail)
      refine kretv rfl ⟨Nat.zero_lt_one, trivial, trivial⟩ rfl ?_
      rw [w1, w2, w3] at hc2
      rw [addS, if_pos hab, if_neg (by simpa using hc2)]; rfl
    · repeat' (first | refine xo 4000 rfl ?_ ?_ | refine xw 4000 rfl ?_ ?_ | refine xk 4000 rfl ?_ ?_ | exact trivial | ((with_reducible (show AllP (_ :: _))); refine And.intro ?_ ?_) | refine xs rfl ?_ ?_ | refine xs_done ?_ | refine pcond_t rfl ?_ | refine pcond_f rfl ?_ | refine kround_exit ?_ | refine kround_ret ?_ | refine kround_next ?_ | refine kloop_ret ?_ | refine kloop_exit ?_ | refine kcut_ret ?_ | refine kcut_exit ?_ | refine xo0 4000 rfl ?_ ?_ | refine xw0 4000 rfl ?_ ?_ | exact qq | fail)
      refine kretv rfl ⟨Nat.zero_lt_one, trivial, trivial⟩ rfl ?_
      rw [w1, w2, w3] at hc2 ⊢
      rw [addS, if_pos hab, if_pos (by simpa using hc2)]; rfl
theorem chk_c (n : Nat) (g : Nat → Pay) (c : Cto) (hn : n ≤ 9223372036854775807) : PureC G.P 17 [vPs n g, vC c] (fun r => r = vi (chkS (ofS n g) c)) := by
  have ho := of_c n g hn
  generalize ofS n g = X at *
  refine pure_of (G := G.toPg) (fn := Try.f17) Try.func17 rfl rfl rfl ?_; intro Γ hk
  repeat' (first | refine xo 4000 rfl ?_ ?_ | refine xw 4000 rfl ?_ ?_ | refine xk 4000 rfl ?_ ?_ | exact trivial | ((with_reducible (show AllP (_ :: _))); refine And.intro ?_ ?_) | refine xs rfl ?_ ?_ | refine xs_done ?_ | refine pop_callv rfl rfl rfl rfl rfl (ho) rfl rfl rfl ?_ | refine xs_call rfl rfl rfl rfl rfl rfl (ho) rfl rfl rfl ?_ | refine xs_one (ch := []) rfl rfl rfl (pst_callv rfl rfl rfl rfl rfl (ho) rfl rfl rfl ?_) | refine pop_callgv rfl rfl rfl rfl rfl rfl (fun _ => ho) (by first | exact fun h => ⟨h, trivial⟩ | exact fun _ => trivial | exact fun h => ⟨h, h, trivial⟩) rfl rfl rfl ?_ | refine xs_one (ch := []) rfl rfl rfl (pst_callgv rfl rfl rfl rfl rfl rfl (fun _ => ho) (by first | exact fun h => ⟨h, trivial⟩ | exact fun _ => trivial | exact fun h => ⟨h, h, trivial⟩) rfl rfl rfl ?_) | refine pcond_t rfl ?_ | refine pcond_f rfl ?_ | refine kround_exit ?_ | refine kround_ret ?_ | refine kround_next ?_ | refine kloop_ret ?_ | refine kloop_exit ?_ | refine kcut_ret ?_ | refine kcut_exit ?_ | refine xo0 4000 rfl ?_ ?_ | refine xw0 4000 rfl ?_ ?_ | exact qq | fail)
  refine pcond rfl ?_ ?_ <;> intro hc
  · repeat' (first | refine xo 4000 rfl ?_ ?_ | refine xw 4000 rfl ?_ ?_ | refine xk 4000 rfl ?_ ?_ | exact trivial | ((with_reducible (show AllP (_ :: _))); refine And.intro ?_ ?_) | refine xs rfl ?_ ?_ | refine xs_done ?_ | refine pcond_t rfl ?_ | refine pcond_f rfl ?_ | refine kround_exit ?_ | refine kround_ret ?_ | refine kround_next ?_ | refine kloop_ret ?_ | refine kloop_exit ?_ | refine kcut_ret ?_ | refine kcut_exit ?_ | refine xo0 4000 rfl ?_ ?_ | refine xw0 4000 rfl ?_ ?_ | exact qq | fail)
    exact kretv rfl ⟨trivial, trivial⟩ rfl (eqI (by rw [chkS, if_neg (by simpa using hc)]))
  · have h0 : X.2 = 0 := by simpa using hc
    repeat' (first | refine xo 4000 rfl ?_ ?_ | refine xw 4000 rfl ?_ ?_ | refine xk 4000 rfl ?_ ?_ | exact trivial | ((with_reducible (show AllP (_ :: _))); refine And.intro ?_ ?_) | refine xs rfl ?_ ?_ | refine xs_done ?_ | refine pcond_t rfl ?_ | refine pcond_f rfl ?_ | refine kround_exit ?_ | refine kround_ret ?_ | refine kround_next ?_ | refine kloop_ret ?_ | refine kloop_exit ?_ | refine kcut_ret ?_ | refine kcut_exit ?_ | refine xo0 4000 rfl ?_ ?_ | refine xw0 4000 rfl ?_ ?_ | exact qq | fail)
    refine pcond rfl ?_ ?_ <;> intro hc2
    · repeat' (first | refine xo 4000 rfl ?_ ?_ | refine xw 4000 rfl ?_ ?_ | refine xk 4000 rfl ?_ ?_ | exact trivial | ((with_reducible (show AllP (_ :: _))); refine And.intro ?_ ?_) | refine xs rfl ?_ ?_ | refine xs_done ?_ | refine pcond_t rfl ?_ | refine pcond_f rfl ?_ | refine kround_exit ?_ | refine kround_ret ?_ | refine kround_next ?_ | refine kloop_ret ?_ | refine kloop_exit ?_ | refine kcut_ret ?_ | refine kcut_exit ?_ | refine xo0 4000 rfl ?_ ?_ | refine xw0 4000 rfl ?_ ?_ | exact qq | fail)
      refine kretv rfl ⟨trivial, trivial⟩ rfl (eqI ?_)
      rw [chkS, if_pos h0, if_neg]
      intro e; subst e; simp at hc2
    · repeat' (first | refine xo 4000 rfl ?_ ?_ | refine xw 4000 rfl ?_ ?_ | refine xk 4000 rfl ?_ ?_ | exact trivial | ((with_reducible (show AllP (_ :: _))); refine And.intro ?_ ?_) | refine xs rfl ?_ ?_ | refine xs_done ?_ | refine pcond_t rfl ?_ | refine pcond_f rfl ?_ | refine kround_exit ?_ | refine kround_ret ?_ | refine kround_next ?_ | refine kloop_ret ?_ | refine kloop_exit ?_ | refine kcut_ret ?_ | refine kcut_exit ?_ | refine xo0 4000 rfl ?_ ?_ | refine xw0 4000 rfl ?_ ?_ | exact qq | fail)
      refine kretv rfl ⟨trivial, trivial⟩ rfl (eqI ?_)
      rw [chkS, if_pos h0, if_pos]
      simp at hc2
      obtain ⟨e1, e2, e3⟩ := hc2
      exact Prod.ext e1 (Prod.ext e2 e3)
theorem chk39_c (n : Nat) (g : Nat → Pay) (c : Cto) (hn : n ≤ 9223372036854775807) : PureC G.P 27 [vPs n g, vC c] (fun r => r = vi (chkS (ofS n g) c)) := by
  have ho := of39_c n g hn
  generalize ofS n g = X at *
  refine pure_of (G := G.toPg) (fn := Try.f27) Try.func27 rfl rfl rfl ?_; intro Γ hk
  repeat' (first | refine xo 4000 rfl ?_ ?_ | refine xw 4000 rfl ?_ ?_ | refine xk 4000 rfl ?_ ?_ | exact trivial | ((with_reducible (show AllP (_ :: _))); refine And.intro ?_ ?_) | refine xs rfl ?_ ?_ | refine xs_done ?_ | refine pop_callv rfl rfl rfl rfl rfl (ho) rfl rfl rfl ?_ | refine xs_call rfl rfl rfl rfl rfl rfl (ho) rfl rfl rfl ?_ | refine xs_one (ch := []) rfl rfl rfl (pst_callv rfl rfl rfl rfl rfl (ho) rfl rfl rfl ?_) | refine pop_callgv rfl rfl rfl rfl rfl rfl (fun _ => ho) (by first | exact fun h => ⟨h, trivial⟩ | exact fun _ => trivial | exact fun h => ⟨h, h, trivial⟩) rfl rfl rfl ?_ | refine xs_one (ch := []) rfl rfl rfl (pst_callgv rfl rfl rfl rfl rfl rfl (fun _ => ho) (by first | exact fun h => ⟨h, trivial⟩ | exact fun _ => trivial | exact fun h => ⟨h, h, trivial⟩) rfl rfl rfl ?_) | refine pcond_t rfl ?_ | refine pcond_f rfl ?_ | refine kround_exit ?_ | refine kround_ret ?_ | refine kround_next ?_ | refine kloop_ret ?_ | refine kloop_exit ?_ | refine kcut_ret ?_ | refine kcut_exit ?_ | refine xo0 4000 rfl ?_ ?_ | refine xw0 4000 rfl ?_ ?_ | exact qq | fail)
  refine pcond rfl ?_ ?_ <;> intro hc
  · repeat' (first | refine xo 4000 rfl ?_ ?_ | refine xw 4000 rfl ?_ ?_ | refine xk 4000 rfl ?_ ?_ | exact trivial | ((with_reducible (show AllP (_ :: _))); refine And.intro ?_ ?_) | refine xs rfl ?_ ?_ | refine xs_done ?_ | refine pcond_t rfl ?_ | refine pcond_f rfl ?_ | refine kround_exit ?_ | refine kround_ret ?_ | refine kround_next ?_ | refine kloop_ret ?_ | refine kloop_exit ?_ | refine kcut_ret ?_ | refine kcut_exit ?_ | refine xo0 4000 rfl ?_ ?_ | refine xw0 4000 rfl ?_ ?_ | exact qq | fail)
    exact kretv rfl ⟨trivial, trivial⟩ rfl (eqI (by rw [chkS, if_neg (by simpa using hc)]))
  · have h0 : X.2 = 0 := by simpa using hc
    repeat' (first | refine xo 4000 rfl ?_ ?_ | refine xw 4000 rfl ?_ ?_ | refine xk 4000 rfl ?_ ?_ | exact trivial | ((with_reducible (show AllP (_ :: _))); refine And.intro ?_ ?_) | refine xs rfl ?_ ?_ | refine xs_done ?_ | refine pcond_t rfl ?_ | refine pcond_f rfl ?_ | refine kround_exit ?_ | refine kround_ret ?_ | refine kround_next ?_ | refine kloop_ret ?_ | refine kloop_exit ?_ | refine kcut_ret ?_ | refine kcut_exit ?_ | refine xo0 4000 rfl ?_ ?_ | refine xw0 4000 rfl ?_ ?_ | exact qq | fail)
    refine pcond rfl ?_ ?_ <;> intro hc2
    · repeat' (first | refine xo 4000 rfl ?_ ?_ | refine xw 4000 rfl ?_ ?_ | refine xk 4000 rfl ?_ ?_ | exact trivial | ((with_reducible (show AllP (_ :: _))); refine And.intro ?_ ?_) | refine xs rfl ?_ ?_ | refine xs_done ?_ | refine pcond_t rfl ?_ | refine pcond_f rfl ?_ | refine kround_exit ?_ | refine kround_ret ?_ | refine kround_next ?_ | refine kloop_ret ?_ | refine kloop_exit ?_ | refine kcut_ret ?_ | refine kcut_exit ?_ | refine xo0 4000 rfl ?_ ?_ | refine xw0 4000 rfl ?_ ?_ | exact qq | fail)
      refine kretv rfl ⟨trivial, trivial⟩ rfl (eqI ?_)
      rw [chkS, if_pos h0, if_neg]
      intro e; subst e; simp at hc2
    · repeat' (first | refine xo 4000 rfl ?_ ?_ | refine xw 4000 rfl ?_ ?_ | refine xk 4000 rfl ?_ ?_ | exact trivial | ((with_reducible (show AllP (_ :: _))); refine And.intro ?_ ?_) | refine xs rfl ?_ ?_ | refine xs_done ?_ | refine pcond_t rfl ?_ | refine pcond_f rfl ?_ | refine kround_exit ?_ | refine kround_ret ?_ | refine kround_next ?_ | refine kloop_ret ?_ | refine kloop_exit ?_ | refine kcut_ret ?_ | refine kcut_exit ?_ | refine xo0 4000 rfl ?_ ?_ | refine xw0 4000 rfl ?_ ?_ | exact qq | fail)
      refine kretv rfl ⟨trivial, trivial⟩ rfl (eqI ?_)
      rw [chkS, if_pos h0, if_pos]
      simp at hc2
      obtain ⟨e1, e2, e3⟩ := hc2
      exact (Prod.ext e1 (Prod.ext e2 e3)).symm
theorem same39_c (n m : Nat) (f g : Nat → Pay) (hn : n ≤ 9223372036854775807) (hs : n = m ∧ ∀ i, i < n → f i = g i) : PureC G.P 14 [vPs n f, vPs m g] (fun r => r = vb true) := by
  obtain ⟨rfl, hs⟩ := hs
  refine pure_of (G := G.toPg) (fn := Try.f14) Try.func14 rfl rfl rfl ?_; intro Γ hk
  repeat' (first | refine xo 4000 rfl ?_ ?_ | refine xw 4000 rfl ?_ ?_ | refine xk 4000 rfl ?_ ?_ | exact trivial | ((with_reducible (show AllP (_ :: _))); refine And.intro ?_ ?_) | refine xs rfl ?_ ?_ | refine xs_done ?_ | refine pcond_t rfl ?_ | refine pcond_f rfl ?_ | refine kround_exit ?_ | refine kround_ret ?_ | refine kround_next ?_ | refine kloop_ret ?_ | refine kloop_exit ?_ | refine kcut_ret ?_ | refine kcut_exit ?_ | refine xo0 4000 rfl ?_ ?_ | refine xw0 4000 rfl ?_ ?_ | exact qq | fail)
  refine pcond rfl ?_ ?_ <;> intro hc
  · simp at hc
  · repeat' (first | refine xo 4000 rfl ?_ ?_ | refine xw 4000 rfl ?_ ?_ | refine xk 4000 rfl ?_ ?_ | exact trivial | ((with_reducible (show AllP (_ :: _))); refine And.intro ?_ ?_) | refine xs rfl ?_ ?_ | refine xs_done ?_ | refine pcond_t rfl ?_ | refine pcond_f rfl ?_ | refine kround_exit ?_ | refine kround_ret ?_ | refine kround_next ?_ | refine kloop_ret ?_ | refine kloop_exit ?_ | refine kcut_ret ?_ | refine kcut_exit ?_ | refine xo0 4000 rfl ?_ ?_ | refine xw0 4000 rfl ?_ ?_ | exact qq | fail)
    refine pcan (can_sel [0, 1, 5]) ?_
    refine ploop (fun q st => ∃ i : Nat, i ≤ n ∧ q = n - i ∧ st = ⟨[(0, vPs n f), (1, vPs n g), (5, vi i)], []⟩) n ⟨0, by omega, rfl, rfl⟩ ?_
    rintro _ _ ⟨i, hi, rfl, rfl⟩
    repeat' (first | refine xo 4000 rfl ?_ ?_ | refine xw 4000 rfl ?_ ?_ | refine xk 4000 rfl ?_ ?_ | exact trivial | ((with_reducible (show AllP (_ :: _))); refine And.intro ?_ ?_) | refine xs rfl ?_ ?_ | refine xs_done ?_ | refine pcond_t rfl ?_ | refine pcond_f rfl ?_ | refine kround_exit ?_ | refine kround_ret ?_ | refine kround_next ?_ | refine kloop_ret ?_ | refine kloop_exit ?_ | refine kcut_ret ?_ | refine kcut_exit ?_ | refine xo0 4000 rfl ?_ ?_ | refine xw0 4000 rfl ?_ ?_ | exact qq | fail)
    refine pcond rfl ?_ ?_ <;> intro hc2
    · simp at hc2
      repeat' (first | refine xo 4000 rfl ?_ ?_ | refine xw 4000 rfl ?_ ?_ | refine xk 4000 rfl ?_ ?_ | exact trivial | ((with_reducible (show AllP (_ :: _))); refine And.intro ?_ ?_) | refine xs rfl ?_ ?_ | refine xs_done ?_ | refine xs_start (id := 6) true [.take 0, .take 1, .take 2, .take 3, .take 4, .take 5, .take 6, .take 7, .take 8] 0 rfl rfl (by kernel_rfl) ?_ | refine pcond_t rfl ?_ | refine pcond_f rfl ?_ | refine kround_exit ?_ | refine kround_ret ?_ | refine kround_next ?_ | refine kloop_ret ?_ | refine kloop_exit ?_ | refine kcut_ret ?_ | refine kcut_exit ?_ | refine xo0 4000 rfl ?_ ?_ | refine xw0 4000 rfl ?_ ?_ | exact qq | fail)
      refine pcond rfl ?_ ?_ <;> intro hc3
      · exfalso
        have := hs i hc2
        revert hc3
        show ¬ _
        simp [this]
      · repeat' (first | refine xo 4000 rfl ?_ ?_ | refine xw 4000 rfl ?_ ?_ | refine xk 4000 rfl ?_ ?_ | exact trivial | ((with_reducible (show AllP (_ :: _))); refine And.intro ?_ ?_) | refine xs rfl ?_ ?_ | refine xs_done ?_ | refine pcond_t rfl ?_ | refine pcond_f rfl ?_ | refine kround_exit ?_ | refine kround_ret ?_ | refine kround_next ?_ | refine kloop_ret ?_ | refine kloop_exit ?_ | refine kcut_ret ?_ | refine kcut_exit ?_ | refine xo0 4000 rfl ?_ ?_ | refine xw0 4000 rfl ?_ ?_ | exact qq | fail)
        rw [show IntKind.i64.wrap ((i : Int) + 1) = ((i + 1 : Nat) : Int) from w64 (by omega) (by omega)]
        exact kloop_next (n - (i + 1)) (can_sel [0, 1, 5]) (by omega) ⟨i + 1, by omega, rfl, rfl⟩
    · repeat' (first | refine xo 4000 rfl ?_ ?_ | refine xw 4000 rfl ?_ ?_ | refine xk 4000 rfl ?_ ?_ | exact trivial | ((with_reducible (show AllP (_ :: _))); refine And.intro ?_ ?_) | refine xs rfl ?_ ?_ | refine xs_done ?_ | refine pcond_t rfl ?_ | refine pcond_f rfl ?_ | refine kround_exit ?_ | refine kround_ret ?_ | refine kround_next ?_ | refine kloop_ret ?_ | refine kloop_exit ?_ | refine kcut_ret ?_ | refine kcut_exit ?_ | refine xo0 4000 rfl ?_ ?_ | refine xw0 4000 rfl ?_ ?_ | exact qq | fail)
      exact kretv rfl ⟨trivial, trivial⟩ rfl rfl
end Go.Proofs.Ytnjikclflfioeaa
