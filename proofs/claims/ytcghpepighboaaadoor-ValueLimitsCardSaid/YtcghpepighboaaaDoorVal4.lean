/- What an expression looks up, operators: package value. -/
import Derived.Test.YtcghpepighboaaaDoorVal3
import Derived.Test.YtcghpepighboaaaDoorCh1
set_option linter.unusedSimpArgs false
set_option linter.unusedVariables false
set_option maxRecDepth 100000
namespace Go.Proofs.YtcghpepighboaaaDoor
abbrev dIn : In := ⟨⟨#[]⟩, 0, 0⟩
abbrev vIns (l : List In) : PV := .vsl l.length 3 (tF cIn (lF dIn l))
abbrev vEv (N : List In) (S : List Df) (P : List Pa) : PV := .agg 3 (nthP [vIns N, vDs S, vPas P])
theorem mem_lF {α : Type} {d : α} {l : List α} {i : Nat} (h : i < l.length) : lF d l i ∈ l := by
  unfold lF
  rw [List.getD_eq_getElem?_getD, List.getElem?_eq_getElem h]
  exact List.getElem_mem h
theorem name_c (N : List In) (S : List Df) (P : List Pa) (s : ByteArray) (hl : N.length ≤ 1000000000) (hb : ∀ x, x ∈ N → -9223372036854775808 ≤ x.n ∧ x.n ≤ 9223372036854775807) : PureC G.P 76 [vEv N S P, vs s] (fun r => r = vRE (inS N s)) := by
  refine pure_of (G := G.toPg) (fn := Tryd.f76) Tryd.func76 rfl rfl rfl ?_; intro Γ hk
  repeat' (first | refine yo ?_ ?_ | refine yw ?_ ?_ | refine yk ?_ ?_ | exact trivial | with_reducible refine wA ?_ ?_ | refine ys ?_ ?_ | refine xs_done ?_ | refine yl ?_ ?_ | refine w8 ?_ | refine w9 ?_ | refine w1 ?_ | refine w2 ?_ | refine w3 ?_ | refine w4 ?_ | refine w5 ?_ | refine w6 ?_ | refine w7 ?_ | refine yo0 ?_ ?_ | refine yw0 ?_ ?_ | exact qq | fail)
  refine pcan (st' := ⟨[(1, vs s), (4, .ptr 0 0 0), (9, vIns N), (10, vi N.length), (11, vi ((0 : Nat) : Int))], [rR 0 0]⟩) (can_rowsv [1] (k0_sel hk rfl) rfl (by (repeat (refine SelV.cons rfl rqq ?_)); exact SelV.nil) tmq) ?_
  refine ploop (fun q st => ∃ i : Nat, i ≤ N.length ∧ (∀ j, j < i → ((lF dIn N j).nm.toList == s.toList) = false) ∧ q = N.length - i ∧ st = ⟨[(1, vs s), (4, .ptr 0 0 0), (9, vIns N), (10, vi N.length), (11, vi i)], [rR 0 0]⟩) N.length ⟨0, by omega, fun j hj => by omega, by omega, rfl⟩ ?_
  rintro _ _ ⟨i, hi, hv, rfl, rfl⟩
  repeat' (first | refine yo ?_ ?_ | refine yw ?_ ?_ | refine yk ?_ ?_ | exact trivial | with_reducible refine wA ?_ ?_ | refine ys ?_ ?_ | refine xs_done ?_ | refine yl ?_ ?_ | refine w8 ?_ | refine w9 ?_ | refine w1 ?_ | refine w2 ?_ | refine w3 ?_ | refine w4 ?_ | refine w5 ?_ | refine w6 ?_ | refine w7 ?_ | refine yo0 ?_ ?_ | refine yw0 ?_ ?_ | exact qq | fail)
  refine pcond rfl ?_ ?_ <;> intro hc <;> simp at hc
  · have hx := hb _ (mem_lF (d := dIn) hc)
    have c1 := ratioValid_c (lF dIn N i).n (lF dIn N i).d hx.1 hx.2
    repeat' (first | refine yo ?_ ?_ | refine yw ?_ ?_ | refine yk ?_ ?_ | exact trivial | with_reducible refine wA ?_ ?_ | refine ys ?_ ?_ | refine xs_done ?_ | refine yl ?_ ?_ | refine w8 ?_ | refine w9 ?_ | refine w1 ?_ | refine w2 ?_ | refine w3 ?_ | refine w4 ?_ | refine w5 ?_ | refine w6 ?_ | refine w7 ?_ | refine yo0 ?_ ?_ | refine yw0 ?_ ?_ | exact qq | fail)
    refine pcond (b := !((lF dIn N i).nm.toList == s.toList)) (eqB rfl) ?_ ?_ <;> intro h1
    · have h1 := nv_t h1
      repeat' (first | refine yo ?_ ?_ | refine yw ?_ ?_ | refine yk ?_ ?_ | exact trivial | with_reducible refine wA ?_ ?_ | refine ys ?_ ?_ | refine xs_done ?_ | refine yl ?_ ?_ | refine w8 ?_ | refine w9 ?_ | refine w1 ?_ | refine w2 ?_ | refine w3 ?_ | refine w4 ?_ | refine w5 ?_ | refine w6 ?_ | refine w7 ?_ | refine yo0 ?_ ?_ | refine yw0 ?_ ?_ | exact qq | fail)
      rw [show IntKind.i64.wrap ((i : Int) + 1) = ((i + 1 : Nat) : Int) from w64 (by omega) (by omega)]
      exact kloop_next (st' := ⟨[(1, vs s), (4, .ptr 0 0 0), (9, vIns N), (10, vi N.length), (11, vi ((i + 1 : Nat) : Int))], [rR 0 0]⟩) (N.length - (i + 1)) (can_rowsv [0] (k0_sel hk rfl) rfl (by (repeat (refine SelV.cons rfl rqq ?_)); exact SelV.nil) tmq) (by omega) ⟨i + 1, by omega, fun j hj => by
        by_cases e : j = i
        · subst e; exact h1
        · exact hv j (by omega), rfl, rfl⟩
    · have h1 := nv_f h1
      have hf : (N.find? fun x => x.nm.toList == s.toList) = some (lF dIn N i) := find_at (fun x : In => x.nm.toList == s.toList) N i hc hv h1
      repeat' (first | refine yo ?_ ?_ | refine yw ?_ ?_ | refine yk ?_ ?_ | exact trivial | with_reducible refine wA ?_ ?_ | refine ys ?_ ?_ | refine xs_done ?_ | refine yl ?_ ?_ | refine z1 c1 ?_ | refine z2 c1 ?_ | refine z3 c1 ?_ | refine z4 c1 ?_ | refine z5 c1 ?_ | refine w8 ?_ | refine w9 ?_ | refine w1 ?_ | refine w2 ?_ | refine w3 ?_ | refine w4 ?_ | refine w5 ?_ | refine w6 ?_ | refine w7 ?_ | refine yo0 ?_ ?_ | refine yw0 ?_ ?_ | exact qq | fail)
      refine pcond rfl ?_ ?_ <;> intro h2
      · have h2 := nv_t h2
        repeat' (first | refine yo ?_ ?_ | refine yw ?_ ?_ | refine yk ?_ ?_ | exact trivial | with_reducible refine wA ?_ ?_ | refine ys ?_ ?_ | refine xs_done ?_ | refine yl ?_ ?_ | refine w8 ?_ | refine w9 ?_ | refine w1 ?_ | refine w2 ?_ | refine w3 ?_ | refine w4 ?_ | refine w5 ?_ | refine w6 ?_ | refine w7 ?_ | refine yo0 ?_ ?_ | refine yw0 ?_ ?_ | exact qq | fail)
        refine kretv rfl ⟨Nat.zero_lt_one, trivial, trivial⟩ rfl ?_
        unfold inS
        rw [hf]
        show _ = vRE (if _ then _ else _)
        rw [if_neg (by rw [h2]; decide)]; rfl
      · have h2 := nv_f h2
        repeat' (first | refine yo ?_ ?_ | refine yw ?_ ?_ | refine yk ?_ ?_ | exact trivial | with_reducible refine wA ?_ ?_ | refine ys ?_ ?_ | refine xs_done ?_ | refine yl ?_ ?_ | refine w8 ?_ | refine w9 ?_ | refine w1 ?_ | refine w2 ?_ | refine w3 ?_ | refine w4 ?_ | refine w5 ?_ | refine w6 ?_ | refine w7 ?_ | refine yo0 ?_ ?_ | refine yw0 ?_ ?_ | exact qq | fail)
        refine kretv rfl ⟨Nat.zero_lt_one, trivial, trivial⟩ rfl ?_
        unfold inS
        rw [hf]
        show _ = vRE (if _ then _ else _)
        rw [if_pos h2]; rfl
  · have hf : (N.find? fun x => x.nm.toList == s.toList) = none := find_no (fun x : In => x.nm.toList == s.toList) N fun j hj => hv j (by omega)
    repeat' (first | refine yo ?_ ?_ | refine yw ?_ ?_ | refine yk ?_ ?_ | exact trivial | with_reducible refine wA ?_ ?_ | refine ys ?_ ?_ | refine xs_done ?_ | refine yl ?_ ?_ | refine w8 ?_ | refine w9 ?_ | refine w1 ?_ | refine w2 ?_ | refine w3 ?_ | refine w4 ?_ | refine w5 ?_ | refine w6 ?_ | refine w7 ?_ | refine yo0 ?_ ?_ | refine yw0 ?_ ?_ | exact qq | fail)
    refine kretv rfl ⟨Nat.zero_lt_one, trivial, trivial⟩ rfl ?_
    unfold inS
    rw [hf]; rfl
theorem truth_c' (b : Bool) : PureC G.P 79 [vb b] (fun r => r = vr (truS b).1 (truS b).2) := by
  have c1 := integer_c 1
  have c0 := integer_c 0
  refine pure_of (G := G.toPg) (fn := Tryd.f79) Tryd.func79 rfl rfl rfl ?_; intro Γ hk
  repeat' (first | refine yo ?_ ?_ | refine yw ?_ ?_ | refine yk ?_ ?_ | exact trivial | with_reducible refine wA ?_ ?_ | refine ys ?_ ?_ | refine xs_done ?_ | refine yl ?_ ?_ | refine w8 ?_ | refine w9 ?_ | refine w1 ?_ | refine w2 ?_ | refine w3 ?_ | refine w4 ?_ | refine w5 ?_ | refine w6 ?_ | refine w7 ?_ | refine yo0 ?_ ?_ | refine yw0 ?_ ?_ | exact qq | fail)
  refine pcond rfl ?_ ?_ <;> intro h
  · subst h
    repeat' (first | refine yo ?_ ?_ | refine yw ?_ ?_ | refine yk ?_ ?_ | exact trivial | with_reducible refine wA ?_ ?_ | refine ys ?_ ?_ | refine xs_done ?_ | refine yl ?_ ?_ | refine z1 c1 ?_ | refine z2 c1 ?_ | refine z3 c1 ?_ | refine z4 c1 ?_ | refine z5 c1 ?_ | refine w8 ?_ | refine w9 ?_ | refine w1 ?_ | refine w2 ?_ | refine w3 ?_ | refine w4 ?_ | refine w5 ?_ | refine w6 ?_ | refine w7 ?_ | refine yo0 ?_ ?_ | refine yw0 ?_ ?_ | exact qq | fail)
    exact kretv rfl ⟨Nat.zero_lt_one, trivial⟩ rfl rfl
  · subst h
    repeat' (first | refine yo ?_ ?_ | refine yw ?_ ?_ | refine yk ?_ ?_ | exact trivial | with_reducible refine wA ?_ ?_ | refine ys ?_ ?_ | refine xs_done ?_ | refine yl ?_ ?_ | refine z1 c0 ?_ | refine z2 c0 ?_ | refine z3 c0 ?_ | refine z4 c0 ?_ | refine z5 c0 ?_ | refine w8 ?_ | refine w9 ?_ | refine w1 ?_ | refine w2 ?_ | refine w3 ?_ | refine w4 ?_ | refine w5 ?_ | refine w6 ?_ | refine w7 ?_ | refine yo0 ?_ ?_ | refine yw0 ?_ ?_ | exact qq | fail)
    exact kretv rfl ⟨Nat.zero_lt_one, trivial⟩ rfl rfl
/-- numbers and lengths in range -/
structure BdS (d : Df) : Prop where
  n : d.ne ≤ 1000000000
  v : ∀ i, i < d.ne → -9223372036854775808 ≤ (d.ef i).2.1 ∧ (d.ef i).2.1 ≤ 9223372036854775807
def isS (s : ByteArray) (d : Df) : Bool := decide (d.kind = 2) && (d.nm.toList == s.toList)
theorem scale_c (N : List In) (S : List Df) (P : List Pa) (s : ByteArray) (a b : Int) (hl : S.length ≤ 1000000000) (hb : ∀ d, d ∈ S → BdS d) (ha : -9223372036854775808 ≤ a ∧ a ≤ 9223372036854775807) : PureC G.P 77 [vEv N S P, vs s, vr a b] (fun r => r = vRE (scaS S s a b)) := by
  refine pure_of (G := G.toPg) (fn := Tryd.f77) Tryd.func77 rfl rfl rfl ?_; intro Γ hk
  repeat' (first | refine yo ?_ ?_ | refine yw ?_ ?_ | refine yk ?_ ?_ | exact trivial | with_reducible refine wA ?_ ?_ | refine ys ?_ ?_ | refine xs_done ?_ | refine yl ?_ ?_ | refine w8 ?_ | refine w9 ?_ | refine w1 ?_ | refine w2 ?_ | refine w3 ?_ | refine w4 ?_ | refine w5 ?_ | refine w6 ?_ | refine w7 ?_ | refine yo0 ?_ ?_ | refine yw0 ?_ ?_ | exact qq | fail)
  refine pcan (st' := ⟨[(1, vs s), (5, .ptr 0 0 0), (6, .ptr 1 0 0), (11, vDs S), (12, vi S.length), (13, vi ((0 : Nat) : Int))], [rR a b, rR 0 0]⟩) (can_rowsv [1,2] (k0_sel hk rfl) rfl (by (repeat (refine SelV.cons rfl rqq ?_)); exact SelV.nil) tmq) ?_
  refine ploop (fun q st => ∃ i : Nat, i ≤ S.length ∧ (∀ j, j < i → isS s (lF dD S j) = false) ∧ q = S.length - i ∧ st = ⟨[(1, vs s), (5, .ptr 0 0 0), (6, .ptr 1 0 0), (11, vDs S), (12, vi S.length), (13, vi i)], [rR a b, rR 0 0]⟩) S.length ⟨0, by omega, fun j hj => by omega, by omega, rfl⟩ ?_
  rintro _ _ ⟨i, hi, hv, rfl, rfl⟩
  repeat' (first | refine yo ?_ ?_ | refine yw ?_ ?_ | refine yk ?_ ?_ | exact trivial | with_reducible refine wA ?_ ?_ | refine ys ?_ ?_ | refine xs_done ?_ | refine yl ?_ ?_ | refine w8 ?_ | refine w9 ?_ | refine w1 ?_ | refine w2 ?_ | refine w3 ?_ | refine w4 ?_ | refine w5 ?_ | refine w6 ?_ | refine w7 ?_ | refine yo0 ?_ ?_ | refine yw0 ?_ ?_ | exact qq | fail)
  refine pcond rfl ?_ ?_ <;> intro hc <;> simp at hc
  · have hx := hb _ (mem_lF (d := dD) hc)
    have c1 := lookup_c (lF dD S i).ne (lF dD S i).ef a b hx.n hx.v ha
    repeat' (first | refine yo ?_ ?_ | refine yw ?_ ?_ | refine yk ?_ ?_ | exact trivial | with_reducible refine wA ?_ ?_ | refine ys ?_ ?_ | refine xs_done ?_ | refine yl ?_ ?_ | refine w8 ?_ | refine w9 ?_ | refine w1 ?_ | refine w2 ?_ | refine w3 ?_ | refine w4 ?_ | refine w5 ?_ | refine w6 ?_ | refine w7 ?_ | refine yo0 ?_ ?_ | refine yw0 ?_ ?_ | exact qq | fail)
    refine pcond (b := isS s (lF dD S i)) ?_ ?_ ?_
    · refine eqB ?_
      unfold isS
      rw [bqd, show ((i : Int)).toNat = i from rfl]
      cases decide ((lF dD S i).kind = 2) <;> rfl
    · intro h1
      have hf : (S.find? (isS s)) = some (lF dD S i) := find_at (isS s) S i hc hv h1
      repeat' (first | refine yo ?_ ?_ | refine yw ?_ ?_ | refine yk ?_ ?_ | exact trivial | with_reducible refine wA ?_ ?_ | refine ys ?_ ?_ | refine xs_done ?_ | refine yl ?_ ?_ | refine z1 c1 ?_ | refine z2 c1 ?_ | refine z3 c1 ?_ | refine z4 c1 ?_ | refine z5 c1 ?_ | refine w8 ?_ | refine w9 ?_ | refine w1 ?_ | refine w2 ?_ | refine w3 ?_ | refine w4 ?_ | refine w5 ?_ | refine w6 ?_ | refine w7 ?_ | refine yo0 ?_ ?_ | refine yw0 ?_ ?_ | exact qq | fail)
      refine kretv rfl ⟨Nat.zero_lt_one, trivial, trivial⟩ rfl ?_
      unfold scaS
      rw [show (S.find? fun d => decide (d.kind = 2) && (d.nm.toList == s.toList)) = some (lF dD S i) from hf]; rfl
    · intro h1
      repeat' (first | refine yo ?_ ?_ | refine yw ?_ ?_ | refine yk ?_ ?_ | exact trivial | with_reducible refine wA ?_ ?_ | refine ys ?_ ?_ | refine xs_done ?_ | refine yl ?_ ?_ | refine w8 ?_ | refine w9 ?_ | refine w1 ?_ | refine w2 ?_ | refine w3 ?_ | refine w4 ?_ | refine w5 ?_ | refine w6 ?_ | refine w7 ?_ | refine yo0 ?_ ?_ | refine yw0 ?_ ?_ | exact qq | fail)
      rw [show IntKind.i64.wrap ((i : Int) + 1) = ((i + 1 : Nat) : Int) from w64 (by omega) (by omega)]
      exact kloop_next (st' := ⟨[(1, vs s), (5, .ptr 0 0 0), (6, .ptr 1 0 0), (11, vDs S), (12, vi S.length), (13, vi ((i + 1 : Nat) : Int))], [rR a b, rR 0 0]⟩) (S.length - (i + 1)) (can_rowsv [0,1] (k0_sel hk rfl) rfl (by (repeat (refine SelV.cons rfl rqq ?_)); exact SelV.nil) tmq) (by omega) ⟨i + 1, by omega, fun j hj => by
        by_cases e : j = i
        · subst e; exact h1
        · exact hv j (by omega), rfl, rfl⟩
  · have hf : S.find? (isS s) = none := find_no (isS s) S fun j hj => hv j (by omega)
    repeat' (first | refine yo ?_ ?_ | refine yw ?_ ?_ | refine yk ?_ ?_ | exact trivial | with_reducible refine wA ?_ ?_ | refine ys ?_ ?_ | refine xs_done ?_ | refine yl ?_ ?_ | refine w8 ?_ | refine w9 ?_ | refine w1 ?_ | refine w2 ?_ | refine w3 ?_ | refine w4 ?_ | refine w5 ?_ | refine w6 ?_ | refine w7 ?_ | refine yo0 ?_ ?_ | refine yw0 ?_ ?_ | exact qq | fail)
    refine kretv rfl ⟨Nat.zero_lt_one, trivial, trivial⟩ rfl ?_
    unfold scaS
    rw [show (S.find? fun d => decide (d.kind = 2) && (d.nm.toList == s.toList)) = none from hf]; rfl
theorem combine_c (op : Int) (x y : Int × Int) (hop : 5 ≤ op ∧ op ≤ 11 ∨ op = 14 ∨ op = 15) (hx : -9223372036854775808 ≤ x.1 ∧ x.1 ≤ 9223372036854775807) (hy : -9223372036854775808 ≤ y.1 ∧ y.1 ≤ 9223372036854775807) : PureC G.P 81 [vi op, vr x.1 x.2, vr y.1 y.2] (fun r => r = vRE (combS op x y)) := by
  have c1 := ratioAdd_c x.1 x.2 y.1 y.2 hx.1 hx.2 hy.1 hy.2
  have c2 := ratioSub_c x.1 x.2 y.1 y.2 hx.1 hx.2 hy.1 hy.2
  have c3 := ratioMul_c x.1 x.2 y.1 y.2 hx.1 hx.2 hy.1 hy.2
  have c4 := ratioDiv_f x.1 x.2 y.1 y.2 hx.1 hx.2 hy.1 hy.2
  have c5 := ratioCompare_c x.1 x.2 y.1 y.2 hx.1 hx.2 hy.1 hy.2
  have t := truth_c'
  have hop : op = 5 ∨ op = 6 ∨ op = 7 ∨ op = 8 ∨ op = 9 ∨ op = 10 ∨ op = 11 ∨ op = 14 ∨ op = 15 := by omega
  rcases hop with rfl | rfl | rfl | rfl | rfl | rfl | rfl | rfl | rfl
  · refine pure_of (G := G.toPg) (fn := Tryd.f81) Tryd.func81 rfl rfl rfl ?_; intro Γ hk
    repeat' (first | refine yo ?_ ?_ | refine yw ?_ ?_ | refine yk ?_ ?_ | exact trivial | with_reducible refine wA ?_ ?_ | refine ys ?_ ?_ | refine xs_done ?_ | refine yl ?_ ?_ | refine z1 c1 ?_ | refine z2 c1 ?_ | refine z3 c1 ?_ | refine z4 c1 ?_ | refine z5 c1 ?_ | refine w8 ?_ | refine w9 ?_ | refine w1 ?_ | refine w2 ?_ | refine w3 ?_ | refine w4 ?_ | refine w5 ?_ | refine w6 ?_ | refine w7 ?_ | refine yo0 ?_ ?_ | refine yw0 ?_ ?_ | exact qq | fail)
    exact kretv rfl ⟨Nat.zero_lt_one, trivial, trivial⟩ rfl rfl
  · refine pure_of (G := G.toPg) (fn := Tryd.f81) Tryd.func81 rfl rfl rfl ?_; intro Γ hk
    repeat' (first | refine yo ?_ ?_ | refine yw ?_ ?_ | refine yk ?_ ?_ | exact trivial | with_reducible refine wA ?_ ?_ | refine ys ?_ ?_ | refine xs_done ?_ | refine yl ?_ ?_ | refine z1 c2 ?_ | refine z2 c2 ?_ | refine z3 c2 ?_ | refine z4 c2 ?_ | refine z5 c2 ?_ | refine w8 ?_ | refine w9 ?_ | refine w1 ?_ | refine w2 ?_ | refine w3 ?_ | refine w4 ?_ | refine w5 ?_ | refine w6 ?_ | refine w7 ?_ | refine yo0 ?_ ?_ | refine yw0 ?_ ?_ | exact qq | fail)
    exact kretv rfl ⟨Nat.zero_lt_one, trivial, trivial⟩ rfl rfl
  · refine pure_of (G := G.toPg) (fn := Tryd.f81) Tryd.func81 rfl rfl rfl ?_; intro Γ hk
    repeat' (first | refine yo ?_ ?_ | refine yw ?_ ?_ | refine yk ?_ ?_ | exact trivial | with_reducible refine wA ?_ ?_ | refine ys ?_ ?_ | refine xs_done ?_ | refine yl ?_ ?_ | refine z1 c3 ?_ | refine z2 c3 ?_ | refine z3 c3 ?_ | refine z4 c3 ?_ | refine z5 c3 ?_ | refine w8 ?_ | refine w9 ?_ | refine w1 ?_ | refine w2 ?_ | refine w3 ?_ | refine w4 ?_ | refine w5 ?_ | refine w6 ?_ | refine w7 ?_ | refine yo0 ?_ ?_ | refine yw0 ?_ ?_ | exact qq | fail)
    exact kretv rfl ⟨Nat.zero_lt_one, trivial, trivial⟩ rfl rfl
  · refine pure_of (G := G.toPg) (fn := Tryd.f81) Tryd.func81 rfl rfl rfl ?_; intro Γ hk
    repeat' (first | refine yo ?_ ?_ | refine yw ?_ ?_ | refine yk ?_ ?_ | exact trivial | with_reducible refine wA ?_ ?_ | refine ys ?_ ?_ | refine xs_done ?_ | refine yl ?_ ?_ | refine z1 c4 ?_ | refine z2 c4 ?_ | refine z3 c4 ?_ | refine z4 c4 ?_ | refine z5 c4 ?_ | refine w8 ?_ | refine w9 ?_ | refine w1 ?_ | refine w2 ?_ | refine w3 ?_ | refine w4 ?_ | refine w5 ?_ | refine w6 ?_ | refine w7 ?_ | refine yo0 ?_ ?_ | refine yw0 ?_ ?_ | exact qq | fail)
    exact kretv rfl ⟨Nat.zero_lt_one, trivial, trivial⟩ rfl rfl
  · refine pure_of (G := G.toPg) (fn := Tryd.f81) Tryd.func81 rfl rfl rfl ?_; intro Γ hk
    repeat' (first | refine yo ?_ ?_ | refine yw ?_ ?_ | refine yk ?_ ?_ | exact trivial | with_reducible refine wA ?_ ?_ | refine ys ?_ ?_ | refine xs_done ?_ | refine yl ?_ ?_ | refine z1 c5 ?_ | refine z2 c5 ?_ | refine z3 c5 ?_ | refine z4 c5 ?_ | refine z5 c5 ?_ | refine z1 (t _) ?_ | refine z2 (t _) ?_ | refine z3 (t _) ?_ | refine z4 (t _) ?_ | refine z5 (t _) ?_ | refine w8 ?_ | refine w9 ?_ | refine w1 ?_ | refine w2 ?_ | refine w3 ?_ | refine w4 ?_ | refine w5 ?_ | refine w6 ?_ | refine w7 ?_ | refine yo0 ?_ ?_ | refine yw0 ?_ ?_ | exact qq | fail)
    exact kretv rfl ⟨Nat.zero_lt_one, trivial, trivial⟩ rfl rfl
  · refine pure_of (G := G.toPg) (fn := Tryd.f81) Tryd.func81 rfl rfl rfl ?_; intro Γ hk
    repeat' (first | refine yo ?_ ?_ | refine yw ?_ ?_ | refine yk ?_ ?_ | exact trivial | with_reducible refine wA ?_ ?_ | refine ys ?_ ?_ | refine xs_done ?_ | refine yl ?_ ?_ | refine z1 c5 ?_ | refine z2 c5 ?_ | refine z3 c5 ?_ | refine z4 c5 ?_ | refine z5 c5 ?_ | refine z1 (t _) ?_ | refine z2 (t _) ?_ | refine z3 (t _) ?_ | refine z4 (t _) ?_ | refine z5 (t _) ?_ | refine w8 ?_ | refine w9 ?_ | refine w1 ?_ | refine w2 ?_ | refine w3 ?_ | refine w4 ?_ | refine w5 ?_ | refine w6 ?_ | refine w7 ?_ | refine yo0 ?_ ?_ | refine yw0 ?_ ?_ | exact qq | fail)
    exact kretv rfl ⟨Nat.zero_lt_one, trivial, trivial⟩ rfl rfl
  · refine pure_of (G := G.toPg) (fn := Tryd.f81) Tryd.func81 rfl rfl rfl ?_; intro Γ hk
    repeat' (first | refine yo ?_ ?_ | refine yw ?_ ?_ | refine yk ?_ ?_ | exact trivial | with_reducible refine wA ?_ ?_ | refine ys ?_ ?_ | refine xs_done ?_ | refine yl ?_ ?_ | refine z1 c5 ?_ | refine z2 c5 ?_ | refine z3 c5 ?_ | refine z4 c5 ?_ | refine z5 c5 ?_ | refine z1 (t _) ?_ | refine z2 (t _) ?_ | refine z3 (t _) ?_ | refine z4 (t _) ?_ | refine z5 (t _) ?_ | refine w8 ?_ | refine w9 ?_ | refine w1 ?_ | refine w2 ?_ | refine w3 ?_ | refine w4 ?_ | refine w5 ?_ | refine w6 ?_ | refine w7 ?_ | refine yo0 ?_ ?_ | refine yw0 ?_ ?_ | exact qq | fail)
    refine kretv rfl ⟨Nat.zero_lt_one, trivial, trivial⟩ rfl ?_
    rw [bqd]; rfl
  · refine pure_of (G := G.toPg) (fn := Tryd.f81) Tryd.func81 rfl rfl rfl ?_; intro Γ hk
    repeat' (first | refine yo ?_ ?_ | refine yw ?_ ?_ | refine yk ?_ ?_ | exact trivial | with_reducible refine wA ?_ ?_ | refine ys ?_ ?_ | refine xs_done ?_ | refine yl ?_ ?_ | refine z1 c5 ?_ | refine z2 c5 ?_ | refine z3 c5 ?_ | refine z4 c5 ?_ | refine z5 c5 ?_ | refine w8 ?_ | refine w9 ?_ | refine w1 ?_ | refine w2 ?_ | refine w3 ?_ | refine w4 ?_ | refine w5 ?_ | refine w6 ?_ | refine w7 ?_ | refine yo0 ?_ ?_ | refine yw0 ?_ ?_ | exact qq | fail)
    refine pcond rfl ?_ ?_ <;> intro h <;> simp at h
    · repeat' (first | refine yo ?_ ?_ | refine yw ?_ ?_ | refine yk ?_ ?_ | exact trivial | with_reducible refine wA ?_ ?_ | refine ys ?_ ?_ | refine xs_done ?_ | refine yl ?_ ?_ | refine w8 ?_ | refine w9 ?_ | refine w1 ?_ | refine w2 ?_ | refine w3 ?_ | refine w4 ?_ | refine w5 ?_ | refine w6 ?_ | refine w7 ?_ | refine yo0 ?_ ?_ | refine yw0 ?_ ?_ | exact qq | fail)
      refine kretv rfl ⟨Nat.zero_lt_one, trivial, trivial⟩ rfl ?_
      show _ = vRE (if _ then _ else _, 0)
      rw [if_pos h]; rfl
    · repeat' (first | refine yo ?_ ?_ | refine yw ?_ ?_ | refine yk ?_ ?_ | exact trivial | with_reducible refine wA ?_ ?_ | refine ys ?_ ?_ | refine xs_done ?_ | refine yl ?_ ?_ | refine w8 ?_ | refine w9 ?_ | refine w1 ?_ | refine w2 ?_ | refine w3 ?_ | refine w4 ?_ | refine w5 ?_ | refine w6 ?_ | refine w7 ?_ | refine yo0 ?_ ?_ | refine yw0 ?_ ?_ | exact qq | fail)
      refine kretv rfl ⟨Nat.zero_lt_one, trivial, trivial⟩ rfl ?_
      show _ = vRE (if _ then _ else _, 0)
      rw [if_neg (by omega)]; rfl
  · refine pure_of (G := G.toPg) (fn := Tryd.f81) Tryd.func81 rfl rfl rfl ?_; intro Γ hk
    repeat' (first | refine yo ?_ ?_ | refine yw ?_ ?_ | refine yk ?_ ?_ | exact trivial | with_reducible refine wA ?_ ?_ | refine ys ?_ ?_ | refine xs_done ?_ | refine yl ?_ ?_ | refine z1 c5 ?_ | refine z2 c5 ?_ | refine z3 c5 ?_ | refine z4 c5 ?_ | refine z5 c5 ?_ | refine w8 ?_ | refine w9 ?_ | refine w1 ?_ | refine w2 ?_ | refine w3 ?_ | refine w4 ?_ | refine w5 ?_ | refine w6 ?_ | refine w7 ?_ | refine yo0 ?_ ?_ | refine yw0 ?_ ?_ | exact qq | fail)
    refine pcond rfl ?_ ?_ <;> intro h <;> simp at h
    · repeat' (first | refine yo ?_ ?_ | refine yw ?_ ?_ | refine yk ?_ ?_ | exact trivial | with_reducible refine wA ?_ ?_ | refine ys ?_ ?_ | refine xs_done ?_ | refine yl ?_ ?_ | refine w8 ?_ | refine w9 ?_ | refine w1 ?_ | refine w2 ?_ | refine w3 ?_ | refine w4 ?_ | refine w5 ?_ | refine w6 ?_ | refine w7 ?_ | refine yo0 ?_ ?_ | refine yw0 ?_ ?_ | exact qq | fail)
      refine kretv rfl ⟨Nat.zero_lt_one, trivial, trivial⟩ rfl ?_
      show _ = vRE (if _ then _ else _, 0)
      rw [if_pos h]; rfl
    · repeat' (first | refine yo ?_ ?_ | refine yw ?_ ?_ | refine yk ?_ ?_ | exact trivial | with_reducible refine wA ?_ ?_ | refine ys ?_ ?_ | refine xs_done ?_ | refine yl ?_ ?_ | refine w8 ?_ | refine w9 ?_ | refine w1 ?_ | refine w2 ?_ | refine w3 ?_ | refine w4 ?_ | refine w5 ?_ | refine w6 ?_ | refine w7 ?_ | refine yo0 ?_ ?_ | refine yw0 ?_ ?_ | exact qq | fail)
      refine kretv rfl ⟨Nat.zero_lt_one, trivial, trivial⟩ rfl ?_
      show _ = vRE (if _ then _ else _, 0)
      rw [if_neg (by omega)]; rfl
end Go.Proofs.YtcghpepighboaaaDoor
