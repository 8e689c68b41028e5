/- Averages and last values: package value. -/
import Derived.Test.YtcghpepighboaaaDoorVal2
set_option linter.unusedSimpArgs false
set_option linter.unusedVariables false
set_option maxRecDepth 100000
namespace Go.Proofs.YtcghpepighboaaaDoor
abbrev dPa : Pa := ⟨⟨#[]⟩, 0, fun _ => (0, 0)⟩
abbrev vPas (l : List Pa) : PV := .vsl l.length 2 (tF cPa (lF dPa l))
/-- numbers and lengths in range -/
structure BdP (p : Pa) : Prop where
  k : p.k ≤ 1000000000
  v : ∀ i, i < p.k → -9223372036854775808 ≤ (p.f i).1 ∧ (p.f i).1 ≤ 9223372036854775807
def fpV : Option Pa → PV
  | some p => .vsl p.k 2 (tF cPr p.f)
  | none => .val (.slice none 0 0)
theorem findPa_mem {l : List Pa} {s : ByteArray} {p : Pa} (h : findPa l s = some p) : p ∈ l := List.mem_of_find?_eq_some h
theorem findPast_c (l : List Pa) (s : ByteArray) (hl : l.length ≤ 1000000000) : PureC G.P 42 [vPas l, vs s] (fun r => r = .tup 2 (nthP [fpV (findPa l s), vb (findPa l s).isSome])) := by
  refine pure_of (G := G.toPg) (fn := Tryd.f42) Tryd.func42 rfl rfl rfl ?_; intro Γ hk
  repeat' (first | refine yo ?_ ?_ | refine yw ?_ ?_ | refine yk ?_ ?_ | exact trivial | with_reducible refine wA ?_ ?_ | refine ys ?_ ?_ | refine xs_done ?_ | refine yl ?_ ?_ | refine w8 ?_ | refine w9 ?_ | refine w1 ?_ | refine w2 ?_ | refine w3 ?_ | refine w4 ?_ | refine w5 ?_ | refine w6 ?_ | refine w7 ?_ | refine yo0 ?_ ?_ | refine yw0 ?_ ?_ | exact qq | fail)
  refine pcan (st' := ⟨[(1, vs s), (8, vPas l), (9, vi l.length), (10, vi ((0 : Nat) : Int))], []⟩) (can_rowsv [] (k0_sel hk rfl) rfl .nil tmq) ?_
  refine ploop (fun q st => ∃ i : Nat, i ≤ l.length ∧ (∀ j, j < i → ((lF dPa l j).nm.toList == s.toList) = false) ∧ q = l.length - i ∧ st = ⟨[(1, vs s), (8, vPas l), (9, vi l.length), (10, vi i)], []⟩) l.length ⟨0, by omega, fun j hj => by omega, by omega, rfl⟩ ?_
  rintro _ _ ⟨i, hi, hv, rfl, rfl⟩
  repeat' (first | refine yo ?_ ?_ | refine yw ?_ ?_ | refine yk ?_ ?_ | exact trivial | with_reducible refine wA ?_ ?_ | refine ys ?_ ?_ | refine xs_done ?_ | refine yl ?_ ?_ | refine w8 ?_ | refine w9 ?_ | refine w1 ?_ | refine w2 ?_ | refine w3 ?_ | refine w4 ?_ | refine w5 ?_ | refine w6 ?_ | refine w7 ?_ | refine yo0 ?_ ?_ | refine yw0 ?_ ?_ | exact qq | fail)
  refine pcond rfl ?_ ?_ <;> intro hc <;> simp at hc
  · repeat' (first | refine yo ?_ ?_ | refine yw ?_ ?_ | refine yk ?_ ?_ | exact trivial | with_reducible refine wA ?_ ?_ | refine ys ?_ ?_ | refine xs_done ?_ | refine yl ?_ ?_ | refine w8 ?_ | refine w9 ?_ | refine w1 ?_ | refine w2 ?_ | refine w3 ?_ | refine w4 ?_ | refine w5 ?_ | refine w6 ?_ | refine w7 ?_ | refine yo0 ?_ ?_ | refine yw0 ?_ ?_ | exact qq | fail)
    refine pcond (b := (lF dPa l i).nm.toList == s.toList) (eqB rfl) ?_ ?_ <;> intro h1
    · have hf : findPa l s = some (lF dPa l i) := find_at _ l i hc hv h1
      repeat' (first | refine yo ?_ ?_ | refine yw ?_ ?_ | refine yk ?_ ?_ | exact trivial | with_reducible refine wA ?_ ?_ | refine ys ?_ ?_ | refine xs_done ?_ | refine yl ?_ ?_ | refine w8 ?_ | refine w9 ?_ | refine w1 ?_ | refine w2 ?_ | refine w3 ?_ | refine w4 ?_ | refine w5 ?_ | refine w6 ?_ | refine w7 ?_ | refine yo0 ?_ ?_ | refine yw0 ?_ ?_ | exact qq | fail)
      refine kretv rfl ⟨trivial, trivial, trivial⟩ rfl ?_
      rw [hf]; rfl
    · repeat' (first | refine yo ?_ ?_ | refine yw ?_ ?_ | refine yk ?_ ?_ | exact trivial | with_reducible refine wA ?_ ?_ | refine ys ?_ ?_ | refine xs_done ?_ | refine yl ?_ ?_ | refine w8 ?_ | refine w9 ?_ | refine w1 ?_ | refine w2 ?_ | refine w3 ?_ | refine w4 ?_ | refine w5 ?_ | refine w6 ?_ | refine w7 ?_ | refine yo0 ?_ ?_ | refine yw0 ?_ ?_ | exact qq | fail)
      rw [show IntKind.i64.wrap ((i : Int) + 1) = ((i + 1 : Nat) : Int) from w64 (by omega) (by omega)]
      exact kloop_next (st' := ⟨[(1, vs s), (8, vPas l), (9, vi l.length), (10, vi ((i + 1 : Nat) : Int))], []⟩) (l.length - (i + 1)) (can_rowsv [] (k0_sel hk rfl) rfl .nil tmq) (by omega) ⟨i + 1, by omega, fun j hj => by
        by_cases e : j = i
        · subst e; exact h1
        · exact hv j (by omega), rfl, rfl⟩
  · have hf : findPa l s = none := find_no _ l fun j hj => hv j (by omega)
    repeat' (first | refine yo ?_ ?_ | refine yw ?_ ?_ | refine yk ?_ ?_ | exact trivial | with_reducible refine wA ?_ ?_ | refine ys ?_ ?_ | refine xs_done ?_ | refine yl ?_ ?_ | refine w8 ?_ | refine w9 ?_ | refine w1 ?_ | refine w2 ?_ | refine w3 ?_ | refine w4 ?_ | refine w5 ?_ | refine w6 ?_ | refine w7 ?_ | refine yo0 ?_ ?_ | refine yw0 ?_ ?_ | exact qq | fail)
    refine kretv rfl ⟨trivial, trivial, trivial⟩ rfl ?_
    rw [hf]; rfl
theorem findPast_s (l : List Pa) (s : ByteArray) (hl : l.length ≤ 1000000000) {p : Pa} (hf : findPa l s = some p) : PureC G.P 42 [vPas l, vs s] (fun r => r = .tup 2 (nthP [.vsl p.k 2 (tF cPr p.f), vb true])) := by
  have c1 := findPast_c l s hl
  rw [hf] at c1; exact c1
theorem average_c (l : List Pa) (s : ByteArray) (n : Int) (hl : l.length ≤ 1000000000) (hb : ∀ p, p ∈ l → BdP p) : PureC G.P 14 [vPas l, vs s, vi n] (fun r => r = vRE (avgS l s n)) := by
  have c1 := findPast_c l s hl
  refine pure_of (G := G.toPg) (fn := Tryd.f14) Tryd.func14 rfl rfl rfl ?_; intro Γ hk
  repeat' (first | refine yo ?_ ?_ | refine yw ?_ ?_ | refine yk ?_ ?_ | exact trivial | with_reducible refine wA ?_ ?_ | refine ys ?_ ?_ | refine xs_done ?_ | refine yl ?_ ?_ | refine w8 ?_ | refine w9 ?_ | refine w1 ?_ | refine w2 ?_ | refine w3 ?_ | refine w4 ?_ | refine w5 ?_ | refine w6 ?_ | refine w7 ?_ | refine yo0 ?_ ?_ | refine yw0 ?_ ?_ | exact qq | fail)
  refine pcond (b := decide (n < 1 ∨ 120 < n)) ?_ ?_ ?_
  · refine eqB ?_
    by_cases q1 : n < 1 <;> simp [q1]
  · intro h
    have h := of_decide_eq_true h
    repeat' (first | refine yo ?_ ?_ | refine yw ?_ ?_ | refine yk ?_ ?_ | exact trivial | with_reducible refine wA ?_ ?_ | refine ys ?_ ?_ | refine xs_done ?_ | refine yl ?_ ?_ | refine w8 ?_ | refine w9 ?_ | refine w1 ?_ | refine w2 ?_ | refine w3 ?_ | refine w4 ?_ | refine w5 ?_ | refine w6 ?_ | refine w7 ?_ | refine yo0 ?_ ?_ | refine yw0 ?_ ?_ | exact qq | fail)
    refine kretv rfl ⟨Nat.zero_lt_one, trivial, trivial⟩ rfl ?_
    rw [avgS, if_pos h]; rfl
  · intro h
    have h := of_decide_eq_false h
    cases hf : findPa l s with
    | none =>
      rw [hf] at c1
      repeat' (first | refine yo ?_ ?_ | refine yw ?_ ?_ | refine yk ?_ ?_ | exact trivial | with_reducible refine wA ?_ ?_ | refine ys ?_ ?_ | refine xs_done ?_ | refine yl ?_ ?_ | refine z1 c1 ?_ | refine z2 c1 ?_ | refine z3 c1 ?_ | refine z4 c1 ?_ | refine z5 c1 ?_ | refine w8 ?_ | refine w9 ?_ | refine w1 ?_ | refine w2 ?_ | refine w3 ?_ | refine w4 ?_ | refine w5 ?_ | refine w6 ?_ | refine w7 ?_ | refine yo0 ?_ ?_ | refine yw0 ?_ ?_ | exact qq | fail)
      refine kretv rfl ⟨Nat.zero_lt_one, trivial, trivial⟩ rfl ?_
      rw [avgS, if_neg h, hf]; rfl
    | some p =>
      have c1 := findPast_s l s hl hf
      have hp := hb p (findPa_mem hf)
      have c2 := mean_c (min n.toNat p.k) p.f (by have := hp.k; omega) (fun i hi => hp.v i (by omega))
      repeat' (first | refine yo ?_ ?_ | refine yw ?_ ?_ | refine yk ?_ ?_ | exact trivial | with_reducible refine wA ?_ ?_ | refine ys ?_ ?_ | refine xs_done ?_ | refine yl ?_ ?_ | (refine pop_callc [] rfl rfl rfl rfl rfl rfl (fun _ h => by cases h) (c1) (args_cl _ rfl) ?_; rintro _ rfl) | refine w8 ?_ | refine w9 ?_ | refine w1 ?_ | refine w2 ?_ | refine w3 ?_ | refine w4 ?_ | refine w5 ?_ | refine w6 ?_ | refine w7 ?_ | refine yo0 ?_ ?_ | refine yw0 ?_ ?_ | exact qq | fail)
      · exact ⟨trivial, trivial, by omega, by split <;> omega, by split <;> omega⟩
      have e0 : (fun a => tF cPr p.f (((0 : Nat) : Int).toNat + a)) = tF cPr p.f := by
        funext a; rw [show ((0 : Nat) : Int).toNat + a = a from Nat.zero_add a]
      have e1 : ((if (p.k : Int) < n then (p.k : Int) else n) - ((0 : Nat) : Int)).toNat = min n.toNat p.k := by split <;> omega
      rw [← e1, ← e0] at c2
      repeat' (first | refine yo ?_ ?_ | refine yw ?_ ?_ | refine yk ?_ ?_ | exact trivial | with_reducible refine wA ?_ ?_ | refine ys ?_ ?_ | refine xs_done ?_ | refine yl ?_ ?_ | refine z1 c2 ?_ | refine z2 c2 ?_ | refine z3 c2 ?_ | refine z4 c2 ?_ | refine z5 c2 ?_ | refine w8 ?_ | refine w9 ?_ | refine w1 ?_ | refine w2 ?_ | refine w3 ?_ | refine w4 ?_ | refine w5 ?_ | refine w6 ?_ | refine w7 ?_ | refine yo0 ?_ ?_ | refine yw0 ?_ ?_ | exact qq | fail)
      refine kretv rfl ⟨Nat.zero_lt_one, trivial, trivial⟩ rfl ?_
      rw [avgS, if_neg h, hf, e1]; rfl


theorem last_c' (l : List Pa) (s : ByteArray) (n : Int) (hl : l.length ≤ 1000000000) (hb : ∀ p, p ∈ l → BdP p) : PureC G.P 43 [vPas l, vs s, vi n] (fun r => r = vRE (lastS' l s n)) := by
  have c1 := findPast_c l s hl
  refine pure_of (G := G.toPg) (fn := Tryd.f43) Tryd.func43 rfl rfl rfl ?_; intro Γ hk
  repeat' (first | refine yo ?_ ?_ | refine yw ?_ ?_ | refine yk ?_ ?_ | exact trivial | with_reducible refine wA ?_ ?_ | refine ys ?_ ?_ | refine xs_done ?_ | refine yl ?_ ?_ | refine w8 ?_ | refine w9 ?_ | refine w1 ?_ | refine w2 ?_ | refine w3 ?_ | refine w4 ?_ | refine w5 ?_ | refine w6 ?_ | refine w7 ?_ | refine yo0 ?_ ?_ | refine yw0 ?_ ?_ | exact qq | fail)
  refine pcond (b := decide (n < 1 ∨ 120 < n)) ?_ ?_ ?_
  · refine eqB ?_
    by_cases q1 : n < 1 <;> simp [q1]
  · intro h
    have h := of_decide_eq_true h
    repeat' (first | refine yo ?_ ?_ | refine yw ?_ ?_ | refine yk ?_ ?_ | exact trivial | with_reducible refine wA ?_ ?_ | refine ys ?_ ?_ | refine xs_done ?_ | refine yl ?_ ?_ | refine w8 ?_ | refine w9 ?_ | refine w1 ?_ | refine w2 ?_ | refine w3 ?_ | refine w4 ?_ | refine w5 ?_ | refine w6 ?_ | refine w7 ?_ | refine yo0 ?_ ?_ | refine yw0 ?_ ?_ | exact qq | fail)
    refine kretv rfl ⟨Nat.zero_lt_one, trivial, trivial⟩ rfl ?_
    rw [lastS', if_pos h]; rfl
  · intro h
    have h := of_decide_eq_false h
    cases hf : findPa l s with
    | none =>
      rw [hf] at c1
      repeat' (first | refine yo ?_ ?_ | refine yw ?_ ?_ | refine yk ?_ ?_ | exact trivial | with_reducible refine wA ?_ ?_ | refine ys ?_ ?_ | refine xs_done ?_ | refine yl ?_ ?_ | refine z1 c1 ?_ | refine z2 c1 ?_ | refine z3 c1 ?_ | refine z4 c1 ?_ | refine z5 c1 ?_ | refine w8 ?_ | refine w9 ?_ | refine w1 ?_ | refine w2 ?_ | refine w3 ?_ | refine w4 ?_ | refine w5 ?_ | refine w6 ?_ | refine w7 ?_ | refine yo0 ?_ ?_ | refine yw0 ?_ ?_ | exact qq | fail)
      refine kretv rfl ⟨Nat.zero_lt_one, trivial, trivial⟩ rfl ?_
      rw [lastS', if_neg h, hf]; rfl
    | some p =>
      have c1 := findPast_s l s hl hf
      have hp := hb p (findPa_mem hf)
      have hw : IntKind.i64.wrap (n - 1) = n - 1 := w64 (by omega) (by omega)
      repeat' (first | refine yo ?_ ?_ | refine yw ?_ ?_ | refine yk ?_ ?_ | exact trivial | with_reducible refine wA ?_ ?_ | refine ys ?_ ?_ | refine xs_done ?_ | refine yl ?_ ?_ | (refine pop_callc [] rfl rfl rfl rfl rfl rfl (fun _ h => by cases h) (c1) (args_cl _ rfl) ?_; rintro _ rfl) | refine w8 ?_ | refine w9 ?_ | refine w1 ?_ | refine w2 ?_ | refine w3 ?_ | refine w4 ?_ | refine w5 ?_ | refine w6 ?_ | refine w7 ?_ | refine yo0 ?_ ?_ | refine yw0 ?_ ?_ | exact qq | fail)
      refine pcond (b := decide ((p.k : Int) < n)) (eqB rfl) ?_ ?_ <;> intro h2
      · have h2 := of_decide_eq_true h2
        repeat' (first | refine yo ?_ ?_ | refine yw ?_ ?_ | refine yk ?_ ?_ | exact trivial | with_reducible refine wA ?_ ?_ | refine ys ?_ ?_ | refine xs_done ?_ | refine yl ?_ ?_ | refine w8 ?_ | refine w9 ?_ | refine w1 ?_ | refine w2 ?_ | refine w3 ?_ | refine w4 ?_ | refine w5 ?_ | refine w6 ?_ | refine w7 ?_ | refine yo0 ?_ ?_ | refine yw0 ?_ ?_ | exact qq | fail)
        refine kretv rfl ⟨Nat.zero_lt_one, trivial, trivial⟩ rfl ?_
        rw [lastS', if_neg h, hf]
        show _ = vRE (if (p.k : Int) < n then _ else _)
        rw [if_pos h2]; rfl
      · have h2 := of_decide_eq_false h2
        have hn1 : (n - 1).toNat = n.toNat - 1 := by omega
        have hv := hp.v (n.toNat - 1) (by omega)
        rw [← hn1] at hv
        have c2 := ratioValid_c (p.f (n - 1).toNat).1 (p.f (n - 1).toNat).2 hv.1 hv.2
        rw [← hw] at c2
        repeat' (first | refine yo ?_ ?_ | refine yw ?_ ?_ | refine yk ?_ ?_ | exact trivial | with_reducible refine wA ?_ ?_ | refine ys ?_ ?_ | refine xs_done ?_ | refine yl ?_ ?_ | refine z1 c2 ?_ | refine z2 c2 ?_ | refine z3 c2 ?_ | refine z4 c2 ?_ | refine z5 c2 ?_ | refine w8 ?_ | refine w9 ?_ | refine w1 ?_ | refine w2 ?_ | refine w3 ?_ | refine w4 ?_ | refine w5 ?_ | refine w6 ?_ | refine w7 ?_ | refine yo0 ?_ ?_ | refine yw0 ?_ ?_ | exact qq | fail)
        refine pcond rfl ?_ ?_ <;> intro h3
        · have h3 := nv_t h3
          rw [hw, hn1] at h3
          repeat' (first | refine yo ?_ ?_ | refine yw ?_ ?_ | refine yk ?_ ?_ | exact trivial | with_reducible refine wA ?_ ?_ | refine ys ?_ ?_ | refine xs_done ?_ | refine yl ?_ ?_ | refine w8 ?_ | refine w9 ?_ | refine w1 ?_ | refine w2 ?_ | refine w3 ?_ | refine w4 ?_ | refine w5 ?_ | refine w6 ?_ | refine w7 ?_ | refine yo0 ?_ ?_ | refine yw0 ?_ ?_ | exact qq | fail)
          refine kretv rfl ⟨Nat.zero_lt_one, trivial, trivial⟩ rfl ?_
          rw [lastS', if_neg h, hf]
          show _ = vRE (if (p.k : Int) < n then _ else if _ then _ else _)
          rw [if_neg h2, if_neg (by rw [h3]; decide)]; rfl
        · have h3 := nv_f h3
          rw [hw, hn1] at h3
          repeat' (first | refine yo ?_ ?_ | refine yw ?_ ?_ | refine yk ?_ ?_ | exact trivial | with_reducible refine wA ?_ ?_ | refine ys ?_ ?_ | refine xs_done ?_ | refine yl ?_ ?_ | refine w8 ?_ | refine w9 ?_ | refine w1 ?_ | refine w2 ?_ | refine w3 ?_ | refine w4 ?_ | refine w5 ?_ | refine w6 ?_ | refine w7 ?_ | refine yo0 ?_ ?_ | refine yw0 ?_ ?_ | exact qq | fail)
          refine kretv rfl ⟨Nat.zero_lt_one, trivial, trivial⟩ rfl ?_
          rw [lastS', if_neg h, hf]
          show _ = vRE (if (p.k : Int) < n then _ else if _ then _ else _)
          rw [if_neg h2, if_pos h3, hw, hn1]; rfl
end Go.Proofs.YtcghpepighboaaaDoor
