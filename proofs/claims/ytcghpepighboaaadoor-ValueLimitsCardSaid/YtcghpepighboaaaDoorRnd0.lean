/- Plain: rounding. -/
import Derived.Test.YtcghpepighboaaaDoorRat0
set_option linter.unusedSimpArgs false
set_option linter.unusedVariables false
namespace Go.Proofs.YtcghpepighboaaaDoor

/-- is a number strictly between low and low + 1 rounded to low + 1? s: -1, 0, 1: nearer to low, in the middle, nearer to low + 1 -/
def upS (low s : Int) (pos : Bool) (mode : Int) : Bool :=
  if mode = 0 then !pos else if mode = 1 then pos else if mode = 2 then false else if mode = 3 then true
  else if s ≠ 0 then decide (0 < s) else if mode = 4 then pos else if mode = 5 then !pos else decide (low % 2 ≠ 0)
def cmpS (a b : Int) : Int := if a < b then -1 else if b < a then 1 else 0
/-- n / d, rounded; d is positive -/
def rndS (n d mode : Int) : Int :=
  if n % d = 0 then n / d else if upS (n / d) (cmpS (n % d) (d - n % d)) (decide (0 < n)) mode then n / d + 1 else n / d
def modeB (m : Int) : Bool := decide (0 ≤ m ∧ m ≤ 6)

theorem tmod_mod (v n : Int) (hn : 1 ≤ n) : (v.tmod n < 0 → v.tmod n + n = v % n) ∧ (0 ≤ v.tmod n → v.tmod n = v % n) ∧ -n < v.tmod n ∧ v.tmod n < n := by
  have h1 := Int.tmod_eq_emod (a := v) (b := n)
  have h2 := Int.emod_nonneg v (show n ≠ 0 by omega)
  have h3 := Int.emod_lt_of_pos v (show 0 < n by omega)
  have h4 : (n.natAbs : Int) = n := by omega
  split at h1 <;> omega
/-- Go's quotient and remainder, against Lean's -/
theorem tdiv_floor (n d : Int) (hd : 1 ≤ d) : (n.tmod d < 0 → n.tdiv d - 1 = n / d ∧ n.tmod d + d = n % d) ∧ (0 ≤ n.tmod d → n.tdiv d = n / d ∧ n.tmod d = n % d) := by
  have h1 := Int.tmod_add_mul_tdiv n d
  have h2 := Int.emod_add_mul_ediv n d
  obtain ⟨t1, t2, t3, t4⟩ := tmod_mod n d hd
  refine ⟨fun h => ?_, fun h => ?_⟩
  · have e := t1 h
    refine ⟨?_, e⟩
    have : d * (n.tdiv d - 1) = d * (n / d) := by
      rw [Int.mul_sub]; omega
    exact Int.eq_of_mul_eq_mul_left (by omega) this
  · have e := t2 h
    refine ⟨?_, e⟩
    have : d * n.tdiv d = d * (n / d) := by omega
    exact Int.eq_of_mul_eq_mul_left (by omega) this
theorem ediv_bd {n d : Int} (h1 : 1 ≤ d) (h3 : -1000000000000000000 ≤ n) (h4 : n ≤ 1000000000000000000) : (-1000000000000000000 ≤ n / d ∧ n / d ≤ 1000000000000000000) ∧ 0 ≤ n % d ∧ n % d < d := by
  refine ⟨⟨?_, ?_⟩, Int.emod_nonneg n (by omega), Int.emod_lt_of_pos n (by omega)⟩
  · exact Int.le_ediv_of_mul_le (by omega) (by have : (-1000000000000000000 : Int) * d ≤ -1000000000000000000 * 1 := by omega
                                               omega)
  · exact Int.ediv_le_of_le_mul (by omega) (by have : (1000000000000000000 : Int) * 1 ≤ 1000000000000000000 * d := by omega
                                               omega)
theorem rndS_two (n d m : Int) : rndS n d m = n / d ∨ (rndS n d m = n / d + 1 ∧ n % d ≠ 0) := by
  unfold rndS
  split
  · exact .inl rfl
  · split
    · exact .inr ⟨rfl, by assumption⟩
    · exact .inl rfl
/-- the rounded multiple lies near -/
theorem rndS_near (n d m : Int) (hd : 1 ≤ d) : n - d < rndS n d m * d ∧ rndS n d m * d < n + d := by
  have h2 := Int.emod_add_mul_ediv n d
  have h3 := Int.emod_nonneg n (show d ≠ 0 by omega)
  have h4 := Int.emod_lt_of_pos n (show 0 < d by omega)
  rw [Int.mul_comm] at h2
  rcases rndS_two n d m with e | ⟨e, hne⟩
  · rw [e]; omega
  · rw [e, Int.add_mul]; omega
theorem abs_mul_le {q b c : Int} (hb : 1 ≤ b) (hc : 1 ≤ c) {M : Int} (h1 : -M ≤ q * (b * c)) (h2 : q * (b * c) ≤ M) : -M ≤ q * c ∧ q * c ≤ M := by
  have e : q * (b * c) = (q * c) * b := by rw [Int.mul_comm b c, Int.mul_assoc]
  rw [e] at h1 h2
  have hM : 0 ≤ M := by omega
  generalize q * c = x at h1 h2
  by_cases hx : 0 ≤ x
  · have : x * 1 ≤ x * b := Int.mul_le_mul_of_nonneg_left hb hx
    omega
  · have : x * b ≤ x * 1 := Int.mul_le_mul_of_nonpos_left (by omega) hb
    omega
theorem fitG_bd (neg : Bool) (n m g : Int) (h1 : 0 ≤ n) (hg : 0 ≤ g) : -1000000000000 ≤ (fitG neg n m g).1.1 ∧ (fitG neg n m g).1.1 ≤ 1000000000000 := by
  have := Int.ediv_nonneg h1 hg
  unfold fitG
  split
  · simp
  · cases neg <;> simp <;> omega
theorem newS_bd (n d : Int) : -1000000000000 ≤ (newS n d).1.1 ∧ (newS n d).1.1 ≤ 1000000000000 := by
  unfold newS
  split
  · simp
  · exact fitG_bd _ _ _ _ (by omega) (by omega)
theorem addR_bd (a b c d : Int) : -1000000000000 ≤ (addR a b c d).1.1 ∧ (addR a b c d).1.1 ≤ 1000000000000 := by
  unfold addR; split
  · exact newS_bd _ _
  · simp
theorem subR_bd (a b c d : Int) : -1000000000000 ≤ (subR a b c d).1.1 ∧ (subR a b c d).1.1 ≤ 1000000000000 := by
  unfold subR; split
  · exact newS_bd _ _
  · simp
/-- rounding of fractions -/
def roundR (a b c d mode : Int) : RE :=
  if okR a b && okR c d then (if c ≤ 0 ∨ modeB mode = false then ((0, 0), 2) else newS (rndS (a * d) (b * c) mode * c) d) else ((0, 0), 1)
def centsR (a b mode : Int) : Int × Int := let x := roundR a b 1 1 mode; if x.2 = 0 then (x.1.1, 0) else (0, x.2)
def partR (amount num den unit mode : Int) : Int × Int :=
  if amount < -1000000000000 ∨ 1000000000000 < amount ∨ num < 0 ∨ 1000000 < num ∨ den < 1 ∨ 1000000 < den ∨ unit < 1 ∨ 1000000 < unit ∨ modeB mode = false then (0, 2)
  else let x := rndS (amount * num) (den * unit) mode * unit; if x < -1000000000000 ∨ 1000000000000 < x then (0, 4) else (x, 0)
def carryR (ra rb a b c d mode : Int) : (Int × Int) × (Int × Int) × Int :=
  let s := addR ra rb a b
  if s.2 ≠ 0 then ((0, 0), (0, 0), s.2) else
  let p := roundR s.1.1 s.1.2 c d mode
  if p.2 ≠ 0 then ((0, 0), (0, 0), p.2) else
  let l := subR s.1.1 s.1.2 p.1.1 p.1.2
  if l.2 ≠ 0 then ((0, 0), (0, 0), l.2) else (p.1, l.1, 0)
theorem roundR_bd (a b c d m : Int) : -1000000000000 ≤ (roundR a b c d m).1.1 ∧ (roundR a b c d m).1.1 ≤ 1000000000000 := by
  unfold roundR; split
  · split
    · simp
    · exact newS_bd _ _
  · simp
theorem newS_err (n d : Int) (h : (newS n d).2 ≠ 0) : (newS n d).1 = (0, 0) := by
  unfold newS at *
  split at h
  · rename_i h0; rw [if_pos h0]
  · rename_i h0
    rw [if_neg h0]
    unfold fitS fitG at *
    split at h
    · rename_i h1; rw [if_pos h1]
    · simp at h
theorem roundR_err (a b c d m : Int) (h : (roundR a b c d m).2 ≠ 0) : (roundR a b c d m).1 = (0, 0) := by
  unfold roundR at *
  split at h
  · rename_i h0
    rw [if_pos h0]
    split at h
    · rename_i h1; rw [if_pos h1]
    · rename_i h1; rw [if_neg h1]; exact newS_err _ _ h
  · rename_i h0; rw [if_neg h0]
abbrev vIE (r : Int × Int) : PV := .tup 2 (nthP [vi r.1, vi r.2])
abbrev vCE (r : (Int × Int) × (Int × Int) × Int) : PV := .tup 3 (nthP [vr r.1.1 r.1.2, vr r.2.1.1 r.2.1.2, vi r.2.2])
end Go.Proofs.YtcghpepighboaaaDoor
