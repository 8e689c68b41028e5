/- Plain: values in another measure of hours. -/
import Derived.Test.YtcghpepighboaaaDoorVe0
set_option linter.unusedSimpArgs false
set_option linter.unusedVariables false
namespace Go.Proofs.YtcghpepighboaaaDoor
def p2 (k : Int) : Int := 2 ^ k.toNat
def q2 (k : Int) : Int := 2 ^ (-k).toNat
theorem p2_pos (k : Int) : 0 < p2 k := Int.pow_pos (by decide)
theorem q2_pos (k : Int) : 0 < q2 k := Int.pow_pos (by decide)
theorem pq_add (j k : Int) : p2 (j + k) * (q2 j * q2 k) = q2 (j + k) * (p2 j * p2 k) := by
  unfold p2 q2
  rw [← Int.pow_add, ← Int.pow_add, ← Int.pow_add, ← Int.pow_add]
  congr 1; omega
theorem pq_sub (j k : Int) : p2 (j - k) * (q2 j * p2 k) = q2 (j - k) * (p2 j * q2 k) := by
  unfold p2 q2
  rw [← Int.pow_add, ← Int.pow_add, ← Int.pow_add, ← Int.pow_add]
  congr 1; omega
def Vs (k : Int) (r r' : Int × Int) : Prop := r'.1 * r.2 * q2 k = r.1 * r'.2 * p2 k
def ScR (k : Int) (r r' : RE) : Prop := r.2 ≠ 4 → r'.2 ≠ 4 → r.2 = r'.2 ∧ (r.2 = 0 → okR r.1.1 r.1.2 = true ∧ okR r'.1.1 r'.1.2 = true ∧ Vs k r.1 r'.1)
theorem vs_zero {x y : Int × Int} (hx : okR x.1 x.2 = true) (hy : okR y.1 y.2 = true) (h : Vs 0 x y) : y = x := by
  have h : y.1 * x.2 * 1 = x.1 * y.2 * 1 := h
  obtain ⟨b1, _, _, _⟩ := okR_bd hx
  have e := newS_to (n := y.1) (d := y.2) (a := x.1) (b := x.2) (by have := okR_bd hy; omega) hx (by omega)
  rw [newS_of_ok hy] at e
  simp only [Prod.mk.injEq, and_true] at e
  exact Prod.ext e.1 e.2
theorem vs_refl (x : Int × Int) : Vs 0 x x := rfl
theorem vs_iff0 {k : Int} {x y : Int × Int} (hx : okR x.1 x.2 = true) (hy : okR y.1 y.2 = true) (h : Vs k x y) : x.1 = 0 ↔ y.1 = 0 := by
  have hp := p2_pos k
  have hq := q2_pos k
  have b1 := (okR_bd hx).1
  have b2 := (okR_bd hy).1
  unfold Vs at h
  constructor
  · intro h0
    rw [h0, Int.zero_mul, Int.zero_mul] at h
    rcases Int.mul_eq_zero.1 h with h | h
    · rcases Int.mul_eq_zero.1 h with h | h
      · exact h
      · omega
    · omega
  · intro h0
    rw [h0, Int.zero_mul, Int.zero_mul] at h
    rcases Int.mul_eq_zero.1 h.symm with h | h
    · rcases Int.mul_eq_zero.1 h with h | h
      · exact h
      · omega
    · omega
theorem sc_new {n d n' d' k : Int} (hd : 0 < d) (hd' : 0 < d') (h : n' * d * q2 k = n * d' * p2 k) : ScR k (newS n d) (newS n' d') := by
  intro h1 h2
  rcases newS_cases hd with e | ⟨a, b, e, ho, hq⟩
  · rw [e] at h1; exact absurd rfl h1
  rcases newS_cases hd' with e' | ⟨a', b', e', ho', hq'⟩
  · rw [e'] at h2; exact absurd rfl h2
  rw [e, e']
  refine ⟨rfl, fun _ => ⟨ho, ho', ?_⟩⟩
  show a' * b * q2 k = a * b' * p2 k
  have e3 : a' * b * q2 k * (d * d') = a * b' * p2 k * (d * d') := by grind
  exact Int.eq_of_mul_eq_mul_right (Int.mul_ne_zero (by omega) (by omega)) e3
theorem sc_new' {n d n' d' k : Int} (hd : d ≠ 0) (hd' : d' ≠ 0) (h : n' * d * q2 k = n * d' * p2 k) : ScR k (newS n d) (newS n' d') := by
  rcases Int.lt_or_gt_of_ne hd with g | g <;> rcases Int.lt_or_gt_of_ne hd' with g' | g'
  · rw [newS_neg g, newS_neg g']; exact sc_new (by omega) (by omega) (by grind)
  · rw [newS_neg g]; exact sc_new (by omega) (by omega) (by grind)
  · rw [newS_neg g']; exact sc_new (by omega) (by omega) (by grind)
  · exact sc_new g g' h
theorem divR_eq {a b c d : Int} (h1 : okR a b = true) (h2 : okR c d = true) : divR a b c d = if c = 0 then ((0, 0), 5) else newS (a * d) (b * c) := by
  unfold divR; rw [if_pos (by rw [h1, h2]; rfl)]
theorem cmpR_eq {a b c d : Int} (h1 : okR a b = true) (h2 : okR c d = true) : cmpR a b c d = if a * d < c * b then -1 else if c * b < a * d then 1 else 0 := by
  unfold cmpR; rw [if_pos (by rw [h1, h2]; rfl)]
theorem roundR_eq {a b c d : Int} (mode : Int) (h1 : okR a b = true) (h2 : okR c d = true) : roundR a b c d mode = if c ≤ 0 ∨ modeB mode = false then ((0, 0), 2) else newS (rndS (a * d) (b * c) mode * c) d := by
  unfold roundR; rw [if_pos (by rw [h1, h2]; rfl)]
theorem mul_pos2 {a b : Int} (h1 : 1 ≤ a) (h2 : 1 ≤ b) : 0 < a * b := Int.mul_pos (by omega) (by omega)
theorem sc_add {k : Int} {x x' y y' : Int × Int} (hx : okR x.1 x.2 = true) (hx' : okR x'.1 x'.2 = true) (hy : okR y.1 y.2 = true) (hy' : okR y'.1 y'.2 = true) (h1 : Vs k x x') (h2 : Vs k y y') : ScR k (addR x.1 x.2 y.1 y.2) (addR x'.1 x'.2 y'.1 y'.2) := by
  unfold addR
  rw [if_pos (by rw [hx, hy]; rfl), if_pos (by rw [hx', hy']; rfl)]
  unfold Vs at h1 h2
  exact sc_new (mul_pos2 (okR_bd hx).1 (okR_bd hy).1) (mul_pos2 (okR_bd hx').1 (okR_bd hy').1) (by grind)
theorem sc_sub {k : Int} {x x' y y' : Int × Int} (hx : okR x.1 x.2 = true) (hx' : okR x'.1 x'.2 = true) (hy : okR y.1 y.2 = true) (hy' : okR y'.1 y'.2 = true) (h1 : Vs k x x') (h2 : Vs k y y') : ScR k (subR x.1 x.2 y.1 y.2) (subR x'.1 x'.2 y'.1 y'.2) := by
  unfold subR
  rw [if_pos (by rw [hx, hy]; rfl), if_pos (by rw [hx', hy']; rfl)]
  unfold Vs at h1 h2
  exact sc_new (mul_pos2 (okR_bd hx).1 (okR_bd hy).1) (mul_pos2 (okR_bd hx').1 (okR_bd hy').1) (by grind)
theorem sc_mul {j k : Int} {x x' y y' : Int × Int} (hx : okR x.1 x.2 = true) (hx' : okR x'.1 x'.2 = true) (hy : okR y.1 y.2 = true) (hy' : okR y'.1 y'.2 = true) (h1 : Vs j x x') (h2 : Vs k y y') : ScR (j + k) (mulR x.1 x.2 y.1 y.2) (mulR x'.1 x'.2 y'.1 y'.2) := by
  unfold mulR
  rw [if_pos (by rw [hx, hy]; rfl), if_pos (by rw [hx', hy']; rfl)]
  unfold Vs at h1 h2
  refine sc_new (mul_pos2 (okR_bd hx).1 (okR_bd hy).1) (mul_pos2 (okR_bd hx').1 (okR_bd hy').1) ?_
  have e := pq_add j k
  have n1 := q2_pos j
  have n2 := q2_pos k
  generalize p2 (j + k) = pp at *
  generalize q2 (j + k) = qq' at *
  have e3 : x'.1 * y'.1 * (x.2 * y.2) * qq' * (q2 j * q2 k) = x.1 * y.1 * (x'.2 * y'.2) * pp * (q2 j * q2 k) := by grind
  exact Int.eq_of_mul_eq_mul_right (Int.mul_ne_zero (by omega) (by omega)) e3
theorem sc_div {j k : Int} {x x' y y' : Int × Int} (hx : okR x.1 x.2 = true) (hx' : okR x'.1 x'.2 = true) (hy : okR y.1 y.2 = true) (hy' : okR y'.1 y'.2 = true) (h1 : Vs j x x') (h2 : Vs k y y') : ScR (j - k) (divR x.1 x.2 y.1 y.2) (divR x'.1 x'.2 y'.1 y'.2) := by
  rw [divR_eq hx hy, divR_eq hx' hy']
  have h0 := vs_iff0 hy hy' h2
  by_cases hc : y.1 = 0
  · rw [if_pos hc, if_pos (h0.1 hc)]
    exact fun _ _ => ⟨rfl, fun h => absurd h (by decide)⟩
  rw [if_neg hc, if_neg fun h => hc (h0.2 h)]
  unfold Vs at h1 h2
  have b1 := (okR_bd hx).1
  have b2 := (okR_bd hx').1
  refine sc_new' (Int.mul_ne_zero (by omega) hc) (Int.mul_ne_zero (by omega) fun h => hc (h0.2 h)) ?_
  have e := pq_sub j k
  have n1 := q2_pos j
  have n2 := p2_pos k
  generalize p2 (j - k) = pp at *
  generalize q2 (j - k) = qq' at *
  have e3 : x'.1 * y'.2 * (x.2 * y.1) * qq' * (q2 j * p2 k) = x.1 * y.2 * (x'.2 * y'.1) * pp * (q2 j * p2 k) := by grind
  exact Int.eq_of_mul_eq_mul_right (Int.mul_ne_zero (by omega) (by omega)) e3
theorem sgn_eq {X Y m l : Int} (hm : 0 < m) (hl : 0 < l) (h : X * m = Y * l) : (X < 0 ↔ Y < 0) ∧ (0 < X ↔ 0 < Y) := by
  have key : ∀ {X Y m l : Int}, 0 < m → 0 < l → X * m = Y * l → X < 0 → Y < 0 := fun {X Y m l} hm hl h hX => by
    have := Int.mul_neg_of_neg_of_pos hX hm
    rw [h] at this
    exact Int.not_le.1 fun hY => absurd (Int.mul_nonneg hY (Int.le_of_lt hl)) (by omega)
  refine ⟨⟨key hm hl h, key hl hm h.symm⟩, fun hX => ?_, fun hY => ?_⟩
  · have := key (X := -X) (Y := -Y) hm hl (by rw [Int.neg_mul, Int.neg_mul, h]) (by omega); omega
  · have := key (X := -Y) (Y := -X) hl hm (by rw [Int.neg_mul, Int.neg_mul, h]) (by omega); omega
theorem cmp_vs {k : Int} {x x' y y' : Int × Int} (hx : okR x.1 x.2 = true) (hx' : okR x'.1 x'.2 = true) (hy : okR y.1 y.2 = true) (hy' : okR y'.1 y'.2 = true) (h1 : Vs k x x') (h2 : Vs k y y') : cmpR x'.1 x'.2 y'.1 y'.2 = cmpR x.1 x.2 y.1 y.2 := by
  rw [cmpR_eq hx' hy', cmpR_eq hx hy]
  unfold Vs at h1 h2
  have m1 := mul_pos2 (okR_bd hx).1 (okR_bd hy).1
  have m2 := mul_pos2 (okR_bd hx').1 (okR_bd hy').1
  have e : (x'.1 * y'.2 - y'.1 * x'.2) * (x.2 * y.2 * q2 k) = (x.1 * y.2 - y.1 * x.2) * (x'.2 * y'.2 * p2 k) := by grind
  obtain ⟨s1, s2⟩ := sgn_eq (Int.mul_pos m1 (q2_pos k)) (Int.mul_pos m2 (p2_pos k)) e
  by_cases c1 : x.1 * y.2 < y.1 * x.2
  · rw [if_pos c1, if_pos (by omega)]
  · rw [if_neg c1, if_neg (by omega)]
    by_cases c2 : y.1 * x.2 < x.1 * y.2
    · rw [if_pos c2, if_pos (by omega)]
    · rw [if_neg c2, if_neg (by omega)]
theorem sc_round {k : Int} {x x' y y' : Int × Int} (mode : Int) (hx : okR x.1 x.2 = true) (hx' : okR x'.1 x'.2 = true) (hy : okR y.1 y.2 = true) (hy' : okR y'.1 y'.2 = true) (h1 : Vs k x x') (h2 : Vs k y y') : ScR k (roundR x.1 x.2 y.1 y.2 mode) (roundR x'.1 x'.2 y'.1 y'.2 mode) := by
  rw [roundR_eq mode hx hy, roundR_eq mode hx' hy']
  unfold Vs at h1 h2
  have b1 := (okR_bd hx).1
  have b2 := (okR_bd hx').1
  have b3 := (okR_bd hy).1
  have b4 := (okR_bd hy').1
  have np := p2_pos k
  have nq := q2_pos k
  have hs : y.1 ≤ 0 ↔ y'.1 ≤ 0 := by
    have := (sgn_eq (X := y'.1) (Y := y.1) (m := y.2 * q2 k) (l := y'.2 * p2 k) (Int.mul_pos (by omega) nq) (Int.mul_pos (by omega) np) (by grind)).2
    omega
  by_cases hc : y.1 ≤ 0 ∨ modeB mode = false
  · rw [if_pos hc, if_pos (by rcases hc with h | h; exact .inl (hs.1 h); exact .inr h)]
    exact fun _ _ => ⟨rfl, fun h => absurd h (by decide)⟩
  rw [if_neg hc, if_neg (fun h => hc (by rcases h with h | h; exact .inl (hs.2 h); exact .inr h))]
  have hy0 : 0 < y.1 := by omega
  have hy0' : 0 < y'.1 := by omega
  have er : rndS (x'.1 * y'.2) (x'.2 * y'.1) mode = rndS (x.1 * y.2) (x.2 * y.1) mode := by
    refine rndS_cong mode (mul_pos2 b2 (by omega)) (mul_pos2 b1 (by omega)) ?_
    have e3 : x'.1 * y'.2 * (x.2 * y.1) * (q2 k * p2 k) = x.1 * y.2 * (x'.2 * y'.1) * (q2 k * p2 k) := by grind
    exact Int.eq_of_mul_eq_mul_right (Int.mul_ne_zero (by omega) (by omega)) e3
  rw [er]
  exact sc_new (by omega) (by omega) (by grind)
theorem sc_neg {k : Int} {x x' : Int × Int} (hx : okR x.1 x.2 = true) (hx' : okR x'.1 x'.2 = true) (h1 : Vs k x x') : ScR k (negR x.1 x.2) (negR x'.1 x'.2) := by
  have o1 := negR_ok x.1 x.2
  have o2 := negR_ok x'.1 x'.2
  unfold negR at *
  rw [if_pos hx] at *
  rw [if_pos hx'] at *
  refine fun _ _ => ⟨rfl, fun _ => ⟨o1 rfl, o2 rfl, ?_⟩⟩
  unfold Vs at *
  show -x'.1 * x.2 * q2 k = -x.1 * x'.2 * p2 k
  grind
theorem sc_err (k : Int) (e : Int) (he : e ≠ 0) : ScR k ((0, 0), e) ((0, 0), e) := fun _ _ => ⟨rfl, fun h => absurd h he⟩
theorem sc_same {x : RE} (h : OkE x) : ScR 0 x x := fun _ _ => ⟨rfl, fun h0 => ⟨h h0, h h0, vs_refl _⟩⟩
theorem sc_val {k : Int} {x x' : Int × Int} (hx : okR x.1 x.2 = true) (hx' : okR x'.1 x'.2 = true) (h1 : Vs k x x') : ScR k (x, 0) (x', 0) := fun _ _ => ⟨rfl, fun _ => ⟨hx, hx', h1⟩⟩
theorem sc_if {k0 k : Int} {x x' F F' : RE} (h : ScR k0 x x') (hF : x.2 = 0 → x'.2 = 0 → okR x.1.1 x.1.2 = true → okR x'.1.1 x'.1.2 = true → Vs k0 x.1 x'.1 → ScR k F F') : ScR k (if x.2 ≠ 0 then ((0, 0), x.2) else F) (if x'.2 ≠ 0 then ((0, 0), x'.2) else F') := by
  by_cases h1 : x.2 = 0 <;> by_cases h2 : x'.2 = 0
  · rw [if_neg (by simp [h1]), if_neg (by simp [h2])]
    obtain ⟨_, b⟩ := h (by rw [h1]; decide) (by rw [h2]; decide)
    obtain ⟨c, d, e⟩ := b h1
    exact hF h1 h2 c d e
  · rw [if_neg (by simp [h1]), if_pos h2]
    intro a b
    have := (h (by rw [h1]; decide) b).1
    exact absurd (this.symm.trans h1) h2
  · rw [if_pos h1, if_neg (by simp [h2])]
    intro a b
    have := (h a (by rw [h2]; decide)).1
    exact absurd (this.trans h2) h1
  · rw [if_pos h1, if_pos h2]
    intro a b
    exact ⟨(h a b).1, fun h0 => absurd h0 h1⟩
end Go.Proofs.YtcghpepighboaaaDoor
