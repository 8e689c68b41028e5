/- Plain: schemes and levies. -/
import Derived.Test.YtpfpikpioidldaaNam
import Derived.Test.YtpfpikpioidldaaAlr
set_option linter.unusedSimpArgs false
set_option linter.unusedVariables false
namespace Go.Proofs.Ytpfpikpioidldaa
structure Sch where
  code : ByteArray
  ee : Int
  er : Int
  fl : Int
  ce : Int
  un : Int
  mo : Int
  de : Bool
abbrev vS (x : Sch) : PV := .agg 8 (nthP [vs x.code, vi x.ee, vi x.er, vi x.fl, vi x.ce, vi x.un, vi x.mo, vb x.de])
structure SOk (x : Sch) : Prop where
  name : nameS x.code = true
  ee0 : 0 ≤ x.ee
  ee1 : x.ee ≤ 1000000
  er0 : 0 ≤ x.er
  er1 : x.er ≤ 1000000
  ce0 : 1 ≤ x.ce
  ce1 : x.ce ≤ 1000000000
  fl0 : 0 ≤ x.fl
  fl1 : x.fl ≤ x.ce
  un0 : 1 ≤ x.un
  un1 : x.un ≤ 100
  mo0 : 0 ≤ x.mo
  mo1 : x.mo ≤ 6
def valS (x : Sch) : Bool := nameS x.code && decide (0 ≤ x.ee ∧ x.ee ≤ 1000000 ∧ 0 ≤ x.er ∧ x.er ≤ 1000000 ∧ 1 ≤ x.ce ∧ x.ce ≤ 1000000000 ∧ 0 ≤ x.fl ∧ x.fl ≤ x.ce ∧ 1 ≤ x.un ∧ x.un ≤ 100 ∧ 0 ≤ x.mo ∧ x.mo ≤ 6)
theorem valS_iff {x : Sch} : valS x = true ↔ SOk x := by
  constructor
  · intro h
    simp only [valS, Bool.and_eq_true, decide_eq_true_eq] at h
    obtain ⟨h0, h1, h2, h3, h4, h5, h6, h7, h8, h9, h10, h11, h12⟩ := h
    exact ⟨h0, h1, h2, h3, h4, h5, h6, h7, h8, h9, h10, h11, h12⟩
  · rintro ⟨h0, h1, h2, h3, h4, h5, h6, h7, h8, h9, h10, h11, h12⟩
    simp only [valS, Bool.and_eq_true, decide_eq_true_eq]
    exact ⟨h0, h1, h2, h3, h4, h5, h6, h7, h8, h9, h10, h11, h12⟩
abbrev L3 := Int × Int × Int
abbrev vL (l : L3) : PV := .agg 3 (nthP [vi l.1, vi l.2.1, vi l.2.2])
abbrev vLE (r : L3 × Int) : PV := .tup 2 (nthP [vL r.1, vi r.2])
def PT (x : Sch) (rate b : Int) : Int := rndS (b * rate) (1000000 * x.un) x.mo * x.un
theorem PT_ok {x : Sch} (h : SOk x) {rate b : Int} (r0 : 0 ≤ rate) (r1 : rate ≤ 1000000) (b0 : 0 ≤ b) (b1 : b ≤ 100000000000) :
    partR b rate 1000000 x.un x.mo = (PT x rate b, 0) ∧ 0 ≤ PT x rate b ∧ PT x rate b < b + x.un := by
  have u0 := h.un0
  have u1 := h.un1
  have hm : modeB x.mo = true := by have := h.mo0; have := h.mo1; simp [modeB]; omega
  have hd : 1 ≤ 1000000 * x.un := by omega
  have hn := rndS_near (b * rate) (1000000 * x.un) x.mo hd
  have hb : 0 ≤ b * rate := Int.mul_nonneg b0 r0
  have hb2 : b * rate ≤ b * 1000000 := Int.mul_le_mul_of_nonneg_left r1 b0
  have e : rndS (b * rate) (1000000 * x.un) x.mo * (1000000 * x.un) = PT x rate b * 1000000 := by
    unfold PT; rw [Int.mul_comm 1000000 x.un, Int.mul_assoc]
  rw [e] at hn
  have hlt : PT x rate b < b + x.un := by omega
  have h0 : 0 ≤ PT x rate b := by
    have : -x.un < PT x rate b := by omega
    unfold PT at this ⊢
    have : -1 < rndS (b * rate) (1000000 * x.un) x.mo := by
      apply Int.not_le.1
      intro hle
      have := Int.mul_le_mul_of_nonneg_right hle (show 0 ≤ x.un by omega)
      omega
    exact Int.mul_nonneg (by omega) (by omega)
  refine ⟨?_, h0, hlt⟩
  unfold partR
  rw [if_neg (by rw [hm]; simp; omega)]
  show (if PT x rate b < -1000000000000 ∨ 1000000000000 < PT x rate b then _ else (PT x rate b, 0)) = _
  rw [if_neg (by omega)]
/-- the levy of insured earnings -/
def lvS (x : Sch) (b : Int) : L3 := (b, PT x x.ee b, PT x x.er b)
def insS (x : Sch) (b : Int) : Int := if b < x.fl then 0 else if x.ce < b then x.ce else b
def oneS (x : Sch) (b : Int) : L3 × Int := if valS x = false then ((0, 0, 0), 1) else if b < 0 ∨ 1000000000 < b then ((0, 0, 0), 2) else (lvS x (insS x b), 0)
def cumT (x : Sch) (g : Nat → Int) (i : Nat) : Int := if x.fl ≤ g i then g i else 0
def cumS (x : Sch) (n : Nat) (g : Nat → Int) : Int := if sumN n (cumT x g) < n * x.ce then sumN n (cumT x g) else n * x.ce
def subL (a b : L3) : L3 := (a.1 - b.1, a.2.1 - b.2.1, a.2.2 - b.2.2)
/-- the levy of the last one of n periods -/
def lstS (x : Sch) (n : Nat) (g : Nat → Int) : L3 := subL (lvS x (cumS x n g)) (lvS x (cumS x (n - 1) g))
def nxtS (x : Sch) (n : Nat) (g : Nat → Int) (b : Int) : L3 × Int :=
  if valS x = false then ((0, 0, 0), 1) else if 53 ≤ n then ((0, 0, 0), 3) else if okW (n + 1) (snocF n g b) = false then ((0, 0, 0), 2) else (lstS x (n + 1) (snocF n g b), 0)
theorem ins_bd {x : Sch} (h : SOk x) {b : Int} (b0 : 0 ≤ b) : 0 ≤ insS x b ∧ insS x b ≤ x.ce := by
  have := h.ce0
  unfold insS; split
  · omega
  · split <;> omega
theorem cum_bd {x : Sch} (h : SOk x) {n : Nat} {g : Nat → Int} (hn : n ≤ 60) (h0 : ∀ i, i < n → 0 ≤ g i ∧ g i ≤ 10000000000) : 0 ≤ cumS x n g ∧ cumS x n g ≤ 60000000000 ∧ 0 ≤ sumN n (cumT x g) ∧ sumN n (cumT x g) ≤ 600000000000 ∧ 0 ≤ (n : Int) * x.ce ∧ (n : Int) * x.ce ≤ 60000000000 := by
  have c0 := h.ce0
  have c1 := h.ce1
  have h1 := sumN_nonneg (n := n) (f := cumT x g) fun i hi => by unfold cumT; have := h0 i hi; split <;> omega
  have h2 := sumN_le (n := n) (f := cumT x g) (g := fun _ => 10000000000) fun i hi => by unfold cumT; have := h0 i hi; split <;> omega
  rw [sumN_const] at h2
  have h3 : (n : Int) * x.ce ≤ n * 1000000000 := Int.mul_le_mul_of_nonneg_left c1 (by omega)
  have h4 : 0 ≤ (n : Int) * x.ce := Int.mul_nonneg (by omega) (by omega)
  unfold cumS
  split <;> omega
end Go.Proofs.Ytpfpikpioidldaa
