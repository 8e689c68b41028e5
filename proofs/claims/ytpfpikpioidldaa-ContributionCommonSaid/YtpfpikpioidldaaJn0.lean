/- Employments: plain. -/
import Derived.Test.YtpfpikpioidldaaCon5
import Derived.Test.YtpfpikpioidldaaPvE
import Derived.Test.YtpfpikpioidldaaMon0
set_option linter.unusedSimpArgs false
set_option linter.unusedVariables false
namespace Go.Proofs.Ytpfpikpioidldaa
/-- an employment: earlier periods, this one -/
structure Emp where
  n : Nat
  e : Nat → Int
  b : Int
instance : Inhabited Emp := ⟨⟨0, fun _ => 0, 0⟩⟩
abbrev cM (x : Emp) : List PV := [.vsl x.n 1 (tI x.e), vi x.b]
theorem cM_cl : CellsCl cM := fun _ => ⟨trivial, trivial, trivial⟩
def dM : Emp := ⟨0, fun _ => 0, 0⟩
abbrev vMs (m : Nat) (g : Nat → Emp) : PV := .vsl m 2 (tF cM g)
def amtB (n : Int) : Bool := decide (0 ≤ n ∧ n ≤ 1000000000)
def empB (x : Emp) : Bool := amtB x.b && okW x.n x.e
def allR (m : Nat) (p : Nat → Bool) : Bool := (List.range m).all p
theorem allR_iff {m : Nat} {p : Nat → Bool} : allR m p = true ↔ ∀ i, i < m → p i = true := by simp [allR, List.all_eq_true]
theorem allR_no {m i : Nat} {p : Nat → Bool} (hi : i < m) (h : p i = false) : allR m p = false := by
  cases h2 : allR m p with
  | false => rfl
  | true => rw [allR_iff.1 h2 i hi] at h; cases h
def jeS (m : Nat) (g : Nat → Emp) : Int :=
  if m = 0 ∨ 8 < m then 3 else if allR m (fun i => decide ((g i).n < 53)) = false then 3 else if allR m (fun i => decide ((g i).n = (g 0).n)) = false then 17 else if allR m (fun i => empB (g i)) = false then 2 else 0
/-- all is well: k earlier periods each -/
structure JOk (m : Nat) (g : Nat → Emp) (k : Nat) : Prop where
  m1 : 1 ≤ m
  m8 : m ≤ 8
  k60 : k < 53
  n : ∀ i, i < m → (g i).n = k
  b : ∀ i, i < m → 0 ≤ (g i).b ∧ (g i).b ≤ 1000000000
  e : ∀ i, i < m → ∀ a, a < k → 0 ≤ (g i).e a ∧ (g i).e a ≤ 1000000000
theorem je_ok {m : Nat} {g : Nat → Emp} (h : jeS m g = 0) : JOk m g (g 0).n := by
  unfold jeS at h
  by_cases h1 : m = 0 ∨ 8 < m
  · rw [if_pos h1] at h; omega
  rw [if_neg h1] at h
  cases h2 : allR m (fun i => decide ((g i).n < 53)) with
  | false => rw [if_pos h2] at h; omega
  | true =>
    rw [if_neg (by simp [h2])] at h
    cases h3 : allR m (fun i => decide ((g i).n = (g 0).n)) with
    | false => rw [if_pos h3] at h; omega
    | true =>
      rw [if_neg (by simp [h3])] at h
      cases h4 : allR m (fun i => empB (g i)) with
      | false => rw [if_pos h4] at h; omega
      | true =>
        have q2 := allR_iff.1 h2
        have q3 := allR_iff.1 h3
        have q4 := allR_iff.1 h4
        have hn : ∀ i, i < m → (g i).n = (g 0).n := fun i hi => by simpa using q3 i hi
        refine ⟨by omega, by omega, by simpa using q2 0 (by omega), hn, fun i hi => ?_, fun i hi a ha => ?_⟩
        · have := q4 i hi
          simp only [empB, amtB, Bool.and_eq_true, decide_eq_true_eq] at this
          exact this.1
        · have := q4 i hi
          simp only [empB, Bool.and_eq_true] at this
          exact okW_iff.1 this.2 a (by rw [hn i hi]; exact ha)
/-- the sums of the periods, of the first i employments -/
def perI (g : Nat → Emp) (k i a : Nat) : Int := if a < k then sumN i (fun q => (g q).e a) else sumN i (fun q => (g q).b)
theorem perI_bd {m : Nat} {g : Nat → Emp} {k : Nat} (h : JOk m g k) {i : Nat} (hi : i ≤ m) (a : Nat) : 0 ≤ perI g k i a ∧ perI g k i a ≤ 8000000000 := by
  have key : ∀ f : Nat → Int, (∀ q, q < i → 0 ≤ f q ∧ f q ≤ 1000000000) → 0 ≤ sumN i f ∧ sumN i f ≤ 8000000000 := fun f hf => by
    have h1 := sumN_nonneg (n := i) (f := f) fun q hq => (hf q hq).1
    have h2 := sumN_le (n := i) (f := f) (g := fun _ => 1000000000) fun q hq => (hf q hq).2
    rw [sumN_const] at h2
    have := h.m8
    omega
  unfold perI
  split
  · exact key _ fun q hq => h.e q (by omega) a (by assumption)
  · exact key _ fun q hq => h.b q (by omega)
theorem perI_succ (g : Nat → Emp) (k i a : Nat) : perI g k (i + 1) a = perI g k i a + (if a < k then (g i).e a else (g i).b) := by
  unfold perI
  split <;> rfl
/-- in the middle of employment i: the first j periods have been added -/
def perJ (g : Nat → Emp) (k i j a : Nat) : Int := if a < j then perI g k (i + 1) a else perI g k i a
theorem perJ_0 (g : Nat → Emp) (k i a : Nat) : perJ g k i 0 a = perI g k i a := by unfold perJ; simp
theorem perJ_all {g : Nat → Emp} {k i a : Nat} (h : a < k + 1) : perJ g k i (k + 1) a = perI g k (i + 1) a := by unfold perJ; rw [if_pos h]
theorem perJ_bd {m : Nat} {g : Nat → Emp} {k : Nat} (h : JOk m g k) {i : Nat} (hi : i < m) (j a : Nat) : 0 ≤ perJ g k i j a ∧ perJ g k i j a ≤ 8000000000 := by
  unfold perJ; split
  · exact perI_bd h (by omega) a
  · exact perI_bd h (by omega) a
theorem perJ_step (g : Nat → Emp) (k i j a : Nat) : (if a = j then perJ g k i j j + (if j < k then (g i).e j else (g i).b) else perJ g k i j a) = perJ g k i (j + 1) a := by
  unfold perJ
  by_cases h : a = j
  · subst h
    rw [if_pos rfl, if_neg (Nat.lt_irrefl a), if_pos (Nat.lt_succ_self a), perI_succ]
  · rw [if_neg h]
    by_cases h2 : a < j
    · rw [if_pos h2, if_pos (show a < j + 1 by omega)]
    · rw [if_neg h2, if_neg (show ¬ a < j + 1 by omega)]
/-- the levies of joint employments -/
def joiS (x : Sch) (m : Nat) (g : Nat → Emp) : (Nat × (Nat → L3)) × Int :=
  if valS x = false then ((0, fun _ => (0, 0, 0)), 1) else if jeS m g ≠ 0 then ((0, fun _ => (0, 0, 0)), jeS m g) else divS m (lstS x ((g 0).n + 1) (perI g (g 0).n m)) (fun i => (g i).b)
theorem PT_up {x : Sch} (h : SOk x) {r a b : Int} (r0 : 0 ≤ r) (hab : a ≤ b) : PT x r a ≤ PT x r b := by
  have hu := h.un0
  unfold PT
  have h1 : rndS (a * r) (1000000 * x.un) x.mo ≤ rndS (b * r) (1000000 * x.un) x.mo :=
    rndS_mono _ (by omega) (by omega) (Int.mul_le_mul_of_nonneg_right (Int.mul_le_mul_of_nonneg_right hab r0) (by omega))
  exact Int.mul_le_mul_of_nonneg_right h1 (by omega)
theorem cum_up {x : Sch} {n : Nat} {g : Nat → Int} (hx : SOk x) (hg : ∀ i, i < n + 1 → 0 ≤ g i) : cumS x n g ≤ cumS x (n + 1) g := by
  have h1 : sumN (n + 1) (cumT x g) = sumN n (cumT x g) + cumT x g n := rfl
  have h2 : 0 ≤ cumT x g n := by unfold cumT; have := hg n (by omega); split <;> omega
  have h3 : ((n + 1 : Nat) : Int) * x.ce = (n : Int) * x.ce + x.ce := by rw [Int.natCast_add, Int.add_mul]; simp
  have h4 := hx.ce0
  unfold cumS
  rw [h1, h3]
  split <;> split <;> omega
theorem lst_nn {x : Sch} {k : Nat} {g : Nat → Int} (hx : SOk x) (hg : ∀ i, i < k + 1 → 0 ≤ g i) : 0 ≤ (lstS x (k + 1) g).1 ∧ 0 ≤ (lstS x (k + 1) g).2.1 ∧ 0 ≤ (lstS x (k + 1) g).2.2 := by
  have h1 := cum_up hx hg
  have h2 := PT_up hx hx.ee0 h1
  have h3 := PT_up hx hx.er0 h1
  unfold lstS subL lvS
  simp only [Nat.add_sub_cancel]
  omega
end Go.Proofs.Ytpfpikpioidldaa
