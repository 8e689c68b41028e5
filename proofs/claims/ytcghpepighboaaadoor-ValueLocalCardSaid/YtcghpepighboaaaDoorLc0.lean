/- Plain: what is added behind, or has names that do not occur, changes no value. -/
import Derived.Test.YtcghpepighboaaaDoorVe0
import Derived.Test.YtcghpepighboaaaDoorEnv22
set_option linter.unusedSimpArgs false
set_option linter.unusedVariables false
set_option maxRecDepth 100000
namespace Go.Proofs.YtcghpepighboaaaDoor
def mkD (nm : ByteArray) (t : Ty) : Df := ⟨1, nm, t, 0, 0, fun _ => (0, 0, 0), .nil, 0, 0, 0⟩
def NLv : List Df := [mkD n_h tH, mkD n_g t0, mkD n_f tB, mkD n_r1 tR, mkD n_r2 tM, mkD n_r3 tB, mkD n_r4 t0, mkD n_a tM]
def SLv : List Df := [mkD n_w tR, mkD n_s t0]
def PLv : List Df := [mkD n_gross tM, mkD n_time tH]
theorem envv : Env NLv SLv PLv := by
  refine ⟨?_, ?_, ?_, ?_, ?_, ?_, ?_, ?_, ?_, ?_, ?_, ?_⟩ <;> decide +kernel
abbrev n_z : ByteArray := ⟨#[122]⟩
theorem nz_names : ∀ d, d ∈ NLv → d.nm.toList.head? ≠ some 122 := by decide +kernel
theorem sl_names : ∀ d, d ∈ SLv → d.nm.toList = n_w.toList ∨ d.nm.toList = n_s.toList := by decide +kernel
theorem pl_names : ∀ d, d ∈ PLv → d.nm.toList = n_gross.toList ∨ d.nm.toList = n_time.toList := by decide +kernel
theorem inS_app {N M : List In} {s : ByteArray} (h : N.find? (fun x => x.nm.toList == s.toList) = none → M.find? (fun x => x.nm.toList == s.toList) = none) : inS (N ++ M) s = inS N s := by
  unfold inS
  rw [List.find?_append]
  cases hN : N.find? (fun x => x.nm.toList == s.toList) with
  | some x => rfl
  | none => rw [h hN]; rfl
theorem inS_skip {N : List In} {x : In} {s : ByteArray} (h : (x.nm.toList == s.toList) = false) : inS (x :: N) s = inS N s := by
  unfold inS
  rw [List.find?_cons_of_neg (by rw [h]; decide)]
theorem scaS_app {S : List Df} {d : Df} {s : ByteArray} (h : (∃ d, d ∈ S ∧ d.kind = 2 ∧ d.nm.toList = s.toList) ∨ ¬ d.nm.toList = s.toList) (a b : Int) : scaS (S ++ [d]) s a b = scaS S s a b := by
  unfold scaS
  rw [List.find?_append]
  cases hS : S.find? (fun d => decide (d.kind = 2) && (d.nm.toList == s.toList)) with
  | some x => rfl
  | none =>
    have : [d].find? (fun d => decide (d.kind = 2) && (d.nm.toList == s.toList)) = none := by
      rcases h with ⟨d', h1, h2, h3⟩ | h
      · rw [List.find?_eq_none] at hS
        exact absurd (hS d' h1) (by simp [h2, h3])
      · simp [h]
    rw [this]; rfl
theorem findPa_app {P : List Pa} {p : Pa} {s : ByteArray} (h : (∃ q, q ∈ P ∧ q.nm.toList = s.toList) ∨ ¬ p.nm.toList = s.toList) : findPa (P ++ [p]) s = findPa P s := by
  unfold findPa
  rw [List.find?_append]
  cases hP : P.find? (fun p => p.nm.toList == s.toList) with
  | some x => rfl
  | none =>
    have : [p].find? (fun p => p.nm.toList == s.toList) = none := by
      rcases h with ⟨q, h1, h2⟩ | h
      · rw [List.find?_eq_none] at hP
        exact absurd (hP q h1) (by simp [h2])
      · simp [h]
    rw [this]; rfl
theorem ne_z {d : Df} (hd : d ∈ NLv) {x : In} (hx : x.nm.toList.head? = some 122) {s : ByteArray} (hs : d.nm.toList = s.toList) : (x.nm.toList == s.toList) = false := by
  have := nz_names d hd
  rw [hs] at this
  rw [beq_eq_false_iff_ne]
  intro h
  rw [h] at hx
  exact this hx
theorem loc_N {N : List In} {z y : In} (hz : z.nm.toList.head? = some 122) (hy : ∃ x, x ∈ N ∧ x.nm = y.nm) : ∀ d, d ∈ NLv → ∀ s : ByteArray, d.nm.toList = s.toList → inS N s = inS (N ++ [z] ++ [y]) s := fun d hd s hs => by
  rw [List.append_assoc]
  refine (inS_app fun h => ?_).symm
  obtain ⟨x, hx, hxy⟩ := hy
  rw [List.find?_eq_none] at h
  have h1 := h x hx
  rw [hxy] at h1
  rw [show [z] ++ [y] = [z, y] from rfl, List.find?_eq_none]
  intro w hw
  simp only [List.mem_cons, List.not_mem_nil, or_false] at hw
  rcases hw with rfl | rfl
  · rw [ne_z hd hz hs]; decide
  · exact h1
theorem loc_front {M : List In} {z : In} (hz : z.nm.toList.head? = some 122) : ∀ d, d ∈ NLv → ∀ s : ByteArray, d.nm.toList = s.toList → inS M s = inS (z :: M) s := fun d hd s hs => (inS_skip (ne_z hd hz hs)).symm
theorem eval_agree {e : Ex} {h : Nat} {t : Ty} (he : EOk h t e) (h32 : h ≤ 32) {N N' : List In} {S S' : List Df} {P P' : List Pa} (hN : ∀ d, d ∈ NLv → ∀ s : ByteArray, d.nm.toList = s.toList → inS N s = inS N' s) (hS : ∀ d, d ∈ SLv → ∀ s : ByteArray, d.nm.toList = s.toList → ∀ a b, scaS S s a b = scaS S' s a b)
    (hP : ∀ d, d ∈ PLv → ∀ s : ByteArray, d.nm.toList = s.toList → findPa P s = findPa P' s) : evalS N S P e = evalS N' S' P' e := by
  unfold evalS
  have hv := he.vl 32 h32
  rw [if_pos hv, if_pos hv]
  exact evS_agree hN hS (fun d hd s hs c => by
    have := hP d hd s hs
    unfold avgS lastS'
    rw [this]; exact ⟨rfl, rfl⟩) 32 e hv (by rw [he.wt _ _ _ envv 32 h32])
theorem local_1 {N : List In} {S : List Df} {P : List Pa} (hE : EnvOk N S P) {e : Ex} {h : Nat} {t : Ty} (he : EOk h t e) (h32 : h ≤ 32) {z y : In} {d : Df} {p : Pa} (hz : z.nm.toList.head? = some 122) (hy : ∃ x, x ∈ N ∧ x.nm = y.nm) (hd : d.nm.toList = n_s.toList) (hp : p.nm.toList = n_gross.toList) : evalS (N ++ [z] ++ [y]) (S ++ [d]) (P ++ [p]) e = evalS N S P e := by
  refine (eval_agree he h32 (loc_N hz hy) (fun d' hd' s hs a b => (scaS_app ?_ a b).symm) (fun d' hd' s hs => (findPa_app ?_).symm)).symm
  · rcases sl_names d' hd' with h1 | h1
    · right
      rw [hd, ← hs, h1]; decide +kernel
    · left
      rw [← hs, h1]; exact hE.s
  · rcases pl_names d' hd' with h1 | h1
    · left
      obtain ⟨k0, k1, f0, f1, rfl, _⟩ := hE.p
      exact ⟨_, List.Mem.head _, by rw [← hs, h1]⟩
    · right
      rw [hp, ← hs, h1]; decide +kernel
theorem local_2 {N : List In} {S : List Df} {P : List Pa} {e : Ex} {h : Nat} {t : Ty} (he : EOk h t e) (h32 : h ≤ 32) {z y x : In} (hz : z.nm.toList.head? = some 122) (hy : ∃ x, x ∈ N ∧ x.nm = y.nm) (hx : x.nm.toList.head? = some 122) : evalS (x :: (N ++ [z] ++ [y])) S P e = evalS N S P e :=
  (eval_agree he h32 (fun d hd s hs => (loc_N hz hy d hd s hs).trans (loc_front hx d hd s hs)) (fun _ _ _ _ _ _ => rfl) (fun _ _ _ _ => rfl)).symm
end Go.Proofs.YtcghpepighboaaaDoor
