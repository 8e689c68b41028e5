/- A slice of structs of one-cell fields among a law's arguments. -/
import Derived.Test.YtnjikclflfioeaaBridge
import Derived.Lib.SmallJoins
import Derived.Deep.Slices
set_option linter.unusedSimpArgs false
set_option linter.unusedVariables false
namespace Go.Proofs.Ytnjikclflfioeaa
open Go.Deep Go.ChangeShapes Go.WideShapes Go.ChangeAt Go.RowKit Go.Joins
/-- what a slice of structs means: n elements, whose cells are those of g -/
def SlcAt {α : Type} (c : α → List Value) (sz : Nat) (w : World) (v : Value) (n : Nat) (g : Nat → α) : Prop :=
  ∃ (a : Option Addr) (cap : Nat), v = .slice a n cap ∧ n ≤ cap ∧ n ≤ 9223372036854775807 ∧ (n = 0 ∨ ∃ b o, a = some ⟨b, o, none⟩ ∧ b < w.heap.size ∧
    ∀ i, i < n → ∀ j, j < sz → w.cell? ⟨b, o + i * sz + j, none⟩ = (c (g i))[j]?)
section
variable {H : Type} {enc : TypeId × Value → H} {P : Program} {w : World} {base : Nat} {spare : Nat → Bool} {held : Bool}
theorem fields_of {t : TypeId} {fs : Array Field} {k n : Nat} {cs : List Value} {x : DataW H × List MemPlace} (hs : P.underlying t = some (.struct fs)) (hone : oneCellFields P fs = true) (h8 : fs.size = k) (h : DataW.trod enc P w base spare held n t cs = some x) :
    ∀ (i : Nat) (f : Field), fs[i]? = some f → ∃ n y, DataW.trod enc P w base spare held n f.type ((cs.drop i).take 1) = some y := by
  obtain ⟨xs, m, _, _, hl, hlen, hx⟩ := DataW.trod_struct hs h
  intro i f hi
  have hil : i < xs.length := by
    rw [hlen]
    by_cases hq : i < fs.size
    · exact hq
    · rw [Array.getElem?_eq_none (by omega)] at hi; simp at hi
  obtain ⟨o0, k0⟩ := hone_of hone i f hi
  have h1 := hx i f hi
  rw [o0, k0, List.getElem?_eq_getElem hil] at h1
  exact ⟨m, xs[i], h1⟩
theorem open_structs {α : Type} [Inhabited α] (c : α → List Value) (Q : α → Prop) {sz : Nat} {t e : TypeId} {v : Value} {d : DataW H} {p : List MemPlace} (ht : P.underlying t = some (.slice e)) (hc : P.cellsOf e = sz) (hz : 0 < sz)
    (hv : ∃ a len cap, v = .slice a len cap) (h : DataW.Trod enc P w base spare held t v d p)
    (hread : ∀ n cs y, cs.length = sz → DataW.trod enc P w base spare held n e cs = some y → ∃ x : α, Q x ∧ cs = c x) :
    ∃ (n : Nat) (g : Nat → α), SlcAt c sz w v n g ∧ ∀ i, i < n → Q (g i) := by
  obtain ⟨a0, len0, cap0, rfl⟩ := hv
  obtain ⟨fuel, hf⟩ := h
  rcases open_slice ht hf with ⟨hcs, _⟩ | ⟨a, len, cap, m, n, D, Pl, hcs, hb, hl, hm, hmm, _, hx⟩
  · simp [Value.cells] at hcs
    obtain ⟨rfl, rfl, rfl⟩ := hcs
    exact ⟨0, fun _ => default, ⟨none, 0, rfl, Nat.le_refl _, by omega, .inl rfl⟩, fun i hi => by omega⟩
  · simp [Value.cells] at hcs
    obtain ⟨rfl, rfl, rfl⟩ := hcs
    rw [hc] at hx
    have hlm : len0 ≤ m := by rw [hmm]; split <;> omega
    obtain ⟨g, hg⟩ := choose_lt (n := len0) (p := fun i (x : α) => Q x ∧ w.cells? base (a.add (i * sz)) sz = some (c x)) fun i hi => by
      obtain ⟨cs', h1, h2⟩ := hx i (by omega)
      obtain ⟨x, hq, rfl⟩ := hread n cs' _ (World.cells?_some h1).2.1 h2
      exact ⟨x, hq, h1⟩
    unfold maxLen at hm
    refine ⟨len0, g, ⟨some a, cap0, rfl, hl, by omega, ?_⟩, fun i hi => (hg i hi).1⟩
    by_cases h0 : len0 = 0
    · exact .inl h0
    · obtain ⟨b, off, spot⟩ := a
      have k0 := World.cells?_some (hg 0 (by omega)).2
      have c0 := k0.2.2 0 hz
      rw [List.getElem?_eq_getElem (by omega)] at c0
      have hs : spot = none := by
        cases spot with
        | none => rfl
        | some q =>
          simp only [World.cell?, Addr.add] at c0
          split at c0 <;> simp at c0
          all_goals (try (split at c0 <;> simp at c0))
      subst hs
      have cell : ∀ i, i < len0 → ∀ j, j < sz → w.cell? ⟨b, off + i * sz + j, none⟩ = (c (g i))[j]? := fun i hi j hj => by
        rw [← (World.cells?_some (hg i hi).2).2.2 j hj]
        congr 1
        simp only [Addr.add]
        split <;> simp_all
        all_goals (try (split <;> simp_all))
      refine .inr ⟨b, off, rfl, ?_, cell⟩
      by_cases hbh : b < w.heap.size
      · exact hbh
      · have := cell 0 (by omega) 0 hz
        rw [List.getElem?_eq_getElem (by omega)] at this
        simp [World.cell?, Array.getElem?_eq_none (show w.heap.size ≤ b by omega)] at this
end
theorem nthP_vals {vs : List Value} {j : Nat} {u : Value} (h : vs[j]? = some u) : nthP (vs.map PV.val) j = .val u := by
  induction vs generalizing j with
  | nil => simp at h
  | cons x l ih =>
    cases j with
    | zero => simp at h; rw [← h]; rfl
    | succ j => simp at h; exact ih h
theorem SlcAt.rel {α : Type} {c : α → List Value} {sz : Nat} {w : World} {v : Value} {n : Nat} {g : Nat → α} (h : SlcAt c sz w v n g) (h1 : ∀ x, (c x).length = sz) (h2 : ∀ x u, u ∈ c x → u.oneCell' = true) (ρ : Nat → Loc) :
    VRel 0 ρ (fun b => b < w.heap.size) w (.vsl n sz (fun i => nthP ((c (g i)).map PV.val))) v := by
  obtain ⟨a, cap, rfl, hcap, hl, hc⟩ := h
  refine ⟨a, cap, rfl, hcap, hc.imp id ?_⟩
  rintro ⟨b, o, rfl, hb, hc⟩
  refine ⟨b, o, rfl, hb, fun i hi j hj => ?_⟩
  have hj' : j < (c (g i)).length := by rw [h1]; exact hj
  have e : (c (g i))[j]? = some (c (g i))[j] := List.getElem?_eq_getElem hj'
  refine ⟨(c (g i))[j], by rw [hc i hi j hj, e], h2 _ _ (List.getElem_mem hj'), ?_⟩
  show VRel 0 ρ _ w (nthP ((c (g i)).map PV.val) j) _
  rw [nthP_vals e]
  rfl
theorem SlcAt.le {α : Type} {c : α → List Value} {sz : Nat} {w : World} {v : Value} {n : Nat} {g : Nat → α} (h : SlcAt c sz w v n g) : n ≤ 9223372036854775807 := by obtain ⟨_, _, _, _, h, _⟩ := h; exact h
end Go.Proofs.Ytnjikclflfioeaa
