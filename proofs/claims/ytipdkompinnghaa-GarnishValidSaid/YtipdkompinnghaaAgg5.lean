/- A struct of five one-cell fields, by value, opened. -/
import Derived.Test.YtipdkompinnghaaBridge
import Derived.Lib.SmallJoins
set_option linter.unusedSimpArgs false
set_option linter.unusedVariables false
namespace Go.Proofs.Ytipdkompinnghaa
open Go.Deep Go.ChangeShapes Go.WideShapes Go.ChangeAt Go.RowKit Go.Joins
section
variable {H : Type} {enc : TypeId × Value → H} {P : Program} {w : World} {base : Nat} {spare : Nat → Bool} {held : Bool}
theorem array5 {α : Type} {cs : Array α} (h : cs.size = 5) : ∃ c0 c1 c2 c3 c4, cs = #[c0, c1, c2, c3, c4] := by
  obtain ⟨l⟩ := cs
  match l, h with
  | [c0, c1, c2, c3, c4], _ => exact ⟨c0, c1, c2, c3, c4, rfl⟩
theorem open_agg5x {r : Reach} {b0 : Nat} {t : TypeId} {fs : Array Field} {v : Value} {d : DataW H} {p : List MemPlace} (hs : P.underlying t = some (.struct fs)) (hone : oneCellFields P fs = true) (hC : P.cellsOf t = 5) (h8 : fs.size = 5)
    (hv : Value.okWide P w r b0 t v) (h : DataW.Trod enc P w base spare held t v d p) :
    ∃ c0 c1 c2 c3 c4, v = .agg #[c0, c1, c2, c3, c4] ∧ ∀ (i : Nat) (f : Field), fs[i]? = some f → ∃ n y, DataW.trod enc P w base spare held n f.type (([c0, c1, c2, c3, c4].drop i).take 1) = some y := by
  obtain ⟨cs, rfl, hsz⟩ := okWide_struct hs hv
  obtain ⟨c0, c1, c2, c3, c4, rfl⟩ := array5 (hsz.trans hC)
  obtain ⟨fuel, hf⟩ := h
  obtain ⟨xs, n, _, _, _, hlen, hx⟩ := DataW.trod_struct hs hf
  refine ⟨c0, c1, c2, c3, c4, rfl, fun i f hi => ?_⟩
  have hil : i < xs.length := by
    rw [hlen]
    by_cases hq : i < fs.size
    · exact hq
    · rw [Array.getElem?_eq_none (by omega)] at hi; simp at hi
  obtain ⟨o0, k0⟩ := hone_of hone i f hi
  have h1 := hx i f hi
  rw [o0, k0, List.getElem?_eq_getElem hil] at h1
  exact ⟨n, xs[i], h1⟩
end
end Go.Proofs.Ytipdkompinnghaa
