/- A contract of values as a contract of rows (for calls in drawn regions whose results hold slices). -/
import Derived.Test.YtnlcenlamkfmnaaPvE
set_option linter.unusedSimpArgs false
set_option linter.unusedVariables false
namespace Go.Proofs.Ytnlcenlamkfmnaa
theorem arel_of {ρ : Nat → Loc} {A : Nat → Prop} {w : World} : ∀ {args : List PV} {vs : List Value}, vs.length = args.length → (∀ i, i < args.length → VRel 0 ρ A w (nthP args i) (vs.getD i undef)) → ARel ρ A w args vs
  | [], [], _, _ => trivial
  | p :: ps, v :: vs, hl, h => ⟨by have := h 0 (by simp); simpa [nthP] using this, arel_of (by simpa using hl) fun i hi => by
      have := h (i + 1) (by simp; omega)
      simpa [nthP] using this⟩
  | [], _ :: _, hl, _ => by simp at hl
  | _ :: _, [], hl, _ => by simp at hl
theorem pure_rows {P : Program} {f : FuncId} {args : List PV} {post : PV → Prop} (h : PureC P f args post) : RowsC P f [] args (fun r rows => post r ∧ rows = []) := by
  refine ⟨h.1, fun ρ A w vs hm hl hv => (h.2 ρ A w vs hm.lt (arel_of hl hv)).mono ?_⟩
  rintro e w' ⟨v, r, h1, h2, hx, hr⟩
  refine ⟨v, r, [], ρ, _, h1, ⟨h2, rfl⟩, fun l r _ hl => by simp at hl, ?_, hr⟩
  exact ⟨⟨fun l r hl => by simp at hl, fun l l' r r' _ hl => by simp at hl, fun l r hl => by simp at hl, fun l r hl => by simp at hl, fun b hb => by
      rcases hb with hb | hb
      · exact Nat.lt_of_lt_of_le (hm.lt b hb) hx.size
      · exact hb.2, fun l r hl => by simp at hl, fun l l' r r' _ hl => by simp at hl⟩, hx.os, hx.tape, hx.output, hx.size, fun b hb _ => hx.block b hb, fun b cs T fz hb => by
      have hb : w.heap[b]? = some (Obj.cells cs T fz) := hb
      have hlt : b < w.heap.size := by
        by_cases hlt : b < w.heap.size
        · exact hlt
        · rw [Array.getElem?_eq_none (by omega)] at hb; cases hb
      exact ⟨cs, by rw [hx.block b hlt]; exact hb, rfl⟩, fun b hb hlt => by
      rcases hb with hb | hb
      · exact hb
      · exact absurd (show b < w.heap.size from hlt) (Nat.not_lt.2 hb.1), fun b hb => .inl hb, fun l r hl => by simp at hl, fun l r hl => by simp at hl, Nat.le_refl _, fun l hl => rfl, fun l r hl => by simp at hl⟩
end Go.Proofs.Ytnlcenlamkfmnaa
