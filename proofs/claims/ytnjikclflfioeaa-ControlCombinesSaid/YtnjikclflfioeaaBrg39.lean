/- A slice of payments among a law's arguments. -/
import Derived.Test.YtnjikclflfioeaaBrg2
import Derived.Test.YtnjikclflfioeaaCt0
set_option linter.unusedSimpArgs false
set_option linter.unusedVariables false
namespace Go.Proofs.Ytnjikclflfioeaa
open Go.Deep Go.ChangeShapes Go.WideShapes Go.ChangeAt Go.RowKit Go.Joins
def cPV (x : Pay) : List Value := [.int .i64 x.1, .int .i64 x.2]
def PaysAt (w : World) (v : Value) (n : Nat) (g : Nat → Pay) : Prop := SlcAt cPV 2 w v n g
theorem open_pays {H : Type} {enc : TypeId × Value → H} {P : Program} {w : World} {base : Nat} {spare : Nat → Bool} {held : Bool} {t e : TypeId} {v : Value} {d : DataW H} {p : List MemPlace} {fs : Array Field} (ht : P.underlying t = some (.slice e)) (hc : P.cellsOf e = 2)
    (hv : ∃ a len cap, v = .slice a len cap) (h : DataW.Trod enc P w base spare held t v d p) (hs : P.underlying e = some (.struct fs)) (hone : oneCellFields P fs = true)
    (hf : ∃ f0 f1, fs = #[f0, f1] ∧ P.underlying f0.type = some (.int .i64) ∧ P.underlying f1.type = some (.int .i64)) :
    ∃ (n : Nat) (g : Nat → Pay), PaysAt w v n g := by
  obtain ⟨f0, f1, rfl, u0, u1⟩ := hf
  obtain ⟨n, g, h1, _⟩ := open_structs cPV (fun _ => True) ht hc (by decide) hv h fun n cs y hl hy => (by
    have hq := fields_of hs hone rfl hy
    match cs, hl with
    | [c0, c1], _ =>
      obtain ⟨_, _, g0⟩ := hq 0 f0 rfl
      obtain ⟨_, _, g1⟩ := hq 1 f1 rfl
      obtain ⟨x0, e0, _, _⟩ := DataW.trod_int u0 g0
      obtain ⟨x1, e1, _, _⟩ := DataW.trod_int u1 g1
      simp only [List.drop_succ_cons, List.drop_zero, List.take_succ_cons, List.take_zero, List.cons.injEq, and_true] at e0 e1
      subst e0 e1
      exact ⟨(x0, x1), trivial, rfl⟩)
  exact ⟨n, g, h1⟩
theorem PaysAt.rel {w : World} {v : Value} {n : Nat} {g : Nat → Pay} (h : PaysAt w v n g) (ρ : Nat → Loc) : VRel 0 ρ (fun b => b < w.heap.size) w (vPs n g) v :=
  SlcAt.rel h (fun _ => rfl) (fun x u hu => by
    simp only [cPV, List.mem_cons, List.not_mem_nil, or_false] at hu
    rcases hu with rfl | rfl <;> rfl) ρ
theorem PaysAt.len {w : World} {v : Value} {n : Nat} {g : Nat → Pay} (h : PaysAt w v n g) : n ≤ 9223372036854775807 := by obtain ⟨_, _, _, _, h, _⟩ := h; exact h
end Go.Proofs.Ytnjikclflfioeaa
