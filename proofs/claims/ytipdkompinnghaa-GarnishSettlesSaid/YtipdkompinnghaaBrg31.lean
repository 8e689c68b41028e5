/- A slice of orders among a law's arguments. -/
import Derived.Test.YtipdkompinnghaaBrg2
import Derived.Test.YtipdkompinnghaaGar1
set_option linter.unusedSimpArgs false
set_option linter.unusedVariables false
namespace Go.Proofs.Ytipdkompinnghaa
open Go.Deep Go.ChangeShapes Go.WideShapes Go.ChangeAt Go.RowKit Go.Joins
def cOV (x : Ord) : List Value := [.string x.id, .int .i64 x.rk, .int .i64 x.dy, .int .i64 x.am, .int .i64 x.tt]
instance : Inhabited Ord := ⟨⟨⟨#[]⟩, 0, 0, 0, 0⟩⟩
def OrdsAt (w : World) (v : Value) (n : Nat) (g : Nat → Ord) : Prop := SlcAt cOV 5 w v n g ∧ ∀ i, i < n → (g i).id.size ≤ 9223372036854775807
theorem open_ords {H : Type} {enc : TypeId × Value → H} {P : Program} {w : World} {base : Nat} {spare : Nat → Bool} {held : Bool} {t e : TypeId} {v : Value} {d : DataW H} {p : List MemPlace} {fs : Array Field} (ht : P.underlying t = some (.slice e)) (hc : P.cellsOf e = 5)
    (hv : ∃ a len cap, v = .slice a len cap) (h : DataW.Trod enc P w base spare held t v d p) (hs : P.underlying e = some (.struct fs)) (hone : oneCellFields P fs = true)
    (hf : ∃ f0 f1 f2 f3 f4, fs = #[f0, f1, f2, f3, f4] ∧ P.underlying f0.type = some .string ∧ P.underlying f1.type = some (.int .i64) ∧ P.underlying f2.type = some (.int .i64) ∧ P.underlying f3.type = some (.int .i64) ∧ P.underlying f4.type = some (.int .i64)) :
    ∃ (n : Nat) (g : Nat → Ord), OrdsAt w v n g := by
  obtain ⟨f0, f1, f2, f3, f4, rfl, u0, u1, u2, u3, u4⟩ := hf
  refine open_structs cOV (fun x => x.id.size ≤ 9223372036854775807) ht hc (by decide) hv h fun n cs y hl hy => ?_
  have hq := fields_of hs hone rfl hy
  match cs, hl with
  | [c0, c1, c2, c3, c4], _ =>
    obtain ⟨_, _, g0⟩ := hq 0 f0 rfl
    obtain ⟨_, _, g1⟩ := hq 1 f1 rfl
    obtain ⟨_, _, g2⟩ := hq 2 f2 rfl
    obtain ⟨_, _, g3⟩ := hq 3 f3 rfl
    obtain ⟨_, _, g4⟩ := hq 4 f4 rfl
    obtain ⟨x0, e0, _, sz⟩ := DataW.trod_string u0 g0
    obtain ⟨x1, e1, _, _⟩ := DataW.trod_int u1 g1
    obtain ⟨x2, e2, _, _⟩ := DataW.trod_int u2 g2
    obtain ⟨x3, e3, _, _⟩ := DataW.trod_int u3 g3
    obtain ⟨x4, e4, _, _⟩ := DataW.trod_int u4 g4
    simp only [List.drop_succ_cons, List.drop_zero, List.take_succ_cons, List.take_zero, List.cons.injEq, and_true] at e0 e1 e2 e3 e4
    subst e0 e1 e2 e3 e4
    unfold maxLen at sz
    exact ⟨⟨x0, x1, x2, x3, x4⟩, by simp only; omega, rfl⟩
theorem OrdsAt.rel {w : World} {v : Value} {n : Nat} {g : Nat → Ord} (h : OrdsAt w v n g) (ρ : Nat → Loc) : VRel 0 ρ (fun b => b < w.heap.size) w (vOs n g) v :=
  SlcAt.rel h.1 (fun _ => rfl) (fun x u hu => by
    simp only [cOV, List.mem_cons, List.not_mem_nil, or_false] at hu
    rcases hu with rfl | rfl | rfl | rfl | rfl <;> rfl) ρ
end Go.Proofs.Ytipdkompinnghaa
