/- A slice of employments among a law's arguments. -/
import Derived.Test.YtpfpikpioidldaaBrg2
import Derived.Test.YtpfpikpioidldaaJn0
import Derived.ChangeSlices
set_option linter.unusedSimpArgs false
set_option linter.unusedVariables false
namespace Go.Proofs.Ytpfpikpioidldaa
open Go.Deep Go.ChangeShapes Go.WideShapes Go.ChangeAt Go.RowKit Go.Joins
def EmpsAt (w : World) (v : Value) (n : Nat) (g : Nat → Emp) : Prop :=
  n ≤ 9223372036854775807 ∧ (∀ i, i < n → (g i).n ≤ 9223372036854775807) ∧ ∀ ρ, VRel 0 ρ (fun b => b < w.heap.size) w (vMs n g) v
theorem open_emps {H : Type} {enc : TypeId × Value → H} {P : Program} {w : World} {base : Nat} {spare : Nat → Bool} {held : Bool} {t e : TypeId} {v : Value} {d : DataW H} {p : List MemPlace} {fs : Array Field} (ht : P.underlying t = some (.slice e)) (hc : P.cellsOf e = 2)
    (hv : ∃ a len cap, v = .slice a len cap) (h : DataW.Trod enc P w base spare held t v d p) (hs : P.underlying e = some (.struct fs)) (hone : oneCellFields P fs = true)
    (hf : ∃ f0 f1 ti, fs = #[f0, f1] ∧ P.underlying f0.type = some (.slice ti) ∧ P.underlying ti = some (.int .i64) ∧ P.cellsOf ti = 1 ∧ P.underlying f1.type = some (.int .i64)) :
    ∃ (n : Nat) (g : Nat → Emp), EmpsAt w v n g := by
  obtain ⟨f0, f1, ti, rfl, u0, ui, ci, u1⟩ := hf
  obtain ⟨n, gc, hA, hQ⟩ := open_structs (α := List Value) id (fun cs => ∃ x : Emp, x.n ≤ 9223372036854775807 ∧ ∃ c0, cs = [c0, .int .i64 x.b] ∧ c0.oneCell' = true ∧ ∀ ρ, VRel 0 ρ (fun b => b < w.heap.size) w (.vsl x.n 1 (tI x.e)) c0) ht hc (by decide) hv h (by
    intro n cs y hl hy
    refine ⟨cs, ?_, rfl⟩
    have hq := fields_of hs hone rfl hy
    match cs, hl with
    | [c0, c1], _ =>
      obtain ⟨_, _, g0⟩ := hq 0 f0 rfl
      obtain ⟨_, _, g1⟩ := hq 1 f1 rfl
      obtain ⟨x1, e1, _, _⟩ := DataW.trod_int u1 g1
      simp only [List.drop_succ_cons, List.drop_zero, List.take_succ_cons, List.take_zero, List.cons.injEq, and_true] at e1 g0
      subst e1
      obtain ⟨zs, hz⟩ : ∃ zs : List Int, IntsAt w c0 zs ∧ c0.oneCell' = true := by
        rcases open_ints u0 ui ci g0 with ⟨hcs, _⟩ | ⟨x, l, c, zs, hcs, _, hl, hm, hz, _, hcell, hwz⟩
        · simp only [List.cons.injEq, and_true] at hcs
          subst hcs
          exact ⟨[], intsAt_of_row (zs := []) (.inl ⟨rfl, rfl, rfl, rfl⟩), rfl⟩
        · simp only [List.cons.injEq, and_true] at hcs
          subst hcs
          have hl2 : (zs.take l).length = l := by rw [List.length_take, hz]; split <;> omega
          refine ⟨zs.take l, ?_, rfl⟩
          unfold maxLen at hm
          by_cases h0 : l = 0
          · subst h0
            exact ⟨some x, c, by simp, by simp, by simp, fun k hk => by simp at hk⟩
          · have hzl : l ≤ zs.length := by rw [hz]; split <;> omega
            obtain ⟨b, off, spot⟩ := x
            have hc0 := hcell 0 (by omega)
            have hs : spot = none := by
              cases spot with
              | none => rfl
              | some q =>
                simp only [World.cell?, Addr.add, if_true] at hc0
                split at hc0 <;> simp at hc0
            subst hs
            refine ⟨some ⟨b, off, none⟩, c, by rw [hl2], by rw [hl2]; omega, by rw [hl2]; omega, fun k hk => ?_⟩
            rw [hl2] at hk
            have hc2 : w.cell? ⟨b, off + k, none⟩ = some (.int .i64 (zs.getD k 0)) := by
              rw [← hcell k (by omega)]; congr 1; unfold Addr.add; split <;> simp_all
            refine ⟨b, off, rfl, ?_, by rw [hc2]; simp [List.getElem?_take, hk]⟩
            by_cases hb : b < w.heap.size
            · exact hb
            · simp [World.cell?, Array.getElem?_eq_none (show w.heap.size ≤ b by omega)] at hc2
      have hlen : zs.length ≤ 9223372036854775807 := by obtain ⟨_, _, _, _, h, _⟩ := hz.1; exact h
      exact ⟨⟨zs.length, fun i => zs.getD i 0, x1⟩, hlen, c0, rfl, hz.2, fun ρ => hz.1.rel ρ⟩)
  obtain ⟨g, hg⟩ := choose_lt (n := n) (p := fun i (x : Emp) => x.n ≤ 9223372036854775807 ∧ ∃ c0, gc i = [c0, .int .i64 x.b] ∧ c0.oneCell' = true ∧ ∀ ρ, VRel 0 ρ (fun b => b < w.heap.size) w (.vsl x.n 1 (tI x.e)) c0) hQ
  refine ⟨n, g, hA.le, fun i hi => (hg i hi).1, fun ρ => ?_⟩
  obtain ⟨a, cap, rfl, hcap, hl, hc⟩ := hA
  refine ⟨a, cap, rfl, hcap, hc.imp id ?_⟩
  rintro ⟨b, o, rfl, hb, hc⟩
  refine ⟨b, o, rfl, hb, fun i hi j hj => ?_⟩
  obtain ⟨_, c0, e0, h1, h2⟩ := hg i hi
  have hcell := hc i hi j hj
  simp only [id, e0] at hcell
  rcases (by omega : j = 0 ∨ j = 1) with rfl | rfl
  · exact ⟨c0, hcell, h1, h2 ρ⟩
  · exact ⟨_, hcell, rfl, rfl⟩
end Go.Proofs.Ytpfpikpioidldaa
