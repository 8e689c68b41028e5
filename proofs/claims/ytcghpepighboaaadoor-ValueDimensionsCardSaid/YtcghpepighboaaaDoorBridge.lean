/- From a contract on pure values to a law's walk. -/
import Derived.Test.YtcghpepighboaaaDoorPvLib2
set_option linter.unusedSimpArgs false
set_option linter.unusedVariables false
namespace Go.Proofs.YtcghpepighboaaaDoor
def IntsAt (w : World) (v : Value) (l : List Int) : Prop :=
  ∃ (a : Option Addr) (cap : Nat), v = .slice a l.length cap ∧ l.length ≤ cap ∧ l.length ≤ 9223372036854775807 ∧
    ∀ k, k < l.length → ∃ b off, a = some ⟨b, off, none⟩ ∧ b < w.heap.size ∧ w.cell? ⟨b, off + k, none⟩ = some (.int .i64 (l.getD k 0))
theorem intsAt_of_row {w : World} {a : Option Addr} {len cap : Nat} {zs : List Int} (h : (a = none ∧ len = 0 ∧ cap = 0 ∧ zs = []) ∨ ∃ x, a = some x ∧ len ≤ cap ∧ cap ≤ maxLen ∧ zs.length = cap ∧ (∀ i, i < zs.length → w.cell? (x.add i) = some (.int .i64 (zs.getD i 0))) ∧ ∀ n ∈ zs, (Lit.int .i64 n).wf = true) :
    IntsAt w (.slice a len cap) (zs.take len) := by
  rcases h with ⟨rfl, rfl, rfl, rfl⟩ | ⟨x, rfl, h1, h2, h3, h4, _⟩
  · exact ⟨none, 0, rfl, by simp, by simp, fun k hk => by simp at hk⟩
  · have hl : (zs.take len).length = len := by simp; omega
    unfold maxLen at h2
    refine ⟨some x, cap, by rw [hl], by rw [hl]; omega, by rw [hl]; omega, fun k hk => ?_⟩
    rw [hl] at hk
    have hc := h4 k (by omega)
    have hc0 := h4 0 (by omega)
    obtain ⟨b, off, spot⟩ := x
    have hs : spot = none := by
      cases spot with
      | none => rfl
      | some q =>
        simp only [World.cell?, Addr.add, if_true] at hc0
        split at hc0 <;> simp at hc0
    subst hs
    have hc2 : w.cell? ⟨b, off + k, none⟩ = some (.int .i64 (zs.getD k 0)) := by
      rw [← hc]; congr 1; unfold Addr.add; split <;> simp_all
    refine ⟨b, off, rfl, ?_, by rw [hc2]; simp [List.getElem?_take, hk]⟩
    by_cases hb : b < w.heap.size
    · exact hb
    · simp [World.cell?, Array.getElem?_eq_none (show w.heap.size ≤ b by omega)] at hc2
theorem IntsAt.rel {w : World} {v : Value} {l : List Int} (h : IntsAt w v l) (ρ : Nat → Loc) : VRel 0 ρ (fun b => b < w.heap.size) w (.vsl l.length 1 (tI fun i => l.getD i 0)) v := by
  obtain ⟨a, cap, rfl, hcap, hl, hc⟩ := h
  refine ⟨a, cap, rfl, hcap, ?_⟩
  by_cases h0 : l.length = 0
  · exact .inl h0
  · obtain ⟨b, off, e1, e2, _⟩ := hc 0 (by omega)
    refine .inr ⟨b, off, e1, e2, fun i hi j hj => ?_⟩
    obtain ⟨b', off', f1, f2, f3⟩ := hc i hi
    rw [e1] at f1
    simp only [Option.some.injEq, Addr.mk.injEq] at f1
    obtain ⟨rfl, rfl, _⟩ := f1
    obtain rfl : j = 0 := by omega
    exact ⟨_, by simpa using f3, rfl, rfl⟩
theorem law_of {P : Program} {f : FuncId} {args : List PV} {vs : List Value} {w : World} (h : PureC P f args (fun r => r = vb true)) (ha : ARel (fun _ => ⟨0, 0, 0⟩) (fun b => b < w.heap.size) w args vs) (hG : GOk (fun b => b < w.heap.size) w := by exact fun x hx => by cases hx) :
    Calls P f vs.toArray w fun e w' => e = .returned (.bool true) ∧ Ext w w' :=
  (h.2 _ _ w vs (fun _ h => h) hG ha).mono fun e w' ⟨v, r, h1, h2, h3, h4⟩ => by
    subst h2; exact ⟨by rw [h1, show v = .bool true from h4], h3⟩
end Go.Proofs.YtcghpepighboaaaDoor
