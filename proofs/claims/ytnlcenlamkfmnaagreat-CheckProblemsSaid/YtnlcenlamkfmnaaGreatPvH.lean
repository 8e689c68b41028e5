/- Freezing of rows that other rows refer to: these are told in other words. -/
import Derived.Test.YtnlcenlamkfmnaaGreatPvClo
set_option linter.unusedSimpArgs false
set_option linter.unusedVariables false
set_option maxRecDepth 100000
namespace Go.Proofs.YtnlcenlamkfmnaaGreat
/-- rows behind the freezing of the rows L: as they are, or with other words for their cells -/
def RowsF (mem : List Row) (L : List Nat) : List Row → List Row → Prop
  | [], [] => True
  | r :: rs, q :: qs => (r = q ∨ (r.s.live ∧ q.s = r.s ∧ q.sz = r.sz ∧ q.n = r.n ∧ ∀ i, i < r.n → ∀ j, j < r.sz → ArgOk mem L (r.f i j) (q.f i j))) ∧ RowsF mem L rs qs
  | _, _ => False
theorem RowsF.get {mem : List Row} {L : List Nat} : ∀ {rs qs : List Row}, RowsF mem L rs qs → rs.length = qs.length ∧ ∀ (l : Nat) (q : Row), qs[l]? = some q → ∃ r, rs[l]? = some r ∧ (r = q ∨ (r.s.live ∧ q.s = r.s ∧ q.sz = r.sz ∧ q.n = r.n ∧ ∀ i, i < r.n → ∀ j, j < r.sz → ArgOk mem L (r.f i j) (q.f i j)))
  | [], [], _ => ⟨rfl, fun l q h => by simp at h⟩
  | r :: rs, q :: qs, h => by
    obtain ⟨h1, h2⟩ := RowsF.get h.2
    refine ⟨by simp [h1], fun l x hx => ?_⟩
    cases l with
    | zero =>
      simp only [List.getElem?_cons_zero, Option.some.injEq] at hx
      subst hx
      exact ⟨r, rfl, h.1⟩
    | succ l => exact h2 l x (by simpa using hx)
  | [], _ :: _, h => h.elim
  | _ :: _, [], h => h.elim
section
variable {N : Nat} {Γ : Fr} {st : PSt}
/-- the rows L are frozen; slots and rows that refer to them are told in other words -/
theorem can_frzm (L : List Nat) {tm : List (Nat × PV)} {m rows : List Row} (hL : ∀ l, l ∈ L → Γ.k0 ≤ l) (hm0 : frzK L st.mem 0 some = some m) (ht : TmF st L tm) (hr : RowsF st.mem L m rows) : Can N Γ st ⟨tm, rows⟩ := fun ρ I a w h => by
  have hm : frzL L 0 st.mem = m := by rw [frzK_eq] at hm0; simpa using hm0
  subst hm
  have hf := h.freeze L hL
  obtain ⟨hlen, hget⟩ := hr.get
  have hlen2 : rows.length = st.mem.length := by rw [← hlen, frzL_length]
  have hs' := hf.slot
  simp only [frzL_length] at hs'
  have gs : ∀ (l : Nat) (q : Row), rows[l]? = some q → ∃ r, (frzL L 0 st.mem)[l]? = some r ∧ q.s = r.s := fun l q hq => by
    obtain ⟨r, e1, e2⟩ := hget l q hq
    refine ⟨r, e1, ?_⟩
    rcases e2 with rfl | ⟨_, e, _⟩
    · rfl
    · exact e
  refine ⟨ρ, _, ⟨⟨fun l q hq hl => ?_, fun l l' q q' hne hq hq' h1 h2 => ?_, fun l q hq ho => ?_, fun l q hq ho => ?_, hf.fr.m.lt, fun l q hq hmp => ?_, fun l l' q q' hne hq hq' h1 h2 => ?_⟩, hf.fr.os, hf.fr.tape, hf.fr.output, hf.fr.size, hf.fr.block, hf.fr.shape, hf.fr.old, hf.fr.new, fun l q hq ho hlt => ?_, fun l q hq ho hk => ?_, by rw [hlen2]; exact h.fr.k0, hf.fr.ρ0, fun l q hq ho hk => ?_⟩, hf.defers, hf.size, fun t => ?_⟩
  · obtain ⟨r, e1, e2⟩ := hget l q hq
    rw [hlen2]
    rcases e2 with rfl | ⟨e2, e3, e4, e5, e6⟩
    · have := hf.fr.m.row l r e1 hl
      simp only [frzL_length] at this
      exact this
    · obtain ⟨r0, f1, f2, f3, f4, f5, _⟩ := frzL_get L st.mem 0 l r e1
      have hl0 : r0.s.live := by
        rcases f5 with f5 | ⟨_, f5, _⟩
        · rw [← f5]; exact e2
        · rw [f5]; trivial
      obtain ⟨h1, cs, T, h2, h3⟩ := h.fr.m.row l r0 f1 hl0
      refine ⟨h1.trans (f3.symm.trans e4.symm), cs, T, h2, fun i hi j hj => ?_⟩
      obtain ⟨u, g1, g2, g3⟩ := h3 i (by rw [← f2, ← e5]; exact hi) j (by rw [← f3, ← e4]; exact hj)
      refine ⟨u, by rw [e4, f3]; exact g1, g2, ?_⟩
      have := e6 i (by rw [← e5]; exact hi) j (by rw [← e4]; exact hj)
      rw [f4] at this
      exact (this ρ I w u h.fr.m g3).of0
  · obtain ⟨r, e1, e2⟩ := gs l q hq
    obtain ⟨r', f1, f2⟩ := gs l' q' hq'
    exact hf.fr.m.apart l l' r r' hne e1 f1 (by rw [← e2]; exact h1) (by rw [← f2]; exact h2)
  · obtain ⟨r, e1, e2⟩ := gs l q hq
    exact hf.fr.m.mine l r e1 (by rw [← e2]; exact ho)
  · obtain ⟨r, e1, e2⟩ := gs l q hq
    exact hf.fr.m.imm l r e1 (by rw [← e2]; exact ho)
  · obtain ⟨r, e1, e2⟩ := hget l q hq
    rcases e2 with rfl | ⟨e2, e3, _⟩
    · have := hf.fr.m.side l r e1 hmp
      rw [frzL_length] at this
      rw [hlen2]
      exact this
    · rw [e3] at hmp; rw [hmp] at e2; exact e2.elim
  · obtain ⟨r, e1, e2⟩ := gs l q hq
    obtain ⟨r', f1, f2⟩ := gs l' q' hq'
    exact hf.fr.m.sap l l' r r' hne e1 f1 (by rw [← e2]; exact h1) (by rw [← f2]; exact h2)
  · obtain ⟨r, e1, e2⟩ := gs l q hq
    exact hf.fr.own l r e1 (by rw [← e2]; exact ho) hlt
  · obtain ⟨r, e1, e2⟩ := gs l q hq
    exact hf.fr.fresh l r e1 (by rw [← e2]; exact ho) hk
  · obtain ⟨r, e1, e2⟩ := gs l q hq
    exact hf.fr.sfresh l r e1 (by rw [← e2]; exact ho) hk
  · rw [hlen2]
    exact tmF_slot h.fr.m h.slot hs' tm ht t
theorem RowsF.set {mem : List Row} {L : List Nat} {r' : Row} : ∀ {m : List Row} {b : Nat} {r : Row}, m[b]? = some r → (r.s.live ∧ r'.s = r.s ∧ r'.sz = r.sz ∧ r'.n = r.n ∧ ∀ i, i < r.n → ∀ j, j < r.sz → ArgOk mem L (r.f i j) (r'.f i j)) → RowsF mem L m (m.set b r')
  | [], _, _, h, _ => by simp at h
  | x :: m, 0, r, h, hc => by
    simp only [List.getElem?_cons_zero, Option.some.injEq] at h
    subst h
    refine ⟨.inr hc, ?_⟩
    have : ∀ m : List Row, RowsF mem L m m := by
      intro m
      induction m with
      | nil => trivial
      | cons x m ih => exact ⟨.inl rfl, ih⟩
    exact this m
  | x :: m, b + 1, r, h, hc => ⟨.inl rfl, RowsF.set (by simpa using h) hc⟩
/-- .. one row is told in other words -/
theorem can_frzb (L : List Nat) (b : Nat) (f' : Nat → Nat → PV) {one : Bool} {n sz : Nat} {f : Nat → Nat → PV} {tm : List (Nat × PV)} {m rows : List Row} (hL : ∀ l, l ∈ L → Γ.k0 ≤ l) (hm0 : frzK L st.mem 0 some = some m) (hb : rowAt m b = some ⟨.own, one, n, sz, f⟩) (hset : setM m b ⟨.own, one, n, sz, f'⟩ some = some rows) (hc : ∀ i, i < n → ∀ j, j < sz → ArgOk st.mem L (f i j) (f' i j)) (ht : TmF st L tm) : Can N Γ st ⟨tm, rows⟩ := by
  have e : rows = m.set b ⟨.own, one, n, sz, f'⟩ := by rw [setM_eq] at hset; exact (Option.some.inj hset).symm
  subst e
  rw [rowAt_get] at hb
  exact can_frzm L hL hm0 ht (RowsF.set hb ⟨trivial, rfl, rfl, rfl, hc⟩)
end
end Go.Proofs.YtnlcenlamkfmnaaGreat
