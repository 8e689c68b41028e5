/- Operations that make rows or write into them. -/
import Derived.Test.YtnlcenlamkfmnaaPvCall
set_option linter.unusedSimpArgs false
set_option linter.unusedVariables false
namespace Go.Proofs.Ytnlcenlamkfmnaa
open Go.RowKit

section
variable {G : Pg} {N : Nat} {Γ : Fr} {st : PSt} {ρ : Nat → Loc} {I : Nat → Prop} {a : Act} {w : World}

theorem Rel.lt (h : Rel N Γ st ρ I a w) {l : Nat} {r : Row} (hl : st.mem[l]? = some r) (hs : r.s.live) : (ρ l).b < w.heap.size := by
  obtain ⟨h1, cs, T, h2, h3⟩ := h.fr.m.row l r hl hs
  by_cases hb : (ρ l).b < w.heap.size
  · exact hb
  · rw [Array.getElem?_eq_none (by omega)] at h2; cases h2
theorem RS.live_of_own {s : RS} (h : s.isOwn) : s.live := by cases s <;> first | exact h.elim | trivial

/-- where the rows lie once a row is added -/
def addLoc (ρ : Nat → Loc) (k : Nat) (x : Loc) (l : Nat) : Loc := if l = k then x else ρ l

/-- a row of its own more -/
theorem Rel.newRow (h : Rel N Γ st ρ I a w) (cs : Array Value) (T : TypeId) (row : Row) (hs : row.s = .own)
    (hc : ∀ i, i < row.n → ∀ j, j < row.sz → ∃ u, cs[i * row.sz + j]? = some u ∧ u.oneCell' = true ∧ VRel st.mem.length ρ I w (row.f i j) u) :
    Rel N Γ ⟨st.tm, st.mem ++ [row]⟩ (addLoc ρ st.mem.length ⟨w.heap.size, 0, row.sz⟩) I a (w.alloc (.cells cs T)) := by
  have hx : Ext w (w.alloc (.cells cs T)) := Below.alloc (Below.refl _ _) (Nat.le_refl _) _
  have ht : Tr I w (w.alloc (.cells cs T)) := hx.tr h.fr.m.lt
  have hρ : ∀ l, l < st.mem.length → addLoc ρ st.mem.length ⟨w.heap.size, 0, row.sz⟩ l = ρ l := fun l hl => if_neg (by omega)
  have hρn : addLoc ρ st.mem.length ⟨w.heap.size, 0, row.sz⟩ st.mem.length = ⟨w.heap.size, 0, row.sz⟩ := if_pos rfl
  have hsz : (w.alloc (.cells cs T)).heap.size = w.heap.size + 1 := by simp
  have up : ∀ {p : PV} {v : Value}, VRel st.mem.length ρ I w p v → VRel (st.mem ++ [row]).length (addLoc ρ st.mem.length ⟨w.heap.size, 0, row.sz⟩) I (w.alloc (.cells cs T)) p v := fun hv =>
    hv.up (by simp) hρ (fun _ h => h) ht
  have get : ∀ l r, (st.mem ++ [row])[l]? = some r → (l < st.mem.length ∧ st.mem[l]? = some r) ∨ (l = st.mem.length ∧ r = row) := fun l r hl => by
    by_cases hlt : l < st.mem.length
    · rw [List.getElem?_append_left hlt] at hl; exact .inl ⟨hlt, hl⟩
    · rw [List.getElem?_append_right (by omega)] at hl
      by_cases he : l = st.mem.length
      · subst he; simp at hl; exact .inr ⟨rfl, hl.symm⟩
      · rw [List.getElem?_eq_none (by simp; omega)] at hl; cases hl
  refine ⟨⟨⟨fun l r hl hlive => ?_, fun l l' r r' hne hl hl' hs1 hs2 => ?_, fun l r hl ho hb => ?_, fun l r hl hi => ?_, fun b hb => ?_, fun l r hl hm => ?_, fun l l' r r' hne hl hl' hs1 hs2 => ?_⟩, h.fr.os, h.fr.tape, h.fr.output, by rw [hsz]; exact Nat.le_succ_of_le h.fr.size, fun b hb he => ?_, fun b c2 T2 fz hb => ?_, h.fr.old, h.fr.new, fun l r hl ho hlt => ?_, fun l r hl ho hk => ?_, by simp; exact Nat.le_succ_of_le h.fr.k0, fun l hl => ?_, fun l r hl hm hk => ?_⟩, h.defers, h.size, fun t => up (h.slot t)⟩
  · rcases get l r hl with ⟨hlt, hl⟩ | ⟨rfl, rfl⟩
    · rw [hρ l hlt]
      obtain ⟨h1, cs', T', h2, h3⟩ := h.fr.m.row l r hl hlive
      refine ⟨h1, cs', T', by rw [hx.block _ (h.lt hl hlive)]; exact h2, fun i hi j hj => ?_⟩
      obtain ⟨u, g1, g2, g3⟩ := h3 i hi j hj
      exact ⟨u, g1, g2, up g3⟩
    · rw [hρn]
      refine ⟨rfl, cs, T, ?_, fun i hi j hj => ?_⟩
      · show (w.heap.push _)[w.heap.size]? = _
        simp
      · obtain ⟨u, g1, g2, g3⟩ := hc i hi j hj
        exact ⟨u, by simpa using g1, g2, up g3⟩
  · rcases get l r hl with ⟨hlt, hA⟩ | ⟨e1, e2⟩ <;> rcases get l' r' hl' with ⟨hlt', hB⟩ | ⟨e3, e4⟩
    · rw [hρ l hlt, hρ l' hlt']; exact h.fr.m.apart l l' r r' hne hA hB hs1 hs2
    · rw [hρ l hlt, e3, hρn]; have := h.lt hA hs1; simp; omega
    · rw [hρ l' hlt', e1, hρn]; have := h.lt hB hs2; simp; omega
    · exact absurd (e1.trans e3.symm) hne
  · rcases get l r hl with ⟨hlt, hl⟩ | ⟨rfl, rfl⟩
    · rw [hρ l hlt] at hb; exact h.fr.m.mine l r hl ho hb
    · rw [hρn] at hb; exact absurd (h.fr.m.lt _ hb) (by simp)
  · rcases get l r hl with ⟨hlt, hl⟩ | ⟨rfl, rfl⟩
    · rw [hρ l hlt]; exact h.fr.m.imm l r hl hi
    · rw [hs] at hi; cases hi
  · rw [hsz]; exact Nat.lt_succ_of_lt (h.fr.m.lt b hb)
  · rcases get l r hl with ⟨hlt, hl⟩ | ⟨rfl, rfl⟩
    · rw [hρ l hlt]
      obtain ⟨g1, g2⟩ := h.fr.m.side l r hl hm
      exact ⟨g1, g2.up (Nat.le_refl _) rfl (.of fun b hb _ => hx.block b hb) fun i hi j hj v hv => up hv⟩
    · rw [hs] at hm; cases hm
  · rcases get l r hl with ⟨hlt, hA⟩ | ⟨e1, e2⟩ <;> rcases get l' r' hl' with ⟨hlt', hB⟩ | ⟨e3, e4⟩
    · rw [hρ l hlt, hρ l' hlt']; exact h.fr.m.sap l l' r r' hne hA hB hs1 hs2
    · rw [e4, hs] at hs2; cases hs2
    · rw [e2, hs] at hs1; cases hs1
    · exact absurd (e1.trans e3.symm) hne
  · rw [hx.block b (Nat.lt_of_lt_of_le hb h.fr.size)]; exact h.fr.block b hb he
  · obtain ⟨cs', h1, h2⟩ := h.fr.shape b c2 T2 fz hb
    obtain ⟨cs2, h3, h4⟩ := ht.shape b cs' T2 fz h1
    exact ⟨cs2, h3, h4.trans h2⟩
  · rcases get l r hl with ⟨hlt', hl⟩ | ⟨rfl, rfl⟩
    · rw [hρ l hlt'] at hlt ⊢; exact h.fr.own l r hl ho hlt
    · rw [hρn] at hlt; have := h.fr.size; simp at hlt; omega
  · rcases get l r hl with ⟨hlt', hl⟩ | ⟨rfl, rfl⟩
    · rw [hρ l hlt']; exact h.fr.fresh l r hl ho hk
    · rw [hρn]; exact h.fr.size
  · rw [hρ l (Nat.lt_of_lt_of_le hl h.fr.k0)]; exact h.fr.ρ0 l hl
  · rcases get l r hl with ⟨hlt, hl⟩ | ⟨rfl, rfl⟩
    · rw [hρ l hlt]; exact h.fr.sfresh l r hl hm hk
    · rw [hs] at hm; cases hm

/-- a row of its own has changed: block b has other cells, as many -/
theorem Rel.setRow (h : Rel N Γ st ρ I a w) {l : Nat} {r : Row} (hl : st.mem[l]? = some r) (ho : r.s.isOwn) {w' : World} (row : Row) (hs : row.s = .own) (hsz : row.sz = r.sz)
    {cs cs' : Array Value} {T : TypeId} (hb : w.heap[(ρ l).b]? = some (Obj.cells cs T (0, 0))) (hb' : w'.heap[(ρ l).b]? = some (Obj.cells cs' T (0, 0))) (hsize : cs'.size = cs.size)
    (hother : ∀ b, b ≠ (ρ l).b → w'.heap[b]? = w.heap[b]?) (hos : w'.os = w.os) (htape : w'.tape = w.tape) (hout : w'.output = w.output) (hhs : w'.heap.size = w.heap.size)
    (hc : ∀ i, i < row.n → ∀ j, j < row.sz → ∃ u, cs'[(ρ l).o + i * row.sz + j]? = some u ∧ u.oneCell' = true ∧ VRel st.mem.length ρ I w (row.f i j) u) :
    Rel N Γ ⟨st.tm, st.mem.set l row⟩ ρ I a w' := by
  have hlen : l < st.mem.length := by
    by_cases hlt : l < st.mem.length
    · exact hlt
    · rw [List.getElem?_eq_none (by omega)] at hl; cases hl
  have hnI : ¬ I (ρ l).b := h.fr.m.mine l r hl ho
  have ht : Tr I w w' := by
    refine ⟨fun b hbI => hother b (fun e => hnI (e ▸ hbI)), fun b c2 T2 fz h2 => ?_⟩
    by_cases e : b = (ρ l).b
    · subst e
      rw [hb] at h2
      simp only [Option.some.injEq, Obj.cells.injEq] at h2
      obtain ⟨rfl, rfl, rfl⟩ := h2
      exact ⟨cs', hb', hsize⟩
    · exact ⟨c2, by rw [hother b e]; exact h2, rfl⟩
  have up : ∀ {p : PV} {v : Value}, VRel st.mem.length ρ I w p v → VRel (st.mem.set l row).length ρ I w' p v := fun hv =>
    hv.up (by simp) (fun _ _ => rfl) (fun _ h => h) ht
  have get : ∀ l' r', (st.mem.set l row)[l']? = some r' → (l' ≠ l ∧ st.mem[l']? = some r') ∨ (l' = l ∧ r' = row) := fun l' r' hl' => by
    by_cases he : l' = l
    · subst he; rw [List.getElem?_set_self hlen] at hl'; exact .inr ⟨rfl, by simpa using hl'.symm⟩
    · rw [List.getElem?_set_ne (Ne.symm he)] at hl'; exact .inl ⟨he, hl'⟩
  have hlv := RS.live_of_own ho
  have hown' : row.s.isOwn := by rw [hs]; trivial
  refine ⟨⟨⟨fun l' r' hl' hlive => ?_, fun l1 l2 r1 r2 hne h1 h2 hs1 hs2 => ?_, fun l' r' hl' ho' hb2 => ?_, fun l' r' hl' hi => ?_, fun b hb2 => ?_, fun l' r' hl' hm => ?_, fun l1 l2 r1 r2 hne h1 h2 hs1 hs2 => ?_⟩, hos.trans h.fr.os, htape.trans h.fr.tape, hout.trans h.fr.output, by rw [hhs]; exact h.fr.size, fun b hb2 he => ?_, fun b c2 T2 fz hb2 => ?_, h.fr.old, h.fr.new, fun l' r' hl' ho' hlt => ?_, fun l' r' hl' ho' hk => ?_, by simpa using h.fr.k0, h.fr.ρ0, fun l' r' hl' hm hk => ?_⟩, h.defers, h.size, fun t => up (h.slot t)⟩
  · rcases get l' r' hl' with ⟨hne, hl'⟩ | ⟨rfl, rfl⟩
    · obtain ⟨h1, c2, T2, h2, h3⟩ := h.fr.m.row l' r' hl' hlive
      refine ⟨h1, c2, T2, by rw [hother _ (h.fr.m.apart l' l r' r hne hl' hl hlive hlv)]; exact h2, fun i hi j hj => ?_⟩
      obtain ⟨u, g1, g2, g3⟩ := h3 i hi j hj
      exact ⟨u, g1, g2, up g3⟩
    · obtain ⟨h1, _⟩ := h.fr.m.row l' r hl hlv
      refine ⟨h1.trans hsz.symm, cs', T, hb', fun i hi j hj => ?_⟩
      obtain ⟨u, g1, g2, g3⟩ := hc i hi j hj
      exact ⟨u, g1, g2, up g3⟩
  · rcases get l1 r1 h1 with ⟨n1, hA⟩ | ⟨e1, e2⟩ <;> rcases get l2 r2 h2 with ⟨n2, hB⟩ | ⟨e3, e4⟩
    · exact h.fr.m.apart l1 l2 r1 r2 hne hA hB hs1 hs2
    · rw [e3]; exact h.fr.m.apart l1 l r1 r n1 hA hl hs1 hlv
    · rw [e1]; exact h.fr.m.apart l l2 r r2 (Ne.symm n2) hl hB hlv hs2
    · exact absurd (e1.trans e3.symm) hne
  · rcases get l' r' hl' with ⟨n1, h1⟩ | ⟨rfl, rfl⟩
    · exact h.fr.m.mine l' r' h1 ho' hb2
    · exact hnI hb2
  · rcases get l' r' hl' with ⟨n1, h1⟩ | ⟨rfl, rfl⟩
    · exact h.fr.m.imm l' r' h1 hi
    · rw [hs] at hi; cases hi
  · rw [hhs]; exact h.fr.m.lt b hb2
  · rcases get l' r' hl' with ⟨n1, h1⟩ | ⟨rfl, rfl⟩
    · obtain ⟨g1, g2⟩ := h.fr.m.side l' r' h1 hm
      exact ⟨g1, g2.up (Nat.le_refl _) rfl (.of fun b _ hnc => hother b fun e => by subst e; exact hnc _ _ _ hb) fun i hi j hj v hv => up hv⟩
    · rw [hs] at hm; cases hm
  · rcases get l1 r1 h1 with ⟨n1, hA⟩ | ⟨e1, e2⟩ <;> rcases get l2 r2 h2 with ⟨n2, hB⟩ | ⟨e3, e4⟩
    · exact h.fr.m.sap l1 l2 r1 r2 hne hA hB hs1 hs2
    · rw [e4, hs] at hs2; cases hs2
    · rw [e2, hs] at hs1; cases hs1
    · exact absurd (e1.trans e3.symm) hne
  · by_cases e : b = (ρ l).b
    · exact absurd (h.fr.own l r hl ho (e ▸ hb2)) (e ▸ he)
    · rw [hother b e]; exact h.fr.block b hb2 he
  · obtain ⟨cs1, h1, h2⟩ := h.fr.shape b c2 T2 fz hb2
    obtain ⟨cs2, h3, h4⟩ := ht.shape b cs1 T2 fz h1
    exact ⟨cs2, h3, h4.trans h2⟩
  · rcases get l' r' hl' with ⟨n1, h1⟩ | ⟨rfl, rfl⟩
    · exact h.fr.own l' r' h1 ho' hlt
    · exact h.fr.own l' r hl ho hlt
  · rcases get l' r' hl' with ⟨n1, h1⟩ | ⟨rfl, rfl⟩
    · exact h.fr.fresh l' r' h1 ho' hk
    · exact h.fr.fresh l' r hl ho hk
  · rcases get l' r' hl' with ⟨n1, h1⟩ | ⟨rfl, rfl⟩
    · exact h.fr.sfresh l' r' h1 hm hk
    · rw [hs] at hm; cases hm
end
end Go.Proofs.Ytnlcenlamkfmnaa
