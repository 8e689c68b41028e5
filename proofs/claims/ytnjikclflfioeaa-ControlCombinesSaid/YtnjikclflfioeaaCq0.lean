/- Combining by sorted insertion (plain); rows whose cells are slices of other rows, frozen. -/
import Derived.Test.YtnjikclflfioeaaCt2
set_option linter.unusedSimpArgs false
set_option linter.unusedVariables false
set_option maxRecDepth 100000
namespace Go.Proofs.Ytnjikclflfioeaa
def insP (p : Pay) : List Pay → List Pay
  | [] => [p]
  | q :: L => if q.1 < p.1 then q :: insP p L else if q.1 = p.1 then (q.1, q.2 + p.2) :: L else p :: q :: L
theorem lF_cons0 {α : Type} (d q : α) (L : List α) : lF d (q :: L) 0 = q := rfl
theorem lF_consS {α : Type} (d q : α) (L : List α) (k : Nat) : lF d (q :: L) (k + 1) = lF d L k := by unfold lF; simp
theorem insP_eq (p : Pay) : ∀ (L : List Pay) (k : Nat), k < L.length → (∀ a, a < k → (lF dP L a).1 < p.1) → (lF dP L k).1 = p.1 → insP p L = L.set k ((lF dP L k).1, (lF dP L k).2 + p.2)
  | [], k, h, _, _ => by simp at h
  | q :: L, 0, _, _, h => by
    rw [lF_cons0] at h
    rw [insP, if_neg (by omega), if_pos h]; rfl
  | q :: L, k + 1, hl, ha, h => by
    have h0 := ha 0 (by omega)
    rw [lF_cons0] at h0
    rw [lF_consS] at h ⊢
    rw [insP, if_pos h0, insP_eq p L k (by simpa using hl) (fun a h => by have := ha (a + 1) (by omega); rwa [lF_consS] at this) h]; rfl
theorem insP_ins (p : Pay) : ∀ (L : List Pay) (k : Nat), k ≤ L.length → (∀ a, a < k → (lF dP L a).1 < p.1) → (k < L.length → p.1 < (lF dP L k).1) → insP p L = L.take k ++ p :: L.drop k
  | [], k, h, _, _ => by simp [insP]
  | q :: L, 0, _, _, h => by
    have h := h (by simp)
    rw [lF_cons0] at h
    rw [insP, if_neg (by omega), if_neg (by omega)]; rfl
  | q :: L, k + 1, hl, ha, h => by
    have h0 := ha 0 (by omega)
    rw [lF_cons0] at h0
    rw [insP, if_pos h0, insP_ins p L k (by simpa using hl) (fun a h => by have := ha (a + 1) (by omega); rwa [lF_consS] at this) (fun hk => by have := h (by simpa using hk); rwa [lF_consS] at this)]; rfl
theorem lF_set {α : Type} (d : α) (L : List α) (k : Nat) (y : α) (h : k < L.length) (a : Nat) : lF d (L.set k y) a = updA (lF d L) k y a := by
  unfold lF updA
  by_cases e : a = k
  · subst e; simp [List.getD_eq_getElem?_getD, h]
  · simp [List.getD_eq_getElem?_getD, List.getElem?_set, Ne.symm e, e]
def insF (f : Nat → Pay) (k : Nat) (p : Pay) (a : Nat) : Pay := if a < k then f a else if a = k then p else f (a - 1)
theorem lF_ins (L : List Pay) (k : Nat) (p : Pay) (h : k ≤ L.length) (a : Nat) : lF dP (L.take k ++ p :: L.drop k) a = insF (lF dP L) k p a := by
  unfold lF insF
  have hl : (L.take k).length = k := by simp; omega
  by_cases e : a < k
  · rw [if_pos e, List.getD_eq_getElem?_getD, List.getElem?_append_left (by omega), List.getElem?_take_of_lt e, ← List.getD_eq_getElem?_getD]
  · rw [if_neg e, List.getD_eq_getElem?_getD, List.getElem?_append_right (by omega), hl]
    by_cases e2 : a = k
    · subst e2; simp
    · rw [if_neg e2]
      obtain ⟨b, hb⟩ : ∃ b, a - k = b + 1 := ⟨a - k - 1, by omega⟩
      rw [hb, List.getElem?_cons_succ, List.getElem?_drop]
      show _ = (L.getD (a - 1) dP)
      rw [List.getD_eq_getElem?_getD, show k + b = a - 1 by omega]
theorem insP_len (p : Pay) : ∀ L : List Pay, (insP p L).length ≤ L.length + 1
  | [] => by simp [insP]
  | q :: L => by
    rw [insP]
    have := insP_len p L
    split
    · simp; omega
    · split <;> simp
theorem insP_key (p : Pay) (x : Int) : ∀ L : List Pay, x ∈ (insP p L).map (·.1) ↔ x = p.1 ∨ x ∈ L.map (·.1)
  | [] => by simp [insP]
  | q :: L => by
    rw [insP]
    have ih := insP_key p x L
    by_cases h1 : q.1 < p.1
    · rw [if_pos h1, List.map_cons, List.mem_cons, ih, List.map_cons, List.mem_cons]
      constructor
      · rintro (h | h | h); exact .inr (.inl h); exact .inl h; exact .inr (.inr h)
      · rintro (h | h | h); exact .inr (.inl h); exact .inl h; exact .inr (.inr h)
    · rw [if_neg h1]
      by_cases h2 : q.1 = p.1
      · rw [if_pos h2]
        simp only [List.map_cons, List.mem_cons]
        rw [h2]
        constructor
        · rintro (h | h); exact .inl h; exact .inr (.inr h)
        · rintro (h | h | h); exact .inl h; exact .inl h; exact .inr h
      · rw [if_neg h2]; simp only [List.map_cons, List.mem_cons]
theorem insP_srt (p : Pay) : ∀ L : List Pay, (L.map (·.1)).Pairwise (· < ·) → ((insP p L).map (·.1)).Pairwise (· < ·)
  | [], _ => by simp [insP]
  | q :: L, h => by
    simp only [List.map_cons, List.pairwise_cons] at h
    rw [insP]
    by_cases h1 : q.1 < p.1
    · rw [if_pos h1, List.map_cons, List.pairwise_cons]
      refine ⟨fun x hx => ?_, insP_srt p L h.2⟩
      rcases (insP_key p x L).1 hx with e | e
      · rw [e]; exact h1
      · exact h.1 x e
    · rw [if_neg h1]
      by_cases h2 : q.1 = p.1
      · rw [if_pos h2, List.map_cons, List.pairwise_cons]; exact h
      · rw [if_neg h2]
        simp only [List.map_cons, List.pairwise_cons, List.mem_cons]
        refine ⟨fun x hx => ?_, h⟩
        rcases hx with e | e
        · rw [e]; omega
        · have := h.1 x e; omega
theorem insP_val (p : Pay) (x : Pay) : ∀ L : List Pay, (L.map (·.1)).Pairwise (· < ·) → x ∈ insP p L → (x ∈ L ∧ x.1 ≠ p.1) ∨ (x.1 = p.1 ∧ ((p.1 ∉ L.map (·.1) ∧ x.2 = p.2) ∨ ∃ q, q ∈ L ∧ q.1 = p.1 ∧ x.2 = q.2 + p.2))
  | [], _, hx => by simp [insP] at hx; subst hx; exact .inr ⟨rfl, .inl ⟨by simp, rfl⟩⟩
  | q :: L, h, hx => by
    simp only [List.map_cons, List.pairwise_cons] at h
    rw [insP] at hx
    by_cases h1 : q.1 < p.1
    · rw [if_pos h1] at hx
      rcases List.mem_cons.1 hx with rfl | hx
      · exact .inl ⟨by simp, by omega⟩
      · rcases insP_val p x L h.2 hx with ⟨a, b⟩ | ⟨a, b | ⟨r, b, c⟩⟩
        · exact .inl ⟨by simp [a], b⟩
        · exact .inr ⟨a, .inl ⟨by simp only [List.map_cons, List.mem_cons]; rintro (e | e); omega; exact b.1 e, b.2⟩⟩
        · exact .inr ⟨a, .inr ⟨r, by simp [b], c⟩⟩
    · rw [if_neg h1] at hx
      by_cases h2 : q.1 = p.1
      · rw [if_pos h2] at hx
        rcases List.mem_cons.1 hx with rfl | hx
        · exact .inr ⟨h2, .inr ⟨q, by simp, h2, rfl⟩⟩
        · have := h.1 x.1 (List.mem_map.2 ⟨x, hx, rfl⟩)
          exact .inl ⟨by simp [hx], by omega⟩
      · rw [if_neg h2] at hx
        rcases List.mem_cons.1 hx with rfl | hx
        · refine .inr ⟨rfl, .inl ⟨?_, rfl⟩⟩
          simp only [List.map_cons, List.mem_cons]
          rintro (e | e)
          · omega
          · have := h.1 _ e; omega
        · refine .inl ⟨hx, ?_⟩
          rcases List.mem_cons.1 hx with rfl | hx
          · exact h2
          · have := h.1 x.1 (List.mem_map.2 ⟨x, hx, rfl⟩); omega
/-- what the insertion has so far -/
structure CombQ (n : Nat) (g : Nat → Pay) (L : List Pay) : Prop where
  srt : (L.map (·.1)).Pairwise (· < ·)
  occ : ∀ k, k ∈ L.map (·.1) ↔ occE n g k
  val : ∀ p, p ∈ L → p.2 = sumE n g p.1
  len : L.length ≤ n
theorem CombQ.start (g : Nat → Pay) : CombQ 0 g [] := ⟨by simp, fun k => ⟨fun h => by simp at h, fun ⟨i, hi, _⟩ => by omega⟩, fun p hp => by simp at hp, by simp⟩
theorem CombQ.step {n : Nat} {g : Nat → Pay} {L : List Pay} (h : CombQ n g L) : CombQ (n + 1) g (insP (g n) L) := by
  have hs : ∀ k, sumE (n + 1) g k = sumE n g k + (if (g n).1 = k then (g n).2 else 0) := fun k => rfl
  refine ⟨insP_srt _ _ h.srt, fun k => ?_, fun p hp => ?_, by have := insP_len (g n) L; have := h.len; omega⟩
  · rw [insP_key, h.occ]
    constructor
    · rintro (e | ⟨i, hi, e⟩)
      · exact ⟨n, by omega, e.symm⟩
      · exact ⟨i, by omega, e⟩
    · rintro ⟨i, hi, e⟩
      by_cases h1 : i = n
      · subst h1; exact .inl e.symm
      · exact .inr ⟨i, by omega, e⟩
  · rw [hs]
    rcases insP_val (g n) p L h.srt hp with ⟨a, b⟩ | ⟨a, ⟨b, c⟩ | ⟨q, b, c, d⟩⟩
    · rw [if_neg (Ne.symm b), h.val p a, Int.add_zero]
    · rw [if_pos a.symm, c, a, sumE_none (fun hc => b ((h.occ _).2 hc)), Int.zero_add]
    · rw [if_pos a.symm, d, h.val q b, c, a]
theorem CombQ.at {n : Nat} {g : Nat → Pay} {L : List Pay} (h : CombQ n g L) {a : Nat} (ha : a < L.length) : lF dP L a ∈ L := by
  unfold lF; rw [List.getD_eq_getElem?_getD, List.getElem?_eq_getElem ha]; exact List.getElem_mem _
theorem CombP.uniq {n : Nat} {g : Nat → Pay} {L L' : List Pay} {e e' : Int} (h : CombP n g L e) (h' : CombP n g L' e') : L = L' ∧ e = e' := by
  have no : ∀ {M : List Pay} {k : Int}, (∀ i, i < n → payOk (g i) = true) → CombR n g M → ¬ 1000000000000 < sumE n g k := fun {M k} hok hM hk => by
    by_cases ho : occE n g k
    · obtain ⟨p, hp, rfl⟩ := List.mem_map.1 ((hM.occ k).2 ho)
      have := hM.val p hp; omega
    · rw [sumE_none ho] at hk; omega
  rcases h with ⟨h1, rfl, rfl⟩ | ⟨h1, h2⟩ <;> rcases h' with ⟨k1, rfl, rfl⟩ | ⟨k1, k2⟩
  · exact ⟨rfl, rfl⟩
  · exact absurd k1 h1
  · exact absurd h1 k1
  · have hok := (ofS_zero h1).2
    rcases h2 with ⟨rfl, h2⟩ | ⟨rfl, rfl, k, h2⟩ <;> rcases k2 with ⟨rfl, k2⟩ | ⟨rfl, rfl, k', k2⟩
    · exact ⟨h2.uniq k2, rfl⟩
    · exact absurd k2 (no hok h2)
    · exact absurd h2 (no hok k2)
    · exact ⟨rfl, rfl⟩
/-- rows behind a freezing: their cells as they were, or frozen -/
def RowsF (mem : List Row) (L : List Nat) : List Row → List Row → Prop
  | [], [] => True
  | r :: m, r' :: m' => (r = r' ∨ (r.s = r'.s ∧ r.one = r'.one ∧ r.n = r'.n ∧ r.sz = r'.sz ∧ r.s ≠ .mp ∧ ∀ i, i < r.n → ∀ j, j < r.sz → r.f i j = r'.f i j ∨ ArgOk mem L (r.f i j) (r'.f i j))) ∧ RowsF mem L m m'
  | _, _ => False
theorem RowsF.len {mem : List Row} {L : List Nat} : ∀ {m m' : List Row}, RowsF mem L m m' → m.length = m'.length
  | [], [], _ => rfl
  | _ :: _, _ :: _, h => by simp [RowsF.len h.2]
  | [], _ :: _, h => h.elim
  | _ :: _, [], h => h.elim
theorem RowsF.get {mem : List Row} {L : List Nat} : ∀ {m m' : List Row}, RowsF mem L m m' → ∀ (l : Nat) (r' : Row), m'[l]? = some r' → ∃ r, m[l]? = some r ∧ (r = r' ∨ (r.s = r'.s ∧ r.one = r'.one ∧ r.n = r'.n ∧ r.sz = r'.sz ∧ r.s ≠ .mp ∧ ∀ i, i < r.n → ∀ j, j < r.sz → r.f i j = r'.f i j ∨ ArgOk mem L (r.f i j) (r'.f i j)))
  | [], [], _, l, r', h => by simp at h
  | r :: m, r1 :: m', h, 0, r', e => by simp at e; subst e; exact ⟨r, rfl, h.1⟩
  | r :: m, r1 :: m', h, l + 1, r', e => by
    obtain ⟨r2, h1, h2⟩ := RowsF.get h.2 l r' (by simpa using e)
    exact ⟨r2, by simpa using h1, h2⟩
  | [], _ :: _, h, _, _, _ => h.elim
  | _ :: _, [], h, _, _, _ => h.elim
section
variable {N : Nat} {Γ : Fr} {st : PSt}
/-- freezing where cells of other rows are slices of the frozen rows -/
theorem can_frzm (L : List Nat) {tm : List (Nat × PV)} {m m' : List Row} (hL : ∀ l, l ∈ L → Γ.k0 ≤ l) (hm0 : frzK L st.mem 0 some = some m) (ht : TmF st L tm) (hR : RowsF st.mem L m m') : Can N Γ st ⟨tm, m'⟩ := fun ρ I a w h => by
  have hm : frzL L 0 st.mem = m := by rw [frzK_eq] at hm0; simpa using hm0
  subst hm
  have hf := h.freeze L hL
  have hs' := hf.slot
  have hlen := hR.len
  simp only [frzL_length] at hs' hlen
  have same : ∀ {l : Nat} {r' : Row}, m'[l]? = some r' → ∃ r, (frzL L 0 st.mem)[l]? = some r ∧ r.s = r'.s ∧ r.n = r'.n ∧ r.sz = r'.sz := fun {l r'} hl => by
    obtain ⟨r, h1, h2⟩ := hR.get l r' hl
    rcases h2 with rfl | ⟨h2, _, h3, h4, _⟩
    · exact ⟨r, h1, rfl, rfl, rfl⟩
    · exact ⟨r, h1, h2, h3, h4⟩
  have hl2 : (frzL L 0 st.mem).length = m'.length := hR.len
  refine ⟨ρ, _, ⟨⟨fun l r hl hs => ?_, fun l l' r r' hne hl hl' hs hs' => ?_, fun l r hl ho => ?_, fun l r hl hi => ?_, hf.fr.m.lt, fun l r hl hm => ?_, fun l l' r r' hne hl hl' hs hs' => ?_⟩, hf.fr.os, hf.fr.tape, hf.fr.output, hf.fr.size, hf.fr.block, hf.fr.shape, hf.fr.old, hf.fr.new, fun l r hl ho => ?_, fun l r hl ho => ?_, by rw [← hl2]; exact hf.fr.k0, hf.fr.ρ0, fun l r hl hm => ?_⟩, hf.defers, hf.size, fun t => ?_⟩
  · obtain ⟨r0, h1, h2⟩ := hR.get l r hl
    have hs0 : r0.s.live := by
      rcases h2 with rfl | ⟨h2, _⟩
      · exact hs
      · rw [h2]; exact hs
    obtain ⟨g1, cs, T, g2, g3⟩ := hf.fr.m.row l r0 h1 hs0
    rcases h2 with rfl | ⟨e1, _, e3, e4, _, e5⟩
    · rw [← hl2]; exact ⟨g1, cs, T, g2, g3⟩
    · refine ⟨by rw [g1, e4], cs, T, g2, fun i hi j hj => ?_⟩
      obtain ⟨u, q1, q2, q3⟩ := g3 i (by omega) j (by omega)
      refine ⟨u, by rw [← e4]; exact q1, q2, ?_⟩
      rcases e5 i (by omega) j (by omega) with e | e
      · rw [← e, ← hl2]; exact q3
      · have hlen0 : (frzL L 0 st.mem).length = st.mem.length := frzL_length L st.mem 0
        rw [hlen0] at q3
        -- the cell is in the world as it was
        obtain ⟨r00, f1, f2, f3, f4, f5, _⟩ := frzL_get L st.mem 0 l r0 h1
        have hs00 : r00.s.live := by
          rcases f5 with f5 | ⟨_, f5, _⟩
          · rw [← f5]; exact hs0
          · rw [f5]; trivial
        obtain ⟨k1, cs', T', k2, k3⟩ := h.fr.m.row l r00 f1 hs00
        rw [g2] at k2
        injection k2 with k2
        injection k2 with k2 _ _
        subst k2
        obtain ⟨u', p1, p2, p3⟩ := k3 i (by omega) j (by omega)
        rw [← f3] at p1
        have : u = u' := by rw [q1] at p1; exact Option.some.inj p1
        subst this
        rw [← f4] at p3
        exact (e ρ I w u h.fr.m p3).of0
  · obtain ⟨r0, h1, h2, _⟩ := same hl
    obtain ⟨r0', h1', h2', _⟩ := same hl'
    exact hf.fr.m.apart l l' r0 r0' hne h1 h1' (by rw [h2]; exact hs) (by rw [h2']; exact hs')
  · obtain ⟨r0, h1, h2, _⟩ := same hl
    exact hf.fr.m.mine l r0 h1 (by rw [h2]; exact ho)
  · obtain ⟨r0, h1, h2, _⟩ := same hl
    exact hf.fr.m.imm l r0 h1 (by rw [h2]; exact hi)
  · obtain ⟨r0, h1, h2⟩ := hR.get l r hl
    rcases h2 with rfl | ⟨e1, _, _, _, e2, _⟩
    · rw [← hl2]; exact hf.fr.m.side l r0 h1 hm
    · exact absurd (e1.trans hm) e2
  · obtain ⟨r0, h1, h2, _⟩ := same hl
    obtain ⟨r0', h1', h2', _⟩ := same hl'
    exact hf.fr.m.sap l l' r0 r0' hne h1 h1' (by rw [h2]; exact hs) (by rw [h2']; exact hs')
  · obtain ⟨r0, h1, h2, _⟩ := same hl
    exact hf.fr.own l r0 h1 (by rw [h2]; exact ho)
  · obtain ⟨r0, h1, h2, _⟩ := same hl
    exact hf.fr.fresh l r0 h1 (by rw [h2]; exact ho)
  · obtain ⟨r0, h1, h2, _⟩ := same hl
    exact hf.fr.sfresh l r0 h1 (by rw [h2]; exact hm)
  · show VRel m'.length ρ _ w (look t tm) _
    rw [← hlen]
    exact tmF_slot h.fr.m h.slot hs' tm ht t
end
end Go.Proofs.Ytnjikclflfioeaa
