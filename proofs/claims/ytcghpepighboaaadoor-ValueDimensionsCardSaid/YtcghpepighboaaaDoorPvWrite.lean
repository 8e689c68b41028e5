/- Operations that make rows or write into them. -/
import Derived.Test.YtcghpepighboaaaDoorPvCall
set_option linter.unusedSimpArgs false
set_option linter.unusedVariables false
namespace Go.Proofs.YtcghpepighboaaaDoor
open Go.RowKit
section
variable {G : Pg} {N : Nat} {Γ : Fr} {st : PSt} {ρ : Nat → Loc} {I : Nat → Prop} {a : Act} {w : World}
theorem Rel.lt (h : Rel N Γ st ρ I a w) {l : Nat} {r : Row} (hl : st.mem[l]? = some r) (hs : r.s.live) : (ρ l).b < w.heap.size := by
  obtain ⟨h1, cs, T, h2, h3⟩ := h.fr.m.row l r hl hs
  by_cases hb : (ρ l).b < w.heap.size
  · exact hb
  · rw [Array.getElem?_eq_none (by omega)] at h2; cases h2
theorem RS.live_of_own {s : RS} (h : s.isOwn) : s.live := by cases s <;> first | exact h.elim | trivial
def addLoc (ρ : Nat → Loc) (k : Nat) (x : Loc) (l : Nat) : Loc := if l = k then x else ρ l
theorem Rel.newRow (h : Rel N Γ st ρ I a w) (cs : Array Value) (T : TypeId) (row : Row) (hs : row.s = .own)
    (hc : ∀ i, i < row.n → ∀ j, j < row.sz → ∃ u, cs[i * row.sz + j]? = some u ∧ u.oneCell' = true ∧ VRel st.mem.length ρ I w (row.f i j) u) :
    Rel N Γ ⟨st.tm, st.mem ++ [row]⟩ (addLoc ρ st.mem.length ⟨w.heap.size, 0, row.sz⟩) I a (w.alloc (.cells cs T)) := by
  have hx : Ext w (w.alloc (.cells cs T)) := Below.alloc (Below.refl _ _) (Nat.le_refl _) _
  have ht : Tr I w (w.alloc (.cells cs T)) := hx.tr h.fr.m.lt
  have hρ : ∀ l, l < st.mem.length → addLoc ρ st.mem.length ⟨w.heap.size, 0, row.sz⟩ l = ρ l := fun l hl => if_neg (by omega)
  have hρn : addLoc ρ st.mem.length ⟨w.heap.size, 0, row.sz⟩ st.mem.length = ⟨w.heap.size, 0, row.sz⟩ := if_pos rfl
  have hsz : (w.alloc (.cells cs T)).heap.size = w.heap.size + 1 := by simp
  have up : ∀ {p : PV} {v : Value}, VRel st.mem.length ρ I w p v → VRel (st.mem ++ [row]).length (addLoc ρ st.mem.length ⟨w.heap.size, 0, row.sz⟩) I (w.alloc (.cells cs T)) p v := fun hv =>
    hv.up (by simp) hρ (fun _ h => h) ht
  have get : ∀ l r, (st.mem ++ [row])[l]? = some r → (l < st.mem.length ∧ st.mem[l]? = some r) ∨ (l = st.mem.length ∧ r = row) := fun l r hl => by
    by_cases hlt : l < st.mem.length
    · rw [List.getElem?_append_left hlt] at hl; exact .inl ⟨hlt, hl⟩
    · rw [List.getElem?_append_right (by omega)] at hl
      by_cases he : l = st.mem.length
      · subst he; simp at hl; exact .inr ⟨rfl, hl.symm⟩
      · rw [List.getElem?_eq_none (by simp; omega)] at hl; cases hl
  refine ⟨⟨⟨fun l r hl hlive => ?_, fun l l' r r' hne hl hl' hs1 hs2 => ?_, fun l r hl ho hb => ?_, fun l r hl hi => ?_, fun b hb => ?_, fun l r hl hm => ?_, fun l l' r r' hne hl hl' hs1 hs2 => ?_⟩, h.fr.os, h.fr.tape, h.fr.output, by rw [hsz]; exact Nat.le_succ_of_le h.fr.size, fun b hb he => ?_, fun b c2 T2 fz hb => ?_, h.fr.old, h.fr.new, fun l r hl ho hlt => ?_, fun l r hl ho hk => ?_, by simp; exact Nat.le_succ_of_le h.fr.k0, fun l hl => ?_, fun l r hl hm hk => ?_, h.fr.gl.mono (fun _ h => h) ht⟩, h.defers, h.size, fun t => up (h.slot t)⟩
  · rcases get l r hl with ⟨hlt, hl⟩ | ⟨rfl, rfl⟩
    · rw [hρ l hlt]
      obtain ⟨h1, cs', T', h2, h3⟩ := h.fr.m.row l r hl hlive
      refine ⟨h1, cs', T', by rw [hx.block _ (h.lt hl hlive)]; exact h2, fun i hi j hj => ?_⟩
      obtain ⟨u, g1, g2, g3⟩ := h3 i hi j hj
      exact ⟨u, g1, g2, up g3⟩
    · rw [hρn]
      refine ⟨rfl, cs, T, ?_, fun i hi j hj => ?_⟩
      · show (w.heap.push _)[w.heap.size]? = _
        simp
      · obtain ⟨u, g1, g2, g3⟩ := hc i hi j hj
        exact ⟨u, by simpa using g1, g2, up g3⟩
  · rcases get l r hl with ⟨hlt, hA⟩ | ⟨e1, e2⟩ <;> rcases get l' r' hl' with ⟨hlt', hB⟩ | ⟨e3, e4⟩
    · rw [hρ l hlt, hρ l' hlt']; exact h.fr.m.apart l l' r r' hne hA hB hs1 hs2
    · rw [hρ l hlt, e3, hρn]; have := h.lt hA hs1; simp; omega
    · rw [hρ l' hlt', e1, hρn]; have := h.lt hB hs2; simp; omega
    · exact absurd (e1.trans e3.symm) hne
  · rcases get l r hl with ⟨hlt, hl⟩ | ⟨rfl, rfl⟩
    · rw [hρ l hlt] at hb; exact h.fr.m.mine l r hl ho hb
    · rw [hρn] at hb; exact absurd (h.fr.m.lt _ hb) (by simp)
  · rcases get l r hl with ⟨hlt, hl⟩ | ⟨rfl, rfl⟩
    · rw [hρ l hlt]; exact h.fr.m.imm l r hl hi
    · rw [hs] at hi; cases hi
  · rw [hsz]; exact Nat.lt_succ_of_lt (h.fr.m.lt b hb)
  · rcases get l r hl with ⟨hlt, hl⟩ | ⟨rfl, rfl⟩
    · rw [hρ l hlt]
      obtain ⟨g1, g2⟩ := h.fr.m.side l r hl hm
      exact ⟨g1, g2.up (Nat.le_refl _) rfl (.of fun b hb _ => hx.block b hb) fun i hi j hj v hv => up hv⟩
    · rw [hs] at hm; cases hm
  · rcases get l r hl with ⟨hlt, hA⟩ | ⟨e1, e2⟩ <;> rcases get l' r' hl' with ⟨hlt', hB⟩ | ⟨e3, e4⟩
    · rw [hρ l hlt, hρ l' hlt']; exact h.fr.m.sap l l' r r' hne hA hB hs1 hs2
    · rw [e4, hs] at hs2; cases hs2
    · rw [e2, hs] at hs1; cases hs1
    · exact absurd (e1.trans e3.symm) hne
  · rw [hx.block b (Nat.lt_of_lt_of_le hb h.fr.size)]; exact h.fr.block b hb he
  · obtain ⟨cs', h1, h2⟩ := h.fr.shape b c2 T2 fz hb
    obtain ⟨cs2, h3, h4⟩ := ht.shape b cs' T2 fz h1
    exact ⟨cs2, h3, h4.trans h2⟩
  · rcases get l r hl with ⟨hlt', hl⟩ | ⟨rfl, rfl⟩
    · rw [hρ l hlt'] at hlt ⊢; exact h.fr.own l r hl ho hlt
    · rw [hρn] at hlt; have := h.fr.size; simp at hlt; omega
  · rcases get l r hl with ⟨hlt', hl⟩ | ⟨rfl, rfl⟩
    · rw [hρ l hlt']; exact h.fr.fresh l r hl ho hk
    · rw [hρn]; exact h.fr.size
  · rw [hρ l (Nat.lt_of_lt_of_le hl h.fr.k0)]; exact h.fr.ρ0 l hl
  · rcases get l r hl with ⟨hlt, hl⟩ | ⟨rfl, rfl⟩
    · rw [hρ l hlt]; exact h.fr.sfresh l r hl hm hk
    · rw [hs] at hm; cases hm
theorem Rel.setRow (h : Rel N Γ st ρ I a w) {l : Nat} {r : Row} (hl : st.mem[l]? = some r) (ho : r.s.isOwn) {w' : World} (row : Row) (hs : row.s = .own) (hsz : row.sz = r.sz)
    {cs cs' : Array Value} {T : TypeId} (hb : w.heap[(ρ l).b]? = some (Obj.cells cs T (0, 0))) (hb' : w'.heap[(ρ l).b]? = some (Obj.cells cs' T (0, 0))) (hsize : cs'.size = cs.size)
    (hother : ∀ b, b ≠ (ρ l).b → w'.heap[b]? = w.heap[b]?) (hos : w'.os = w.os) (htape : w'.tape = w.tape) (hout : w'.output = w.output) (hhs : w'.heap.size = w.heap.size)
    (hc : ∀ i, i < row.n → ∀ j, j < row.sz → ∃ u, cs'[(ρ l).o + i * row.sz + j]? = some u ∧ u.oneCell' = true ∧ VRel st.mem.length ρ I w (row.f i j) u) :
    Rel N Γ ⟨st.tm, st.mem.set l row⟩ ρ I a w' := by
  have hlen : l < st.mem.length := by
    by_cases hlt : l < st.mem.length
    · exact hlt
    · rw [List.getElem?_eq_none (by omega)] at hl; cases hl
  have hnI : ¬ I (ρ l).b := h.fr.m.mine l r hl ho
  have ht : Tr I w w' := by
    refine ⟨fun b hbI => hother b (fun e => hnI (e ▸ hbI)), fun b c2 T2 fz h2 => ?_⟩
    by_cases e : b = (ρ l).b
    · subst e
      rw [hb] at h2
      simp only [Option.some.injEq, Obj.cells.injEq] at h2
      obtain ⟨rfl, rfl, rfl⟩ := h2
      exact ⟨cs', hb', hsize⟩
    · exact ⟨c2, by rw [hother b e]; exact h2, rfl⟩
  have up : ∀ {p : PV} {v : Value}, VRel st.mem.length ρ I w p v → VRel (st.mem.set l row).length ρ I w' p v := fun hv =>
    hv.up (by simp) (fun _ _ => rfl) (fun _ h => h) ht
  have get : ∀ l' r', (st.mem.set l row)[l']? = some r' → (l' ≠ l ∧ st.mem[l']? = some r') ∨ (l' = l ∧ r' = row) := fun l' r' hl' => by
    by_cases he : l' = l
    · subst he; rw [List.getElem?_set_self hlen] at hl'; exact .inr ⟨rfl, by simpa using hl'.symm⟩
    · rw [List.getElem?_set_ne (Ne.symm he)] at hl'; exact .inl ⟨he, hl'⟩
  have hlv := RS.live_of_own ho
  have hown' : row.s.isOwn := by rw [hs]; trivial
  refine ⟨⟨⟨fun l' r' hl' hlive => ?_, fun l1 l2 r1 r2 hne h1 h2 hs1 hs2 => ?_, fun l' r' hl' ho' hb2 => ?_, fun l' r' hl' hi => ?_, fun b hb2 => ?_, fun l' r' hl' hm => ?_, fun l1 l2 r1 r2 hne h1 h2 hs1 hs2 => ?_⟩, hos.trans h.fr.os, htape.trans h.fr.tape, hout.trans h.fr.output, by rw [hhs]; exact h.fr.size, fun b hb2 he => ?_, fun b c2 T2 fz hb2 => ?_, h.fr.old, h.fr.new, fun l' r' hl' ho' hlt => ?_, fun l' r' hl' ho' hk => ?_, by simpa using h.fr.k0, h.fr.ρ0, fun l' r' hl' hm hk => ?_, h.fr.gl.mono (fun _ h => h) ht⟩, h.defers, h.size, fun t => up (h.slot t)⟩
  · rcases get l' r' hl' with ⟨hne, hl'⟩ | ⟨rfl, rfl⟩
    · obtain ⟨h1, c2, T2, h2, h3⟩ := h.fr.m.row l' r' hl' hlive
      refine ⟨h1, c2, T2, by rw [hother _ (h.fr.m.apart l' l r' r hne hl' hl hlive hlv)]; exact h2, fun i hi j hj => ?_⟩
      obtain ⟨u, g1, g2, g3⟩ := h3 i hi j hj
      exact ⟨u, g1, g2, up g3⟩
    · obtain ⟨h1, _⟩ := h.fr.m.row l' r hl hlv
      refine ⟨h1.trans hsz.symm, cs', T, hb', fun i hi j hj => ?_⟩
      obtain ⟨u, g1, g2, g3⟩ := hc i hi j hj
      exact ⟨u, g1, g2, up g3⟩
  · rcases get l1 r1 h1 with ⟨n1, hA⟩ | ⟨e1, e2⟩ <;> rcases get l2 r2 h2 with ⟨n2, hB⟩ | ⟨e3, e4⟩
    · exact h.fr.m.apart l1 l2 r1 r2 hne hA hB hs1 hs2
    · rw [e3]; exact h.fr.m.apart l1 l r1 r n1 hA hl hs1 hlv
    · rw [e1]; exact h.fr.m.apart l l2 r r2 (Ne.symm n2) hl hB hlv hs2
    · exact absurd (e1.trans e3.symm) hne
  · rcases get l' r' hl' with ⟨n1, h1⟩ | ⟨rfl, rfl⟩
    · exact h.fr.m.mine l' r' h1 ho' hb2
    · exact hnI hb2
  · rcases get l' r' hl' with ⟨n1, h1⟩ | ⟨rfl, rfl⟩
    · exact h.fr.m.imm l' r' h1 hi
    · rw [hs] at hi; cases hi
  · rw [hhs]; exact h.fr.m.lt b hb2
  · rcases get l' r' hl' with ⟨n1, h1⟩ | ⟨rfl, rfl⟩
    · obtain ⟨g1, g2⟩ := h.fr.m.side l' r' h1 hm
      exact ⟨g1, g2.up (Nat.le_refl _) rfl (.of fun b _ hnc => hother b fun e => by subst e; exact hnc _ _ _ hb) fun i hi j hj v hv => up hv⟩
    · rw [hs] at hm; cases hm
  · rcases get l1 r1 h1 with ⟨n1, hA⟩ | ⟨e1, e2⟩ <;> rcases get l2 r2 h2 with ⟨n2, hB⟩ | ⟨e3, e4⟩
    · exact h.fr.m.sap l1 l2 r1 r2 hne hA hB hs1 hs2
    · rw [e4, hs] at hs2; cases hs2
    · rw [e2, hs] at hs1; cases hs1
    · exact absurd (e1.trans e3.symm) hne
  · by_cases e : b = (ρ l).b
    · exact absurd (h.fr.own l r hl ho (e ▸ hb2)) (e ▸ he)
    · rw [hother b e]; exact h.fr.block b hb2 he
  · obtain ⟨cs1, h1, h2⟩ := h.fr.shape b c2 T2 fz hb2
    obtain ⟨cs2, h3, h4⟩ := ht.shape b cs1 T2 fz h1
    exact ⟨cs2, h3, h4.trans h2⟩
  · rcases get l' r' hl' with ⟨n1, h1⟩ | ⟨rfl, rfl⟩
    · exact h.fr.own l' r' h1 ho' hlt
    · exact h.fr.own l' r hl ho hlt
  · rcases get l' r' hl' with ⟨n1, h1⟩ | ⟨rfl, rfl⟩
    · exact h.fr.fresh l' r' h1 ho' hk
    · exact h.fr.fresh l' r hl ho hk
  · rcases get l' r' hl' with ⟨n1, h1⟩ | ⟨rfl, rfl⟩
    · exact h.fr.sfresh l' r' h1 hm hk
    · rw [hs] at hm; cases hm
end
open Go.RowKit
def snocM {α : Type} (m : List Row) (r : Row) (n : Nat) (k : Nat → List Row → Option α) : Option α :=
  match m with
  | [] => k n [r]
  | x :: m => snocM m r (n + 1) fun l m' => k l (x :: m')
theorem snocM_eq {α : Type} : ∀ (m : List Row) (r : Row) (n : Nat) (k : Nat → List Row → Option α), snocM m r n k = k (n + m.length) (m ++ [r])
  | [], r, n, k => rfl
  | x :: m, r, n, k => by
    rw [snocM, snocM_eq m r (n + 1)]
    simp only [List.length_cons, List.cons_append]
    rw [show n + 1 + m.length = n + (m.length + 1) by omega]
def setM {α : Type} (m : List Row) (l : Nat) (r : Row) (k : List Row → Option α) : Option α :=
  match m, l with
  | [], _ => k []
  | _ :: m, 0 => k (r :: m)
  | x :: m, l + 1 => setM m l r fun m' => k (x :: m')
theorem setM_eq {α : Type} : ∀ (m : List Row) (l : Nat) (r : Row) (k : List Row → Option α), setM m l r k = k (m.set l r)
  | [], l, r, k => by cases l <;> rfl
  | _ :: m, 0, r, k => rfl
  | x :: m, l + 1, r, k => by rw [setM, setM_eq m l r]; rfl
def cellsOf {α : Type} (p : PV) (k : List PV → Option α) : Option α :=
  match p with
  | .agg n f => forceL n f 0 k
  | .val x => cond x.oneCell' (k [.val x]) none
  | .ptr a b c => k [.ptr a b c]
  | .lsl a b c => k [.lsl a b c]
  | .mref a => k [.mref a]
  | .vsl m sz g => k [.vsl m sz g]
  | .vptr m sz g a b => k [.vptr m sz g a b]
  | .clo g m c => k [.clo g m c]
  | _ => none
def zl : List Value → List PV
  | [] => []
  | v :: l => .val v :: zl l
theorem zl_nth : ∀ (l : List Value) (i : Nat), i < l.length → nthP (zl l) i = .val (l.getD i undef)
  | [], _, h => by simp at h
  | v :: l, 0, _ => by simp [zl, nthP]
  | v :: l, i + 1, h => by simpa [zl, nthP] using zl_nth l i (by simpa using h)
theorem zl_length (l : List Value) : (zl l).length = l.length := by induction l <;> simp [zl, *]
def zcells {α : Type} (z : Value) (k : List PV → Option α) : Option α :=
  match z with
  | .agg cs => cond (cs.toList.all (·.oneCell')) (forceL cs.size (nthP (zl cs.toList)) 0 k) none
  | v => cond v.oneCell' (k [.val v]) none
def updR (f : Nat → Nat → PV) (i : Nat) (l : List PV) (a : Nat) : Nat → PV := cond (Nat.beq a i) (nthP l) (f a)
def pnew (tab : List TI) (st : PSt) : Op → Option (PV × List Row × Prop)
  | .alloc t => match (tget tab t).zero with
    | some z => zcells z fun l => snocM st.mem ⟨.own, true, 1, l.length, fun _ => nthP l⟩ 0 fun n m => some (.ptr n 0 0, m, True)
    | none => none
  | .box _ x => cellsOf (str (st.ev x)) fun l => snocM st.mem ⟨.own, true, 1, l.length, fun _ => nthP l⟩ 0 fun n m => some (.ptr n 0 0, m, strP (st.ev x) True)
  | _ => none
def pstore (tab : List TI) (st : PSt) : Op → Option (List Row × Prop)
  | .store t x y => match str (st.ev x) with
    | .ptr l i j => match rowAt st.mem l with
      | some r => match r.s with
        | .own => cellsOf (str (st.ev y)) fun c => cond (Nat.beq c.length (tget tab t).sz && Nat.ble (j + c.length) r.sz && Nat.blt 0 c.length)
            (forceL r.sz (fun q => cond (Nat.ble j q && Nat.blt q (j + c.length)) (nthP c (q - j)) (r.f i q)) 0 fun c' =>
              match r.one with
              | true => cond (Nat.beq r.n 1) (setM st.mem l ⟨.own, true, 1, r.sz, fun _ => nthP c'⟩ fun m => some (m, strP (st.ev x) (strP (st.ev y) (i < r.n)))) none
              | false => setM st.mem l ⟨.own, false, r.n, r.sz, updR r.f i c'⟩ fun m => some (m, strP (st.ev x) (strP (st.ev y) (i < r.n)))) none
        | _ => none
      | none => none
    | _ => none
  | _ => none
theorem cellsOf_sound {α : Type} {p : PV} {k : List PV → Option α} {y : α} (h : cellsOf p k = some y) : ∃ l, k l = some y ∧ ∀ (n : Nat) (ρ : Nat → Loc) (I : Nat → Prop) (w : World) (v : Value), VRel n ρ I w p v → v.cells.size = l.length ∧ ∀ i, i < l.length → (v.cells.getD i undef).oneCell' = true ∧ VRel n ρ I w (nthP l i) (v.cells.getD i undef) := by
  have one : ∀ (q : PV) (n : Nat) (ρ : Nat → Loc) (I : Nat → Prop) (w : World) (v : Value), v.oneCell' = true → VRel n ρ I w q v → v.cells.size = [q].length ∧ ∀ i, i < [q].length → (v.cells.getD i undef).oneCell' = true ∧ VRel n ρ I w (nthP [q] i) (v.cells.getD i undef) := by
    intro q n ρ I w v h1 h2
    have hc : v.cells = #[v] := by cases v <;> first | rfl | cases h1
    rw [hc]
    refine ⟨rfl, fun i hi => ?_⟩
    have : i = 0 := by simpa using hi
    subst this
    exact ⟨h1, h2⟩
  cases p with
  | agg m f =>
    rw [cellsOf, forceL_eq] at h
    refine ⟨_, h, ?_⟩
    rintro n ρ I w v ⟨vs, rfl, h2, h3⟩
    refine ⟨by simp [Value.cells, h2], fun i hi => ?_⟩
    have hi' : i < m := by simpa using hi
    rw [nthP_map _ _ _ _ hi', Nat.zero_add]
    exact h3 i hi'
  | val x =>
    obtain ⟨h1, h2⟩ := cond_some h
    refine ⟨_, h2, fun n ρ I w v hv => ?_⟩
    cases hv
    exact one _ n ρ I w _ h1 rfl
  | ptr a b c => exact ⟨_, h, fun n ρ I w v hv => one _ n ρ I w v (by rw [hv.2]; rfl) hv⟩
  | mref a => exact ⟨_, h, fun n ρ I w v hv => one _ n ρ I w v (by rw [hv.2]; rfl) hv⟩
  | lsl a b c => exact ⟨_, h, fun n ρ I w v hv => one _ n ρ I w v (by
      rcases hv.2 with ⟨_, _, e⟩ | ⟨cap, _, e, _⟩ <;> rw [e] <;> rfl) hv⟩
  | vsl a b c => exact ⟨_, h, fun n ρ I w v hv => one _ n ρ I w v (by obtain ⟨a, cap, e, _⟩ := hv; rw [e]; rfl) hv⟩
  | vptr a b c => exact ⟨_, h, fun n ρ I w v hv => one _ n ρ I w v (by obtain ⟨b, o, e, _⟩ := hv; rw [e]; rfl) hv⟩
  | clo a b c => exact ⟨_, h, fun n ρ I w v hv => one _ n ρ I w v (by obtain ⟨b, e, _⟩ := hv; rw [e]; rfl) hv⟩
  | junk => cases h
  | tup a b => cases h
  | opt a b => cases h
theorem zcells_sound {α : Type} {z : Value} {k : List PV → Option α} {y : α} (h : zcells z k = some y) : ∃ l, k l = some y ∧ z.cells.size = l.length ∧ ∀ i, i < l.length → (z.cells.getD i undef).oneCell' = true ∧ nthP l i = .val (z.cells.getD i undef) := by
  have one : ∀ v : Value, v.oneCell' = true → v.cells.size = [PV.val v].length ∧ ∀ i, i < [PV.val v].length → (v.cells.getD i undef).oneCell' = true ∧ nthP [PV.val v] i = .val (v.cells.getD i undef) := by
    intro v h1
    have hc : v.cells = #[v] := by cases v <;> first | rfl | cases h1
    rw [hc]
    refine ⟨rfl, fun i hi => ?_⟩
    have : i = 0 := by simpa using hi
    subst this
    exact ⟨h1, rfl⟩
  unfold zcells at h
  split at h
  · rename_i cs
    obtain ⟨h1, h2⟩ := cond_some h
    rw [forceL_eq] at h2
    refine ⟨_, h2, by simp [Value.cells], fun i hi => ?_⟩
    have hi' : i < cs.size := by simpa using hi
    rw [nthP_map _ _ _ _ hi', Nat.zero_add, zl_nth _ _ (by simpa using hi')]
    have e : cs.toList.getD i undef = cs.getD i undef := by simp [List.getD, Array.getD_eq_getD_getElem?]
    simp only [Value.cells]
    rw [e]
    refine ⟨?_, rfl⟩
    have := List.all_eq_true.1 h1 (cs.getD i undef) (by simp [Array.getD_eq_getD_getElem?, hi'])
    exact this
  · obtain ⟨h1, h2⟩ := cond_some h
    exact ⟨_, h2, one _ h1⟩
section
variable {G : Pg} {N : Nat} {Γ : Fr} {st : PSt} {ρ : Nat → Loc} {I : Nat → Prop} {a : Act} {w : World}
structure Made (N : Nat) (Γ : Fr) (st : PSt) (ρ : Nat → Loc) (I : Nat → Prop) (a : Act) (w : World) (r : PV) (m : List Row) (v : Value) (w' : World) (ρ' : Nat → Loc) : Prop where
  rel : Rel N Γ ⟨st.tm, m⟩ ρ' I a w'
  val : VRel m.length ρ' I w' r v
  ext : Ext w w'
  same : ∀ l, l < st.mem.length → ρ' l = ρ l
  mem : ∃ row, m = st.mem ++ [row]
  new : (ρ' st.mem.length).b = w.heap.size
theorem made_row (h : Rel N Γ st ρ I a w) (t : TypeId) (v : Value) (l : List PV) (hs : v.cells.size = l.length) (hv : ∀ i, i < l.length → (v.cells.getD i undef).oneCell' = true ∧ VRel st.mem.length ρ I w (nthP l i) (v.cells.getD i undef)) :
    Made N Γ st ρ I a w (.ptr (0 + st.mem.length) 0 0) (st.mem ++ [⟨.own, true, 1, l.length, fun _ => nthP l⟩]) (.pointer (some ⟨w.heap.size, 0, none⟩)) (w.alloc (.cells v.cells t)) (addLoc ρ st.mem.length ⟨w.heap.size, 0, l.length⟩) := by
  refine ⟨h.newRow v.cells t ⟨.own, true, 1, l.length, fun _ => nthP l⟩ rfl (fun i hi j hj => ?_), ⟨by simp, ?_⟩, Below.alloc (Below.refl _ _) (Nat.le_refl _) _, fun l hl => if_neg (by omega), ⟨_, rfl⟩, by simp [addLoc]⟩
  · have : i = 0 := by simpa using hi
    subst this
    refine ⟨v.cells.getD j undef, ?_, hv j hj⟩
    simp only at hj
    simp [Array.getD_eq_getD_getElem?, show j < v.cells.size by omega]
  · simp [addLoc]
theorem run_newVar (P : Program) (t : TypeId) (v : Value) (w : World) : (newVar t v).run P w = .ok ⟨w.heap.size, 0, none⟩ (w.alloc (.cells v.cells t)) := by
  simp only [newVar, newRow, Sem.run_bind, run_newObj, Result.andThen_ok, Sem.run_pure]
  rfl
theorem pnew_sound (h : Rel N Γ st ρ I a w) (o : Oper) {r : PV} {m : List Row} {pre : Prop} (hr : pnew G.tab st o.op = some (r, m, pre)) (hp : pre) :
    ∃ v w' ρ', (execOp a.eval o).run G.P w = .ok (.value v) w' ∧ Made N Γ st ρ I a w r m v w' ρ' := by
  cases ho : o.op with
  | alloc t =>
    rw [ho, pnew] at hr
    split at hr
    · rename_i z hz
      obtain ⟨l, h1, h2, h3⟩ := zcells_sound hr
      rw [snocM_eq] at h1
      simp only [Option.some.injEq, Prod.mk.injEq] at h1
      obtain ⟨rfl, rfl, rfl⟩ := h1
      have hzero : ∀ w' : World, (zeroValue t).run G.P w' = .ok z w' := fun w' => by
        rcases G.ok t with e | e
        · rw [e, tiOf] at hz
          cases hi : G.P.info? t with
          | none => rw [hi] at hz; cases hz
          | some i => rw [hi] at hz; simp only at hz; simp [zeroValue, typeInfo, hi, hz]
        · rw [e] at hz; cases hz
      refine ⟨_, _, _, ?_, made_row h t z l h2 (fun i hi => ⟨(h3 i hi).1, by rw [(h3 i hi).2]; rfl⟩)⟩
      simp only [execOp, ho, Instr.alloc, Sem.run_bind, hzero, Result.andThen_ok, run_newVar, Sem.run_pure]
    · cases hr
  | box t x =>
    rw [ho, pnew] at hr
    obtain ⟨l, h1, h2⟩ := cellsOf_sound hr
    rw [snocM_eq] at h1
    simp only [Option.some.injEq, Prod.mk.injEq] at h1
    obtain ⟨rfl, rfl, rfl⟩ := h1
    obtain ⟨hx, _⟩ := str_rel (ev_rel h x) hp
    obtain ⟨h3, h4⟩ := h2 _ _ _ _ _ hx
    refine ⟨_, _, _, ?_, made_row h t (a.eval x) l h3 h4⟩
    simp only [execOp, ho, Instr.box, Sem.run_bind, Result.andThen_ok, run_newVar, Sem.run_pure]
  | _ => rw [ho] at hr; cases hr
theorem heap_setCells (b : Nat) : ∀ (vs : List Value) (o : Nat) (w : World) (cs : Array Value) (T : TypeId) (fz : Nat × Nat), w.heap[b]? = some (Obj.cells cs T fz) →
    ∃ cs', (w.setCells b o vs).heap[b]? = some (Obj.cells cs' T fz) ∧ cs'.size = cs.size ∧ ∀ q, cs'[q]? = if o ≤ q ∧ q < o + vs.length ∧ q < cs.size then some (vs.getD (q - o) undef) else cs[q]?
  | [], o, w, cs, T, fz, h => ⟨cs, h, rfl, fun q => by rw [if_neg (by simp; omega)]⟩
  | v :: vs, o, w, cs, T, fz, h => by
    have h1 : (w.setCell ⟨b, o, none⟩ v).heap[b]? = some (Obj.cells (cs.setIfInBounds o v) T fz) := by simp [World.setCell, Array.getElem?_modify, h]
    obtain ⟨cs', h2, h3, h4⟩ := heap_setCells b vs (o + 1) (w.setCell ⟨b, o, none⟩ v) _ T fz h1
    refine ⟨cs', h2, by simpa using h3, fun q => ?_⟩
    rw [h4 q]
    simp only [Array.size_setIfInBounds, List.length_cons]
    by_cases c1 : o + 1 ≤ q ∧ q < o + 1 + vs.length ∧ q < cs.size
    · rw [if_pos c1, if_pos (by omega)]
      rw [show q - o = (q - (o + 1)) + 1 by omega]; simp
    · rw [if_neg c1]
      by_cases c2 : q = o
      · subst c2
        by_cases c3 : q < cs.size
        · rw [if_pos ⟨Nat.le_refl _, by omega, c3⟩]; simp [Array.getElem?_setIfInBounds, c3]
        · rw [if_neg (by omega), Array.getElem?_eq_none (by simp; omega), Array.getElem?_eq_none (by omega)]
      · rw [if_neg (by omega)]; simp [Array.getElem?_setIfInBounds, Ne.symm c2]
theorem other_setCells (b : Nat) : ∀ (vs : List Value) (o : Nat) (w : World) (b' : Nat), b' ≠ b → (w.setCells b o vs).heap[b']? = w.heap[b']?
  | [], o, w, b', h => rfl
  | v :: vs, o, w, b', h => by rw [World.setCells, other_setCells b vs _ _ b' h, Below.heap_setCell _ _ _ _ h]
theorem rest_setCells (b : Nat) : ∀ (vs : List Value) (o : Nat) (w : World), (w.setCells b o vs).os = w.os ∧ (w.setCells b o vs).tape = w.tape ∧ (w.setCells b o vs).output = w.output ∧ (w.setCells b o vs).heap.size = w.heap.size
  | [], o, w => ⟨rfl, rfl, rfl, rfl⟩
  | v :: vs, o, w => by
    obtain ⟨h1, h2, h3, h4⟩ := rest_setCells b vs (o + 1) (w.setCell ⟨b, o, none⟩ v)
    exact ⟨h1, h2, h3, by rw [World.setCells, h4]; simp [World.setCell]⟩
theorem run_storeVar_any (P : Program) (w : World) (b o : Nat) (ty : TypeId) (v : Value) (ht : w.there b o v.cells.size) (hi : (P.info? ty).map (·.size) = some v.cells.size) (h1 : ∀ i, i < v.cells.size → (v.cells.getD i undef).oneCell' = true) :
    (storeVar ty ⟨b, o, none⟩ v).run P w = .ok () (w.setCells b o v.cells.toList) := by
  have := run_storeCells_cells (P := P) b o v.cells.toList 0 w (fun j hj => by simpa using (ht j (by simpa using hj)).1) (fun j hj => by simpa using (ht j (by simpa using hj)).2)
    (fun u hu => by
      obtain ⟨i, hi, rfl⟩ := List.getElem_of_mem hu
      have := h1 i (by simpa using hi)
      simpa [Array.getD_eq_getD_getElem?, show i < v.cells.size by simpa using hi] using this)
  cases hq : P.info? ty with
  | none => simp [hq] at hi
  | some i =>
    have hs : v.cells.size = i.size := by simp [hq] at hi; omega
    simp only [Nat.add_zero] at this
    simp [storeVar, sizeOf, typeInfo, hq, hs, this]
def stL (st : PSt) : Op → Option Nat
  | .store _ x _ => match str (st.ev x) with
    | .ptr l _ _ => some l
    | _ => none
  | _ => none
theorem pstore_sound (h : Rel N Γ st ρ I a w) (o : Oper) {m : List Row} {pre : Prop} (hr : pstore G.tab st o.op = some (m, pre)) (hp : pre) :
    ∃ w' l row, (execOp a.eval o).run G.P w = .ok .skip w' ∧ Rel N Γ ⟨st.tm, m⟩ ρ I a w' ∧ stL st o.op = some l ∧ m = st.mem.set l row ∧ row.s = .own ∧ w'.heap.size = w.heap.size ∧ (∃ r, st.mem[l]? = some r ∧ r.s.isOwn) ∧ ∀ b, b ≠ (ρ l).b → w'.heap[b]? = w.heap[b]? := by
  cases ho : o.op with
  | store t x y =>
    rw [ho, pstore] at hr
    split at hr
    · rename_i l i j hb
      rw [rowAt_get] at hr
      split at hr
      · rename_i r hrow
        split at hr
        · rename_i hown
          obtain ⟨c, h1, h2⟩ := cellsOf_sound hr
          obtain ⟨hk, h1⟩ := cond_some h1
          simp only [Bool.and_eq_true, Nat.blt_eq] at hk
          obtain ⟨⟨hk1, hk2⟩, hk3⟩ := hk
          have hk1 : c.length = (tget G.tab t).sz := Nat.eq_of_beq_eq_true hk1
          have hk2 : j + c.length ≤ r.sz := Nat.le_of_ble_eq_true hk2
          rw [forceL_eq] at h1
          generalize hc' : List.map (fun q => cond (Nat.ble j q && Nat.blt q (j + c.length)) (nthP c (q - j)) (r.f i q)) (List.range' 0 r.sz) = c' at h1
          have hcn : ∀ q, q < r.sz → nthP c' q = cond (Nat.ble j q && Nat.blt q (j + c.length)) (nthP c (q - j)) (r.f i q) := fun q hq => by
            rw [← hc', nthP_map _ _ _ _ hq, Nat.zero_add]
          have hx0 := ev_rel h x
          have hy0 := ev_rel h y
          have hio : r.s.isOwn := by rw [hown]; trivial
          have hlive := RS.live_of_own hio
          -- the new row, in both forms
          have main : ∀ row : Row, row.s = .own → row.sz = r.sz → (∀ i', i' < row.n → i' < r.n ∧ ∀ q, q < r.sz → row.f i' q = if i' = i then nthP c' q else r.f i' q) → m = st.mem.set l row → pre = strP (st.ev x) (strP (st.ev y) (i < r.n)) →
              ∃ w' l row, (execOp a.eval o).run G.P w = .ok .skip w' ∧ Rel N Γ ⟨st.tm, m⟩ ρ I a w' ∧ stL st (.store t x y) = some l ∧ m = st.mem.set l row ∧ row.s = .own ∧ w'.heap.size = w.heap.size ∧ (∃ r, st.mem[l]? = some r ∧ r.s.isOwn) ∧ ∀ b, b ≠ (ρ l).b → w'.heap[b]? = w.heap[b]? := by
            rintro row hs hsz hf rfl rfl
            obtain ⟨hx, hp⟩ := str_rel hx0 hp
            obtain ⟨hy, hp⟩ := str_rel hy0 hp
            rw [hb] at hx
            obtain ⟨g1, g2⟩ := h2 _ _ _ _ _ hy
            obtain ⟨hsz0, cs, T, hcb, hcell⟩ := h.fr.m.row l r hrow hlive
            have hbase : ∀ q, q < r.sz → ∃ u, cs[(ρ l).o + i * r.sz + q]? = some u ∧ u.oneCell' = true ∧ VRel st.mem.length ρ I w (r.f i q) u := fun q hq => hcell i hp q hq
            have hin : ∀ q, q < r.sz → (ρ l).o + i * r.sz + q < cs.size := fun q hq => by
              obtain ⟨u, e, _⟩ := hbase q hq
              by_cases hlt : (ρ l).o + i * r.sz + q < cs.size
              · exact hlt
              · rw [Array.getElem?_eq_none (by omega)] at e; cases e
            have hthere : w.there (ρ l).b ((ρ l).o + i * r.sz + j) (a.eval y).cells.size := fun q hq => by
              refine ⟨?_, ?_⟩
              · have := hin (j + q) (by omega)
                simp only [World.cell?, hcb, Nat.add_assoc] at this ⊢
                simp [show (ρ l).o + (i * r.sz + (j + q)) < cs.size by omega]
              · simp [World.frozen?, hcb]
            obtain ⟨cs', k1, k2, k3⟩ := heap_setCells (ρ l).b (a.eval y).cells.toList ((ρ l).o + i * r.sz + j) w cs T (0, 0) hcb
            obtain ⟨z1, z2, z3, z4⟩ := rest_setCells (ρ l).b (a.eval y).cells.toList ((ρ l).o + i * r.sz + j) w
            refine ⟨w.setCells (ρ l).b ((ρ l).o + i * r.sz + j) (a.eval y).cells.toList, l, row, ?_, ?_, by simp only [stL, hb], rfl, hs, z4, ⟨r, hrow, hio⟩, fun b hne => other_setCells _ _ _ _ b hne⟩
            · simp only [execOp, ho, Instr.storeAt, Instr.sureAddr, hx.2, Sem.run_bind, Sem.run_pure, Result.andThen_ok, hsz0]
              rw [run_storeVar_any G.P w _ _ t (a.eval y) hthere (by rw [(tab_size G.ok (t := t) (w := w) (by omega)).2, g1, hk1]) (fun q hq => (g2 q (by omega)).1)]
              rfl
            · refine h.setRow hrow hio row hs hsz hcb k1 k2 (fun b hne => other_setCells _ _ _ _ b hne) z1 z2 z3 z4 (fun i' hi' q hq => ?_)
              rw [hsz] at hq ⊢
              obtain ⟨f1, f2⟩ := hf i' hi'
              rw [f2 q hq, k3]
              by_cases e : i' = i
              · subst e
                rw [if_pos rfl, hcn q hq]
                have hq2 := hin q hq
                by_cases hr1 : j ≤ q ∧ q < j + c.length
                · have e1 : (Nat.ble j q && Nat.blt q (j + c.length)) = true := by simp [Nat.ble_eq, Nat.blt_eq, hr1]
                  rw [e1, cond_true, if_pos (by simp; omega)]
                  obtain ⟨v1, v2⟩ := g2 (q - j) (by omega)
                  have e2 : (a.eval y).cells.toList.getD ((ρ l).o + i' * r.sz + q - ((ρ l).o + i' * r.sz + j)) undef = (a.eval y).cells.getD (q - j) undef := by
                    rw [show (ρ l).o + i' * r.sz + q - ((ρ l).o + i' * r.sz + j) = q - j by omega]
                    simp [List.getD, Array.getD_eq_getD_getElem?]
                  rw [e2]
                  exact ⟨_, rfl, v1, v2⟩
                · have e1 : (Nat.ble j q && Nat.blt q (j + c.length)) = false := by
                    cases hbb : (Nat.ble j q && Nat.blt q (j + c.length))
                    · rfl
                    · simp [Nat.ble_eq, Nat.blt_eq] at hbb; omega
                  rw [e1, cond_false, if_neg (by simp; omega)]
                  exact hbase q hq
              · rw [if_neg e, if_neg]
                · exact hcell i' f1 q hq
                · simp only [Array.length_toList]
                  rintro ⟨c1, c2, c3⟩
                  rcases Nat.lt_or_gt_of_ne e with hlt | hgt
                  · have : (i' + 1) * r.sz ≤ i * r.sz := Nat.mul_le_mul_right _ hlt
                    rw [Nat.add_mul] at this; omega
                  · have : (i + 1) * r.sz ≤ i' * r.sz := Nat.mul_le_mul_right _ hgt
                    rw [Nat.add_mul] at this; omega
          split at h1
          · obtain ⟨hn1, h1⟩ := cond_some h1
            have hn1 : r.n = 1 := Nat.eq_of_beq_eq_true hn1
            rw [setM_eq] at h1
            simp only [Option.some.injEq, Prod.mk.injEq] at h1
            obtain ⟨rfl, rfl⟩ := h1
            refine main ⟨.own, true, 1, r.sz, fun _ => nthP c'⟩ rfl rfl (fun i' hi' => ⟨by rw [hn1]; exact hi', fun q hq => ?_⟩) rfl rfl
            have hi0 : i < r.n := (str_rel hy0 (str_rel hx0 hp).2).2
            have : i' = i := by simp at hi'; omega
            rw [if_pos this]
          · rw [setM_eq] at h1
            simp only [Option.some.injEq, Prod.mk.injEq] at h1
            obtain ⟨rfl, rfl⟩ := h1
            refine main ⟨.own, false, r.n, r.sz, updR r.f i c'⟩ rfl rfl (fun i' hi' => ⟨hi', fun q hq => ?_⟩) rfl rfl
            simp only [updR]
            by_cases e : i' = i
            · subst e
              have : Nat.beq i' i' = true := by simp
              rw [this, if_pos rfl]; rfl
            · have : Nat.beq i' i = false := by
                cases hbb : Nat.beq i' i
                · rfl
                · exact absurd (Nat.eq_of_beq_eq_true hbb) e
              rw [this, if_neg e]; rfl
        · cases hr
      · cases hr
    · cases hr
  | _ => rw [ho] at hr; cases hr
variable {K : Exit → PSt → Prop} {ops : Array Oper} {o : Oper} {rest : List Oper} {d : Nat} {r : PV} {pre : Prop} {m : List Row}
theorem pop_new (hg : o.guard = none) (hd : o.dst = some d) (hN : Nat.blt d N = true) (hr : pnew G.tab st o.op = some (r, m, pre)) (hp : pre) (h : POps G N Γ ops rest (PSt.put ⟨st.tm, m⟩ d r) K) : POps G N Γ ops (o :: rest) st K := .mk fun ρ I a w hrel => by
  obtain ⟨v, w', ρ', hv, hm⟩ := pnew_sound hrel o hr hp
  have hw : Region.wanted o (yielded ops a.tmps) = true := by simp [Region.wanted, hg]
  simp only [wpList, hw, if_true]
  refine .inl ?_
  simp only [Oper.wp, hv, Oper.upon_value, hd]
  exact h.go ρ' I _ w' (hm.rel.put (by rwa [Nat.blt_eq] at hN) hm.val)
theorem pop_store (hg : o.guard = none) (hd : o.dst = none) (hr : pstore G.tab st o.op = some (m, pre)) (hp : pre) (h : POps G N Γ ops rest ⟨st.tm, m⟩ K) : POps G N Γ ops (o :: rest) st K := .mk fun ρ I a w hrel => by
  obtain ⟨w', l, row, hv, hm, _⟩ := pstore_sound hrel o hr hp
  have hw : Region.wanted o (yielded ops a.tmps) = true := by simp [Region.wanted, hg]
  simp only [wpList, hw, if_true]
  refine .inl ?_
  simp only [Oper.wp, hv, Oper.upon_skip, hd, Act.put]
  exact h.go ρ I _ w' hm
end
end Go.Proofs.YtcghpepighboaaaDoor
