/- Slices that are nil at first: rows without memory; comparisons with nil; rows with typed content. -/
import Derived.Test.YtcghpepighboaaaDoorPvClo
import Derived.Laws.Cover3
set_option linter.unusedSimpArgs false
set_option linter.unusedVariables false
namespace Go.Proofs.YtcghpepighboaaaDoor
open Go.RowKit
/-- a slice that is nil while it is empty: the row l -/
def slP : Nat → Nat → PV
  | 0, _ => .val (.slice none 0 0)
  | k + 1, l => .lsl l 0 (k + 1)
def sOf : Nat → RS
  | 0 => .virt
  | _ + 1 => .own
/-- typed content: c: the cells of an element -/
def tF {α : Type} (c : α → List PV) (g : Nat → α) : Nat → Nat → PV := fun i => nthP (c (g i))
/-- the row of such a slice -/
def vRow {α : Type} (c : α → List PV) (sz n : Nat) (g : Nat → α) : Row := ⟨sOf n, false, n, sz, tF c g⟩
/-- a row of a slice with typed content -/
def oRow {α : Type} (c : α → List PV) (sz n : Nat) (g : Nat → α) : Row := ⟨.own, false, n, sz, tF c g⟩
def snocA {α : Type} (m : Nat) (g : Nat → α) (y : α) (a : Nat) : α := if a < m then g a else y
def updA {α : Type} (g : Nat → α) (i : Nat) (y : α) (a : Nat) : α := if a = i then y else g a
abbrev c1 (x : Int) : List PV := [vi x]
/-- rows: alive, or without memory -/
def SelV (mem : List Row) (sel0 : List Nat) : List Nat → List Row → Prop
  | [], [] => True
  | l :: s, r :: rs => (∃ r0, rowAt mem l = some r0 ∧ RowEq (r0.ren (inv sel0 0)) r) ∧ SelV mem sel0 s rs
  | _, _ => False
theorem SelV.nil {mem : List Row} {s0 : List Nat} : SelV mem s0 [] [] := trivial
theorem SelV.cons {mem : List Row} {s0 : List Nat} {l : Nat} {s : List Nat} {r0 r : Row} {rs : List Row} (h1 : rowAt mem l = some r0) (h3 : RowEq (r0.ren (inv s0 0)) r) (h : SelV mem s0 s rs) : SelV mem s0 (l :: s) (r :: rs) := ⟨⟨r0, h1, h3⟩, h⟩
theorem SelV.get {mem : List Row} {sel0 : List Nat} : ∀ (s : List Nat) (rs : List Row), SelV mem sel0 s rs → s.length = rs.length ∧ ∀ (i : Nat) (r : Row), rs[i]? = some r → ∃ (l : Nat) (r0 : Row), s[i]? = some l ∧ mem[l]? = some r0 ∧ RowEq (r0.ren (inv sel0 0)) r
  | [], [], _ => ⟨rfl, fun i r h => by simp at h⟩
  | l :: s, r :: rs, h => by
    obtain ⟨h1, h2⟩ := SelV.get s rs h.2
    refine ⟨by simp [h1], fun i r' hi => ?_⟩
    cases i with
    | zero =>
      simp only [List.getElem?_cons_zero, Option.some.injEq] at hi
      subst hi
      obtain ⟨r0, e1, e3⟩ := h.1
      rw [rowAt_get] at e1
      exact ⟨l, r0, by simp, e1, e3⟩
    | succ i =>
      obtain ⟨l', r0, e⟩ := h2 i r' (by simpa using hi)
      exact ⟨l', r0, by simpa using e.1, e.2⟩
  | [], _ :: _, h => h.elim
  | _ :: _, [], h => h.elim
section
variable {N : Nat} {Γ : Fr} {st : PSt} {ρ : Nat → Loc} {I : Nat → Prop} {a : Act} {w : World}
theorem MRel.selv (hm : MRel ρ I w st.mem) {sel : List Nat} {rows : List Row} (hs : SelV st.mem sel sel rows) (hd : sel.Nodup) : MRel (sub sel ρ) I w rows := by
  obtain ⟨hlen, hget⟩ := SelV.get sel rows hs
  have ne : ∀ (i j l l' : Nat), i ≠ j → sel[i]? = some l → sel[j]? = some l' → l ≠ l' := fun i j l l' hne h1 h2 e => by
    subst e
    have b1 := getLt h1
    have b2 := getLt h2
    exact hne ((List.getElem?_inj b1 hd).1 (h1.trans h2.symm))
  refine ⟨fun i r hi hl => ?_, fun i j r r' hne hi hj h1 h2 => ?_, fun i r hi ho => ?_, fun i r hi ho => ?_, hm.lt, fun i r hi hmp => ?_, fun i j r r' hne hi hj h1 h2 => ?_⟩
  · obtain ⟨l, r0, e1, e2, q1, q2, q3, q4⟩ := hget i r hi
    have q1 : r.s = r0.s := q1
    obtain ⟨h1, cs, T, h2, h3⟩ := hm.row l r0 e2 (by rw [← q1]; exact hl)
    rw [sub_get e1]
    refine ⟨h1.trans q2.symm, cs, T, h2, fun x hx y hy => ?_⟩
    have hy0 : y < r0.sz := by rw [q2] at hy; exact hy
    obtain ⟨u, g1, g2, g3⟩ := h3 x (Nat.lt_of_lt_of_le hx q3) y hy0
    refine ⟨u, by rw [q2]; exact g1, g2, q4 x hx y hy _ _ _ _ _ (VRel.ren (inv_ok hlen) _ _ g3)⟩
  · obtain ⟨l, r0, e1, e2, q1, _⟩ := hget i r hi
    obtain ⟨l', r0', e1', e2', q1', _⟩ := hget j r' hj
    have q1 : r.s = r0.s := q1
    have q1' : r'.s = r0'.s := q1'
    rw [sub_get e1, sub_get e1']
    exact hm.apart l l' r0 r0' (ne i j l l' hne e1 e1') e2 e2' (by rw [← q1]; exact h1) (by rw [← q1']; exact h2)
  · obtain ⟨l, r0, e1, e2, q1, _⟩ := hget i r hi
    rw [sub_get e1]
    exact hm.mine l r0 e2 (by rw [q1] at ho; exact ho)
  · obtain ⟨l, r0, e1, e2, q1, _⟩ := hget i r hi
    rw [sub_get e1]
    exact hm.imm l r0 e2 (by rw [q1] at ho; exact ho)
  · obtain ⟨l, r0, e1, e2, q1, q2, q3, q4⟩ := hget i r hi
    have q1 : r.s = r0.s := q1
    obtain ⟨g1, g2⟩ := hm.side l r0 e2 (by rw [← q1]; exact hmp)
    rw [sub_get e1]
    exact ⟨g1, g2.up q3 q2 (.refl _) fun x hx y hy v hv => q4 x hx y hy _ _ _ _ _ (VRel.ren (inv_ok hlen) _ _ hv)⟩
  · obtain ⟨l, r0, e1, e2, q1, _⟩ := hget i r hi
    obtain ⟨l', r0', e1', e2', q1', _⟩ := hget j r' hj
    have q1 : r.s = r0.s := q1
    have q1' : r'.s = r0'.s := q1'
    rw [sub_get e1, sub_get e1']
    exact hm.sap l l' r0 r0' (ne i j l l' hne e1 e1') e2 e2' (by rw [← q1]; exact h1) (by rw [← q1']; exact h2)
/-- the rows sel are kept, under new numbers -/
theorem can_rowsv (sel : List Nat) {tm : List (Nat × PV)} {rows : List Row} (hk : Γ.k0 ≤ sel.length ∧ ∀ i, i < Γ.k0 → sel[i]? = some i) (hd : nodupB sel = true) (hs : SelV st.mem sel sel rows) (ht : TmOk st sel tm) : Can N Γ st ⟨tm, rows⟩ := fun ρ I a w h => by
  have hnd := nodupB_ok sel hd
  obtain ⟨hlen, hget⟩ := SelV.get sel rows hs
  have slot : ∀ (tm : List (Nat × PV)), TmOk st sel tm → ∀ t, VRel rows.length (sub sel ρ) I w (look t tm) (a.tmps.getD t undef) := by
    intro tm
    induction tm with
    | nil => intro _ t; trivial
    | cons x tm ih =>
      obtain ⟨s, p⟩ := x
      intro hx t
      simp only [look]
      cases hb : Nat.beq t s
      · exact ih hx.2 t
      · obtain rfl : t = s := Nat.eq_of_beq_eq_true hb
        exact hx.1 _ _ _ _ _ (VRel.ren (inv_ok hlen) _ _ (h.slot t))
  refine ⟨sub sel ρ, I, ⟨h.fr.m.selv hs hnd, h.fr.os, h.fr.tape, h.fr.output, h.fr.size, h.fr.block, h.fr.shape, h.fr.old, h.fr.new, fun i r hi ho hlt => ?_, fun i r hi ho hki => ?_, by simp only; omega, fun l hl => ?_, fun i r hi ho hki => ?_, h.fr.gl⟩, h.defers, h.size, slot tm ht⟩
  · obtain ⟨l, r0, e1, e2, e4, _⟩ := hget i r hi
    rw [sub_get e1] at hlt ⊢
    exact h.fr.own l r0 e2 (by rw [e4] at ho; exact ho) hlt
  · obtain ⟨l, r0, e1, e2, e4, _⟩ := hget i r hi
    rw [sub_get e1]
    refine h.fr.fresh l r0 e2 (by rw [e4] at ho; exact ho) ?_
    by_cases hlt : l < Γ.k0
    · have := (List.getElem?_inj (getLt e1) hnd).1 (e1.trans (hk.2 l hlt).symm)
      omega
    · omega
  · rw [sub_get (hk.2 l hl)]; exact h.fr.ρ0 l hl
  · obtain ⟨l, r0, e1, e2, e4, _⟩ := hget i r hi
    rw [sub_get e1]
    have e4 : r.s = r0.s := e4
    refine h.fr.sfresh l r0 e2 (by rw [e4] at ho; exact ho) ?_
    by_cases hlt : l < Γ.k0
    · have := (List.getElem?_inj (getLt e1) hnd).1 (e1.trans (hk.2 l hlt).symm)
      omega
    · omega
/-- a row without memory more -/
theorem can_virt (rv : Row) (hv : rv.s = .virt) : Can N Γ st ⟨st.tm, st.mem ++ [rv]⟩ := fun ρ I a w h => by
  have split : ∀ (l : Nat) (r : Row), (st.mem ++ [rv])[l]? = some r → r.s ≠ .virt → st.mem[l]? = some r := fun l r hl hne => by
    by_cases hlt : l < st.mem.length
    · rw [List.getElem?_append_left hlt] at hl; exact hl
    · exfalso
      have h1 := lt_get hl
      simp at h1
      have : l = st.mem.length := by omega
      subst this
      simp at hl
      rw [← hl] at hne
      exact hne hv
  have lv : ∀ {r : Row}, r.s.live → r.s ≠ .virt := fun hr he => by rw [he] at hr; exact hr
  have ow : ∀ {r : Row}, r.s.isOwn → r.s ≠ .virt := fun hr he => by rw [he] at hr; exact hr
  have up : ∀ {p : PV} {v : Value}, VRel st.mem.length ρ I w p v → VRel (st.mem ++ [rv]).length ρ I w p v := fun hp => hp.up (by simp) (fun _ _ => rfl) (fun _ h => h) (Tr.refl _ _)
  refine ⟨ρ, I, ⟨⟨fun l r hl hs => ?_, fun l l' r r' hne hl hl' hs hs' => ?_, fun l r hl ho => ?_, fun l r hl hi => ?_, h.fr.m.lt, fun l r hl hm => ?_, fun l l' r r' hne hl hl' hs hs' => ?_⟩, h.fr.os, h.fr.tape, h.fr.output, h.fr.size, h.fr.block, h.fr.shape, h.fr.old, h.fr.new, fun l r hl ho => ?_, fun l r hl ho => ?_, ?_, h.fr.ρ0, fun l r hl hm => ?_, h.fr.gl⟩, h.defers, h.size, fun t => up (h.slot t)⟩
  · obtain ⟨h1, cs, T, h2, h3⟩ := h.fr.m.row l r (split l r hl (lv hs)) hs
    exact ⟨h1, cs, T, h2, fun i hi j hj => by obtain ⟨u, g1, g2, g3⟩ := h3 i hi j hj; exact ⟨u, g1, g2, up g3⟩⟩
  · exact h.fr.m.apart l l' r r' hne (split l r hl (lv hs)) (split l' r' hl' (lv hs')) hs hs'
  · exact h.fr.m.mine l r (split l r hl (ow ho)) ho
  · exact h.fr.m.imm l r (split l r hl (by rw [hi]; simp)) hi
  · obtain ⟨g1, g2⟩ := h.fr.m.side l r (split l r hl (by rw [hm]; simp)) hm
    exact ⟨g1, g2.up (Nat.le_refl _) rfl (.refl _) fun i hi j hj v hv => up hv⟩
  · exact h.fr.m.sap l l' r r' hne (split l r hl (by rw [hs]; simp)) (split l' r' hl' (by rw [hs']; simp)) hs hs'
  · exact h.fr.own l r (split l r hl (ow ho)) ho
  · exact h.fr.fresh l r (split l r hl (ow ho)) ho
  · have := h.fr.k0; simp; omega
  · exact h.fr.sfresh l r (split l r hl (by rw [hm]; simp)) hm
end
/-- the cells of an element are closed -/
def CellsCl {α : Type} (c : α → List PV) : Prop := ∀ x, ClL (c x)
theorem tF_cl {α : Type} {c : α → List PV} (hc : CellsCl c) (g : Nat → α) (i j : Nat) : Cl (tF c g i j) := clL_nth _ j (hc (g i))
theorem v_cl {α : Type} {c : α → List PV} (hc : CellsCl c) (sz n : Nat) (g : Nat → α) : rowCl (vRow c sz n g) := fun i _ j _ => tF_cl hc g i j
theorem o_cl {α : Type} {c : α → List PV} (hc : CellsCl c) (sz n : Nat) (g : Nat → α) : rowCl (oRow c sz n g) := fun i _ j _ => tF_cl hc g i j
theorem c1_cl : CellsCl c1 := fun _ => ⟨trivial, trivial⟩
/-- a row whose cells are these -/
theorem o_eq {α : Type} {c : α → List PV} (hc : CellsCl c) {τ : Nat → Option Nat} {sz n n' : Nat} {f : Nat → Nat → PV} {g : Nat → α} (hn : n' ≤ n) (h : ∀ a, a < n' → ∀ b, b < sz → f a b = nthP (c (g a)) b) : RowEq (Row.ren τ ⟨.own, false, n, sz, f⟩) (oRow c sz n' g) :=
  ⟨rfl, rfl, hn, fun i hi j hj => by
    show PEq ((f i j).ren τ) (nthP (c (g i)) j)
    rw [h i hi j hj]; exact PEq.cl _ (clL_nth _ j (hc (g i)))⟩
theorem vo_eq {α : Type} {c : α → List PV} {sz n : Nat} {g : Nat → α} (hn : 0 < n) : vRow c sz n g = oRow c sz n g := by
  cases n with
  | zero => omega
  | succ n => rfl
/-- behind an append to a slice that is not nil -/
theorem app_o {α : Type} {c : α → List PV} (hc : CellsCl c) {τ : Nat → Option Nat} {sz m M : Nat} {g : Nat → α} {y : α} {L : List PV} (hL : L = c y) (hM : M = m + 1) : RowEq (Row.ren τ ⟨.own, false, M, sz, appF m (fun x => tF c g (0 + x)) (fun x b => nthP L ((0 + x) * sz + b))⟩) (oRow c sz (m + 1) (snocA m g y)) := by
  subst hL hM
  refine o_eq hc (Nat.le_refl _) fun a ha b hb => ?_
  unfold snocA
  by_cases e : a < m
  · rw [appF_lt _ _ e, if_pos e, Nat.zero_add]; rfl
  · obtain rfl : a = m := by omega
    rw [appF_ge _ _ (Nat.le_refl _), if_neg (by omega), Nat.sub_self, Nat.zero_add, Nat.zero_mul, Nat.zero_add]
theorem app_v {α : Type} {c : α → List PV} (hc : CellsCl c) {τ : Nat → Option Nat} {sz m M : Nat} {g : Nat → α} {y : α} {L : List PV} (hL : L = c y) (hM : M = m + 1) : RowEq (Row.ren τ ⟨.own, false, M, sz, appF m (fun x => tF c g (0 + x)) (fun x b => nthP L ((0 + x) * sz + b))⟩) (vRow c sz (m + 1) (snocA m g y)) := app_o hc hL hM
/-- behind the first append -/
theorem app_0 {α : Type} {c : α → List PV} (hc : CellsCl c) {τ : Nat → Option Nat} {sz : Nat} {g : Nat → α} {y : α} {L : List PV} (hL : L = c y) : RowEq (Row.ren τ ⟨.own, false, 1, sz, fun x b => nthP L ((0 + x) * sz + b)⟩) (vRow c sz (0 + 1) (snocA 0 g y)) := by
  subst hL
  refine o_eq hc (Nat.le_refl _) fun a ha b hb => ?_
  obtain rfl : a = 0 := by omega
  show nthP (c y) ((0 + 0) * sz + b) = nthP (c (snocA 0 g y 0)) b
  simp [snocA]
/-- .. where the content is told beforehand -/
theorem app_g {α : Type} {c : α → List PV} (hc : CellsCl c) {τ : Nat → Option Nat} {sz m M : Nat} {g : Nat → α} {L : List PV} (hL : L = c (g m)) (hM : M = m + 1) : RowEq (Row.ren τ ⟨.own, false, M, sz, appF m (fun x => tF c g (0 + x)) (fun x b => nthP L ((0 + x) * sz + b))⟩) (vRow c sz (m + 1) g) := by
  subst hL hM
  refine o_eq hc (Nat.le_refl _) fun a ha b hb => ?_
  by_cases e : a < m
  · rw [appF_lt _ _ e, Nat.zero_add]; rfl
  · obtain rfl : a = m := by omega
    rw [appF_ge _ _ (Nat.le_refl _), Nat.sub_self, Nat.zero_add, Nat.zero_mul, Nat.zero_add]
theorem app_g0 {α : Type} {c : α → List PV} (hc : CellsCl c) {τ : Nat → Option Nat} {sz : Nat} {g : Nat → α} {L : List PV} (hL : L = c (g 0)) : RowEq (Row.ren τ ⟨.own, false, 1, sz, fun x b => nthP L ((0 + x) * sz + b)⟩) (vRow c sz (0 + 1) g) := by
  subst hL
  refine o_eq hc (Nat.le_refl _) fun a ha b hb => ?_
  obtain rfl : a = 0 := by omega
  show nthP (c (g 0)) ((0 + 0) * sz + b) = nthP (c (g 0)) b
  simp
/-- a list as a content -/
def lF {α : Type} (d : α) (l : List α) (a : Nat) : α := l.getD a d
theorem lF_lt {α : Type} {d : α} {l r : List α} {a : Nat} (h : a < l.length) : lF d (l ++ r) a = lF d l a := by
  unfold lF; rw [List.getD_eq_getElem?_getD, List.getD_eq_getElem?_getD, List.getElem?_append_left h]
theorem lF_at {α : Type} {d y : α} {l r : List α} : lF d (l ++ y :: r) l.length = y := by
  unfold lF; rw [List.getD_eq_getElem?_getD]; simp
/-- append to a list -/
theorem app_l {α : Type} {c : α → List PV} (hc : CellsCl c) {τ : Nat → Option Nat} {sz m M : Nat} {d : α} {l : List α} {y : α} {L : List PV} (hl : l.length = m) (hL : L = c y) (hM : M = m + 1) : RowEq (Row.ren τ ⟨.own, false, M, sz, appF m (fun x => tF c (lF d l) (0 + x)) (fun x b => nthP L ((0 + x) * sz + b))⟩) (vRow c sz (m + 1) (lF d (l ++ [y]))) := by
  subst hL hM hl
  refine o_eq hc (Nat.le_refl _) fun a ha b hb => ?_
  by_cases e : a < l.length
  · rw [appF_lt _ _ e, Nat.zero_add, lF_lt e]; rfl
  · obtain rfl : a = l.length := by omega
    rw [appF_ge _ _ (Nat.le_refl _), Nat.sub_self, Nat.zero_add, Nat.zero_mul, Nat.zero_add, lF_at]
theorem app_l0 {α : Type} {c : α → List PV} (hc : CellsCl c) {τ : Nat → Option Nat} {sz : Nat} {d : α} {l : List α} {y : α} {L : List PV} (hl : l.length = 0) (hL : L = c y) : RowEq (Row.ren τ ⟨.own, false, 1, sz, fun x b => nthP L ((0 + x) * sz + b)⟩) (vRow c sz (0 + 1) (lF d (l ++ [y]))) := by
  subst hL
  have : l = [] := List.length_eq_zero_iff.1 hl
  subst this
  refine o_eq hc (Nat.le_refl _) fun a ha b hb => ?_
  obtain rfl : a = 0 := by omega
  show nthP (c y) ((0 + 0) * sz + b) = nthP (c (lF d ([] ++ [y]) 0)) b
  simp [lF]
/-- behind a store of a whole element -/
theorem upd_o {α : Type} {c : α → List PV} (hc : CellsCl c) {τ : Nat → Option Nat} {sz n i j : Nat} {g : Nat → α} {y : α} {L : List PV} (hL : L = c y) (hj : j = i) : RowEq (Row.ren τ ⟨.own, false, n, sz, updR (tF c g) j L⟩) (oRow c sz n (updA g i y)) := by
  subst hL hj
  refine o_eq hc (Nat.le_refl _) fun a ha b hb => ?_
  unfold updR updA
  by_cases e : a = j
  · subst e; simp
  · have : Nat.beq a j = false := by cases hb2 : Nat.beq a j; rfl; exact absurd (Nat.eq_of_beq_eq_true hb2) e
    simp only [this, if_neg e, cond_false]; rfl
/-- a new slice of zeros -/
theorem zero_o {α : Type} {c : α → List PV} (hc : CellsCl c) {τ : Nat → Option Nat} {sz n n' : Nat} {y : α} {L : List PV} (hL : L = c y) (hn : n' = n) : RowEq (Row.ren τ ⟨.own, false, n, sz, fun _ => nthP L⟩) (oRow c sz n' (fun _ => y)) := by
  subst hL hn
  exact o_eq hc (Nat.le_refl _) fun a ha b hb => rfl
theorem arg_o {α : Type} {c : α → List PV} (hc : CellsCl c) {mem : List Row} {L : List Nat} {l n sz : Nat} {g : Nat → α} {s : RS} (hr : rowAt mem l = some ⟨s, false, n, sz, tF c g⟩) (hs : s.live) (hL : l ∈ L) : ArgOk mem L (.lsl l 0 n) (.vsl n sz (tF c g)) :=
  argLsl (r := ⟨s, false, n, sz, tF c g⟩) hr hs hL (by simp) fun a ha b hb => ⟨by show tF c g (0 + a) b = _; rw [Nat.zero_add], tF_cl hc g a b⟩
theorem arg_v {α : Type} {c : α → List PV} (hc : CellsCl c) {mem : List Row} {L : List Nat} {l n sz : Nat} {g : Nat → α} (hr : rowAt mem l = some (vRow c sz n g)) (hL : l ∈ L) : ArgOk mem L (slP n l) (.vsl n sz (tF c g)) := by
  cases n with
  | zero => exact argNil
  | succ n => exact arg_o hc hr trivial hL
theorem peq_slP {τ : Nat → Option Nat} {k l l' : Nat} (h : τ l = some l') : PEq ((slP k l).ren τ) (slP k l') := by
  cases k with
  | zero => exact PEq.refl _
  | succ k =>
    show PEq (match τ l with | some l' => PV.lsl l' 0 (k + 1) | none => .junk) (.lsl l' 0 (k + 1))
    rw [h]; exact PEq.refl _
theorem peq_nil {sz : Nat} {f : Nat → Nat → PV} : PEq (.val (.slice none 0 0)) (.vsl 0 sz f) := fun k ρ I w v h => ⟨none, 0, h, Nat.le_refl _, .inl rfl⟩
theorem tI_eq (g : Nat → Int) (i : Nat) : tI g i 0 = tF c1 g i 0 := rfl
theorem argTI {mem : List Row} {L : List Nat} {p : PV} {n : Nat} {g : Nat → Int} (h : ArgOk mem L p (.vsl n 1 (tF c1 g))) : ArgOk mem L p (.vsl n 1 (tI g)) := fun ρ I w v hm hv => by
  obtain ⟨a, cap, h1, h2, h3⟩ := h ρ I w v hm hv
  refine ⟨a, cap, h1, h2, h3.imp id ?_⟩
  rintro ⟨b, o, e, hb, h4⟩
  refine ⟨b, o, e, hb, fun i hi j hj => ?_⟩
  have hj0 : j = 0 := by omega
  subst hj0
  exact h4 i hi 0 hj

abbrev cN (x : Nat) : List PV := [vi (x : Int)]
theorem cN_cl : CellsCl cN := fun _ => ⟨trivial, trivial⟩
theorem argTN {mem : List Row} {L : List Nat} {p : PV} {n : Nat} {l : List Nat} (h : ArgOk mem L p (.vsl n 1 (tF cN (lF 0 l)))) : ArgOk mem L p (.vsl n 1 (tI (lN l))) := fun ρ I w v hm hv => by
  obtain ⟨a, cap, h1, h2, h3⟩ := h ρ I w v hm hv
  refine ⟨a, cap, h1, h2, h3.imp id ?_⟩
  rintro ⟨b, o, e, hb, h4⟩
  refine ⟨b, o, e, hb, fun i hi j hj => ?_⟩
  have hj0 : j = 0 := by omega
  subst hj0
  exact h4 i hi 0 hj

/-- how long a slice is -/
def slLen : PV → Option Nat
  | .vsl n _ _ => some n
  | .lsl _ _ n => some n
  | .val (.slice none n _) => some n
  | _ => none
section
variable {G : Pg} {N : Nat} {Γ : Fr} {st : PSt} {K : Exit → PSt → Prop} {ops : Array Oper} {o : Oper} {rest : List Oper} {d : Nat}
theorem slLen_rel {k : Nat} {ρ : Nat → Loc} {I : Nat → Prop} {w : World} {p : PV} {v : Value} {n : Nat} (h : slLen p = some n) (hv : VRel k ρ I w p v) : ∃ a cap, v = .slice a n cap ∧ (0 < n → (∃ x, a = some x) ∨ ∃ c, p = .val (.slice none n c)) := by
  unfold slLen at h
  split at h
  · simp only [Option.some.injEq] at h
    subst h
    obtain ⟨a, cap, rfl, _, h3⟩ := hv
    refine ⟨a, cap, rfl, fun hn => ?_⟩
    rcases h3 with h3 | ⟨b, o, e, _⟩
    · omega
    · exact .inl ⟨_, e⟩
  · simp only [Option.some.injEq] at h
    subst h
    rcases hv.2 with ⟨rfl, a, rfl⟩ | ⟨cap, _, rfl, _⟩
    · exact ⟨a, 0, rfl, fun h => by omega⟩
    · exact ⟨_, cap, rfl, fun _ => .inl ⟨_, rfl⟩⟩
  · rename_i m c
    simp only [Option.some.injEq] at h
    subst h
    exact ⟨none, c, hv, fun _ => .inr ⟨c, rfl⟩⟩
  · cases h
/-- a comparison of a slice with nil -/
theorem pop_nileq {t t' e n : Nat} {x : Operand} (hg : o.guard = none) (hd : o.dst = some d) (hN : Nat.blt d N = true) (ho : o.op = .binOp .eql t x (.const (.slice none 0 0)) t') (hk : (tget G.tab t).k = .slice e) (hl : slLen (st.ev x) = some n) (hne : ∀ c, st.ev x ≠ .val (.slice none n c) ∨ n = 0)
    (h : ∀ b : Bool, (0 < n → b = false) → POps G N Γ ops rest (st.put d (vb b)) K) : POps G N Γ ops (o :: rest) st K := .mk fun ρ I a w hrel => by
  have hw : Region.wanted o (yielded ops a.tmps) = true := by simp [Region.wanted, hg]
  simp only [wpList, hw, if_true]
  refine .inl ?_
  obtain ⟨ad, cap, hv, hn⟩ := slLen_rel hl (ev_rel hrel x)
  have hu := tab_slice G.ok hk
  have hrun : (execOp a.eval o).run G.P w = .ok (.value (.bool ad.isNone)) w := by
    have hc : a.eval (.const (.slice none 0 0)) = .slice none 0 0 := rfl
    have hb : (binOp .eql t (.slice ad n cap) (.slice none 0 0)).run G.P w = .ok (.bool ad.isNone) w := by
      show (do pure (Value.bool (← Op.equal t (.slice ad n cap) (.slice none 0 0))) : Sem Value).run G.P w = _
      simp only [Sem.run_bind, run_equal_slice_nil w t e ad n cap hu, Result.andThen_ok, Sem.run_pure]
    simp only [execOp, ho, hv, hc, Sem.run_bind, eqGuard_plain .eql t x (.const (.slice none 0 0)) (.slice ad n cap) (.slice none 0 0) w (by simp) (by simp), hb, Result.andThen_ok, Sem.run_pure]
  simp only [Oper.wp, hrun, Oper.upon_value, hd]
  refine (h ad.isNone fun hn0 => ?_).go ρ I _ w (hrel.put (by rwa [Nat.blt_eq] at hN) rfl)
  rcases hn hn0 with ⟨y, rfl⟩ | ⟨c, hc⟩
  · rfl
  · rcases hne c with hh | hh
    · exact absurd hc hh
    · omega
end
/-- the cells of a kind of elements name no row -/
theorem clq {α : Type} {c : α → List PV} (h : CellsCl c := by first | exact c1_cl | exact cN_cl | exact cO_cl | exact cE_cl | exact cP_cl) : CellsCl c := h
/-- a row as it is told -/
theorem rqq {r r' : Row} (h : RowEq r r' := by first | exact RowEq.cl (tape_cl _ _ _) | exact RowEq.cl (i_cl _ _) | exact RowEq.cl (o_cl clq _ _ _) | exact RowEq.cl (v_cl clq _ _ _) | exact app_l clq (by assumption) rfl rfl | exact app_l0 clq (by assumption) rfl | exact app_g clq rfl rfl | exact app_g0 clq rfl | exact app_v clq rfl rfl | exact app_o clq rfl rfl | exact app_0 clq rfl | exact upd_o clq rfl (by omega) | exact zero_o clq rfl rfl | exact var_eq (by (repeat refine ⟨PEq.refl _, ?_⟩); exact trivial) | exact i_eq (Nat.le_refl _) (fun _ _ => rfl)) : RowEq r r' := h
/-- slots as they are told -/
theorem tmq {P : Prop} (h : P := by (repeat (first | refine ⟨PEq.refl _, ?_⟩ | refine ⟨peq_slP rfl, ?_⟩ | refine ⟨PEq.cl _ (by assumption), ?_⟩)); exact trivial) : P := h
end Go.Proofs.YtcghpepighboaaaDoor
