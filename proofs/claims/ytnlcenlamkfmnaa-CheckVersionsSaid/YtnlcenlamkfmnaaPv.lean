/- Pure values: what a Go value stands for, without addresses; how pure values and rows of memory are read in a world. -/
import Derived.Test.YtnlcenlamkfmnaaRows
import Derived.WalkKit
import Derived.OrdersHeld
import Derived.Laws.StructEq
import Derived.Laws.AppendOwn
import Derived.Deep.MidRow
import Derived.MapKept
set_option linter.unusedSimpArgs false
set_option linter.unusedVariables false
namespace Go.Proofs.Ytnlcenlamkfmnaa
open Go.MapKept (Stamped)

/-- pure values: a value as it is (val); a struct or array of cells (agg); results (tup); an address of cell j of element i of the row l of the call's own (ptr); a slice of a row of the call's own (lsl); a slice that nobody changes any more, with its content (vsl), an address in such a one (vptr); a value that is there only if b (opt); a function value (clo); the map of row l (mref). -/
inductive PV where
  | junk
  | val (v : Value)
  | agg (n : Nat) (f : Nat → PV)
  | tup (n : Nat) (f : Nat → PV)
  | ptr (l i j : Nat)
  | lsl (l i n : Nat)
  | vsl (n sz : Nat) (f : Nat → Nat → PV)
  | vptr (n sz : Nat) (f : Nat → Nat → PV) (i j : Nat)
  | opt (b : Bool) (v : PV)
  | clo (f : FuncId) (n : Nat) (c : Nat → PV)
  | mref (l : Nat)

/-- where a row of the call's own lies: block, first cell, cells of an element -/
structure Loc where
  b : Nat
  o : Nat
  sz : Nat

/-- what a pure value means: k: how many rows there are; ρ: where they lie; I: the blocks that nobody changes any more -/
def VRel : Nat → (Nat → Loc) → (Nat → Prop) → World → PV → Value → Prop
  | _, _, _, _, .junk, _ => True
  | _, _, _, _, .val x, v => v = x
  | k, ρ, I, w, .agg n f, v => ∃ vs : Array Value, v = .agg vs ∧ vs.size = n ∧ ∀ i, i < n → (vs.getD i undef).oneCell' = true ∧ VRel k ρ I w (f i) (vs.getD i undef)
  | k, ρ, I, w, .tup n f, v => ∃ vs : Array Value, v = .tuple vs ∧ vs.size = n ∧ ∀ i, i < n → VRel k ρ I w (f i) (vs.getD i undef)
  | k, ρ, _, _, .ptr l i j, v => l < k ∧ v = .pointer (some ⟨(ρ l).b, (ρ l).o + i * (ρ l).sz + j, none⟩)
  | k, ρ, _, w, .lsl l i n, v => l < k ∧ ((n = 0 ∧ ∃ a, v = .slice a 0 0) ∨ ∃ cap, n ≤ cap ∧ v = .slice (some ⟨(ρ l).b, (ρ l).o + i * (ρ l).sz, none⟩) n cap ∧
      ∃ cs T fz, w.heap[(ρ l).b]? = some (Obj.cells cs T fz) ∧ (ρ l).o + (i + cap) * (ρ l).sz ≤ cs.size)
  | _, ρ, I, w, .vsl n sz f, v => ∃ a cap, v = .slice a n cap ∧ n ≤ cap ∧ (n = 0 ∨ ∃ b o, a = some ⟨b, o, none⟩ ∧ I b ∧
      ∀ i, i < n → ∀ j, j < sz → ∃ u, w.cell? ⟨b, o + i * sz + j, none⟩ = some u ∧ u.oneCell' = true ∧ VRel 0 ρ I w (f i j) u)
  | _, ρ, I, w, .vptr n sz f i j, v => ∃ b o, v = .pointer (some ⟨b, o + i * sz + j, none⟩) ∧ I b ∧
      ∀ i, i < n → ∀ j, j < sz → ∃ u, w.cell? ⟨b, o + i * sz + j, none⟩ = some u ∧ u.oneCell' = true ∧ VRel 0 ρ I w (f i j) u
  | k, ρ, I, w, .opt b p, v => (b = true → VRel k ρ I w p v) ∧ (b = false → v = undef)
  | k, ρ, I, w, .clo f n c, v => ∃ vs : Array Value, v = .func (.func f) #[] vs ∧ vs.size = n ∧ ∀ i, i < n → VRel k ρ I w (c i) (vs.getD i undef)
  | k, ρ, _, _, .mref l, v => l < k ∧ v = .map (some (ρ l).b)

/-- a pure value that names no row -/
def Cl : PV → Prop
  | .junk => True
  | .val _ => True
  | .agg n f => ∀ i, i < n → Cl (f i)
  | .tup n f => ∀ i, i < n → Cl (f i)
  | .ptr _ _ _ => False
  | .lsl _ _ _ => False
  | .vsl _ _ _ => True
  | .vptr _ _ _ _ _ => True
  | .opt _ p => Cl p
  | .clo _ n c => ∀ i, i < n → Cl (c i)
  | .mref _ => False

/-- from w to w': the blocks of I are as they were; all blocks keep their shape -/
structure Tr (I : Nat → Prop) (w w' : World) : Prop where
  keep : ∀ b, I b → w'.heap[b]? = w.heap[b]?
  shape : ∀ (b : Nat) cs T fz, w.heap[b]? = some (Obj.cells cs T fz) → ∃ cs', w'.heap[b]? = some (Obj.cells cs' T fz) ∧ cs'.size = cs.size

theorem Tr.refl (I : Nat → Prop) (w : World) : Tr I w w := ⟨fun _ _ => rfl, fun _ cs _ _ h => ⟨cs, h, rfl⟩⟩
theorem Tr.cell {I : Nat → Prop} {w w' : World} (h : Tr I w w') {b : Nat} (hb : I b) (o : Nat) : w'.cell? ⟨b, o, none⟩ = w.cell? ⟨b, o, none⟩ :=
  World.cell?_of_block (w := w) (h.keep b hb)

/-- a pure value goes on meaning the same -/
theorem VRel.mono {ρ ρ' : Nat → Loc} {I I' : Nat → Prop} {w w' : World} (hI : ∀ b, I b → I' b) (ht : Tr I w w') :
    ∀ (p : PV) (k k' : Nat) (v : Value), k ≤ k' → (∀ l, l < k → ρ' l = ρ l) → VRel k ρ I w p v → VRel k' ρ' I' w' p v := by
  intro p
  induction p with
  | junk => intro k k' v _ _ _; trivial
  | val x => intro k k' v _ _ h; exact h
  | agg n f ih => rintro k k' v hk hρ ⟨vs, h1, h2, h3⟩; exact ⟨vs, h1, h2, fun i hi => ⟨(h3 i hi).1, ih i k k' _ hk hρ (h3 i hi).2⟩⟩
  | tup n f ih => rintro k k' v hk hρ ⟨vs, h1, h2, h3⟩; exact ⟨vs, h1, h2, fun i hi => ih i k k' _ hk hρ (h3 i hi)⟩
  | ptr l i j => rintro k k' v hk hρ ⟨h1, h2⟩; exact ⟨by omega, by rw [hρ l h1]; exact h2⟩
  | lsl l i n =>
    rintro k k' v hk hρ ⟨h1, h⟩
    refine ⟨by omega, h.imp id ?_⟩
    rintro ⟨cap, h2, h3, cs, T, fz, h4, h5⟩
    obtain ⟨cs', h6, h7⟩ := ht.shape _ _ _ _ h4
    exact ⟨cap, h2, by rw [hρ l h1]; exact h3, cs', T, fz, by rw [hρ l h1]; exact h6, by rw [hρ l h1, h7]; exact h5⟩
  | vsl n sz f ih =>
    rintro k k' v hk hρ ⟨a, cap, h1, h2, h3⟩
    refine ⟨a, cap, h1, h2, h3.imp id ?_⟩
    rintro ⟨b, o, e, hb, h4⟩
    refine ⟨b, o, e, hI b hb, fun i hi j hj => ?_⟩
    obtain ⟨u, h5, h7, h6⟩ := h4 i hi j hj
    exact ⟨u, by rw [ht.cell hb]; exact h5, h7, ih i j 0 0 _ (Nat.le_refl _) (fun l hl => by omega) h6⟩
  | vptr n sz f i j ih =>
    rintro k k' v hk hρ ⟨b, o, e, hb, h4⟩
    refine ⟨b, o, e, hI b hb, fun i hi j hj => ?_⟩
    obtain ⟨u, h5, h7, h6⟩ := h4 i hi j hj
    exact ⟨u, by rw [ht.cell hb]; exact h5, h7, ih i j 0 0 _ (Nat.le_refl _) (fun l hl => by omega) h6⟩
  | opt b p ih => rintro k k' v hk hρ ⟨h1, h2⟩; exact ⟨fun hb => ih k k' _ hk hρ (h1 hb), h2⟩
  | clo f n c ih => rintro k k' v hk hρ ⟨vs, h1, h2, h3⟩; exact ⟨vs, h1, h2, fun i hi => ih i k k' _ hk hρ (h3 i hi)⟩
  | mref l => rintro k k' v hk hρ ⟨h1, h2⟩; exact ⟨by omega, by rw [hρ l h1]; exact h2⟩
theorem VRel.up {k k' : Nat} {ρ ρ' : Nat → Loc} {I I' : Nat → Prop} {w w' : World} {p : PV} {v : Value} (h : VRel k ρ I w p v) (hk : k ≤ k') (hρ : ∀ l, l < k → ρ' l = ρ l) (hI : ∀ b, I b → I' b) (ht : Tr I w w') : VRel k' ρ' I' w' p v :=
  VRel.mono hI ht p k k' v hk hρ h
theorem VRel.of0 {k : Nat} {ρ ρ' : Nat → Loc} {I : Nat → Prop} {w : World} {p : PV} {v : Value} (h : VRel 0 ρ I w p v) : VRel k ρ' I w p v :=
  h.up (Nat.zero_le _) (fun l hl => by omega) (fun _ h => h) (Tr.refl _ _)

/-- .. a closed one, whatever rows there are -/
theorem VRel.close {ρ ρ' : Nat → Loc} {I : Nat → Prop} {w : World} :
    ∀ (p : PV) (k k' : Nat) (v : Value), Cl p → VRel k ρ I w p v → VRel k' ρ' I w p v := by
  intro p
  induction p with
  | junk => intro k k' v _ _; trivial
  | val x => intro k k' v _ h; exact h
  | agg n f ih => rintro k k' v hc ⟨vs, h1, h2, h3⟩; exact ⟨vs, h1, h2, fun i hi => ⟨(h3 i hi).1, ih i k k' _ (hc i hi) (h3 i hi).2⟩⟩
  | tup n f ih => rintro k k' v hc ⟨vs, h1, h2, h3⟩; exact ⟨vs, h1, h2, fun i hi => ih i k k' _ (hc i hi) (h3 i hi)⟩
  | ptr l i j => intro k k' v hc; exact hc.elim
  | lsl l i n => intro k k' v hc; exact hc.elim
  | vsl n sz f ih =>
    rintro k k' v _ ⟨a, cap, h1, h2, h3⟩
    refine ⟨a, cap, h1, h2, h3.imp id ?_⟩
    rintro ⟨b, o, e, hb, h4⟩
    refine ⟨b, o, e, hb, fun i hi j hj => ?_⟩
    obtain ⟨u, h5, h7, h6⟩ := h4 i hi j hj
    exact ⟨u, h5, h7, h6.of0⟩
  | vptr n sz f i j ih =>
    rintro k k' v _ ⟨b, o, e, hb, h4⟩
    refine ⟨b, o, e, hb, fun i hi j hj => ?_⟩
    obtain ⟨u, h5, h7, h6⟩ := h4 i hi j hj
    exact ⟨u, h5, h7, h6.of0⟩
  | opt b p ih => rintro k k' v hc ⟨h1, h2⟩; exact ⟨fun hb => ih k k' _ hc (h1 hb), h2⟩
  | clo f n c ih => rintro k k' v hc ⟨vs, h1, h2, h3⟩; exact ⟨vs, h1, h2, fun i hi => ih i k k' _ (hc i hi) (h3 i hi)⟩
  | mref l => intro k k' v hc; exact hc.elim

/-- a row: dead (nobody may look at it), imm (nobody changes it any more), own, virt (no memory: the row of a nil slice), mp (a map, or what goes through a map) -/
inductive RS where
  | dead | imm | own | virt | mp
/-- one: a variable (one element) -/
structure Row where
  s : RS
  one : Bool
  n : Nat
  sz : Nat
  f : Nat → Nat → PV

def RS.live : RS → Prop
  | .dead => False
  | .virt => False
  | .mp => False
  | _ => True
def RS.isOwn : RS → Prop
  | .own => True
  | _ => False

/-- a map's entries as one value -/
def mapV (es : Array MapEntry) : Value := .tuple (es.map fun e => .tuple #[e.key, e.val])
/-- block b of w is a map (r.sz = 1: r.f 0 0: its entries), or what goes through a map (r.sz = 2: r.f 0 0: the map; r.f 0 1: the numbers of the entries that came). -/
def SideAt (k : Nat) (ρ : Nat → Loc) (I : Nat → Prop) (w : World) (b : Nat) (r : Row) : Prop :=
  (∃ o, w.heap[b]? = some o ∧ ∀ cs T fz, o ≠ Obj.cells cs T fz) ∧ (0 < r.n →
    (r.sz = 1 → ∃ es clock, w.heap[b]? = some (Obj.map es clock) ∧ Stamped es clock ∧ VRel k ρ I w (r.f 0 0) (mapV es)) ∧
    (r.sz = 2 → ∃ (mb : Nat) (es : Array MapEntry) (clock : Nat) (seen is : Array Nat), w.heap[b]? = some (Obj.mapIter (some mb) clock seen clock) ∧ w.heap[mb]? = some (Obj.map es clock) ∧ VRel k ρ I w (r.f 0 0) (.map (some mb)) ∧
      VRel k ρ I w (r.f 0 1) (.tuple (is.map fun i : Nat => Value.int .i64 i)) ∧ is.size = seen.size ∧ ∀ q i : Nat, is[q]? = some i → ∃ e : MapEntry, es[i]? = some e ∧ seen[q]? = some e.born))
/-- what is no row of cells stays as it was -/
def NC (w w' : World) : Prop := ∀ (b : Nat) (o : Obj), w.heap[b]? = some o → (∀ cs T fz, o ≠ Obj.cells cs T fz) → w'.heap[b]? = some o
theorem NC.refl (w : World) : NC w w := fun _ _ h _ => h
theorem NC.trans {a b c : World} (h : NC a b) (k : NC b c) : NC a c := fun x o hx hn => k x o (h x o hx hn) hn
/-- .. where only blocks of cells are changed -/
theorem NC.of {w w' : World} (h : ∀ b, b < w.heap.size → (∀ cs T fz, w.heap[b]? ≠ some (Obj.cells cs T fz)) → w'.heap[b]? = w.heap[b]?) : NC w w' := fun b o hb hn => by
  rw [h b (by
    by_cases hlt : b < w.heap.size
    · exact hlt
    · rw [Array.getElem?_eq_none (by omega)] at hb; cases hb) (fun cs T fz e => by rw [hb] at e; exact hn cs T fz (Option.some.inj e))]
  exact hb
theorem SideAt.up {k k' : Nat} {ρ ρ' : Nat → Loc} {I I' : Nat → Prop} {w w' : World} {b : Nat} {r r' : Row} (h : SideAt k ρ I w b r) (h2 : r'.n ≤ r.n) (h3 : r'.sz = r.sz) (hn : NC w w')
    (hv : ∀ i, i < r'.n → ∀ j, j < r'.sz → ∀ v, VRel k ρ I w (r.f i j) v → VRel k' ρ' I' w' (r'.f i j) v) : SideAt k' ρ' I' w' b r' := by
  obtain ⟨⟨o, o1, o2⟩, h⟩ := h
  refine ⟨⟨o, hn _ _ o1 o2, o2⟩, fun h0 => ?_⟩
  obtain ⟨g1, g2⟩ := h (by omega)
  refine ⟨fun hz => ?_, fun hz => ?_⟩
  · obtain ⟨es, clock, q1, q2, q3⟩ := g1 (by omega)
    exact ⟨es, clock, hn _ _ q1 (fun _ _ _ e => by cases e), q2, hv 0 h0 0 (by omega) _ q3⟩
  · obtain ⟨mb, es, clock, seen, is, q1, q2, q3, q4, q5⟩ := g2 (by omega)
    exact ⟨mb, es, clock, seen, is, hn _ _ q1 (fun _ _ _ e => by cases e), hn _ _ q2 (fun _ _ _ e => by cases e), hv 0 h0 0 (by omega) _ q3, hv 0 h0 1 (by omega) _ q4, q5⟩
theorem SideAt.nc {k : Nat} {ρ : Nat → Loc} {I : Nat → Prop} {w : World} {b : Nat} {r : Row} (h : SideAt k ρ I w b r) : ∃ o, w.heap[b]? = some o ∧ ∀ cs T fz, o ≠ Obj.cells cs T fz := h.1
theorem SideAt.lt {k : Nat} {ρ : Nat → Loc} {I : Nat → Prop} {w : World} {b : Nat} {r : Row} (h : SideAt k ρ I w b r) : b < w.heap.size := by
  obtain ⟨o, h1, _⟩ := h.nc
  by_cases hlt : b < w.heap.size
  · exact hlt
  · rw [Array.getElem?_eq_none (by omega)] at h1; cases h1

/-- the rows lie in the world -/
structure MRel (ρ : Nat → Loc) (I : Nat → Prop) (w : World) (mem : List Row) : Prop where
  row : ∀ l r, mem[l]? = some r → r.s.live → (ρ l).sz = r.sz ∧ ∃ cs T, w.heap[(ρ l).b]? = some (Obj.cells cs T (0, 0)) ∧
    ∀ i, i < r.n → ∀ j, j < r.sz → ∃ u, cs[(ρ l).o + i * r.sz + j]? = some u ∧ u.oneCell' = true ∧ VRel mem.length ρ I w (r.f i j) u
  apart : ∀ l l' r r', l ≠ l' → mem[l]? = some r → mem[l']? = some r' → r.s.live → r'.s.live → (ρ l).b ≠ (ρ l').b
  mine : ∀ l r, mem[l]? = some r → r.s.isOwn → ¬ I (ρ l).b
  imm : ∀ l r, mem[l]? = some r → r.s = .imm → I (ρ l).b
  lt : ∀ b, I b → b < w.heap.size
  side : ∀ l r, mem[l]? = some r → r.s = .mp → ¬ I (ρ l).b ∧ SideAt mem.length ρ I w (ρ l).b r
  sap : ∀ l l' r r', l ≠ l' → mem[l]? = some r → mem[l']? = some r' → r.s = .mp → r'.s = .mp → (ρ l).b ≠ (ρ l').b

/-- a state: slots and rows -/
structure PSt where
  tm : List (Nat × PV)
  mem : List Row

def look (t : Nat) : List (Nat × PV) → PV
  | [] => .junk
  | (s, v) :: r => cond (Nat.beq t s) v (look t r)
def PSt.get (st : PSt) (t : Nat) : PV := look t st.tm
def PSt.put (st : PSt) (d : Nat) (v : PV) : PSt := ⟨(d, v) :: st.tm, st.mem⟩

/-- what stays the same throughout a call: the world at the start, the blocks that may be read as never changing, the blocks that may be written, the rows that were handed in -/
structure Fr where
  w0 : World
  A : Nat → Prop
  E : Nat → Prop
  k0 : Nat
  ρ0 : Nat → Loc

structure Frame' (Γ : Fr) (ρ : Nat → Loc) (I : Nat → Prop) (w : World) (mem : List Row) : Prop where
  m : MRel ρ I w mem
  os : w.os = Γ.w0.os
  tape : w.tape = Γ.w0.tape
  output : w.output = Γ.w0.output
  size : Γ.w0.heap.size ≤ w.heap.size
  block : ∀ b, b < Γ.w0.heap.size → ¬ Γ.E b → w.heap[b]? = Γ.w0.heap[b]?
  shape : ∀ (b : Nat) cs T fz, Γ.w0.heap[b]? = some (Obj.cells cs T fz) → ∃ cs', w.heap[b]? = some (Obj.cells cs' T fz) ∧ cs'.size = cs.size
  old : ∀ b, I b → b < Γ.w0.heap.size → Γ.A b
  new : ∀ b, Γ.A b → I b
  own : ∀ l r, mem[l]? = some r → r.s.isOwn → (ρ l).b < Γ.w0.heap.size → Γ.E (ρ l).b
  fresh : ∀ l r, mem[l]? = some r → r.s.isOwn → Γ.k0 ≤ l → Γ.w0.heap.size ≤ (ρ l).b
  k0 : Γ.k0 ≤ mem.length
  ρ0 : ∀ l, l < Γ.k0 → ρ l = Γ.ρ0 l
  sfresh : ∀ l r, mem[l]? = some r → r.s = .mp → Γ.k0 ≤ l → Γ.w0.heap.size ≤ (ρ l).b

/-- the state st is a reading of the slots a and the world w -/
structure Rel (N : Nat) (Γ : Fr) (st : PSt) (ρ : Nat → Loc) (I : Nat → Prop) (a : Act) (w : World) : Prop where
  fr : Frame' Γ ρ I w st.mem
  defers : a.defers = []
  size : a.tmps.size = N
  slot : ∀ t, VRel st.mem.length ρ I w (st.get t) (a.tmps.getD t undef)

theorem Rel.put {N : Nat} {Γ : Fr} {st : PSt} {ρ : Nat → Loc} {I : Nat → Prop} {a : Act} {w : World} (h : Rel N Γ st ρ I a w) {d : Nat} (hd : d < N) {p : PV} {v : Value} (hv : VRel st.mem.length ρ I w p v) :
    Rel N Γ (st.put d p) ρ I (a.put (some d) v) w := by
  refine ⟨h.fr, h.defers, by simp [Act.put, h.size], fun t => ?_⟩
  simp only [PSt.get, PSt.put, look, Act.put]
  by_cases e : t = d
  · subst e
    have : Nat.beq t t = true := by simp
    rw [this]
    have hs := h.size
    simp [Array.getElem?_setIfInBounds, hs, hd]
    exact hv
  · have : Nat.beq t d = false := by
      cases hb : Nat.beq t d
      · rfl
      · exact absurd (Nat.eq_of_beq_eq_true hb) e
    rw [this]
    have := h.slot t
    simp only [PSt.get] at this
    have e2 : (a.tmps.setIfInBounds d v).getD t undef = a.tmps.getD t undef := by
      simp [Array.getD_eq_getD_getElem?, Array.getElem?_setIfInBounds, Ne.symm e]
    rw [e2]; exact this
end Go.Proofs.Ytnlcenlamkfmnaa
