/- Pure values: what a Go value stands for, without addresses; how pure values and rows of memory are read in a world. -/
import Derived.Test.YtcghpepighboaaaDoorRows
import Derived.WalkKit
import Derived.OrdersHeld
import Derived.Laws.StructEq
import Derived.Laws.AppendOwn
import Derived.Deep.MidRow
import Derived.MapKept
set_option linter.unusedSimpArgs false
set_option linter.unusedVariables false
namespace Go.Proofs.YtcghpepighboaaaDoor
open Go.MapKept (Stamped)

/-- pure values: a value as it is (val); a struct or array of cells (agg); results (tup); an address of cell j of element i of the row l of the call's own (ptr); a slice of a row of the call's own (lsl); a slice that nobody changes any more, with its content (vsl), an address in such a one (vptr); a value that is there only if b (opt); a function value (clo); the map of row l (mref). -/
inductive PV where
  | junk
  | val (v : Value)
  | agg (n : Nat) (f : Nat → PV)
  | tup (n : Nat) (f : Nat → PV)
  | ptr (l i j : Nat)
  | lsl (l i n : Nat)
  | vsl (n sz : Nat) (f : Nat → Nat → PV)
  | vptr (n sz : Nat) (f : Nat → Nat → PV) (i j : Nat)
  | opt (b : Bool) (v : PV)
  | clo (f : FuncId) (n : Nat) (c : Nat → PV)
  | mref (l : Nat)

/-- where a row of the call's own lies: block, first cell, cells of an element -/
structure Loc where
  b : Nat
  o : Nat
  sz : Nat

/-- what a pure value means: k: how many rows there are; ρ: where they lie; I: the blocks that nobody changes any more -/
def VRel : Nat → (Nat → Loc) → (Nat → Prop) → World → PV → Value → Prop
  | _, _, _, _, .junk, _ => True
  | _, _, _, _, .val x, v => v = x
  | k, ρ, I, w, .agg n f, v => ∃ vs : Array Value, v = .agg vs ∧ vs.size = n ∧ ∀ i, i < n → (vs.getD i undef).oneCell' = true ∧ VRel k ρ I w (f i) (vs.getD i undef)
  | k, ρ, I, w, .tup n f, v => ∃ vs : Array Value, v = .tuple vs ∧ vs.size = n ∧ ∀ i, i < n → VRel k ρ I w (f i) (vs.getD i undef)
  | k, ρ, _, _, .ptr l i j, v => l < k ∧ v = .pointer (some ⟨(ρ l).b, (ρ l).o + i * (ρ l).sz + j, none⟩)
  | k, ρ, _, w, .lsl l i n, v => l < k ∧ ((n = 0 ∧ ∃ a, v = .slice a 0 0) ∨ ∃ cap, n ≤ cap ∧ v = .slice (some ⟨(ρ l).b, (ρ l).o + i * (ρ l).sz, none⟩) n cap ∧
      ∃ cs T fz, w.heap[(ρ l).b]? = some (Obj.cells cs T fz) ∧ (ρ l).o + (i + cap) * (ρ l).sz ≤ cs.size)
  | _, ρ, I, w, .vsl n sz f, v => ∃ a cap, v = .slice a n cap ∧ n ≤ cap ∧ (n = 0 ∨ ∃ b o, a = some ⟨b, o, none⟩ ∧ I b ∧
      ∀ i, i < n → ∀ j, j < sz → ∃ u, w.cell? ⟨b, o + i * sz + j, none⟩ = some u ∧ u.oneCell' = true ∧ VRel 0 ρ I w (f i j) u)
  | _, ρ, I, w, .vptr n sz f i j, v => ∃ b o, v = .pointer (some ⟨b, o + i * sz + j, none⟩) ∧ I b ∧
      ∀ i, i < n → ∀ j, j < sz → ∃ u, w.cell? ⟨b, o + i * sz + j, none⟩ = some u ∧ u.oneCell' = true ∧ VRel 0 ρ I w (f i j) u
  | k, ρ, I, w, .opt b p, v => (b = true → VRel k ρ I w p v) ∧ (b = false → v = undef)
  | k, ρ, I, w, .clo f n c, v => ∃ vs : Array Value, v = .func (.func f) #[] vs ∧ vs.size = n ∧ ∀ i, i < n → VRel k ρ I w (c i) (vs.getD i undef)
  | k, ρ, _, _, .mref l, v => l < k ∧ v = .map (some (ρ l).b)

/-- a pure value that names no row -/
def Cl : PV → Prop
  | .junk => True
  | .val _ => True
  | .agg n f => ∀ i, i < n → Cl (f i)
  | .tup n f => ∀ i, i < n → Cl (f i)
  | .ptr _ _ _ => False
  | .lsl _ _ _ => False
  | .vsl _ _ _ => True
  | .vptr _ _ _ _ _ => True
  | .opt _ p => Cl p
  | .clo _ n c => ∀ i, i < n → Cl (c i)
  | .mref _ => False

/-- from w to w': the blocks of I are as they were; all blocks keep their shape -/
structure Tr (I : Nat → Prop) (w w' : World) : Prop where
  keep : ∀ b, I b → w'.heap[b]? = w.heap[b]?
  shape : ∀ (b : Nat) cs T fz, w.heap[b]? = some (Obj.cells cs T fz) → ∃ cs', w'.heap[b]? = some (Obj.cells cs' T fz) ∧ cs'.size = cs.size

theorem Tr.refl (I : Nat → Prop) (w : World) : Tr I w w := ⟨fun _ _ => rfl, fun _ cs _ _ h => ⟨cs, h, rfl⟩⟩
theorem Tr.cell {I : Nat → Prop} {w w' : World} (h : Tr I w w') {b : Nat} (hb : I b) (o : Nat) : w'.cell? ⟨b, o, none⟩ = w.cell? ⟨b, o, none⟩ :=
  World.cell?_of_block (w := w) (h.keep b hb)

/-- a pure value goes on meaning the same -/
theorem VRel.mono {ρ ρ' : Nat → Loc} {I I' : Nat → Prop} {w w' : World} (hI : ∀ b, I b → I' b) (ht : Tr I w w') :
    ∀ (p : PV) (k k' : Nat) (v : Value), k ≤ k' → (∀ l, l < k → ρ' l = ρ l) → VRel k ρ I w p v → VRel k' ρ' I' w' p v := by
  intro p
  induction p with
  | junk => intro k k' v _ _ _; trivial
  | val x => intro k k' v _ _ h; exact h
  | agg n f ih => rintro k k' v hk hρ ⟨vs, h1, h2, h3⟩; exact ⟨vs, h1, h2, fun i hi => ⟨(h3 i hi).1, ih i k k' _ hk hρ (h3 i hi).2⟩⟩
  | tup n f ih => rintro k k' v hk hρ ⟨vs, h1, h2, h3⟩; exact ⟨vs, h1, h2, fun i hi => ih i k k' _ hk hρ (h3 i hi)⟩
  | ptr l i j => rintro k k' v hk hρ ⟨h1, h2⟩; exact ⟨by omega, by rw [hρ l h1]; exact h2⟩
  | lsl l i n =>
    rintro k k' v hk hρ ⟨h1, h⟩
    refine ⟨by omega, h.imp id ?_⟩
    rintro ⟨cap, h2, h3, cs, T, fz, h4, h5⟩
    obtain ⟨cs', h6, h7⟩ := ht.shape _ _ _ _ h4
    exact ⟨cap, h2, by rw [hρ l h1]; exact h3, cs', T, fz, by rw [hρ l h1]; exact h6, by rw [hρ l h1, h7]; exact h5⟩
  | vsl n sz f ih =>
    rintro k k' v hk hρ ⟨a, cap, h1, h2, h3⟩
    refine ⟨a, cap, h1, h2, h3.imp id ?_⟩
    rintro ⟨b, o, e, hb, h4⟩
    refine ⟨b, o, e, hI b hb, fun i hi j hj => ?_⟩
    obtain ⟨u, h5, h7, h6⟩ := h4 i hi j hj
    exact ⟨u, by rw [ht.cell hb]; exact h5, h7, ih i j 0 0 _ (Nat.le_refl _) (fun l hl => by omega) h6⟩
  | vptr n sz f i j ih =>
    rintro k k' v hk hρ ⟨b, o, e, hb, h4⟩
    refine ⟨b, o, e, hI b hb, fun i hi j hj => ?_⟩
    obtain ⟨u, h5, h7, h6⟩ := h4 i hi j hj
    exact ⟨u, by rw [ht.cell hb]; exact h5, h7, ih i j 0 0 _ (Nat.le_refl _) (fun l hl => by omega) h6⟩
  | opt b p ih => rintro k k' v hk hρ ⟨h1, h2⟩; exact ⟨fun hb => ih k k' _ hk hρ (h1 hb), h2⟩
  | clo f n c ih => rintro k k' v hk hρ ⟨vs, h1, h2, h3⟩; exact ⟨vs, h1, h2, fun i hi => ih i k k' _ hk hρ (h3 i hi)⟩
  | mref l => rintro k k' v hk hρ ⟨h1, h2⟩; exact ⟨by omega, by rw [hρ l h1]; exact h2⟩
theorem VRel.up {k k' : Nat} {ρ ρ' : Nat → Loc} {I I' : Nat → Prop} {w w' : World} {p : PV} {v : Value} (h : VRel k ρ I w p v) (hk : k ≤ k') (hρ : ∀ l, l < k → ρ' l = ρ l) (hI : ∀ b, I b → I' b) (ht : Tr I w w') : VRel k' ρ' I' w' p v :=
  VRel.mono hI ht p k k' v hk hρ h
theorem VRel.of0 {k : Nat} {ρ ρ' : Nat → Loc} {I : Nat → Prop} {w : World} {p : PV} {v : Value} (h : VRel 0 ρ I w p v) : VRel k ρ' I w p v :=
  h.up (Nat.zero_le _) (fun l hl => by omega) (fun _ h => h) (Tr.refl _ _)

/-- .. a closed one, whatever rows there are -/
theorem VRel.close {ρ ρ' : Nat → Loc} {I : Nat → Prop} {w : World} :
    ∀ (p : PV) (k k' : Nat) (v : Value), Cl p → VRel k ρ I w p v → VRel k' ρ' I w p v := by
  intro p
  induction p with
  | junk => intro k k' v _ _; trivial
  | val x => intro k k' v _ h; exact h
  | agg n f ih => rintro k k' v hc ⟨vs, h1, h2, h3⟩; exact ⟨vs, h1, h2, fun i hi => ⟨(h3 i hi).1, ih i k k' _ (hc i hi) (h3 i hi).2⟩⟩
  | tup n f ih => rintro k k' v hc ⟨vs, h1, h2, h3⟩; exact ⟨vs, h1, h2, fun i hi => ih i k k' _ (hc i hi) (h3 i hi)⟩
  | ptr l i j => intro k k' v hc; exact hc.elim
  | lsl l i n => intro k k' v hc; exact hc.elim
  | vsl n sz f ih =>
    rintro k k' v _ ⟨a, cap, h1, h2, h3⟩
    refine ⟨a, cap, h1, h2, h3.imp id ?_⟩
    rintro ⟨b, o, e, hb, h4⟩
    refine ⟨b, o, e, hb, fun i hi j hj => ?_⟩
    obtain ⟨u, h5, h7, h6⟩ := h4 i hi j hj
    exact ⟨u, h5, h7, h6.of0⟩
  | vptr n sz f i j ih =>
    rintro k k' v _ ⟨b, o, e, hb, h4⟩
    refine ⟨b, o, e, hb, fun i hi j hj => ?_⟩
    obtain ⟨u, h5, h7, h6⟩ := h4 i hi j hj
    exact ⟨u, h5, h7, h6.of0⟩
  | opt b p ih => rintro k k' v hc ⟨h1, h2⟩; exact ⟨fun hb => ih k k' _ hc (h1 hb), h2⟩
  | clo f n c ih => rintro k k' v hc ⟨vs, h1, h2, h3⟩; exact ⟨vs, h1, h2, fun i hi => ih i k k' _ (hc i hi) (h3 i hi)⟩
  | mref l => intro k k' v hc; exact hc.elim

/-- a row: dead (nobody may look at it), imm (nobody changes it any more), own, virt (no memory: the row of a nil slice), mp (a map, or what goes through a map) -/
inductive RS where
  | dead | imm | own | virt | mp
/-- one: a variable (one element) -/
structure Row where
  s : RS
  one : Bool
  n : Nat
  sz : Nat
  f : Nat → Nat → PV

def RS.live : RS → Prop
  | .dead => False
  | .virt => False
  | .mp => False
  | _ => True
def RS.isOwn : RS → Prop
  | .own => True
  | _ => False

/-- a map's entries as one value -/
def mapV (es : Array MapEntry) : Value := .tuple (es.map fun e => .tuple #[e.key, e.val])
/-- block b of w is a map (r.sz = 1: r.f 0 0: its entries), or what goes through a map (r.sz = 3: r.f 0 0: the map; r.f 0 1: the numbers of the entries that came; r.f 0 2: its own address). -/
def SideAt (k : Nat) (ρ : Nat → Loc) (I : Nat → Prop) (w : World) (b : Nat) (r : Row) : Prop :=
  (∃ o, w.heap[b]? = some o ∧ ∀ cs T fz, o ≠ Obj.cells cs T fz) ∧ (0 < r.n →
    (r.sz = 1 → ∃ es clock, w.heap[b]? = some (Obj.map es clock) ∧ Stamped es clock ∧ VRel k ρ I w (r.f 0 0) (mapV es)) ∧
    (r.sz = 3 → ∃ (mb : Nat) (es : Array MapEntry) (clock : Nat) (seen is : Array Nat), w.heap[b]? = some (Obj.mapIter (some mb) clock seen clock) ∧ w.heap[mb]? = some (Obj.map es clock) ∧ VRel k ρ I w (r.f 0 0) (.map (some mb)) ∧
      VRel k ρ I w (r.f 0 1) (.tuple (is.map fun i : Nat => Value.int .i64 i)) ∧ VRel k ρ I w (r.f 0 2) (.pointer (some ⟨b, 0, none⟩)) ∧ is.size = seen.size ∧ ∀ q i : Nat, is[q]? = some i → ∃ e : MapEntry, es[i]? = some e ∧ seen[q]? = some e.born))
/-- what is no row of cells stays as it was -/
def NC (w w' : World) : Prop := ∀ (b : Nat) (o : Obj), w.heap[b]? = some o → (∀ cs T fz, o ≠ Obj.cells cs T fz) → w'.heap[b]? = some o
theorem NC.refl (w : World) : NC w w := fun _ _ h _ => h
theorem NC.trans {a b c : World} (h : NC a b) (k : NC b c) : NC a c := fun x o hx hn => k x o (h x o hx hn) hn
/-- .. where only blocks of cells are changed -/
theorem NC.of {w w' : World} (h : ∀ b, b < w.heap.size → (∀ cs T fz, w.heap[b]? ≠ some (Obj.cells cs T fz)) → w'.heap[b]? = w.heap[b]?) : NC w w' := fun b o hb hn => by
  rw [h b (by
    by_cases hlt : b < w.heap.size
    · exact hlt
    · rw [Array.getElem?_eq_none (by omega)] at hb; cases hb) (fun cs T fz e => by rw [hb] at e; exact hn cs T fz (Option.some.inj e))]
  exact hb
theorem SideAt.up {k k' : Nat} {ρ ρ' : Nat → Loc} {I I' : Nat → Prop} {w w' : World} {b : Nat} {r r' : Row} (h : SideAt k ρ I w b r) (h2 : r'.n ≤ r.n) (h3 : r'.sz = r.sz) (hn : NC w w')
    (hv : ∀ i, i < r'.n → ∀ j, j < r'.sz → ∀ v, VRel k ρ I w (r.f i j) v → VRel k' ρ' I' w' (r'.f i j) v) : SideAt k' ρ' I' w' b r' := by
  obtain ⟨⟨o, o1, o2⟩, h⟩ := h
  refine ⟨⟨o, hn _ _ o1 o2, o2⟩, fun h0 => ?_⟩
  obtain ⟨g1, g2⟩ := h (by omega)
  refine ⟨fun hz => ?_, fun hz => ?_⟩
  · obtain ⟨es, clock, q1, q2, q3⟩ := g1 (by omega)
    exact ⟨es, clock, hn _ _ q1 (fun _ _ _ e => by cases e), q2, hv 0 h0 0 (by omega) _ q3⟩
  · obtain ⟨mb, es, clock, seen, is, q1, q2, q3, q4, q6, q5⟩ := g2 (by omega)
    exact ⟨mb, es, clock, seen, is, hn _ _ q1 (fun _ _ _ e => by cases e), hn _ _ q2 (fun _ _ _ e => by cases e), hv 0 h0 0 (by omega) _ q3, hv 0 h0 1 (by omega) _ q4, hv 0 h0 2 (by omega) _ q6, q5⟩
theorem SideAt.nc {k : Nat} {ρ : Nat → Loc} {I : Nat → Prop} {w : World} {b : Nat} {r : Row} (h : SideAt k ρ I w b r) : ∃ o, w.heap[b]? = some o ∧ ∀ cs T fz, o ≠ Obj.cells cs T fz := h.1
theorem SideAt.lt {k : Nat} {ρ : Nat → Loc} {I : Nat → Prop} {w : World} {b : Nat} {r : Row} (h : SideAt k ρ I w b r) : b < w.heap.size := by
  obtain ⟨o, h1, _⟩ := h.nc
  by_cases hlt : b < w.heap.size
  · exact hlt
  · rw [Array.getElem?_eq_none (by omega)] at h1; cases h1

/-- the rows lie in the world -/
structure MRel (ρ : Nat → Loc) (I : Nat → Prop) (w : World) (mem : List Row) : Prop where
  row : ∀ l r, mem[l]? = some r → r.s.live → (ρ l).sz = r.sz ∧ ∃ cs T, w.heap[(ρ l).b]? = some (Obj.cells cs T (0, 0)) ∧
    ∀ i, i < r.n → ∀ j, j < r.sz → ∃ u, cs[(ρ l).o + i * r.sz + j]? = some u ∧ u.oneCell' = true ∧ VRel mem.length ρ I w (r.f i j) u
  apart : ∀ l l' r r', l ≠ l' → mem[l]? = some r → mem[l']? = some r' → r.s.live → r'.s.live → (ρ l).b ≠ (ρ l').b
  mine : ∀ l r, mem[l]? = some r → r.s.isOwn → ¬ I (ρ l).b
  imm : ∀ l r, mem[l]? = some r → r.s = .imm → I (ρ l).b
  lt : ∀ b, I b → b < w.heap.size
  side : ∀ l r, mem[l]? = some r → r.s = .mp → ¬ I (ρ l).b ∧ SideAt mem.length ρ I w (ρ l).b r
  sap : ∀ l l' r r', l ≠ l' → mem[l]? = some r → mem[l']? = some r' → r.s = .mp → r'.s = .mp → (ρ l).b ≠ (ρ l').b

/-- a state: slots and rows -/
structure PSt where
  tm : List (Nat × PV)
  mem : List Row

def look (t : Nat) : List (Nat × PV) → PV
  | [] => .junk
  | (s, v) :: r => cond (Nat.beq t s) v (look t r)
def PSt.get (st : PSt) (t : Nat) : PV := look t st.tm
def PSt.put (st : PSt) (d : Nat) (v : PV) : PSt := ⟨(d, v) :: st.tm, st.mem⟩

/-- what stays the same throughout a call: the world at the start, the blocks that may be read as never changing, the blocks that may be written, the rows that were handed in -/
structure Fr where
  w0 : World
  A : Nat → Prop
  E : Nat → Prop
  k0 : Nat
  ρ0 : Nat → Loc

/-- package variables that nobody writes, arrays of numbers: the block, the numbers -/
def globs : List (Nat × List Int) := [(0, [31, 28, 31, 30, 31, 30, 31, 31, 30, 31, 30, 31])]
def GOk (I : Nat → Prop) (w : World) : Prop := ∀ x, x ∈ globs → I x.1 ∧ ∃ T fz, w.heap[x.1]? = some (Obj.cells (x.2.map fun n => Value.int .i64 n).toArray T fz)
theorem GOk.mono {I I' : Nat → Prop} {w w' : World} (h : GOk I w) (hI : ∀ b, I b → I' b) (ht : Tr I w w') : GOk I' w' := fun x hx => by
  obtain ⟨h1, T, fz, h2⟩ := h x hx
  exact ⟨hI _ h1, T, fz, by rw [ht.keep _ h1]; exact h2⟩
theorem GOk.sub {I I' : Nat → Prop} {w : World} (h : GOk I w) (hI : ∀ b, I b → I' b) : GOk I' w := h.mono hI (Tr.refl _ _)
def gvL (g : Nat) : List (Nat × List Int) → PV
  | [] => .junk
  | (b, l) :: r => cond (Nat.beq g b) (.vptr l.length 1 (fun i _ => .val (.int .i64 (l.getD i 0))) 0 0) (gvL g r)

structure Frame' (Γ : Fr) (ρ : Nat → Loc) (I : Nat → Prop) (w : World) (mem : List Row) : Prop where
  m : MRel ρ I w mem
  os : w.os = Γ.w0.os
  tape : w.tape = Γ.w0.tape
  output : w.output = Γ.w0.output
  size : Γ.w0.heap.size ≤ w.heap.size
  block : ∀ b, b < Γ.w0.heap.size → ¬ Γ.E b → w.heap[b]? = Γ.w0.heap[b]?
  shape : ∀ (b : Nat) cs T fz, Γ.w0.heap[b]? = some (Obj.cells cs T fz) → ∃ cs', w.heap[b]? = some (Obj.cells cs' T fz) ∧ cs'.size = cs.size
  old : ∀ b, I b → b < Γ.w0.heap.size → Γ.A b
  new : ∀ b, Γ.A b → I b
  own : ∀ l r, mem[l]? = some r → r.s.isOwn → (ρ l).b < Γ.w0.heap.size → Γ.E (ρ l).b
  fresh : ∀ l r, mem[l]? = some r → r.s.isOwn → Γ.k0 ≤ l → Γ.w0.heap.size ≤ (ρ l).b
  k0 : Γ.k0 ≤ mem.length
  ρ0 : ∀ l, l < Γ.k0 → ρ l = Γ.ρ0 l
  sfresh : ∀ l r, mem[l]? = some r → r.s = .mp → Γ.k0 ≤ l → Γ.w0.heap.size ≤ (ρ l).b
  gl : GOk I w

/-- the state st is a reading of the slots a and the world w -/
structure Rel (N : Nat) (Γ : Fr) (st : PSt) (ρ : Nat → Loc) (I : Nat → Prop) (a : Act) (w : World) : Prop where
  fr : Frame' Γ ρ I w st.mem
  defers : a.defers = []
  size : a.tmps.size = N
  slot : ∀ t, VRel st.mem.length ρ I w (st.get t) (a.tmps.getD t undef)

theorem Rel.put {N : Nat} {Γ : Fr} {st : PSt} {ρ : Nat → Loc} {I : Nat → Prop} {a : Act} {w : World} (h : Rel N Γ st ρ I a w) {d : Nat} (hd : d < N) {p : PV} {v : Value} (hv : VRel st.mem.length ρ I w p v) :
    Rel N Γ (st.put d p) ρ I (a.put (some d) v) w := by
  refine ⟨h.fr, h.defers, by simp [Act.put, h.size], fun t => ?_⟩
  simp only [PSt.get, PSt.put, look, Act.put]
  by_cases e : t = d
  · subst e
    have : Nat.beq t t = true := by simp
    rw [this]
    have hs := h.size
    simp [Array.getElem?_setIfInBounds, hs, hd]
    exact hv
  · have : Nat.beq t d = false := by
      cases hb : Nat.beq t d
      · rfl
      · exact absurd (Nat.eq_of_beq_eq_true hb) e
    rw [this]
    have := h.slot t
    simp only [PSt.get] at this
    have e2 : (a.tmps.setIfInBounds d v).getD t undef = a.tmps.getD t undef := by
      simp [Array.getD_eq_getD_getElem?, Array.getElem?_setIfInBounds, Ne.symm e]
    rw [e2]; exact this

/-- what is needed of a type -/
inductive TK where
  | struct (fs : List (Nat × Nat))
  | array (n e : Nat)
  | slice (e : Nat)
  | int (k : IntKind)
  | bool
  | string
  | pointer (e : Nat)
  | other
  | bad
structure TI where
  sz : Nat
  bytes : Nat
  k : TK
  zero : Option Value

def tkOf : Option TypeDesc → TK
  | some (.struct fs) => .struct (fs.toList.map fun f => (f.offset, f.type))
  | some (.array n e) => .array n e
  | some (.slice e) => .slice e
  | some (.int k) => .int k
  | some .bool => .bool
  | some .string => .string
  | some (.pointer e) => .pointer e
  | none => .bad
  | _ => .other
def tiOf (P : Program) (t : TypeId) : TI :=
  match P.info? t with
  | some i => ⟨i.size, i.bytes, tkOf (P.underlying t), i.zero⟩
  | none => ⟨0, 0, .bad, none⟩
def tget : List TI → Nat → TI
  | [], _ => ⟨0, 0, .bad, none⟩
  | x :: _, 0 => x
  | _ :: r, n + 1 => tget r n
def TabOk (P : Program) (tab : List TI) : Prop := ∀ t, tget tab t = tiOf P t ∨ tget tab t = ⟨0, 0, .bad, none⟩

theorem tget_map (f : Nat → TI) (d : TI) : ∀ (n s t : Nat), t < n → tget ((List.range' s n).map f) t = f (s + t)
  | 0, _, _, h => by omega
  | n + 1, s, 0, _ => by simp [List.range', tget]
  | n + 1, s, t + 1, h => by
    simp only [List.range', List.map_cons, tget]
    rw [tget_map f d n (s + 1) t (by omega)]
    congr 1; omega
theorem tget_out : ∀ (l : List TI) (t : Nat), l.length ≤ t → tget l t = ⟨0, 0, .bad, none⟩
  | [], _, _ => rfl
  | _ :: r, 0, h => by simp at h
  | _ :: r, t + 1, h => by simp only [tget]; exact tget_out r t (by simpa using h)
theorem tabOk_of {P : Program} {tab : List TI} {n : Nat} (h : tab = (List.range' 0 n).map (tiOf P)) : TabOk P tab := by
  intro t
  subst h
  by_cases ht : t < n
  · rw [tget_map (tiOf P) ⟨0, 0, .bad, none⟩ _ 0 t ht]; simp
  · exact .inr (tget_out _ _ (by simp; omega))

/-- a constant -/
def cv (v : Value) : PV := .val v
def PSt.ev (st : PSt) : Operand → PV
  | .tmp t => st.get t
  | .const v => cv v
  | .func f => .clo f 0 (fun _ => .junk)
  | .global g => gvL g globs

/-- what lies under a condition, and the condition -/
def str : PV → PV
  | .opt _ q => q
  | q => q
def strP (p : PV) (c : Prop) : Prop :=
  match p with
  | .opt g _ => g = true ∧ c
  | _ => c

abbrev RP := Option (PV × Prop)

def pint (op : BinOp) (k : IntKind) (a b : Int) : RP :=
  match op with
  | .add => some (.val (.int k (k.wrap (a + b))), True)
  | .sub => some (.val (.int k (k.wrap (a - b))), True)
  | .mul => some (.val (.int k (k.wrap (a * b))), True)
  | .quo => some (.val (.int k (k.wrap (a.tdiv b))), b ≠ 0)
  | .rem => some (.val (.int k (a.tmod b)), b ≠ 0)
  | .eql => some (.val (.bool (a == b)), True)
  | .neq => some (.val (.bool (a != b)), True)
  | .lss => some (.val (.bool (decide (a < b))), True)
  | .leq => some (.val (.bool (decide (a ≤ b))), True)
  | .gtr => some (.val (.bool (decide (b < a))), True)
  | .geq => some (.val (.bool (decide (b ≤ a))), True)
  | .and => some (.val (.int k (k.wrap ((BitVec.ofInt k.bits a &&& BitVec.ofInt k.bits b).toNat : Nat))), True)
  | _ => none
def pstr (op : BinOp) (a b : ByteArray) : RP :=
  match op with
  | .eql => some (.val (.bool (a.toList == b.toList)), True)
  | .neq => some (.val (.bool !(a.toList == b.toList)), True)
  | .lss => some (.val (.bool (Op.bytesLess a.toList b.toList)), True)
  | .leq => some (.val (.bool (Op.bytesLess a.toList b.toList || a.toList == b.toList)), True)
  | .gtr => some (.val (.bool !(Op.bytesLess a.toList b.toList || a.toList == b.toList)), True)
  | .geq => some (.val (.bool !Op.bytesLess a.toList b.toList), True)
  | .add => some (.val (.string (a ++ b)), ((a.size + b.size : Nat) : Int) ≤ 9223372036854775807)
  | _ => none
def pbool (op : BinOp) (a b : Bool) : RP :=
  match op with
  | .eql => some (.val (.bool (a == b)), True)
  | .neq => some (.val (.bool !(a == b)), True)
  | _ => none
def IntKind.same : IntKind → IntKind → Bool
  | .i8, .i8 => true | .i16, .i16 => true | .i32, .i32 => true | .i64, .i64 => true
  | .u8, .u8 => true | .u16, .u16 => true | .u32, .u32 => true | .u64, .u64 => true
  | _, _ => false
theorem IntKind.same_eq {a b : IntKind} (h : IntKind.same a b = true) : a = b := by cases a <;> cases b <;> first | rfl | cases h
def TK.isBool : TK → Bool
  | .bool => true
  | _ => false
def TK.isAgg : TK → Bool
  | .struct _ => true
  | .array _ _ => true
  | _ => false
def TK.scalar : TK → Bool
  | .struct _ => false
  | .array _ _ => false
  | .bad => false
  | _ => true
def pbin (tab : List TI) (op : BinOp) (t : Nat) : PV → PV → RP
  | .val (.int k a), .val (.int k' b) => match op with
    | .shr => some (.val (.int k (a.fdiv (2 ^ min b.toNat k.bits))), ¬ b < 0)
    | op => cond (IntKind.same k k') (pint op k a b) none
  | .val (.string a), .val (.string b) => pstr op a b
  | .val (.bool a), .val (.bool b) => cond (tget tab t).k.isBool (pbool op a b) none
  | _, _ => none
def pun (op : UnOp) : PV → RP
  | .val (.bool b) => match op with | .not => some (.val (.bool !b), True) | _ => none
  | .val (.int k n) => match op with | .neg => some (.val (.int k (k.wrap (0 - n))), True) | _ => none
  | _ => none
def ppick (c : Bool) : PV → PV → RP
  | .val (.bool x), .val (.bool y) => some (.val (.bool (cond c x y)), True)
  | .val (.bool x), .opt g (.val (.bool y)) => some (.val (.bool (cond c x y)), c = false → g = true)
  | .opt g (.val (.bool x)), .val (.bool y) => some (.val (.bool (cond c x y)), c = true → g = true)
  | .val (.bool x), .opt _ .junk => cond c (some (.val (.bool x), True)) none
  | .opt _ .junk, .val (.bool y) => cond c none (some (.val (.bool y), True))
  | _, _ => none
def nth (l : List (Nat × Nat)) : Nat → Option (Nat × Nat)
  | 0 => match l with | x :: _ => some x | [] => none
  | n + 1 => match l with | _ :: r => nth r n | [] => none
def rowAt : List Row → Nat → Option Row
  | [], _ => none
  | r :: _, 0 => match r with | ⟨s, o, n, sz, f⟩ => some ⟨s, o, n, sz, f⟩
  | _ :: m, l + 1 => rowAt m l
/-- hands on a value in the form of its constructor -/
def force (p : PV) (k : PV → RP) : RP :=
  match p with
  | .junk => k .junk
  | .val v => k (.val v)
  | .agg n f => k (.agg n f)
  | .tup n f => k (.tup n f)
  | .ptr l i j => k (.ptr l i j)
  | .lsl l i n => k (.lsl l i n)
  | .vsl n sz f => k (.vsl n sz f)
  | .vptr n sz f i j => k (.vptr n sz f i j)
  | .opt b v => k (.opt b v)
  | .clo f n c => k (.clo f n c)
  | .mref l => k (.mref l)
theorem force_eq (p : PV) (k : PV → RP) : force p k = k p := by cases p <;> rfl
def Row.ok (r : Row) (k : Row → RP) : RP :=
  match r.s with
  | .dead => none
  | .virt => none
  | .mp => none
  | _ => k r
def nthP : List PV → Nat → PV
  | [], _ => .junk
  | p :: _, 0 => p
  | _ :: l, n + 1 => nthP l n
def forceL {α : Type} (n : Nat) (f : Nat → PV) (i : Nat) (k : List PV → Option α) : Option α :=
  match n with
  | 0 => k []
  | n + 1 => match f i with
    | .junk => forceL n f (i + 1) fun l => k (.junk :: l)
    | .val v => forceL n f (i + 1) fun l => k (.val v :: l)
    | .agg m g => forceL n f (i + 1) fun l => k (.agg m g :: l)
    | .tup m g => forceL n f (i + 1) fun l => k (.tup m g :: l)
    | .ptr a b c => forceL n f (i + 1) fun l => k (.ptr a b c :: l)
    | .lsl a b c => forceL n f (i + 1) fun l => k (.lsl a b c :: l)
    | .vsl m sz g => forceL n f (i + 1) fun l => k (.vsl m sz g :: l)
    | .vptr m sz g a b => forceL n f (i + 1) fun l => k (.vptr m sz g a b :: l)
    | .opt b v => forceL n f (i + 1) fun l => k (.opt b v :: l)
    | .clo g m c => forceL n f (i + 1) fun l => k (.clo g m c :: l)
    | .mref a => forceL n f (i + 1) fun l => k (.mref a :: l)
theorem forceL_eq {α : Type} : ∀ (n : Nat) (f : Nat → PV) (i : Nat) (k : List PV → Option α), forceL n f i k = k ((List.range' i n).map f)
  | 0, f, i, k => rfl
  | n + 1, f, i, k => by
    rw [forceL]
    simp only [List.range'_succ, List.map_cons]
    cases f i <;> simp only [forceL_eq n]
theorem nthP_map (f : Nat → PV) : ∀ (n i q : Nat), q < n → nthP ((List.range' i n).map f) q = f (i + q)
  | 0, _, _, h => by omega
  | n + 1, i, 0, _ => by simp [List.range'_succ, nthP]
  | n + 1, i, q + 1, h => by
    simp only [List.range'_succ, List.map_cons, nthP]
    rw [nthP_map f n (i + 1) q (by omega)]
    congr 1; omega
def pload (tab : List TI) (t : Nat) (n sz : Nat) (f : Nat → Nat → PV) (i j : Nat) : RP :=
  cond (tget tab t).k.isAgg
    (cond (Nat.ble (j + (tget tab t).sz) sz) (forceL (tget tab t).sz (fun q => f i (j + q)) 0 fun l => some (.agg (tget tab t).sz (nthP l), i < n)) none)
    (cond ((tget tab t).k.scalar && Nat.blt j sz) (force (f i j) fun p => some (p, i < n)) none)
/-- the same value under another condition -/
def rmap (x : RP) (g : Prop → Prop) : RP :=
  match x with
  | some (r, c) => some (r, g c)
  | none => none
theorem rmap_some {x : RP} {g : Prop → Prop} {r : PV} {c : Prop} (h : rmap x g = some (r, c)) : ∃ c', x = some (r, c') ∧ c = g c' := by
  unfold rmap at h
  split at h
  · rename_i r' c'
    simp only [Option.some.injEq, Prod.mk.injEq] at h
    obtain ⟨rfl, rfl⟩ := h
    exact ⟨c', rfl, rfl⟩
  · cases h
/-- operations that only read -/
def pread (tab : List TI) (st : PSt) : Op → RP
  | .move x => force (st.ev x) fun p => some (p, True)
  | .assign x => force (st.ev x) fun p => some (p, True)
  | .pick c a b => match st.ev c with
    | .val (.bool c) => ppick c (st.ev a) (st.ev b)
    | .opt g (.val (.bool c)) => rmap (ppick c (st.ev a) (st.ev b)) fun x => g = true ∧ x
    | _ => none
  | .binOp op t x y _ => rmap (pbin tab op t (str (st.ev x)) (str (st.ev y))) fun c => strP (st.ev x) (strP (st.ev y) c)
  | .unOp op _ x => rmap (pun op (str (st.ev x))) fun c => strP (st.ev x) c
  | .convert s d x => cond (tget tab s).k.scalar (match (tget tab d).k, str (st.ev x) with
    | .int k, .val (.int _ n) => some (.val (.int k (k.wrap n)), strP (st.ev x) True)
    | .string, .val (.string s) => some (.val (.string s), strP (st.ev x) True)
    | _, _ => none) none
  | .nilCheck x => match str (st.ev x) with
    | .ptr l i j => some (.ptr l i j, strP (st.ev x) True)
    | .vptr n sz f i j => some (.vptr n sz f i j, strP (st.ev x) True)
    | _ => none
  | .extract x k => match str (st.ev x) with
    | .tup n f => cond (Nat.blt k n) (force (f k) fun p => some (p, strP (st.ev x) True)) none
    | _ => none
  | .fieldAddr s x k => match (tget tab s).k with
    | .struct fs => match nth fs k with
      | some (off, ft) => cond (Nat.beq (tget tab ft).sz 0) none (match str (st.ev x) with
        | .ptr l i j => some (.ptr l i (j + off), strP (st.ev x) True)
        | .vptr n sz f i j => some (.vptr n sz f i (j + off), strP (st.ev x) True)
        | _ => none)
      | none => none
    | _ => none
  | .field s x k => match (tget tab s).k with
    | .struct fs => match nth fs k, str (st.ev x) with
      | some (off, ft), .agg n f => cond (tget tab ft).k.isAgg
          (cond (Nat.ble (off + (tget tab ft).sz) n) (forceL (tget tab ft).sz (fun q => f (off + q)) 0 fun l => some (.agg (tget tab ft).sz (nthP l), strP (st.ev x) True)) none)
          (cond ((tget tab ft).k.scalar && Nat.blt off n) (force (f off) fun p => some (p, strP (st.ev x) True)) none)
      | _, _ => none
    | _ => none
  | .load t x => match str (st.ev x) with
    | .ptr l i j => match rowAt st.mem l with
      | some r => rmap (r.ok fun r => pload tab t r.n r.sz r.f i j) fun c => strP (st.ev x) c
      | none => none
    | .vptr n sz f i j => rmap (pload tab t n sz f i j) fun c => strP (st.ev x) c
    | _ => none
  | .indexAddr t x y => match (tget tab t).k, str (st.ev x), str (st.ev y) with
    | .slice e, .vsl n sz f, .val (.int _ i) => cond (Nat.beq (tget tab e).sz sz && Nat.blt 0 sz) (some (.vptr n sz f i.toNat 0, strP (st.ev x) (strP (st.ev y) (0 ≤ i ∧ i < n)))) none
    | .slice e, .lsl l i0 n, .val (.int _ i) => match rowAt st.mem l with
      | some r => r.ok fun r => cond (Nat.beq (tget tab e).sz r.sz && Nat.blt 0 r.sz) (some (.ptr l (i0 + i.toNat) 0, strP (st.ev x) (strP (st.ev y) (0 ≤ i ∧ i < n)))) none
      | none => none
    | .array n e, .vptr m sz f i j, .val (.int _ q) => cond (Nat.beq (tget tab e).sz sz && Nat.blt 0 sz) (some (.vptr m sz f (i + q.toNat) j, strP (st.ev x) (strP (st.ev y) (0 ≤ q ∧ q < n)))) none
    | .array n e, .ptr l i j, .val (.int _ q) => cond (Nat.blt 0 (tget tab e).sz) (some (.ptr l i (j + q.toNat * (tget tab e).sz), strP (st.ev x) (strP (st.ev y) (0 ≤ q ∧ q < n)))) none
    | _, _, _ => none
  | .call c => match c.callee with
    | .builtin b => match b, c.args.toList, c.argTypes.toList with
      | .len, [x], [t] => match (tget tab t).k, str (st.ev x) with
        | .slice _, .vsl n _ _ => some (.val (.int .i64 n), strP (st.ev x) True)
        | .slice _, .lsl _ _ n => some (.val (.int .i64 n), strP (st.ev x) True)
        | .slice _, .val (.slice _ n _) => some (.val (.int .i64 n), strP (st.ev x) True)
        | .string, .val (.string s) => some (.val (.int .i64 s.size), strP (st.ev x) True)
        | _, _ => none
      | .min, [x, y], _ => match str (st.ev x), str (st.ev y) with
        | .val (.int k a), .val (.int _ b) => some (.val (.int k (if b < a then b else a)), strP (st.ev x) (strP (st.ev y) True))
        | _, _ => none
      | .max, [x, y], _ => match str (st.ev x), str (st.ev y) with
        | .val (.int k a), .val (.int _ b) => some (.val (.int k (if a < b then b else a)), strP (st.ev x) (strP (st.ev y) True))
        | _, _ => none
      | _, _, _ => none
    | _ => none
  | _ => none
end Go.Proofs.YtcghpepighboaaaDoor
