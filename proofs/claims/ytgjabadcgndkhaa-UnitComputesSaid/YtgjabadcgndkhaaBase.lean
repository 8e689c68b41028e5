/- Small words of the walks: a world that only grew, a world in which one block may have changed, endings. -/
import Derived.Test.YtgjabadcgndkhaaRows
import Derived.WalkKit
import Derived.WalkSpells
import Derived.WalkLawsBesides
import Derived.Deep.QuietTactic
import Derived.BigQuiet
import Derived.IntWalk
import Derived.Lib.Hide
set_option linter.unusedSimpArgs false
set_option linter.unusedVariables false
namespace Go.Proofs.Ytgjabadcgndkhaa
open Go.RowKit

/-- every block of w is in w' as it was -/
def Ext (w w' : World) : Prop := Below w.heap.size w w'
theorem Ext.refl (w : World) : Ext w w := Below.refl _ _
theorem Ext.alloc {a w : World} (h : Ext a w) (o : Obj) : Ext a (w.alloc o) := Below.alloc h h.size o
theorem Ext.setCell {a w : World} (h : Ext a w) {p : Addr} (hp : a.heap.size ≤ p.block) (v : Value) : Ext a (w.setCell p v) := Below.setCell h hp v
theorem Ext.trans {a b c : World} (h : Ext a b) (k : Ext b c) : Ext a c := Below.trans h (Below.mono k h.size)
theorem Ext.drew {a w : World} (h : Ext a w) : Ext a w.drew := Below.drew h
theorem Ext.drewN {a w : World} (h : Ext a w) (n : Nat) : Ext a (w.drewN n) := ⟨h.os, h.tape, h.output, h.size, h.block⟩
theorem Ext.le {a w : World} (h : Ext a w) : a.heap.size ≤ w.heap.size := h.size

@[simp] theorem neq2 (n : Nat) : (n = n + 1 + 1) = False := eq_false (by omega)
@[simp] theorem neqr2 (n : Nat) : (n + 1 + 1 = n) = False := eq_false (by omega)
@[simp] theorem neq3 (n : Nat) : (n = n + 1 + 1 + 1) = False := eq_false (by omega)
@[simp] theorem neqr3 (n : Nat) : (n + 1 + 1 + 1 = n) = False := eq_false (by omega)
@[simp] theorem neq4 (n : Nat) : (n = n + 1 + 1 + 1 + 1) = False := eq_false (by omega)
@[simp] theorem neqr4 (n : Nat) : (n + 1 + 1 + 1 + 1 = n) = False := eq_false (by omega)
@[simp] theorem neq5 (n : Nat) : (n = n + 1 + 1 + 1 + 1 + 1) = False := eq_false (by omega)
@[simp] theorem neqr5 (n : Nat) : (n + 1 + 1 + 1 + 1 + 1 = n) = False := eq_false (by omega)
@[simp] theorem neq6 (n : Nat) : (n = n + 1 + 1 + 1 + 1 + 1 + 1) = False := eq_false (by omega)
@[simp] theorem neqr6 (n : Nat) : (n + 1 + 1 + 1 + 1 + 1 + 1 = n) = False := eq_false (by omega)
@[simp] theorem neq7 (n : Nat) : (n = n + 1 + 1 + 1 + 1 + 1 + 1 + 1) = False := eq_false (by omega)
@[simp] theorem neqr7 (n : Nat) : (n + 1 + 1 + 1 + 1 + 1 + 1 + 1 = n) = False := eq_false (by omega)
@[simp] theorem neq8 (n : Nat) : (n = n + 1 + 1 + 1 + 1 + 1 + 1 + 1 + 1) = False := eq_false (by omega)
@[simp] theorem neqr8 (n : Nat) : (n + 1 + 1 + 1 + 1 + 1 + 1 + 1 + 1 = n) = False := eq_false (by omega)
@[simp] theorem neq9 (n : Nat) : (n = n + 1 + 1 + 1 + 1 + 1 + 1 + 1 + 1 + 1) = False := eq_false (by omega)
@[simp] theorem neqr9 (n : Nat) : (n + 1 + 1 + 1 + 1 + 1 + 1 + 1 + 1 + 1 = n) = False := eq_false (by omega)
@[simp] theorem ltp2 (n : Nat) : n < n + 1 + 1 := by omega
@[simp] theorem lep2 (n : Nat) : n ≤ n + 1 + 1 := by omega
@[simp] theorem ltp3 (n : Nat) : n < n + 1 + 1 + 1 := by omega
@[simp] theorem lep3 (n : Nat) : n ≤ n + 1 + 1 + 1 := by omega
@[simp] theorem ltp4 (n : Nat) : n < n + 1 + 1 + 1 + 1 := by omega
@[simp] theorem lep4 (n : Nat) : n ≤ n + 1 + 1 + 1 + 1 := by omega
@[simp] theorem ltp5 (n : Nat) : n < n + 1 + 1 + 1 + 1 + 1 := by omega
@[simp] theorem lep5 (n : Nat) : n ≤ n + 1 + 1 + 1 + 1 + 1 := by omega
@[simp] theorem ltp6 (n : Nat) : n < n + 1 + 1 + 1 + 1 + 1 + 1 := by omega
@[simp] theorem lep6 (n : Nat) : n ≤ n + 1 + 1 + 1 + 1 + 1 + 1 := by omega
@[simp] theorem ltp7 (n : Nat) : n < n + 1 + 1 + 1 + 1 + 1 + 1 + 1 := by omega
@[simp] theorem lep7 (n : Nat) : n ≤ n + 1 + 1 + 1 + 1 + 1 + 1 + 1 := by omega
@[simp] theorem ltp8 (n : Nat) : n < n + 1 + 1 + 1 + 1 + 1 + 1 + 1 + 1 := by omega
@[simp] theorem lep8 (n : Nat) : n ≤ n + 1 + 1 + 1 + 1 + 1 + 1 + 1 + 1 := by omega
@[simp] theorem ltp9 (n : Nat) : n < n + 1 + 1 + 1 + 1 + 1 + 1 + 1 + 1 + 1 := by omega
@[simp] theorem lep9 (n : Nat) : n ≤ n + 1 + 1 + 1 + 1 + 1 + 1 + 1 + 1 + 1 := by omega
@[simp] theorem ltp10 (n : Nat) : n < n + 1 + 1 + 1 + 1 + 1 + 1 + 1 + 1 + 1 + 1 := by omega
@[simp] theorem lep10 (n : Nat) : n ≤ n + 1 + 1 + 1 + 1 + 1 + 1 + 1 + 1 + 1 + 1 := by omega
@[simp] theorem ltp11 (n : Nat) : n < n + 1 + 1 + 1 + 1 + 1 + 1 + 1 + 1 + 1 + 1 + 1 := by omega
@[simp] theorem lep11 (n : Nat) : n ≤ n + 1 + 1 + 1 + 1 + 1 + 1 + 1 + 1 + 1 + 1 + 1 := by omega
@[simp] theorem ltp12 (n : Nat) : n < n + 1 + 1 + 1 + 1 + 1 + 1 + 1 + 1 + 1 + 1 + 1 + 1 := by omega
@[simp] theorem lep12 (n : Nat) : n ≤ n + 1 + 1 + 1 + 1 + 1 + 1 + 1 + 1 + 1 + 1 + 1 + 1 := by omega
@[simp] theorem ltp13 (n : Nat) : n < n + 1 + 1 + 1 + 1 + 1 + 1 + 1 + 1 + 1 + 1 + 1 + 1 + 1 := by omega
@[simp] theorem lep13 (n : Nat) : n ≤ n + 1 + 1 + 1 + 1 + 1 + 1 + 1 + 1 + 1 + 1 + 1 + 1 + 1 := by omega
@[simp] theorem ltp14 (n : Nat) : n < n + 1 + 1 + 1 + 1 + 1 + 1 + 1 + 1 + 1 + 1 + 1 + 1 + 1 + 1 := by omega
@[simp] theorem lep14 (n : Nat) : n ≤ n + 1 + 1 + 1 + 1 + 1 + 1 + 1 + 1 + 1 + 1 + 1 + 1 + 1 + 1 := by omega
@[simp] theorem ltp15 (n : Nat) : n < n + 1 + 1 + 1 + 1 + 1 + 1 + 1 + 1 + 1 + 1 + 1 + 1 + 1 + 1 + 1 := by omega
@[simp] theorem lep15 (n : Nat) : n ≤ n + 1 + 1 + 1 + 1 + 1 + 1 + 1 + 1 + 1 + 1 + 1 + 1 + 1 + 1 + 1 := by omega
@[simp] theorem ltp16 (n : Nat) : n < n + 1 + 1 + 1 + 1 + 1 + 1 + 1 + 1 + 1 + 1 + 1 + 1 + 1 + 1 + 1 + 1 := by omega
@[simp] theorem lep16 (n : Nat) : n ≤ n + 1 + 1 + 1 + 1 + 1 + 1 + 1 + 1 + 1 + 1 + 1 + 1 + 1 + 1 + 1 + 1 := by omega

/-- the block number b is below n, in the forms in which a walk asks it -/
def Under (b n : Nat) : Prop := b < n
theorem under_all (b n : Nat) : Under b n → b < n ∧ b < n + 1 ∧ b < n + 1 + 1 ∧ b < n + 1 + 1 + 1 ∧ b < n + 1 + 1 + 1 + 1 ∧ b < n + 1 + 1 + 1 + 1 + 1 ∧ b < n + 1 + 1 + 1 + 1 + 1 + 1 ∧ b ≠ n ∧ n ≠ b ∧ b ≠ n + 1 ∧ n + 1 ≠ b ∧ b ≠ n + 1 + 1 ∧ n + 1 + 1 ≠ b ∧ b ≠ n + 1 + 1 + 1 ∧ n + 1 + 1 + 1 ≠ b ∧ b ≠ n + 1 + 1 + 1 + 1 ∧ n + 1 + 1 + 1 + 1 ≠ b := by unfold Under; intro h; refine ⟨by omega, by omega, by omega, by omega, by omega, by omega, by omega, by omega, by omega, by omega, by omega, by omega, by omega, by omega, by omega, by omega, by omega⟩

@[go_sem] theorem cell?_setCell_self (w : World) (a : Addr) (v : Value) : (w.setCell a v).cell? a = (w.cell? a).map fun _ => v := by
  cases h : w.cell? a with
  | some u => rw [World.cell?_setCell_same w a v h]; rfl
  | none =>
    simp only [Option.map_none]
    unfold World.cell? at h ⊢
    simp only [World.setCell, Array.getElem?_modify]
    cases hb : w.heap[a.block]? with
    | none => simp
    | some o =>
      rw [hb] at h
      cases o <;> simp_all

/-- what a walk wants behind a call that only made memory: p: blocks that are known to lie below w0's end -/
theorem ext_acc {W w1 w0 : World} {p : Nat → Prop} (hb : Ext W w1) (hp : ∀ b, p b → b < w0.heap.size) (hw : w0.heap.size ≤ W.heap.size) :
    (∀ b, (p b ∨ b < W.heap.size) → b < w1.heap.size) ∧ (∀ b o, (p b ∨ b < W.heap.size) → w1.cell? ⟨b, o, none⟩ = W.cell? ⟨b, o, none⟩) ∧ (∀ b o, (p b ∨ b < W.heap.size) → w1.frozen? ⟨b, o, none⟩ = W.frozen? ⟨b, o, none⟩) ∧
    (∀ b, (p b ∨ b < W.heap.size) → b < w1.heap.size ∧ b < w1.heap.size + 1 ∧ b < w1.heap.size + 1 + 1 ∧ b < w1.heap.size + 1 + 1 + 1 ∧ b < w1.heap.size + 1 + 1 + 1 + 1 ∧ b < w1.heap.size + 1 + 1 + 1 + 1 + 1 ∧ b < w1.heap.size + 1 + 1 + 1 + 1 + 1 + 1 ∧ b ≠ w1.heap.size ∧ w1.heap.size ≠ b ∧ b ≠ w1.heap.size + 1 ∧ w1.heap.size + 1 ≠ b ∧ b ≠ w1.heap.size + 1 + 1 ∧ w1.heap.size + 1 + 1 ≠ b ∧ b ≠ w1.heap.size + 1 + 1 + 1 ∧ w1.heap.size + 1 + 1 + 1 ≠ b ∧ b ≠ w1.heap.size + 1 + 1 + 1 + 1 ∧ w1.heap.size + 1 + 1 + 1 + 1 ≠ b) ∧ W.heap.size ≤ w1.heap.size := by
  have hlt : ∀ b, (p b ∨ b < W.heap.size) → b < W.heap.size := fun b h => h.elim (fun h => Nat.lt_of_lt_of_le (hp b h) hw) id
  have hl2 : ∀ b, (p b ∨ b < W.heap.size) → b < w1.heap.size := fun b h => Nat.lt_of_lt_of_le (hlt b h) hb.size
  exact ⟨hl2, fun b o h => Below.cell hb (p := ⟨b, o, none⟩) (hlt b h), fun b o h => Below.frozen hb (p := ⟨b, o, none⟩) (hlt b h), fun b h => under_all b _ (hl2 b h), hb.size⟩

/-- all blocks but tb are as they were -/
structure Kept (tb : Nat) (w w' : World) : Prop where
  os : w'.os = w.os
  tape : w'.tape = w.tape
  output : w'.output = w.output
  size : w.heap.size ≤ w'.heap.size
  block : ∀ k, k < w.heap.size → k ≠ tb → w'.heap[k]? = w.heap[k]?
theorem Kept.refl (tb : Nat) (w : World) : Kept tb w w := ⟨rfl, rfl, rfl, Nat.le_refl _, fun _ _ _ => rfl⟩
theorem Kept.trans {tb : Nat} {a b c : World} (h : Kept tb a b) (k : Kept tb b c) : Kept tb a c :=
  ⟨k.os.trans h.os, k.tape.trans h.tape, k.output.trans h.output, Nat.le_trans h.size k.size, fun i hi hn => (k.block i (Nat.lt_of_lt_of_le hi h.size) hn).trans (h.block i hi hn)⟩
theorem Kept.ext {tb : Nat} {a b c : World} (h : Kept tb a b) (k : Ext b c) : Kept tb a c :=
  h.trans ⟨k.os, k.tape, k.output, k.size, fun i hi _ => k.block i hi⟩
theorem Kept.of_ext {tb : Nat} {b c : World} (k : Ext b c) : Kept tb b c := (Kept.refl tb b).ext k
theorem Kept.alloc {tb : Nat} {a b : World} (h : Kept tb a b) (o : Obj) : Kept tb a (b.alloc o) := h.ext ((Ext.refl b).alloc o)
theorem Kept.drew {tb : Nat} {a b : World} (h : Kept tb a b) : Kept tb a b.drew := h.ext (Ext.refl b).drew
theorem Kept.drewN {tb : Nat} {a b : World} (h : Kept tb a b) (n : Nat) : Kept tb a (b.drewN n) := h.ext ((Ext.refl b).drewN n)
theorem Kept.setCell {tb : Nat} {a b : World} (h : Kept tb a b) {p : Addr} (hp : a.heap.size ≤ p.block ∨ p.block = tb) (v : Value) : Kept tb a (b.setCell p v) :=
  ⟨h.os, h.tape, h.output, by simpa [World.setCell] using h.size, fun i hi hn => by rw [Below.heap_setCell _ _ _ _ (by omega)]; exact h.block i hi hn⟩
/-- below the block nothing has changed -/
theorem Kept.below {tb : Nat} {a b : World} (h : Kept tb a b) (ht : a.heap.size ≤ tb) : Ext a b := ⟨h.os, h.tape, h.output, h.size, fun i hi => h.block i hi (by omega)⟩
theorem Ext.kept {tb : Nat} {a b c : World} (h : Ext a b) (k : Kept tb b c) (ht : a.heap.size ≤ tb) : Ext a c :=
  ⟨k.os.trans h.os, k.tape.trans h.tape, k.output.trans h.output, Nat.le_trans h.size k.size, fun i hi => (k.block i (Nat.lt_of_lt_of_le hi h.size) (by omega)).trans (h.block i hi)⟩
theorem kept_heap {tb b : Nat} {w w' : World} {o : Obj} (hk : Kept tb w w') (hne : b ≠ tb) (h : w.heap[b]? = some o) : w'.heap[b]? = some o := by
  rw [hk.block b (by
    by_cases hb : b < w.heap.size
    · exact hb
    · rw [Array.getElem?_eq_none (by omega)] at h; cases h) hne]; exact h
theorem ext_heap {b : Nat} {w w' : World} {o : Obj} (hk : Ext w w') (h : w.heap[b]? = some o) : w'.heap[b]? = some o := by
  rw [hk.block b (by
    by_cases hb : b < w.heap.size
    · exact hb
    · rw [Array.getElem?_eq_none (by omega)] at h; cases h)]; exact h
/-- .. behind a call that changed one block besides -/
theorem kept_acc {tb : Nat} {W w1 w0 : World} {p : Nat → Prop} (hb : Kept tb W w1) (hp : ∀ b, p b → b < w0.heap.size) (hw : w0.heap.size ≤ W.heap.size) :
    (∀ b, (p b ∨ b < W.heap.size) → b < w1.heap.size) ∧ (∀ b o, (p b ∨ b < W.heap.size) → b ≠ tb → w1.cell? ⟨b, o, none⟩ = W.cell? ⟨b, o, none⟩) ∧ (∀ b o, (p b ∨ b < W.heap.size) → b ≠ tb → w1.frozen? ⟨b, o, none⟩ = W.frozen? ⟨b, o, none⟩) ∧
    (∀ b, (p b ∨ b < W.heap.size) → b < w1.heap.size ∧ b < w1.heap.size + 1 ∧ b < w1.heap.size + 1 + 1 ∧ b < w1.heap.size + 1 + 1 + 1 ∧ b < w1.heap.size + 1 + 1 + 1 + 1 ∧ b < w1.heap.size + 1 + 1 + 1 + 1 + 1 ∧ b < w1.heap.size + 1 + 1 + 1 + 1 + 1 + 1 ∧ b ≠ w1.heap.size ∧ w1.heap.size ≠ b ∧ b ≠ w1.heap.size + 1 ∧ w1.heap.size + 1 ≠ b ∧ b ≠ w1.heap.size + 1 + 1 ∧ w1.heap.size + 1 + 1 ≠ b ∧ b ≠ w1.heap.size + 1 + 1 + 1 ∧ w1.heap.size + 1 + 1 + 1 ≠ b ∧ b ≠ w1.heap.size + 1 + 1 + 1 + 1 ∧ w1.heap.size + 1 + 1 + 1 + 1 ≠ b) ∧ W.heap.size ≤ w1.heap.size := by
  have hlt : ∀ b, (p b ∨ b < W.heap.size) → b < W.heap.size := fun b h => h.elim (fun h => Nat.lt_of_lt_of_le (hp b h) hw) id
  have hl2 : ∀ b, (p b ∨ b < W.heap.size) → b < w1.heap.size := fun b h => Nat.lt_of_lt_of_le (hlt b h) hb.size
  exact ⟨hl2, fun b _ h hn => World.cell?_of_block (w := W) (hb.block b (hlt b h) hn), fun b _ h hn => World.frozen?_of_block (w := W) (hb.block b (hlt b h) hn), fun b h => under_all b _ (hl2 b h), hb.size⟩

theorem quiet_of_eq {P : Program} {f : FuncId} {args : Array Value} {w : World} {n : Nat} {v : Value}
    (h : Calls P f args (w.drewN n) fun e w' => e = .returned v ∧ w.drewN n = w') : Calls P f args (w.drewN n) fun e w'' => e = .returned v ∧ ∃ m, w'' = w.drewN m :=
  h.mono fun _ _ ⟨he, hm⟩ => ⟨he, n, hm.symm⟩

/-- a world that grew out of W -/
structure Gr (W : World) where
  to : World
  ext : Ext W to
instance instGr (W : World) : Nonempty (Gr W) := ⟨⟨W, Ext.refl W⟩⟩
def gw (W : World) (g : Gr W) : World := g.to
theorem gw_ext (W : World) (g : Gr W) : Ext W (gw W g) := g.ext
@[go_sem] theorem gw_cell (W : World) (g : Gr W) (b o : Nat) (h : b < W.heap.size) : (gw W g).cell? ⟨b, o, none⟩ = W.cell? ⟨b, o, none⟩ := Below.cell g.ext (p := ⟨b, o, none⟩) h
@[go_sem] theorem gw_frozen (W : World) (g : Gr W) (b o : Nat) (h : b < W.heap.size) : (gw W g).frozen? ⟨b, o, none⟩ = W.frozen? ⟨b, o, none⟩ := Below.frozen g.ext (p := ⟨b, o, none⟩) h
/-- a region that draws its order, whose operations only read what lies in w and whose calls only make memory -/
theorem wp_region_gw {P : Program} {id : Nat} {Q : Exit → Act → World → Prop} {a : Act} {w : World} {l : List Oper} (hm : P.follows .mixedOrders = true) (hB : Region.lexB .any l.toArray = true)
    (h : wpQuiet P l.toArray (fun w' => ∃ g, w' = gw w g) (fun a' => ∀ w', (∃ g, w' = gw w g) → Q .normal a' w') l a) : (Code.region id l.toArray true).wp P Q a w :=
  wp_region_quiet (C := fun w' => ∃ g, w' = gw w g) hm hB ⟨⟨_, (Ext.refl w).drew⟩, rfl⟩ (by simpa using h)
theorem gw_call {P : Program} {f : FuncId} {args : Array Value} {W : World} {g : Gr W} {v : Value}
    (h : Calls P f args (gw W g) fun e w' => e = .returned v ∧ Ext (gw W g) w') : Calls P f args (gw W g) fun e w' => e = .returned v ∧ ∃ g', w' = gw W g' :=
  h.mono fun _ w' ⟨he, hm⟩ => ⟨he, ⟨w', g.ext.trans hm⟩, rfl⟩
theorem gw_same {P : Program} {f : FuncId} {args : Array Value} {W : World} {g : Gr W} {v : Value}
    (h : Calls P f args (gw W g) fun e w' => e = .returned v ∧ gw W g = w') : Calls P f args (gw W g) fun e w' => e = .returned v ∧ ∃ g', w' = gw W g' :=
  h.mono fun _ w' ⟨he, hm⟩ => ⟨he, g, hm.symm⟩

theorem ret_bool {a b : Bool} (h : a = b) : Ending.returned (.bool a) = .returned (.bool b) := by rw [h]
theorem ret_int {k : IntKind} {a b : Int} (h : a = b) : Ending.returned (.int k a) = .returned (.int k b) := by rw [h]
theorem ret_val {a b : Value} (h : a = b) : Ending.returned a = .returned b := by rw [h]

/-- w' is w with one cell set, and some draws -/
def SetAt (w : World) (a : Addr) (v : Value) (w' : World) : Prop := ∃ k, w' = (w.setCell a v).drewN k

theorem tmod_mod (v n : Int) (hn : 1 ≤ n) : (v.tmod n < 0 → v.tmod n + n = v % n) ∧ (0 ≤ v.tmod n → v.tmod n = v % n) ∧ -n < v.tmod n ∧ v.tmod n < n := by
  have h1 := Int.tmod_eq_emod (a := v) (b := n)
  have h2 := Int.emod_nonneg v (show n ≠ 0 by omega)
  have h3 := Int.emod_lt_of_pos v (show 0 < n by omega)
  have h4 : (n.natAbs : Int) = n := by omega
  split at h1 <;> omega

theorem heap_setCell_at (w : World) (b o : Nat) (v : Value) (c : Array Value) (T : TypeId) (fz : Nat × Nat) (h : w.heap[b]? = some (.cells c T fz)) :
    (w.setCell ⟨b, o, none⟩ v).heap[b]? = some (.cells (c.setIfInBounds o v) T fz) := by
  simp [World.setCell, Array.getElem?_modify, h]

theorem size_alloc (w : World) (o : Obj) : (w.alloc o).heap.size = w.heap.size + 1 := by simp
theorem size_setCell (w : World) (a : Addr) (v : Value) : (w.setCell a v).heap.size = w.heap.size := by simp [World.setCell]
theorem size_drewN (w : World) (n : Nat) : (w.drewN n).heap.size = w.heap.size := rfl
theorem size_drew (w : World) : w.drew.heap.size = w.heap.size := rfl
theorem heap_alloc_new (w : World) (o : Obj) : (w.alloc o).heap[w.heap.size]? = some o := by
  show (w.heap.push o)[w.heap.size]? = _
  simp
theorem cell_of_heap {w : World} {b o : Nat} {c : Array Value} {T : TypeId} {fz : Nat × Nat} {v : Value} (h : w.heap[b]? = some (.cells c T fz)) (hv : c[o]? = some v) : w.cell? ⟨b, o, none⟩ = some v := by
  simp [World.cell?, h, hv]
theorem free_of_heap {w : World} {b o : Nat} {c : Array Value} {T : TypeId} (h : w.heap[b]? = some (.cells c T (0, 0))) : w.frozen? ⟨b, o, none⟩ = false := by
  simp [World.frozen?, h]
theorem lt_of_heap {w : World} {b : Nat} {o : Obj} (h : w.heap[b]? = some o) : b < w.heap.size := by
  by_cases hb : b < w.heap.size
  · exact hb
  · rw [Array.getElem?_eq_none (by omega)] at h; cases h
end Go.Proofs.Ytgjabadcgndkhaa
