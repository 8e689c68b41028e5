/- A region that draws its order, whose first operations read what is there and call what only makes memory, and whose last ones wait for all of those and go in one order. -/
import Derived.Test.YtgjabadcgndkhaaBase
import Derived.StillTail
set_option linter.unusedSimpArgs false
set_option linter.unusedVariables false
namespace Go.Proofs.Ytgjabadcgndkhaa
open Go.RowKit

section
variable {P : Program} {md : Region.Mode} {C : World → Prop}

theorem any_seq {ops : Array Oper} {Q : Exit → Act → World → Prop} : ∀ (l : List Oper) (k x : Nat) (listed : Array Bool) (a : Act) (w : World), (∀ j, l[j]? = ops[k + j]?) →
    Region.seqB md ops l.length k listed = true → wpList P ops Q l a w → wpAny P md ops Q (l.length + x) listed a w := by
  intro l
  induction l with
  | nil =>
    intro k x listed a w _ hB h
    have hr : Region.ready md ops listed = [] := by simpa [Region.seqB] using hB
    cases x with
    | zero => exact ⟨hr, h⟩
    | succ x => exact ⟨fun _ => h, fun i hi => by rw [hr] at hi; cases hi⟩
  | cons o l ih =>
    intro k x listed a w hl hB h
    have h0 : ops[k]? = some o := by simpa using (hl 0).symm
    simp only [List.length_cons, Region.seqB, Bool.and_eq_true, decide_eq_true_eq] at hB
    rw [List.length_cons, show l.length + 1 + x = (l.length + x) + 1 from by omega]
    refine ⟨fun h1 => (by rw [hB.1] at h1; cases h1), fun i hi => ?_⟩
    rw [hB.1] at hi
    obtain rfl : i = k := by simpa using hi
    have hw : wpOp P ops Q i (wpList P ops Q l) a w := by unfold wpOp; simp only [h0]; exact h
    exact wpOp_mono (fun a' w' h' => ih (i + 1) x _ a' w' (fun j => by have := hl (j + 1); simpa [Nat.add_assoc, Nat.add_comm 1 j] using this) hB.2 h') hw

/-- edges and guards lead back, every operation from n on waits for every one ahead of n -/
def backB (ops : Array Oper) : Bool := (List.range ops.size).all fun i => match ops[i]? with
  | some o => (o.after.all fun e => decide (e.on < i)) && (match o.guard with | none => true | some (j, _) => decide (j < i))
  | none => true
def tailB (md : Region.Mode) (ops : Array Oper) (n : Nat) : Bool := (List.range ops.size).all fun t => decide (t < n) || (List.range n).all fun i => Region.waitsFor md ops t i

theorem back_edge {ops : Array Oper} (h : backB ops = true) {i : Nat} {o : Oper} (ho : ops[i]? = some o) : (∀ e ∈ o.after, e.on < i) ∧ (∀ j b, o.guard = some (j, b) → j < i) := by
  have hi : i < ops.size := (Array.getElem?_eq_some_iff.1 ho).1
  have := List.all_eq_true.1 h i (List.mem_range.2 hi)
  simp only [ho, Bool.and_eq_true, Array.all_eq_true_iff_forall_mem, decide_eq_true_eq] at this
  refine ⟨this.1, fun j b hg => ?_⟩
  have h2 := this.2
  rw [hg] at h2
  simpa using h2

theorem all_listed {ops : Array Oper} (h : backB ops = true) {listed : Array Bool} (hr : Region.ready md ops listed = []) : ∀ i, i < ops.size → listed.getD i true = true := by
  intro i
  induction i using Nat.strongRecOn with
  | _ i ih =>
    intro hi
    cases hl : listed.getD i true with
    | true => rfl
    | false =>
      exfalso
      have ho : ops[i]? = some ops[i] := Array.getElem?_eq_getElem hi
      have hm : i ∈ Region.ready md ops listed := mem_ready.2 ⟨hl, ops[i], ho, fun e he _ => by
        have he2 := (back_edge h ho).1 e he
        have h3 := ih e.on he2 (by omega)
        have hsz : i < listed.size := by
          by_cases hs : i < listed.size
          · exact hs
          · simp [Array.getD, hs] at hl
        have h4 : e.on < listed.size := by omega
        simp only [Array.getD_eq_getD_getElem?, Array.getElem?_eq_getElem h4, Option.getD_some] at h3 ⊢
        exact h3⟩
      rw [hr] at hm
      cases hm

theorem getD_app {lh : Array Bool} {m : Nat} (d : Bool) (i : Nat) (hi : i < lh.size) : (lh ++ Array.replicate m false).getD i d = lh.getD i d := by
  simp only [Array.getD_eq_getD_getElem?, Array.getElem?_append_left hi]

theorem set_app {lh : Array Bool} {m : Nat} (i : Nat) (hi : i < lh.size) : (lh ++ Array.replicate m false).setIfInBounds i true = lh.setIfInBounds i true ++ Array.replicate m false := by
  apply Array.ext_getElem?
  intro j
  by_cases hj : j < lh.size
  · rw [Array.getElem?_append_left (by simpa using hj)]
    simp only [Array.getElem?_setIfInBounds, Array.size_append]
    rw [Array.getElem?_append_left hj]
    by_cases hij : i = j
    · subst hij; simp [hi]; omega
    · simp [hij]
  · rw [Array.getElem?_append_right (by simpa using hj)]
    rw [Array.getElem?_setIfInBounds_ne (by omega), Array.getElem?_append_right (by omega)]
    simp

theorem app_left (lh lt : List Oper) (i : Nat) (hi : i < lh.length) : (lh ++ lt).toArray[i]? = lh.toArray[i]? := by
  simp only [List.getElem?_toArray]; exact List.getElem?_append_left hi
theorem app_right (lh lt : List Oper) (j : Nat) : lt[j]? = (lh ++ lt).toArray[lh.length + j]? := by
  simp only [List.getElem?_toArray]; rw [List.getElem?_append_right (by omega)]; congr 1; omega
theorem any_of_head {lh lt : List Oper} {Q : Exit → Act → World → Prop} {Qh : Act → Prop} (hb : backB lh.toArray = true) (ht : tailB md (lh ++ lt).toArray lh.length = true)
    (hs : Region.seqB md (lh ++ lt).toArray lt.length lh.length (Array.replicate lh.length true ++ Array.replicate lt.length false) = true)
    (hQ : ∀ a w, C w → Qh a → wpList P (lh ++ lt).toArray Q lt a w) :
    ∀ (fuel : Nat) (listed : Array Bool) (a : Act) (w : World), C w → listed.size = lh.length → wpAnyQ P md lh.toArray C Qh fuel listed a →
      wpAny P md (lh ++ lt).toArray Q (fuel + lt.length) (listed ++ Array.replicate lt.length false) a w := by
  have done : ∀ (fuel : Nat) (listed : Array Bool) (a : Act) (w : World), C w → listed.size = lh.length → Region.ready md lh.toArray listed = [] → Qh a →
      wpAny P md (lh ++ lt).toArray Q (fuel + lt.length) (listed ++ Array.replicate lt.length false) a w := by
    intro fuel listed a w hC hz hr hq
    have hall := all_listed hb hr
    have he : listed = Array.replicate lh.length true := by
      apply Array.ext
      · simp [hz]
      · intro i h1 h2
        have := hall i (by simpa [hz] using h1)
        simp only [Array.getD_eq_getD_getElem?, Array.getElem?_eq_getElem h1, Option.getD_some] at this
        simp [this]
    subst he
    rw [Nat.add_comm]
    exact any_seq lt lh.length fuel _ a w (app_right lh lt) hs (hQ a w hC hq)
  intro fuel
  induction fuel with
  | zero => intro listed a w hC hz h; exact done 0 listed a w hC hz h.1 h.2
  | succ fuel ih =>
    intro listed a w hC hz h
    by_cases hr : Region.ready md lh.toArray listed = []
    · exact done _ listed a w hC hz hr (h.1 hr)
    · rw [show fuel + 1 + lt.length = (fuel + lt.length) + 1 from by omega]
      -- an operation ahead that is not listed
      have hex : ∃ j, j < lh.length ∧ listed.getD j true = false := by
        obtain ⟨j, hj⟩ := List.exists_mem_of_ne_nil _ hr
        obtain ⟨h1, o, h2, _⟩ := mem_ready.1 hj
        exact ⟨j, by simpa using (Array.getElem?_eq_some_iff.1 h2).1, h1⟩
      obtain ⟨j0, hj0, hj1⟩ := hex
      have key : ∀ i, i ∈ Region.ready md (lh ++ lt).toArray (listed ++ Array.replicate lt.length false) → i < lh.length ∧ i ∈ Region.ready md lh.toArray listed := by
        intro i hi
        obtain ⟨h1, o, h2, h3⟩ := mem_ready.1 hi
        have hsz : i < (lh ++ lt).toArray.size := (Array.getElem?_eq_some_iff.1 h2).1
        by_cases hin : i < lh.length
        · refine ⟨hin, mem_ready.2 ⟨by rw [← getD_app (m := lt.length) true i (by omega)]; exact h1, o, ?_, fun e he hbd => ?_⟩⟩
          · rw [← h2, app_left _ _ _ hin]
          · have ho2 : lh.toArray[i]? = some o := by rw [← h2, app_left _ _ _ hin]
            have hlt := (back_edge hb ho2).1 e he
            rw [← getD_app (m := lt.length) false e.on (by omega)]
            exact h3 e he hbd
        · exfalso
          have h4 := List.all_eq_true.1 ht i (List.mem_range.2 hsz)
          simp only [Bool.or_eq_true, decide_eq_true_eq, List.all_eq_true, List.mem_range] at h4
          obtain ⟨ot, hot, e, he, hbd, hon⟩ := Region.waitsFor_spec (h4.resolve_left hin j0 hj0)
          obtain rfl : ot = o := Option.some.inj (hot.symm.trans h2)
          have h5 := h3 e he hbd
          rw [hon, getD_app false j0 (by omega)] at h5
          have hlt : j0 < listed.size := by omega
          simp only [Array.getD_eq_getD_getElem?, Array.getElem?_eq_getElem hlt, Option.getD_some] at h5 hj1
          rw [h5] at hj1; cases hj1
      refine ⟨fun h1 => ?_, fun i hi => ?_⟩
      · exfalso
        obtain ⟨j, hj⟩ := List.exists_mem_of_ne_nil _ hr
        obtain ⟨h2, o, h3, h4⟩ := mem_ready.1 hj
        have hjn : j < lh.length := by simpa using (Array.getElem?_eq_some_iff.1 h3).1
        have : j ∈ Region.ready md (lh ++ lt).toArray (listed ++ Array.replicate lt.length false) := mem_ready.2 ⟨by rw [getD_app true j (by omega)]; exact h2, o, by rw [← h3, app_left _ _ _ hjn], fun e he hbd => by
          rw [getD_app false e.on (by have := (back_edge hb h3).1 e he; omega)]; exact h4 e he hbd⟩
        rw [h1] at this; cases this
      · obtain ⟨hin, him⟩ := key i hi
        have hq := h.2 i him
        rw [set_app i (by omega)]
        have hq2 : qOp P (lh ++ lt).toArray C i (wpAnyQ P md lh.toArray C Qh fuel (listed.setIfInBounds i true)) a := by
          unfold qOp at hq ⊢
          have ho : (lh ++ lt).toArray[i]? = lh.toArray[i]? := app_left _ _ _ hin
          rw [ho]
          cases hoi : lh.toArray[i]? with
          | none => rw [hoi] at hq; exact hq
          | some o =>
            rw [hoi] at hq
            have hw : Region.wanted o (yielded (lh ++ lt).toArray a.tmps) = Region.wanted o (yielded lh.toArray a.tmps) := by
              unfold Region.wanted
              cases hg : o.guard with
              | none => rfl
              | some jb =>
                obtain ⟨j, b⟩ := jb
                have hj := (back_edge hb hoi).2 j b hg
                have hji : j < lh.length := by omega
                simp only [yielded, app_left _ _ _ hji]
            simp only [hw]
            exact hq
        exact wpOp_of_qOp hC (fun a' w' hC' hK => ih _ a' w' hC' (by simpa using hz) hK) hq2
end

/-- A region that draws its order: the head in whatever order, over worlds that only grow; the tail behind it, in the order of the text. -/
theorem wp_region_gwt {P : Program} {id : Nat} {Q : Exit → Act → World → Prop} {a : Act} {w : World} {l : List Oper} (n : Nat) (hm : P.follows .mixedOrders = true)
    (hB : (Region.lexB .any (l.take n).toArray && backB (l.take n).toArray && tailB .any (l.take n ++ l.drop n).toArray (l.take n).length && Region.seqB .any (l.take n ++ l.drop n).toArray (l.drop n).length (l.take n).length (Array.replicate (l.take n).length true ++ Array.replicate (l.drop n).length false)) = true)
    (h : wpQuiet P (l.take n).toArray (fun w' => ∃ g, w' = gw w g) (fun a' => ∀ w', (∃ g, w' = gw w g) → wpList P (l.take n ++ l.drop n).toArray Q (l.drop n) a' w') (l.take n) a) : (Code.region id l.toArray true).wp P Q a w := by
  simp only [Bool.and_eq_true] at hB
  obtain ⟨⟨⟨h1, h2⟩, h3⟩, h4⟩ := hB
  simp only [Region.lexB, Bool.and_eq_true] at h1
  have hq := wpAnyQ_lex (C := fun w' => ∃ g, w' = gw w g) (md := .any) h1.1 (l.take n) 0 (Array.replicate (l.take n).toArray.size false) a (by simp) (by simpa using h1.2) h
  have := any_of_head (P := P) (C := fun w' => ∃ g, w' = gw w g) (Q := Q) h2 h3 h4 (fun a' w' hC hQ => hQ w' hC) (l.take n).length _ a { w with drawn := w.drawn + 1 } ⟨⟨_, (Ext.refl w).drew⟩, rfl⟩ (by simp) hq
  refine wp_region_any hm ?_
  have hsz : (l.take n).length + (l.drop n).length = l.toArray.size := by simp; omega
  rw [hsz, List.take_append_drop] at this
  have hrep : Array.replicate (l.take n).toArray.size false ++ Array.replicate (l.drop n).length false = Array.replicate l.toArray.size false := by
    rw [show (l.take n).toArray.size = (l.take n).length from by simp, Array.replicate_append_replicate, hsz]
  rw [hrep] at this
  exact this
end Go.Proofs.Ytgjabadcgndkhaa
