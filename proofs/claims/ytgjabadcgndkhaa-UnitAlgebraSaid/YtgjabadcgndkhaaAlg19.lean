/- The walk of UnitAlgebra: it returns true. -/
import Derived.Test.YtgjabadcgndkhaaSane19
import Derived.Test.YtgjabadcgndkhaaTape
set_option linter.unusedSimpArgs false
set_option linter.unusedVariables false
namespace Go.Proofs.Ytgjabadcgndkhaa
open Go.RowKit

/-- nine exponents that are in range -/
def Nine (c : Array Value) : Prop := ∃ a0 a1 a2 b0 b1 b2 c0 c1 c2 : Int, c = #[.int .i64 a0, .int .i64 a1, .int .i64 a2, .int .i64 b0, .int .i64 b1, .int .i64 b2, .int .i64 c0, .int .i64 c1, .int .i64 c2] ∧
  ((-2 ≤ a0 ∧ a0 ≤ 2) ∧ (-2 ≤ a1 ∧ a1 ≤ 2) ∧ (-1 ≤ a2 ∧ a2 ≤ 1)) ∧ ((-2 ≤ b0 ∧ b0 ≤ 2) ∧ (-2 ≤ b1 ∧ b1 ≤ 2) ∧ (-1 ≤ b2 ∧ b2 ≤ 1)) ∧ ((-2 ≤ c0 ∧ c0 ≤ 2) ∧ (-2 ≤ c1 ∧ c1 ≤ 2) ∧ (-1 ≤ c2 ∧ c2 ≤ 1))

/-- the loop's state: the array of three units at block ub, the tape at block tb -/
structure AlgAt (w : World) (tb ub : Nat) (wr : World) : Prop where
  ext : Ext w wr
  nine : ∃ c, Nine c ∧ wr.heap[ub]? = some (.cells c 34 (0, 0))
  tape : ∃ l, TapeIs wr tb l

theorem nine_zero : Nine #[.int .i64 0, .int .i64 0, .int .i64 0, .int .i64 0, .int .i64 0, .int .i64 0, .int .i64 0, .int .i64 0, .int .i64 0] :=
  ⟨0, 0, 0, 0, 0, 0, 0, 0, 0, rfl, by omega, by omega, by omega⟩

theorem getD9 {c : Array Value} (h : Nine c) (o : Nat) (ho : o < 9) : ∃ v, c[o]? = some v := by
  obtain ⟨a0, a1, a2, b0, b1, b2, c0, c1, c2, rfl, _⟩ := h
  exact ⟨_, Array.getElem?_eq_getElem (by simpa using ho)⟩

/-- one more unit is stored -/
theorem nine_set {c : Array Value} (h : Nine c) (k : Nat) (hk : k < 3) (x y z : Int) (hx : 0 ≤ x ∧ x < 5) (hy : 0 ≤ y ∧ y < 5) (hz : 0 ≤ z ∧ z < 3) :
    Nine (((c.setIfInBounds (k * 3) (.int .i64 (x - 2))).setIfInBounds (k * 3 + 1) (.int .i64 (y - 2))).setIfInBounds (k * 3 + 2) (.int .i64 (z - 1))) := by
  obtain ⟨a0, a1, a2, b0, b1, b2, c0, c1, c2, rfl, h1, h2, h3⟩ := h
  match k, hk with
  | 0, _ => exact ⟨x - 2, y - 2, z - 1, b0, b1, b2, c0, c1, c2, rfl, by omega, h2, h3⟩
  | 1, _ => exact ⟨a0, a1, a2, x - 2, y - 2, z - 1, c0, c1, c2, rfl, h1, by omega, h3⟩
  | 2, _ => exact ⟨a0, a1, a2, b0, b1, b2, x - 2, y - 2, z - 1, rfl, h1, h2, by omega⟩

theorem vU_mk {m h d : Int} (h1 : -3 ≤ m ∧ m ≤ 3) (h2 : -3 ≤ h ∧ h ≤ 3) (h3 : -3 ≤ d ∧ d ≤ 3) : vU m h d = true := by
  simp [vU, inR]; omega
theorem addS_no {a0 a1 a2 b0 b1 b2 : Int} (ha : vU a0 a1 a2 = true) (hb : vU b0 b1 b2 = true) (hs : vU (a0 + b0) (a1 + b1) (a2 + b2) = false) : addS a0 a1 a2 b0 b1 b2 = ((0, 0, 0), 10) := by
  simp [addS, ha, hb, hs]
theorem addS_yes {a0 a1 a2 b0 b1 b2 : Int} (ha : vU a0 a1 a2 = true) (hb : vU b0 b1 b2 = true) (hs : vU (a0 + b0) (a1 + b1) (a2 + b2) = true) : addS a0 a1 a2 b0 b1 b2 = ((a0 + b0, a1 + b1, a2 + b2), 0) := by
  simp [addS, ha, hb, hs]
theorem addS_comm (a0 a1 a2 b0 b1 b2 : Int) : addS b0 b1 b2 a0 a1 a2 = addS a0 a1 a2 b0 b1 b2 := by
  unfold addS; rw [Bool.and_comm, Int.add_comm b0, Int.add_comm b1, Int.add_comm b2]
theorem subS_back {a0 a1 a2 b0 b1 b2 : Int} (ha : vU a0 a1 a2 = true) (hb : vU b0 b1 b2 = true) (hs : vU (a0 + b0) (a1 + b1) (a2 + b2) = true) : subS (a0 + b0) (a1 + b1) (a2 + b2) b0 b1 b2 = ((a0, a1, a2), 0) := by
  unfold subS
  have e : ∀ x y : Int, x + y + -y = x := fun x y => by omega
  rw [addS_yes hs (by rw [vU_neg]; exact hb) (by rw [e, e, e]; exact ha)]
  simp only [e]
theorem addS_zero {a0 a1 a2 : Int} (ha : vU a0 a1 a2 = true) : addS a0 a1 a2 0 0 0 = ((a0, a1, a2), 0) := by
  rw [addS_yes ha (by decide) (by simpa using ha)]; simp
theorem addS_assoc {a0 a1 a2 b0 b1 b2 c0 c1 c2 : Int} (ha : vU a0 a1 a2 = true) (hc : vU c0 c1 c2 = true) (hs : vU (a0 + b0) (a1 + b1) (a2 + b2) = true) (ht : vU (b0 + c0) (b1 + c1) (b2 + c2) = true) :
    addS a0 a1 a2 (b0 + c0) (b1 + c1) (b2 + c2) = addS (a0 + b0) (a1 + b1) (a2 + b2) c0 c1 c2 := by
  unfold addS; rw [ha, hc, hs, ht, Int.add_assoc, Int.add_assoc, Int.add_assoc]

set_option maxRecDepth 100000 in
set_option maxHeartbeats 4000000 in
theorem algebra_walk (v : Value) (l : List Int) (w : World) (h : IntsAt w v l) :
    Calls Try.prog 4 #[v] w fun e w' => e = .returned (.bool true) ∧ Ext w w' := by
  have hsh := h.shape
  have htp := new_tape v l w h
  have hz0 : ∀ b, False → b < w.heap.size := fun _ h => h.elim
  obtain ⟨a, len, cap, rfl⟩ := hsh
  go_enter Try.func4, Try.ntmps4
  go_wp2_with (go_at_call 5; refine (new_walk _ _ ⟨_, _, _, rfl⟩).mono ?_; rintro e w' ⟨rfl, rfl⟩)
  clear h
  go_loopw [5] (fun i wr => ∃ k : Nat, k ≤ 3 ∧ i = .int .i64 k ∧ AlgAt w w.heap.size (w.heap.size + 1) wr) (fun i _ => 3 - (intOf i).toNat)
  case atStart =>
    refine ⟨0, by omega, rfl, ?_, ⟨_, nine_zero, by rw [← size_alloc w (.cells #[.slice a len cap, .int .i64 0] 37)]; exact heap_alloc_new _ _⟩, l, htp.keep ((Ext.refl _).alloc _)⟩
    repeat (first | exact Ext.refl _ | refine Ext.alloc ?_ _ | refine Ext.setCell ?_ (by dsimp only; omega) _ | refine Ext.drewN ?_ _ | refine Ext.drew ?_ | refine Ext.trans ?_ (by assumption))
  case round =>
    obtain ⟨k, hk, rfl, hA, ⟨c, hN, hB⟩, l', hti⟩ := hrel
    have hAl := hA.le
    have hBl := lt_of_heap hB
    by_cases h3 : k < 3
    · have hcu : ∀ o, wr.cell? ⟨w.heap.size + 1, o, none⟩ = c[o]? := fun o => by simp [World.cell?, hB]
      have hfu : ∀ o, wr.frozen? ⟨w.heap.size + 1, o, none⟩ = false := fun o => by simp [World.frozen?, hB]
      have hz1 : ∀ b, b = w.heap.size + 1 → b < wr.heap.size := fun _ h => h ▸ hBl
      have h5 := nx_bd 5 l' (by omega)
      have h5b := nx_bd 5 (nt 5 l') (by omega)
      have h3b := nx_bd 3 (nt 5 (nt 5 l')) (by omega)
      obtain ⟨v0, hv0⟩ := getD9 hN (k * 3) (by omega)
      obtain ⟨v1, hv1⟩ := getD9 hN (k * 3 + 1) (by omega)
      obtain ⟨v2, hv2⟩ := getD9 hN (k * 3 + 2) (by omega)
      clear hz0
      go_wp2_with (go_at_call 6; refine (next_any _ _ _ _ (by omega) (by assumption)).mono ?_; rintro e w' ⟨rfl, htp⟩; have hti := htp.is; have hb := htp.kept; obtain ⟨hz, hc, hf, hn, hl⟩ := kept_acc hb (by assumption) (by simp [go_sem]); try simp only [size_alloc, size_setCell, size_drewN, size_drew, false_or] at hz hc hf hn hl)
      have hK : Kept w.heap.size wr w' := by repeat (first | exact Kept.refl _ _ | refine Kept.alloc ?_ _ | refine Kept.setCell ?_ (by dsimp only; omega) _ | refine Kept.drewN ?_ _ | refine Kept.drew ?_ | refine Kept.trans ?_ (by assumption) | refine Kept.ext ?_ (by assumption))
      have hB' := kept_heap hK (by omega) hB
      go_roundw
      case rel =>
        refine ⟨k + 1, by omega, by go_num, ?_, ⟨_, nine_set hN k h3 _ _ _ h5 h5b h3b, ?_⟩, _, hti.keep2 (sb := w.heap.size + 1) ?_ (by omega)⟩
        · refine Ext.setCell (Ext.setCell (Ext.setCell (hA.kept hK (Nat.le_refl _)) (by dsimp only; omega) _) (by dsimp only; omega) _) (by dsimp only; omega) _
        · rw [heap_setCell_at _ _ _ _ _ _ _ (heap_setCell_at _ _ _ _ _ _ _ (heap_setCell_at _ _ _ _ _ _ _ hB'))]
        · refine Kept.setCell (Kept.setCell (Kept.setCell (Kept.refl _ _) ?_ _) ?_ _) ?_ _
          all_goals exact .inr rfl
      case measure => simp [intOf]; omega
    · obtain rfl : k = 3 := by omega
      obtain ⟨a0, a1, a2, b0, b1, b2, c0, c1, c2, rfl, ⟨p1, p2, p3⟩, ⟨q1, q2, q3⟩, ⟨r1, r2, r3⟩⟩ := hN
      have hcu : ∀ o, wr.cell? ⟨w.heap.size + 1, o, none⟩ = (#[.int .i64 a0, .int .i64 a1, .int .i64 a2, .int .i64 b0, .int .i64 b1, .int .i64 b2, .int .i64 c0, .int .i64 c1, .int .i64 c2] : Array Value)[o]? := fun o => by simp [World.cell?, hB]
      have hz1 : ∀ b, b = w.heap.size + 1 → b < wr.heap.size := fun _ h => h ▸ hBl
      have hku := under_all (w.heap.size + 1) wr.heap.size hBl
      have va : vU a0 a1 a2 = true := vU_mk (by omega) (by omega) (by omega)
      have vb : vU b0 b1 b2 = true := vU_mk (by omega) (by omega) (by omega)
      have vc : vU c0 c1 c2 = true := vU_mk (by omega) (by omega) (by omega)
      clear hz0 htp hti hB hk h3 p1 p2 p3 q1 q2 q3 r1 r2 r3
      cases hs : vU (a0 + b0) (a1 + b1) (a2 + b2)
      · have e1 := addS_no va vb hs
        have e2 : addS b0 b1 b2 a0 a1 a2 = ((0, 0, 0), 10) := (addS_comm _ _ _ _ _ _).trans e1
        clear va vb vc hs
        go_wp2_with (first | (go_at_call 7; refine (unitMul_any _ _ _ _ _ _ _).mono ?_; rintro e w' ⟨rfl, hb⟩; obtain ⟨hz, hc, hf, hn, hl⟩ := ext_acc hb (by assumption) (by simp [go_sem]); try simp only [size_alloc, size_setCell, size_drewN, size_drew, false_or] at hz hc hf hn hl) | (go_at_call 9; refine (unitDiv_any _ _ _ _ _ _ _).mono ?_; rintro e w' ⟨rfl, hb⟩; obtain ⟨hz, hc, hf, hn, hl⟩ := ext_acc hb (by assumption) (by simp [go_sem]); try simp only [size_alloc, size_setCell, size_drewN, size_drew, false_or] at hz hc hf hn hl) | (go_at_call 13; refine (sane_any _).mono ?_; rintro e w' ⟨rfl, hb⟩; obtain ⟨hz, hc, hf, hn, hl⟩ := ext_acc hb (by assumption) (by simp [go_sem]); try simp only [size_alloc, size_setCell, size_drewN, size_drew, false_or] at hz hc hf hn hl))
        all_goals
          go_ret
          refine ⟨rfl, hA.trans ?_⟩
          repeat (first | exact Ext.refl _ | refine Ext.alloc ?_ _ | refine Ext.setCell ?_ (by dsimp only; omega) _ | refine Ext.drewN ?_ _ | refine Ext.drew ?_ | refine Ext.trans ?_ (by assumption))
      · have e1 := addS_yes va vb hs
        have e2 : addS b0 b1 b2 a0 a1 a2 = ((a0 + b0, a1 + b1, a2 + b2), 0) := (addS_comm _ _ _ _ _ _).trans e1
        have e3 := subS_back va vb hs
        have e4 := addS_zero va
        cases ht : vU (b0 + c0) (b1 + c1) (b2 + c2)
        · have e5 := addS_no vb vc ht
          clear va vb vc hs ht
          go_wp2_with (first | (go_at_call 7; refine (unitMul_any _ _ _ _ _ _ _).mono ?_; rintro e w' ⟨rfl, hb⟩; obtain ⟨hz, hc, hf, hn, hl⟩ := ext_acc hb (by assumption) (by simp [go_sem]); try simp only [size_alloc, size_setCell, size_drewN, size_drew, false_or] at hz hc hf hn hl) | (go_at_call 9; refine (unitDiv_any _ _ _ _ _ _ _).mono ?_; rintro e w' ⟨rfl, hb⟩; obtain ⟨hz, hc, hf, hn, hl⟩ := ext_acc hb (by assumption) (by simp [go_sem]); try simp only [size_alloc, size_setCell, size_drewN, size_drew, false_or] at hz hc hf hn hl) | (go_at_call 13; refine (sane_any _).mono ?_; rintro e w' ⟨rfl, hb⟩; obtain ⟨hz, hc, hf, hn, hl⟩ := ext_acc hb (by assumption) (by simp [go_sem]); try simp only [size_alloc, size_setCell, size_drewN, size_drew, false_or] at hz hc hf hn hl))
          all_goals
            go_ret
            refine ⟨rfl, hA.trans ?_⟩
            repeat (first | exact Ext.refl _ | refine Ext.alloc ?_ _ | refine Ext.setCell ?_ (by dsimp only; omega) _ | refine Ext.drewN ?_ _ | refine Ext.drew ?_ | refine Ext.trans ?_ (by assumption))
        · have e5 := addS_yes vb vc ht
          have e6 := addS_assoc va vc hs ht
          clear va vb vc hs ht
          go_wp2_with (first | (go_at_call 7; refine (unitMul_any _ _ _ _ _ _ _).mono ?_; rintro e w' ⟨rfl, hb⟩; obtain ⟨hz, hc, hf, hn, hl⟩ := ext_acc hb (by assumption) (by simp [go_sem]); try simp only [size_alloc, size_setCell, size_drewN, size_drew, false_or] at hz hc hf hn hl) | (go_at_call 9; refine (unitDiv_any _ _ _ _ _ _ _).mono ?_; rintro e w' ⟨rfl, hb⟩; obtain ⟨hz, hc, hf, hn, hl⟩ := ext_acc hb (by assumption) (by simp [go_sem]); try simp only [size_alloc, size_setCell, size_drewN, size_drew, false_or] at hz hc hf hn hl) | (go_at_call 13; refine (sane_any _).mono ?_; rintro e w' ⟨rfl, hb⟩; obtain ⟨hz, hc, hf, hn, hl⟩ := ext_acc hb (by assumption) (by simp [go_sem]); try simp only [size_alloc, size_setCell, size_drewN, size_drew, false_or] at hz hc hf hn hl))
          all_goals
            go_ret
            refine ⟨rfl, hA.trans ?_⟩
            repeat (first | exact Ext.refl _ | refine Ext.alloc ?_ _ | refine Ext.setCell ?_ (by dsimp only; omega) _ | refine Ext.drewN ?_ _ | refine Ext.drew ?_ | refine Ext.trans ?_ (by assumption))
end Go.Proofs.Ytgjabadcgndkhaa
