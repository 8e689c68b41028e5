/- Package unit's algebra and its reference: products and quotients of units. -/
import Derived.Test.YtgjabadcgndkhaaBase
set_option linter.unusedSimpArgs false
set_option linter.unusedVariables false
namespace Go.Proofs.Ytgjabadcgndkhaa
open Go.RowKit

def inR (x : Int) : Bool := decide (-3 ≤ x ∧ x ≤ 3)
def vU (m h d : Int) : Bool := inR m && inR h && inR d
theorem vU_bd {m h d : Int} (hv : vU m h d = true) : (-3 ≤ m ∧ m ≤ 3) ∧ (-3 ≤ h ∧ h ≤ 3) ∧ (-3 ≤ d ∧ d ≤ 3) := by
  simp [vU, inR] at hv; omega

set_option maxHeartbeats 400000 in
theorem inRange_any (a : Int) (w : World) :
    Calls Try.prog 16 #[.int .i64 a] w fun e w' => e = .returned (.bool (inR a)) ∧ w = w' := by
  go_enter Try.func16, Try.ntmps16
  go_wp2
  all_goals go_ret
  all_goals exact ⟨ret_bool (by rw [Bool.eq_iff_iff]; simp [inR]; omega), rfl⟩

set_option maxHeartbeats 400000 in
theorem valid_any (m h d : Int) (w : World) :
    Calls Try.prog 11 #[.agg #[.int .i64 m, .int .i64 h, .int .i64 d]] w fun e w' => e = .returned (.bool (vU m h d)) ∧ Ext w w' := by
  cases hm : inR m <;> cases hh : inR h <;> cases hd : inR d
  all_goals
    go_enter Try.func11, Try.ntmps11
    go_wp2_with (go_at_call 16; refine (inRange_any _ _).mono ?_; rintro e w' ⟨rfl, rfl⟩)
    go_ret
    exact ⟨by simp [vU, *], (Ext.refl _).alloc _⟩

set_option maxHeartbeats 400000 in
theorem isUnit_any (m h d : Int) (w : World) :
    Calls Try.prog 12 #[.agg #[.int .i64 m, .int .i64 h, .int .i64 d]] w fun e w' => e = .returned (.bool (vU m h d)) ∧ Ext w w' := by
  go_enter Try.func12, Try.ntmps12
  go_wp2_with fail
  all_goals
    go_ret
    exact ⟨ret_bool (by rw [Bool.eq_iff_iff]; simp [vU, inR]; omega), (Ext.refl _).alloc _⟩

/-- a product of units: the exponents and the error -/
def addS (a0 a1 a2 b0 b1 b2 : Int) : (Int × Int × Int) × Int :=
  if vU a0 a1 a2 && vU b0 b1 b2 then if vU (a0 + b0) (a1 + b1) (a2 + b2) then ((a0 + b0, a1 + b1, a2 + b2), 0) else ((0, 0, 0), 10) else ((0, 0, 0), 1)

/-- a quotient of units -/
def subS (a0 a1 a2 b0 b1 b2 : Int) : (Int × Int × Int) × Int := addS a0 a1 a2 (-b0) (-b1) (-b2)

abbrev vUT (r : (Int × Int × Int) × Int) : Value := .tuple #[.agg #[.int .i64 r.1.1, .int .i64 r.1.2.1, .int .i64 r.1.2.2], .int .i64 r.2]

theorem vU_neg (m h d : Int) : vU (-m) (-h) (-d) = vU m h d := by
  rw [Bool.eq_iff_iff]; simp [vU, inR]; omega

set_option maxHeartbeats 1000000 in
theorem combine_pos (a0 a1 a2 b0 b1 b2 : Int) (w : World) :
    Calls Try.prog 15 #[.agg #[.int .i64 a0, .int .i64 a1, .int .i64 a2], .agg #[.int .i64 b0, .int .i64 b1, .int .i64 b2], .int .i64 (1)] w fun e w' => e = .returned (vUT (addS a0 a1 a2 b0 b1 b2)) ∧ Ext w w' := by
  have hz0 : ∀ b, False → b < w.heap.size := fun _ h => h.elim
  cases ha : vU a0 a1 a2
  · go_enter Try.func15, Try.ntmps15
    go_wp2_with (go_at_call 11; refine (valid_any _ _ _ _).mono ?_; rintro e w' ⟨rfl, hb⟩; obtain ⟨hz, hc, hf, hn, hl⟩ := ext_acc hb (by assumption) (by simp [go_sem]); try simp only [size_alloc, size_setCell, size_drewN, size_drew, false_or] at hz hc hf hn hl)
    refine bodyPost_ret (v := vUT (addS a0 a1 a2 b0 b1 b2)) (by simp [results, Try.results15, go_sem, vUT, addS, *]) rfl ⟨rfl, ?_⟩
    repeat (first | exact Ext.refl _ | refine Ext.alloc ?_ _ | refine Ext.setCell ?_ (by dsimp only; omega) _ | refine Ext.drewN ?_ _ | refine Ext.drew ?_ | refine Ext.trans ?_ (by assumption))
  · cases hv : vU b0 b1 b2
    · go_enter Try.func15, Try.ntmps15
      go_wp2_with (go_at_call 11; refine (valid_any _ _ _ _).mono ?_; rintro e w' ⟨rfl, hb⟩; obtain ⟨hz, hc, hf, hn, hl⟩ := ext_acc hb (by assumption) (by simp [go_sem]); try simp only [size_alloc, size_setCell, size_drewN, size_drew, false_or] at hz hc hf hn hl)
      refine bodyPost_ret (v := vUT (addS a0 a1 a2 b0 b1 b2)) (by simp [results, Try.results15, go_sem, vUT, addS, *]) rfl ⟨rfl, ?_⟩
      repeat (first | exact Ext.refl _ | refine Ext.alloc ?_ _ | refine Ext.setCell ?_ (by dsimp only; omega) _ | refine Ext.drewN ?_ _ | refine Ext.drew ?_ | refine Ext.trans ?_ (by assumption))
    · obtain ⟨⟨p1, p2⟩, ⟨p3, p4⟩, ⟨p5, p6⟩⟩ := vU_bd ha
      obtain ⟨⟨q1, q2⟩, ⟨q3, q4⟩, ⟨q5, q6⟩⟩ := vU_bd hv
      cases hs : vU (a0 + b0) (a1 + b1) (a2 + b2)
      all_goals
        go_enter Try.func15, Try.ntmps15
        go_wp2_with (go_at_call 11; refine (valid_any _ _ _ _).mono ?_; rintro e w' ⟨rfl, hb⟩; obtain ⟨hz, hc, hf, hn, hl⟩ := ext_acc hb (by assumption) (by simp [go_sem]); try simp only [size_alloc, size_setCell, size_drewN, size_drew, false_or] at hz hc hf hn hl)
        refine bodyPost_ret (v := vUT (addS a0 a1 a2 b0 b1 b2)) (by simp [results, Try.results15, go_sem, vUT, addS, *]) rfl ⟨rfl, ?_⟩
        repeat (first | exact Ext.refl _ | refine Ext.alloc ?_ _ | refine Ext.setCell ?_ (by dsimp only; omega) _ | refine Ext.drewN ?_ _ | refine Ext.drew ?_ | refine Ext.trans ?_ (by assumption))
set_option maxHeartbeats 1000000 in
theorem combine_neg (a0 a1 a2 b0 b1 b2 : Int) (w : World) :
    Calls Try.prog 15 #[.agg #[.int .i64 a0, .int .i64 a1, .int .i64 a2], .agg #[.int .i64 b0, .int .i64 b1, .int .i64 b2], .int .i64 (-1)] w fun e w' => e = .returned (vUT (subS a0 a1 a2 b0 b1 b2)) ∧ Ext w w' := by
  have hz0 : ∀ b, False → b < w.heap.size := fun _ h => h.elim
  cases ha : vU a0 a1 a2
  · go_enter Try.func15, Try.ntmps15
    go_wp2_with (go_at_call 11; refine (valid_any _ _ _ _).mono ?_; rintro e w' ⟨rfl, hb⟩; obtain ⟨hz, hc, hf, hn, hl⟩ := ext_acc hb (by assumption) (by simp [go_sem]); try simp only [size_alloc, size_setCell, size_drewN, size_drew, false_or] at hz hc hf hn hl)
    refine bodyPost_ret (v := vUT (subS a0 a1 a2 b0 b1 b2)) (by simp [results, Try.results15, go_sem, vUT, subS, addS, vU_neg, *]) rfl ⟨rfl, ?_⟩
    repeat (first | exact Ext.refl _ | refine Ext.alloc ?_ _ | refine Ext.setCell ?_ (by dsimp only; omega) _ | refine Ext.drewN ?_ _ | refine Ext.drew ?_ | refine Ext.trans ?_ (by assumption))
  · cases hv : vU b0 b1 b2
    · go_enter Try.func15, Try.ntmps15
      go_wp2_with (go_at_call 11; refine (valid_any _ _ _ _).mono ?_; rintro e w' ⟨rfl, hb⟩; obtain ⟨hz, hc, hf, hn, hl⟩ := ext_acc hb (by assumption) (by simp [go_sem]); try simp only [size_alloc, size_setCell, size_drewN, size_drew, false_or] at hz hc hf hn hl)
      refine bodyPost_ret (v := vUT (subS a0 a1 a2 b0 b1 b2)) (by simp [results, Try.results15, go_sem, vUT, subS, addS, vU_neg, *]) rfl ⟨rfl, ?_⟩
      repeat (first | exact Ext.refl _ | refine Ext.alloc ?_ _ | refine Ext.setCell ?_ (by dsimp only; omega) _ | refine Ext.drewN ?_ _ | refine Ext.drew ?_ | refine Ext.trans ?_ (by assumption))
    · obtain ⟨⟨p1, p2⟩, ⟨p3, p4⟩, ⟨p5, p6⟩⟩ := vU_bd ha
      obtain ⟨⟨q1, q2⟩, ⟨q3, q4⟩, ⟨q5, q6⟩⟩ := vU_bd hv
      cases hs : vU (a0 + -b0) (a1 + -b1) (a2 + -b2)
      all_goals
        go_enter Try.func15, Try.ntmps15
        go_wp2_with (go_at_call 11; refine (valid_any _ _ _ _).mono ?_; rintro e w' ⟨rfl, hb⟩; obtain ⟨hz, hc, hf, hn, hl⟩ := ext_acc hb (by assumption) (by simp [go_sem]); try simp only [size_alloc, size_setCell, size_drewN, size_drew, false_or] at hz hc hf hn hl)
        refine bodyPost_ret (v := vUT (subS a0 a1 a2 b0 b1 b2)) (by simp [results, Try.results15, go_sem, vUT, subS, addS, vU_neg, *]) rfl ⟨rfl, ?_⟩
        repeat (first | exact Ext.refl _ | refine Ext.alloc ?_ _ | refine Ext.setCell ?_ (by dsimp only; omega) _ | refine Ext.drewN ?_ _ | refine Ext.drew ?_ | refine Ext.trans ?_ (by assumption))

set_option maxHeartbeats 400000 in
theorem unitMul_any (a0 a1 a2 b0 b1 b2 : Int) (w : World) :
    Calls Try.prog 7 #[.agg #[.int .i64 a0, .int .i64 a1, .int .i64 a2], .agg #[.int .i64 b0, .int .i64 b1, .int .i64 b2]] w fun e w' => e = .returned (vUT (addS a0 a1 a2 b0 b1 b2)) ∧ Ext w w' := by
  have hz0 : ∀ b, False → b < w.heap.size := fun _ h => h.elim
  go_enter Try.func7, Try.ntmps7
  go_wp2_with (go_at_call 15; refine (combine_pos _ _ _ _ _ _ _).mono ?_; rintro e w' ⟨rfl, hb⟩; obtain ⟨hz, hc, hf, hn, hl⟩ := ext_acc hb (by assumption) (by simp [go_sem]); try simp only [size_alloc, size_setCell, size_drewN, size_drew, false_or] at hz hc hf hn hl)
  refine bodyPost_ret (v := vUT (addS a0 a1 a2 b0 b1 b2)) (by simp [results, Try.results7, go_sem, *]) rfl ⟨rfl, ?_⟩
  repeat (first | exact Ext.refl _ | refine Ext.alloc ?_ _ | refine Ext.setCell ?_ (by dsimp only; omega) _ | refine Ext.drewN ?_ _ | refine Ext.drew ?_ | refine Ext.trans ?_ (by assumption))
set_option maxHeartbeats 400000 in
theorem unitDiv_any (a0 a1 a2 b0 b1 b2 : Int) (w : World) :
    Calls Try.prog 9 #[.agg #[.int .i64 a0, .int .i64 a1, .int .i64 a2], .agg #[.int .i64 b0, .int .i64 b1, .int .i64 b2]] w fun e w' => e = .returned (vUT (subS a0 a1 a2 b0 b1 b2)) ∧ Ext w w' := by
  have hz0 : ∀ b, False → b < w.heap.size := fun _ h => h.elim
  go_enter Try.func9, Try.ntmps9
  go_wp2_with (go_at_call 15; refine (combine_neg _ _ _ _ _ _ _).mono ?_; rintro e w' ⟨rfl, hb⟩; obtain ⟨hz, hc, hf, hn, hl⟩ := ext_acc hb (by assumption) (by simp [go_sem]); try simp only [size_alloc, size_setCell, size_drewN, size_drew, false_or] at hz hc hf hn hl)
  refine bodyPost_ret (v := vUT (subS a0 a1 a2 b0 b1 b2)) (by simp [results, Try.results9, go_sem, *]) rfl ⟨rfl, ?_⟩
  repeat (first | exact Ext.refl _ | refine Ext.alloc ?_ _ | refine Ext.setCell ?_ (by dsimp only; omega) _ | refine Ext.drewN ?_ _ | refine Ext.drew ?_ | refine Ext.trans ?_ (by assumption))
set_option maxHeartbeats 1000000 in
theorem refMul_any (a0 a1 a2 b0 b1 b2 : Int) (w : World) :
    Calls Try.prog 8 #[.agg #[.int .i64 a0, .int .i64 a1, .int .i64 a2], .agg #[.int .i64 b0, .int .i64 b1, .int .i64 b2]] w fun e w' => e = .returned (vUT (addS a0 a1 a2 b0 b1 b2)) ∧ Ext w w' := by
  have hz0 : ∀ b, False → b < w.heap.size := fun _ h => h.elim
  cases ha : vU a0 a1 a2
  · go_enter Try.func8, Try.ntmps8
    go_wp2_with (go_at_call 12; refine (isUnit_any _ _ _ _).mono ?_; rintro e w' ⟨rfl, hb⟩; obtain ⟨hz, hc, hf, hn, hl⟩ := ext_acc hb (by assumption) (by simp [go_sem]); try simp only [size_alloc, size_setCell, size_drewN, size_drew, false_or] at hz hc hf hn hl)
    refine bodyPost_ret (v := vUT (addS a0 a1 a2 b0 b1 b2)) (by simp [results, Try.results8, go_sem, vUT, addS, *]) rfl ⟨rfl, ?_⟩
    repeat (first | exact Ext.refl _ | refine Ext.alloc ?_ _ | refine Ext.setCell ?_ (by dsimp only; omega) _ | refine Ext.drewN ?_ _ | refine Ext.drew ?_ | refine Ext.trans ?_ (by assumption))
  · cases hv : vU b0 b1 b2
    · go_enter Try.func8, Try.ntmps8
      go_wp2_with (go_at_call 12; refine (isUnit_any _ _ _ _).mono ?_; rintro e w' ⟨rfl, hb⟩; obtain ⟨hz, hc, hf, hn, hl⟩ := ext_acc hb (by assumption) (by simp [go_sem]); try simp only [size_alloc, size_setCell, size_drewN, size_drew, false_or] at hz hc hf hn hl)
      refine bodyPost_ret (v := vUT (addS a0 a1 a2 b0 b1 b2)) (by simp [results, Try.results8, go_sem, vUT, addS, *]) rfl ⟨rfl, ?_⟩
      repeat (first | exact Ext.refl _ | refine Ext.alloc ?_ _ | refine Ext.setCell ?_ (by dsimp only; omega) _ | refine Ext.drewN ?_ _ | refine Ext.drew ?_ | refine Ext.trans ?_ (by assumption))
    · obtain ⟨⟨p1, p2⟩, ⟨p3, p4⟩, ⟨p5, p6⟩⟩ := vU_bd ha
      obtain ⟨⟨q1, q2⟩, ⟨q3, q4⟩, ⟨q5, q6⟩⟩ := vU_bd hv
      cases hs : vU (a0 + b0) (a1 + b1) (a2 + b2)
      all_goals
        go_enter Try.func8, Try.ntmps8
        go_wp2_with (go_at_call 12; refine (isUnit_any _ _ _ _).mono ?_; rintro e w' ⟨rfl, hb⟩; obtain ⟨hz, hc, hf, hn, hl⟩ := ext_acc hb (by assumption) (by simp [go_sem]); try simp only [size_alloc, size_setCell, size_drewN, size_drew, false_or] at hz hc hf hn hl)
        refine bodyPost_ret (v := vUT (addS a0 a1 a2 b0 b1 b2)) (by simp [results, Try.results8, go_sem, vUT, addS, *]) rfl ⟨rfl, ?_⟩
        repeat (first | exact Ext.refl _ | refine Ext.alloc ?_ _ | refine Ext.setCell ?_ (by dsimp only; omega) _ | refine Ext.drewN ?_ _ | refine Ext.drew ?_ | refine Ext.trans ?_ (by assumption))
set_option maxHeartbeats 1000000 in
theorem refDiv_any (a0 a1 a2 b0 b1 b2 : Int) (w : World) :
    Calls Try.prog 10 #[.agg #[.int .i64 a0, .int .i64 a1, .int .i64 a2], .agg #[.int .i64 b0, .int .i64 b1, .int .i64 b2]] w fun e w' => e = .returned (vUT (subS a0 a1 a2 b0 b1 b2)) ∧ Ext w w' := by
  have hz0 : ∀ b, False → b < w.heap.size := fun _ h => h.elim
  cases ha : vU a0 a1 a2
  · go_enter Try.func10, Try.ntmps10
    go_wp2_with (go_at_call 12; refine (isUnit_any _ _ _ _).mono ?_; rintro e w' ⟨rfl, hb⟩; obtain ⟨hz, hc, hf, hn, hl⟩ := ext_acc hb (by assumption) (by simp [go_sem]); try simp only [size_alloc, size_setCell, size_drewN, size_drew, false_or] at hz hc hf hn hl)
    refine bodyPost_ret (v := vUT (subS a0 a1 a2 b0 b1 b2)) (by simp [results, Try.results10, go_sem, vUT, subS, addS, vU_neg, *]) rfl ⟨rfl, ?_⟩
    repeat (first | exact Ext.refl _ | refine Ext.alloc ?_ _ | refine Ext.setCell ?_ (by dsimp only; omega) _ | refine Ext.drewN ?_ _ | refine Ext.drew ?_ | refine Ext.trans ?_ (by assumption))
  · cases hv : vU b0 b1 b2
    · go_enter Try.func10, Try.ntmps10
      go_wp2_with (go_at_call 12; refine (isUnit_any _ _ _ _).mono ?_; rintro e w' ⟨rfl, hb⟩; obtain ⟨hz, hc, hf, hn, hl⟩ := ext_acc hb (by assumption) (by simp [go_sem]); try simp only [size_alloc, size_setCell, size_drewN, size_drew, false_or] at hz hc hf hn hl)
      refine bodyPost_ret (v := vUT (subS a0 a1 a2 b0 b1 b2)) (by simp [results, Try.results10, go_sem, vUT, subS, addS, vU_neg, *]) rfl ⟨rfl, ?_⟩
      repeat (first | exact Ext.refl _ | refine Ext.alloc ?_ _ | refine Ext.setCell ?_ (by dsimp only; omega) _ | refine Ext.drewN ?_ _ | refine Ext.drew ?_ | refine Ext.trans ?_ (by assumption))
    · obtain ⟨⟨q1, q2⟩, ⟨q3, q4⟩, ⟨q5, q6⟩⟩ := vU_bd hv
      go_enter Try.func10, Try.ntmps10
      go_wp2_with (first | (go_at_call 12; refine (isUnit_any _ _ _ _).mono ?_; rintro e w' ⟨rfl, hb⟩; obtain ⟨hz, hc, hf, hn, hl⟩ := ext_acc hb (by assumption) (by simp [go_sem]); try simp only [size_alloc, size_setCell, size_drewN, size_drew, false_or] at hz hc hf hn hl) | (go_at_call 8; refine (refMul_any _ _ _ _ _ _ _).mono ?_; rintro e w' ⟨rfl, hb⟩; obtain ⟨hz, hc, hf, hn, hl⟩ := ext_acc hb (by assumption) (by simp [go_sem]); try simp only [size_alloc, size_setCell, size_drewN, size_drew, false_or] at hz hc hf hn hl))
      refine bodyPost_ret (v := vUT (subS a0 a1 a2 b0 b1 b2)) (by simp [results, Try.results10, go_sem, subS, *]) rfl ⟨rfl, ?_⟩
      repeat (first | exact Ext.refl _ | refine Ext.alloc ?_ _ | refine Ext.setCell ?_ (by dsimp only; omega) _ | refine Ext.drewN ?_ _ | refine Ext.drew ?_ | refine Ext.trans ?_ (by assumption))
end Go.Proofs.Ytgjabadcgndkhaa
