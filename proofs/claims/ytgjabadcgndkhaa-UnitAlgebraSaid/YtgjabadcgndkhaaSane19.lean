/- The sanity check of package payrolllaw19. -/
import Derived.Test.YtgjabadcgndkhaaTyp
set_option linter.unusedSimpArgs false
set_option linter.unusedVariables false
namespace Go.Proofs.Ytgjabadcgndkhaa
open Go.RowKit

theorem mul_one : addS 0 1 0 1 (-1) 0 = ((1, 0, 0), 0) := by decide

set_option maxRecDepth 100000 in
set_option maxHeartbeats 4000000 in
theorem sane_any (w : World) : Calls Try.prog 13 #[] w fun e w' => e = .returned (.bool true) ∧ Ext w w' := by
  have hz0 : ∀ b, False → b < w.heap.size := fun _ h => h.elim
  have hm := mul_one
  have hv : vU 1 0 0 = true := by decide
  go_enter Try.func13, Try.ntmps13
  go_wp2_with (first | (go_at_call 7; refine (unitMul_any _ _ _ _ _ _ _).mono ?_; rintro e w' ⟨rfl, hb⟩; obtain ⟨hz, hc, hf, hn, hl⟩ := ext_acc hb (by assumption) (by simp [go_sem]); try simp only [size_alloc, size_setCell, size_drewN, size_drew, false_or] at hz hc hf hn hl) | (go_at_call 11; refine (valid_any _ _ _ _).mono ?_; rintro e w' ⟨rfl, hb⟩; obtain ⟨hz, hc, hf, hn, hl⟩ := ext_acc hb (by assumption) (by simp [go_sem]); try simp only [size_alloc, size_setCell, size_drewN, size_drew, false_or] at hz hc hf hn hl))
  refine (type_add _ _ (by simp [go_sem]) (by intro o; simp [go_sem])).mono ?_
  rintro e w' ⟨rfl, hb⟩
  obtain ⟨hz, hc, hf, hn, hl⟩ := ext_acc hb (by assumption) (by simp [go_sem]); try simp only [size_alloc, size_setCell, size_drewN, size_drew, false_or] at hz hc hf hn hl
  go_wp2_with fail
  refine (type_less _ _ (by simp [go_sem]) (by intro o; simp [go_sem])).mono ?_
  rintro e w' ⟨rfl, hb⟩
  obtain ⟨hz, hc, hf, hn, hl⟩ := ext_acc hb (by assumption) (by simp [go_sem]); try simp only [size_alloc, size_setCell, size_drewN, size_drew, false_or] at hz hc hf hn hl
  go_wp2_with (go_at_call 11; refine (valid_any _ _ _ _).mono ?_; rintro e w' ⟨rfl, hb⟩; obtain ⟨hz, hc, hf, hn, hl⟩ := ext_acc hb (by assumption) (by simp [go_sem]); try simp only [size_alloc, size_setCell, size_drewN, size_drew, false_or] at hz hc hf hn hl)
  go_ret
  refine ⟨rfl, ?_⟩
  repeat (first | exact Ext.refl _ | refine Ext.alloc ?_ _ | refine Ext.setCell ?_ (by dsimp only; omega) _ | refine Ext.drewN ?_ _ | refine Ext.drew ?_ | refine Ext.trans ?_ (by assumption))
end Go.Proofs.Ytgjabadcgndkhaa
