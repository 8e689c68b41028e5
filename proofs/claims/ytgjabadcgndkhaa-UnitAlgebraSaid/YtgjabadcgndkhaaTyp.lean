/- Package unit: the types of two small expressions. -/
import Derived.Test.YtgjabadcgndkhaaSyn
import Derived.Test.YtgjabadcgndkhaaReg
set_option linter.unusedSimpArgs false
set_option linter.unusedVariables false
namespace Go.Proofs.Ytgjabadcgndkhaa
open Go.RowKit

abbrev noScope : Value := .agg #[.slice none 0 0, .slice none 0 0, .slice none 0 0]
abbrev tyT (b : Bool) (m h u e : Int) : Value := .tuple #[.agg #[.bool b, .int .i64 m, .int .i64 h, .int .i64 u], .int .i64 e]

abbrev ty (b : Bool) (m h u : Int) : Value := .agg #[.bool b, .int .i64 m, .int .i64 h, .int .i64 u]

set_option maxHeartbeats 1000000 in
theorem measured_small (h u h' u' e : Int) (w : World) (hc : (h = 1 ∧ u = 0 ∧ h' = 1 ∧ u' = 0 ∧ e = 0) ∨ (h = 0 ∧ u = 1 ∧ h' = 1 ∧ u' = 0 ∧ e = 10)) :
    Calls Try.prog 22 #[ty false 0 h u, .agg #[.int .i64 0, .int .i64 h', .int .i64 u']] w fun x w' => x = .returned (.int .i64 e) ∧ Ext w w' := by
  have hz0 : ∀ b, False → b < w.heap.size := fun _ h => h.elim
  rcases hc with ⟨rfl, rfl, rfl, rfl, rfl⟩ | ⟨rfl, rfl, rfl, rfl, rfl⟩
  all_goals
    go_enter Try.func22, Try.ntmps22
    go_wp2
    go_ret
    refine ⟨rfl, ?_⟩
    repeat (first | exact Ext.refl _ | refine Ext.alloc ?_ _ | refine Ext.setCell ?_ (by dsimp only; omega) _ | refine Ext.drewN ?_ _ | refine Ext.drew ?_ | refine Ext.trans ?_ (by assumption))

set_option maxHeartbeats 1000000 in
theorem sameUnit_small (h u h' u' e : Int) (w : World) (hc : (h' = 1 ∧ u' = 0 ∧ h = 1 ∧ u = 0 ∧ e = 0) ∨ (h' = 0 ∧ u' = 1 ∧ h = 1 ∧ u = 0 ∧ e = 10)) :
    Calls Try.prog 24 #[ty false 0 h u, ty false 0 h' u'] w fun x w' => x = .returned (.int .i64 e) ∧ Ext w w' := by
  have hz0 : ∀ b, False → b < w.heap.size := fun _ h => h.elim
  go_enter Try.func24, Try.ntmps24
  go_wp2_with (go_at_call 22; refine (measured_small _ _ _ _ e _ hc).mono ?_; rintro e w' ⟨rfl, hb⟩; obtain ⟨hz, hc, hf, hn, hl⟩ := ext_acc hb (by assumption) (by simp [go_sem]); try simp only [size_alloc, size_setCell, size_drewN, size_drew, false_or] at hz hc hf hn hl)
  go_ret
  refine ⟨rfl, ?_⟩
  repeat (first | exact Ext.refl _ | refine Ext.alloc ?_ _ | refine Ext.setCell ?_ (by dsimp only; omega) _ | refine Ext.drewN ?_ _ | refine Ext.drew ?_ | refine Ext.trans ?_ (by assumption))

set_option maxHeartbeats 1000000 in
theorem result_any (b : Bool) (m q u e : Int) (w : World) :
    Calls Try.prog 23 #[ty b m q u, .int .i64 e] w fun x w' => x = .returned (if e = 0 then tyT b m q u 0 else tyT false 0 0 0 e) ∧ Ext w w' := by
  have hz0 : ∀ b, False → b < w.heap.size := fun _ h => h.elim
  by_cases he : e = 0
  · subst he
    rw [if_pos rfl]
    go_enter Try.func23, Try.ntmps23
    go_wp2
    refine bodyPost_ret (v := tyT b m q u 0) (by simp [results, Try.results23, go_sem, *]) rfl ⟨rfl, ?_⟩
    repeat (first | exact Ext.refl _ | refine Ext.alloc ?_ _ | refine Ext.setCell ?_ (by dsimp only; omega) _ | refine Ext.drewN ?_ _ | refine Ext.drew ?_ | refine Ext.trans ?_ (by assumption))
  · rw [if_neg he]
    have he1 : (e == 0) = false := by simp [he]
    have he2 : (e != 0) = true := by simp [he]
    go_enter Try.func23, Try.ntmps23
    go_wp2
    refine bodyPost_ret (v := tyT false 0 0 0 e) (by simp [results, Try.results23, go_sem, *]) rfl ⟨rfl, ?_⟩
    repeat (first | exact Ext.refl _ | refine Ext.alloc ?_ _ | refine Ext.setCell ?_ (by dsimp only; omega) _ | refine Ext.drewN ?_ _ | refine Ext.drew ?_ | refine Ext.trans ?_ (by assumption))

set_option maxRecDepth 100000 in
set_option maxHeartbeats 1000000 in
theorem typeOf_num (h u : Int) (w : World) :
    Calls Try.prog 19 #[noScope, exNum 1 1 0 h u] w fun e w' => e = .returned (tyT false 0 h u 0) ∧ Ext w w' := by
  have hz0 : ∀ b, False → b < w.heap.size := fun _ h => h.elim
  go_enter Try.func19, Try.ntmps19
  go_wp2_with fail
  refine wp_loop_rounds 1 ?_
  rw [rounds_succ]
  go_wp2_with fail
  refine bodyPost_ret (v := tyT false 0 h u 0) (by simp [results, Try.results19, go_sem, *]) rfl ⟨rfl, ?_⟩
  repeat (first | exact Ext.refl _ | refine Ext.alloc ?_ _ | refine Ext.setCell ?_ (by dsimp only; omega) _ | refine Ext.drewN ?_ _ | refine Ext.drew ?_ | refine Ext.trans ?_ (by assumption))

set_option maxRecDepth 100000 in
set_option maxHeartbeats 4000000 in
theorem typeOf_add (kb : Nat) (w : World) (hkb : kb < w.heap.size) (hk : ∀ o, w.cell? ⟨kb, o, none⟩ = (two 1 0 0 1)[o]?) :
    Calls Try.prog 19 #[noScope, exTwo 5 kb] w fun e w' => e = .returned (tyT false 0 0 0 10) ∧ Ext w w' := by
  have hz0 : ∀ b, b = kb → b < w.heap.size := fun _ h => h ▸ hkb
  have hku := under_all kb w.heap.size hkb
  go_enter Try.func19, Try.ntmps19
  go_wp2_with fail
  refine wp_loop_rounds 3 ?_
  rw [rounds_succ]
  go_wp2_with (go_at_call 19; refine (typeOf_num _ _ _).mono ?_; rintro e w' ⟨rfl, hb⟩; obtain ⟨hz, hc, hf, hn, hl⟩ := ext_acc hb (by assumption) (by simp [go_sem]); try simp only [size_alloc, size_setCell, size_drewN, size_drew, false_or] at hz hc hf hn hl)
  rw [rounds_succ]
  go_wp2_with (go_at_call 19; refine (typeOf_num _ _ _).mono ?_; rintro e w' ⟨rfl, hb⟩; obtain ⟨hz, hc, hf, hn, hl⟩ := ext_acc hb (by assumption) (by simp [go_sem]); try simp only [size_alloc, size_setCell, size_drewN, size_drew, false_or] at hz hc hf hn hl)
  rw [rounds_succ]
  go_wp2_with fail
  ((refine wp_region_gwt 10 (by kernel_rfl) (by kernel_rfl) ?_); (simp only [List.take_succ_cons, List.take_zero, List.drop_succ_cons, List.drop_zero, List.cons_append, List.nil_append]); (repeat (first | go_big_quiet_step ((first | (go_at_call 24; exact gw_call (sameUnit_small _ _ _ _ 10 _ (by simp))) | (go_at_call 23; exact gw_call (result_any _ _ _ _ _ _)))) | quiet_step ((first | (go_at_call 24; exact gw_call (sameUnit_small _ _ _ _ 10 _ (by simp))) | (go_at_call 23; exact gw_call (result_any _ _ _ _ _ _)))))); (refine wpQuiet_nil ?_); (rintro _ ⟨g, rfl⟩); (have hb := gw_ext _ g); (generalize gw _ g = w' at hb ⊢); obtain ⟨hz, hc, hf, hn, hl⟩ := ext_acc hb (by assumption) (by simp [go_sem]); try simp only [size_alloc, size_setCell, size_drewN, size_drew, false_or] at hz hc hf hn hl)
  go_wp2_with fail
  refine bodyPost_ret (v := tyT false 0 0 0 10) (by simp [results, Try.results19, go_sem, *]) rfl ⟨rfl, ?_⟩
  repeat (first | exact Ext.refl _ | refine Ext.alloc ?_ _ | refine Ext.setCell ?_ (by dsimp only; omega) _ | refine Ext.drewN ?_ _ | refine Ext.drew ?_ | refine Ext.trans ?_ (by assumption))
set_option maxRecDepth 100000 in
set_option maxHeartbeats 4000000 in
theorem typeOf_less (kb : Nat) (w : World) (hkb : kb < w.heap.size) (hk : ∀ o, w.cell? ⟨kb, o, none⟩ = (two 1 0 1 0)[o]?) :
    Calls Try.prog 19 #[noScope, exTwo 9 kb] w fun e w' => e = .returned (tyT true 0 0 0 0) ∧ Ext w w' := by
  have hz0 : ∀ b, b = kb → b < w.heap.size := fun _ h => h ▸ hkb
  have hku := under_all kb w.heap.size hkb
  go_enter Try.func19, Try.ntmps19
  go_wp2_with fail
  refine wp_loop_rounds 3 ?_
  rw [rounds_succ]
  go_wp2_with (go_at_call 19; refine (typeOf_num _ _ _).mono ?_; rintro e w' ⟨rfl, hb⟩; obtain ⟨hz, hc, hf, hn, hl⟩ := ext_acc hb (by assumption) (by simp [go_sem]); try simp only [size_alloc, size_setCell, size_drewN, size_drew, false_or] at hz hc hf hn hl)
  rw [rounds_succ]
  go_wp2_with (go_at_call 19; refine (typeOf_num _ _ _).mono ?_; rintro e w' ⟨rfl, hb⟩; obtain ⟨hz, hc, hf, hn, hl⟩ := ext_acc hb (by assumption) (by simp [go_sem]); try simp only [size_alloc, size_setCell, size_drewN, size_drew, false_or] at hz hc hf hn hl)
  rw [rounds_succ]
  go_wp2_with fail
  ((refine wp_region_gwt 9 (by kernel_rfl) (by kernel_rfl) ?_); (simp only [List.take_succ_cons, List.take_zero, List.drop_succ_cons, List.drop_zero, List.cons_append, List.nil_append]); (repeat (first | go_big_quiet_step ((first | (go_at_call 24; exact gw_call (sameUnit_small _ _ _ _ 0 _ (by simp))) | (go_at_call 23; exact gw_call (result_any _ _ _ _ _ _)))) | quiet_step ((first | (go_at_call 24; exact gw_call (sameUnit_small _ _ _ _ 0 _ (by simp))) | (go_at_call 23; exact gw_call (result_any _ _ _ _ _ _)))))); (refine wpQuiet_nil ?_); (rintro _ ⟨g, rfl⟩); (have hb := gw_ext _ g); (generalize gw _ g = w' at hb ⊢); obtain ⟨hz, hc, hf, hn, hl⟩ := ext_acc hb (by assumption) (by simp [go_sem]); try simp only [size_alloc, size_setCell, size_drewN, size_drew, false_or] at hz hc hf hn hl)
  go_wp2_with fail
  refine bodyPost_ret (v := tyT true 0 0 0 0) (by simp [results, Try.results19, go_sem, *]) rfl ⟨rfl, ?_⟩
  repeat (first | exact Ext.refl _ | refine Ext.alloc ?_ _ | refine Ext.setCell ?_ (by dsimp only; omega) _ | refine Ext.drewN ?_ _ | refine Ext.drew ?_ | refine Ext.trans ?_ (by assumption))

set_option maxHeartbeats 2000000 in
theorem type_add (kb : Nat) (w : World) (hkb : kb < w.heap.size) (hk : ∀ o, w.cell? ⟨kb, o, none⟩ = (two 1 0 0 1)[o]?) :
    Calls Try.prog 17 #[exTwo 5 kb, .slice none 0 0, .slice none 0 0, .slice none 0 0] w fun e w' => e = .returned (tyT false 0 0 0 10) ∧ Ext w w' := by
  have hz0 : ∀ b, b = kb → b < w.heap.size := fun _ h => h ▸ hkb
  have hku := under_all kb w.heap.size hkb
  go_enter Try.func17, Try.ntmps17
  go_wp2_with (first | (go_at_call 18; refine (ValidExpr_two _ 1 0 0 1 _ _ (.inl rfl) (by simp) (by simp) (by simp; omega) (by intro o; simp [go_sem, *])).mono ?_; rintro e w' ⟨rfl, hb⟩; obtain ⟨hz, hc, hf, hn, hl⟩ := ext_acc hb (by assumption) (by simp [go_sem]); try simp only [size_alloc, size_setCell, size_drewN, size_drew, false_or] at hz hc hf hn hl) | (go_at_call 19; refine (typeOf_add _ _ (by simp [*]) (by intro o; simp [go_sem, *])).mono ?_; rintro e w' ⟨rfl, hb⟩; obtain ⟨hz, hc, hf, hn, hl⟩ := ext_acc hb (by assumption) (by simp [go_sem]); try simp only [size_alloc, size_setCell, size_drewN, size_drew, false_or] at hz hc hf hn hl))
  refine bodyPost_ret (v := tyT false 0 0 0 10) (by simp [results, Try.results17, go_sem, *]) rfl ⟨rfl, ?_⟩
  repeat (first | exact Ext.refl _ | refine Ext.alloc ?_ _ | refine Ext.setCell ?_ (by dsimp only; omega) _ | refine Ext.drewN ?_ _ | refine Ext.drew ?_ | refine Ext.trans ?_ (by assumption))

set_option maxHeartbeats 2000000 in
theorem type_less (kb : Nat) (w : World) (hkb : kb < w.heap.size) (hk : ∀ o, w.cell? ⟨kb, o, none⟩ = (two 1 0 1 0)[o]?) :
    Calls Try.prog 17 #[exTwo 9 kb, .slice none 0 0, .slice none 0 0, .slice none 0 0] w fun e w' => e = .returned (tyT true 0 0 0 0) ∧ Ext w w' := by
  have hz0 : ∀ b, b = kb → b < w.heap.size := fun _ h => h ▸ hkb
  have hku := under_all kb w.heap.size hkb
  go_enter Try.func17, Try.ntmps17
  go_wp2_with (first | (go_at_call 18; refine (ValidExpr_two _ 1 0 1 0 _ _ (.inr rfl) (by simp) (by simp) (by simp; omega) (by intro o; simp [go_sem, *])).mono ?_; rintro e w' ⟨rfl, hb⟩; obtain ⟨hz, hc, hf, hn, hl⟩ := ext_acc hb (by assumption) (by simp [go_sem]); try simp only [size_alloc, size_setCell, size_drewN, size_drew, false_or] at hz hc hf hn hl) | (go_at_call 19; refine (typeOf_less _ _ (by simp [*]) (by intro o; simp [go_sem, *])).mono ?_; rintro e w' ⟨rfl, hb⟩; obtain ⟨hz, hc, hf, hn, hl⟩ := ext_acc hb (by assumption) (by simp [go_sem]); try simp only [size_alloc, size_setCell, size_drewN, size_drew, false_or] at hz hc hf hn hl))
  refine bodyPost_ret (v := tyT true 0 0 0 0) (by simp [results, Try.results17, go_sem, *]) rfl ⟨rfl, ?_⟩
  repeat (first | exact Ext.refl _ | refine Ext.alloc ?_ _ | refine Ext.setCell ?_ (by dsimp only; omega) _ | refine Ext.drewN ?_ _ | refine Ext.drew ?_ | refine Ext.trans ?_ (by assumption))
end Go.Proofs.Ytgjabadcgndkhaa
