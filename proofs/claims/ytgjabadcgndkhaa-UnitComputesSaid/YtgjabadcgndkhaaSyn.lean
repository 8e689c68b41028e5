/- What is valid in the text of an agreement. -/
import Derived.Test.YtgjabadcgndkhaaUnit
import Derived.Test.YtgjabadcgndkhaaRatio
set_option linter.unusedSimpArgs false
set_option linter.unusedVariables false
namespace Go.Proofs.Ytgjabadcgndkhaa
open Go.RowKit

set_option maxHeartbeats 400000 in
theorem isExponent_any (a : Int) (w : World) :
    Calls Try.prog 37 #[.int .i64 a] w fun e w' => e = .returned (.bool (inR a)) ∧ w = w' := by
  go_enter Try.func37, Try.ntmps37
  go_wp2
  all_goals go_ret
  all_goals exact ⟨ret_bool (by rw [Bool.eq_iff_iff]; simp [inR]; omega), rfl⟩

set_option maxHeartbeats 400000 in
theorem validUnit_any (m h d : Int) (w : World) :
    Calls Try.prog 32 #[.agg #[.int .i64 m, .int .i64 h, .int .i64 d]] w fun e w' => e = .returned (.bool (vU m h d)) ∧ Ext w w' := by
  go_enter Try.func32, Try.ntmps32
  go_wp2_with (go_at_call 37; refine (isExponent_any _ _).mono ?_; rintro e w' ⟨rfl, rfl⟩)
  all_goals
    go_ret
    exact ⟨ret_bool (by simp [vU, *]), (Ext.refl _).alloc _⟩

theorem okR_bd {n d : Int} (h : okR n d = true) : 1 ≤ d ∧ d ≤ 1000000 ∧ -1000000000000 ≤ n ∧ n ≤ 1000000000000 := by
  simp only [okR, decide_eq_true_eq] at h; omega

/-- a number that a text can have -/
def numB (n d : Int) : Bool := okR n d && decide (0 ≤ n) && (1000000 % d == 0)

set_option maxHeartbeats 400000 in
theorem isNumber_any (n d : Int) (w : World) (h1 : -9223372036854775808 ≤ n) (h2 : n ≤ 9223372036854775807) :
    Calls Try.prog 31 #[.agg #[.int .i64 n, .int .i64 d]] w fun e w' => e = .returned (.bool (numB n d)) ∧ Ext w w' := by
  have hz0 : ∀ b, False → b < w.heap.size := fun _ h => h.elim
  cases hv : okR n d
  · go_enter Try.func31, Try.ntmps31
    go_wp2_with (go_at_call 36; refine (ratioValid_any _ _ _ h1 h2).mono ?_; rintro e w' ⟨rfl, hb⟩; obtain ⟨hz, hc, hf, hn, hl⟩ := ext_acc hb (by assumption) (by simp [go_sem]); try simp only [size_alloc, size_setCell, size_drewN, size_drew, false_or] at hz hc hf hn hl)
    all_goals
      go_ret
      refine ⟨ret_bool (by simp [numB, *] <;> omega), ?_⟩
      repeat (first | exact Ext.refl _ | refine Ext.alloc ?_ _ | refine Ext.setCell ?_ (by dsimp only; omega) _ | refine Ext.drewN ?_ _ | refine Ext.drew ?_ | refine Ext.trans ?_ (by assumption))
  · obtain ⟨r1, r2, r3, r4⟩ := okR_bd hv
    go_enter Try.func31, Try.ntmps31
    go_wp2_with (go_at_call 36; refine (ratioValid_any _ _ _ h1 h2).mono ?_; rintro e w' ⟨rfl, hb⟩; obtain ⟨hz, hc, hf, hn, hl⟩ := ext_acc hb (by assumption) (by simp [go_sem]); try simp only [size_alloc, size_setCell, size_drewN, size_drew, false_or] at hz hc hf hn hl)
    all_goals
      go_ret
      refine ⟨ret_bool (by simp [numB, *] <;> omega), ?_⟩
      repeat (first | exact Ext.refl _ | refine Ext.alloc ?_ _ | refine Ext.setCell ?_ (by dsimp only; omega) _ | refine Ext.drewN ?_ _ | refine Ext.drew ?_ | refine Ext.trans ?_ (by assumption))

/-- a number as an expression -/
abbrev exNum (n d m h u : Int) : Value := .agg #[.int .i64 1, .int .i64 n, .int .i64 d, .int .i64 m, .int .i64 h, .int .i64 u, .string ⟨#[]⟩, .int .i64 0, .int .i64 0, .slice none 0 0]

theorem numB_one : numB 1 1 = true := by decide

set_option maxHeartbeats 1000000 in
theorem validFields_num (h u : Int) (w : World) (hc : (h = 1 ∧ u = 0) ∨ (h = 0 ∧ u = 1)) :
    Calls Try.prog 30 #[exNum 1 1 0 h u] w fun e w' => e = .returned (.bool true) ∧ Ext w w' := by
  have hz0 : ∀ b, False → b < w.heap.size := fun _ h => h.elim
  have hN := numB_one
  have hU1 : vU 0 1 0 = true := by decide
  have hU2 : vU 0 0 1 = true := by decide
  rcases hc with ⟨rfl, rfl⟩ | ⟨rfl, rfl⟩
  all_goals
    go_enter Try.func30, Try.ntmps30
    go_wp2_with fail
    ((refine wp_region_gw (by kernel_rfl) (by kernel_rfl) ?_); (repeat (first | go_big_quiet_step (fail) | quiet_step (fail))); (refine wpQuiet_nil ?_); (rintro _ ⟨g, rfl⟩); (have hb := gw_ext _ g); (generalize gw _ g = w' at hb ⊢); obtain ⟨hz, hc, hf, hn, hl⟩ := ext_acc hb (by assumption) (by simp [go_sem]); try simp only [size_alloc, size_setCell, size_drewN, size_drew, false_or] at hz hc hf hn hl)
    go_wp2_with fail
    ((refine wp_region_gw (by kernel_rfl) (by kernel_rfl) ?_); (repeat (first | go_big_quiet_step ((first | (go_at_call 31; exact gw_call (isNumber_any _ _ _ (by omega) (by omega))) | (go_at_call 32; exact gw_call (validUnit_any _ _ _ _)))) | quiet_step ((first | (go_at_call 31; exact gw_call (isNumber_any _ _ _ (by omega) (by omega))) | (go_at_call 32; exact gw_call (validUnit_any _ _ _ _)))))); (refine wpQuiet_nil ?_); (rintro _ ⟨g, rfl⟩); (have hb := gw_ext _ g); (generalize gw _ g = w' at hb ⊢); obtain ⟨hz, hc, hf, hn, hl⟩ := ext_acc hb (by assumption) (by simp [go_sem]); try simp only [size_alloc, size_setCell, size_drewN, size_drew, false_or] at hz hc hf hn hl)
    go_wp2_with fail
    go_ret
    refine ⟨rfl, ?_⟩
    repeat (first | exact Ext.refl _ | refine Ext.alloc ?_ _ | refine Ext.setCell ?_ (by dsimp only; omega) _ | refine Ext.drewN ?_ _ | refine Ext.drew ?_ | refine Ext.trans ?_ (by assumption))

set_option maxHeartbeats 400000 in
theorem kids_any (op : Int) (w : World) (k : Int) (hk : (op = 1 ∧ k = 0) ∨ (op = 5 ∧ k = 2) ∨ (op = 9 ∧ k = 2)) :
    Calls Try.prog 29 #[.int .i64 op] w fun e w' => e = .returned (.int .i64 k) ∧ w = w' := by
  rcases hk with ⟨rfl, rfl⟩ | ⟨rfl, rfl⟩ | ⟨rfl, rfl⟩
  all_goals
    go_enter Try.func29, Try.ntmps29
    go_wp2
    go_ret
    exact ⟨rfl, rfl⟩

set_option maxHeartbeats 1000000 in
theorem validExpr_num (h u l : Int) (w : World) (hc : (h = 1 ∧ u = 0) ∨ (h = 0 ∧ u = 1)) (hl : 1 ≤ l) :
    Calls Try.prog 20 #[exNum 1 1 0 h u, .int .i64 l] w fun e w' => e = .returned (.bool true) ∧ Ext w w' := by
  have hz0 : ∀ b, False → b < w.heap.size := fun _ h => h.elim
  go_enter Try.func20, Try.ntmps20
  go_wp2_with fail
  have hd : decide (l < 1) = false := by simp; omega
  ((refine wp_region_gw (by kernel_rfl) (by kernel_rfl) ?_); (repeat (first | go_big_quiet_step ((first | (go_at_call 29; exact gw_same (kids_any _ _ 0 (by simp))) | (go_at_call 30; exact gw_call (validFields_num _ _ _ hc)))) | quiet_step ((first | (go_at_call 29; exact gw_same (kids_any _ _ 0 (by simp))) | (go_at_call 30; exact gw_call (validFields_num _ _ _ hc)))))); (refine wpQuiet_nil ?_); (rintro _ ⟨g, rfl⟩); (have hb := gw_ext _ g); (generalize gw _ g = w' at hb ⊢); obtain ⟨hz, hc, hf, hn, hl⟩ := ext_acc hb (by assumption) (by simp [go_sem]); try simp only [size_alloc, size_setCell, size_drewN, size_drew, false_or] at hz hc hf hn hl)
  go_wp2_with fail
  refine wp_loop_rounds 1 ?_
  rw [rounds_succ]
  go_wp2_with fail
  go_ret
  refine ⟨rfl, ?_⟩
  repeat (first | exact Ext.refl _ | refine Ext.alloc ?_ _ | refine Ext.setCell ?_ (by dsimp only; omega) _ | refine Ext.drewN ?_ _ | refine Ext.drew ?_ | refine Ext.trans ?_ (by assumption))

/-- two numbers behind each other -/
abbrev two (h u h' u' : Int) : Array Value := #[.int .i64 1, .int .i64 1, .int .i64 1, .int .i64 0, .int .i64 h, .int .i64 u, .string ⟨#[]⟩, .int .i64 0, .int .i64 0, .slice none 0 0,
  .int .i64 1, .int .i64 1, .int .i64 1, .int .i64 0, .int .i64 h', .int .i64 u', .string ⟨#[]⟩, .int .i64 0, .int .i64 0, .slice none 0 0]
abbrev exTwo (op : Int) (kb : Nat) : Value := .agg #[.int .i64 op, .int .i64 0, .int .i64 0, .int .i64 0, .int .i64 0, .int .i64 0, .string ⟨#[]⟩, .int .i64 0, .int .i64 0, .slice (some ⟨kb, 0, none⟩) 2 2]

set_option maxHeartbeats 1000000 in
theorem validFields_two (op : Int) (kb : Nat) (w : World) (ho : op = 5 ∨ op = 9) :
    Calls Try.prog 30 #[exTwo op kb] w fun e w' => e = .returned (.bool true) ∧ Ext w w' := by
  have hz0 : ∀ b, False → b < w.heap.size := fun _ h => h.elim
  rcases ho with rfl | rfl
  all_goals
    go_enter Try.func30, Try.ntmps30
    go_wp2_with fail
    ((refine wp_region_gw (by kernel_rfl) (by kernel_rfl) ?_); (repeat (first | go_big_quiet_step (fail) | quiet_step (fail))); (refine wpQuiet_nil ?_); (rintro _ ⟨g, rfl⟩); (have hb := gw_ext _ g); (generalize gw _ g = w' at hb ⊢); obtain ⟨hz, hc, hf, hn, hl⟩ := ext_acc hb (by assumption) (by simp [go_sem]); try simp only [size_alloc, size_setCell, size_drewN, size_drew, false_or] at hz hc hf hn hl)
    go_wp2_with fail
    go_ret
    refine ⟨rfl, ?_⟩
    repeat (first | exact Ext.refl _ | refine Ext.alloc ?_ _ | refine Ext.setCell ?_ (by dsimp only; omega) _ | refine Ext.drewN ?_ _ | refine Ext.drew ?_ | refine Ext.trans ?_ (by assumption))

set_option maxHeartbeats 2000000 in
theorem validExpr_two (op h u h' u' : Int) (kb : Nat) (w : World) (ho : op = 5 ∨ op = 9) (hc1 : (h = 1 ∧ u = 0) ∨ (h = 0 ∧ u = 1)) (hc2 : (h' = 1 ∧ u' = 0) ∨ (h' = 0 ∧ u' = 1))
    (hkb : kb < w.heap.size) (hk : ∀ o, w.cell? ⟨kb, o, none⟩ = (two h u h' u')[o]?) :
    Calls Try.prog 20 #[exTwo op kb, .int .i64 32] w fun e w' => e = .returned (.bool true) ∧ Ext w w' := by
  have hz0 : ∀ b, b = kb → b < w.heap.size := fun _ h => h ▸ hkb
  have hkn : kb ≠ w.heap.size := by omega
  go_enter Try.func20, Try.ntmps20
  go_wp2_with fail
  ((refine wp_region_gw (by kernel_rfl) (by kernel_rfl) ?_); (repeat (first | go_big_quiet_step ((first | (go_at_call 29; exact gw_same (kids_any _ _ 2 (by omega))) | (go_at_call 30; exact gw_call (validFields_two _ _ _ ho)))) | quiet_step ((first | (go_at_call 29; exact gw_same (kids_any _ _ 2 (by omega))) | (go_at_call 30; exact gw_call (validFields_two _ _ _ ho)))))); (refine wpQuiet_nil ?_); (rintro _ ⟨g, rfl⟩); (have hb := gw_ext _ g); (generalize gw _ g = w' at hb ⊢); obtain ⟨hz, hc, hf, hn, hl⟩ := ext_acc hb (by assumption) (by simp [go_sem]); try simp only [size_alloc, size_setCell, size_drewN, size_drew, false_or] at hz hc hf hn hl)
  go_wp2_with fail
  refine wp_loop_rounds 3 ?_
  rw [rounds_succ]
  go_wp2_with (go_at_call 20; refine (validExpr_num _ _ _ _ (by assumption) (by omega)).mono ?_; rintro e w' ⟨rfl, hb⟩; obtain ⟨hz, hc, hf, hn, hl⟩ := ext_acc hb (by assumption) (by simp [go_sem]); try simp only [size_alloc, size_setCell, size_drewN, size_drew, false_or] at hz hc hf hn hl)
  rw [rounds_succ]
  go_wp2_with (go_at_call 20; refine (validExpr_num _ _ _ _ (by assumption) (by omega)).mono ?_; rintro e w' ⟨rfl, hb⟩; obtain ⟨hz, hc, hf, hn, hl⟩ := ext_acc hb (by assumption) (by simp [go_sem]); try simp only [size_alloc, size_setCell, size_drewN, size_drew, false_or] at hz hc hf hn hl)
  rw [rounds_succ]
  go_wp2_with fail
  go_ret
  refine ⟨rfl, ?_⟩
  repeat (first | exact Ext.refl _ | refine Ext.alloc ?_ _ | refine Ext.setCell ?_ (by dsimp only; omega) _ | refine Ext.drewN ?_ _ | refine Ext.drew ?_ | refine Ext.trans ?_ (by assumption))

set_option maxHeartbeats 1000000 in
theorem ValidExpr_two (op h u h' u' : Int) (kb : Nat) (w : World) (ho : op = 5 ∨ op = 9) (hc1 : (h = 1 ∧ u = 0) ∨ (h = 0 ∧ u = 1)) (hc2 : (h' = 1 ∧ u' = 0) ∨ (h' = 0 ∧ u' = 1))
    (hkb : kb < w.heap.size) (hk : ∀ o, w.cell? ⟨kb, o, none⟩ = (two h u h' u')[o]?) :
    Calls Try.prog 18 #[exTwo op kb] w fun e w' => e = .returned (.bool true) ∧ Ext w w' := by
  have hz0 : ∀ b, b = kb → b < w.heap.size := fun _ h => h ▸ hkb
  have hkn : kb ≠ w.heap.size := by omega
  go_enter Try.func18, Try.ntmps18
  go_wp2_with (go_at_call 20; refine (validExpr_two _ h u h' u' _ _ ho hc1 hc2 (by simp; omega) (by intro o; simp [go_sem, *])).mono ?_; rintro e w' ⟨rfl, hb⟩; obtain ⟨hz, hc, hf, hn, hl⟩ := ext_acc hb (by assumption) (by simp [go_sem]); try simp only [size_alloc, size_setCell, size_drewN, size_drew, false_or] at hz hc hf hn hl)
  go_ret
  refine ⟨rfl, ?_⟩
  repeat (first | exact Ext.refl _ | refine Ext.alloc ?_ _ | refine Ext.setCell ?_ (by dsimp only; omega) _ | refine Ext.drewN ?_ _ | refine Ext.drew ?_ | refine Ext.trans ?_ (by assumption))
end Go.Proofs.Ytgjabadcgndkhaa
