/- The walk of UnitComputes: it returns true. -/
import Derived.Test.YtgjabadcgndkhaaAlg19
import Derived.RegionTactic
import Derived.BigRegion
set_option linter.unusedSimpArgs false
set_option linter.unusedVariables false
namespace Go.Proofs.Ytgjabadcgndkhaa
open Go.RowKit

/-- the loop's state: the two units at B and B + 1, the tape behind them -/
structure CompAt (w : World) (a0 a1 a2 b0 b1 b2 : Int) (wr : World) : Prop where
  ext : Ext w wr
  a : wr.heap[w.heap.size]? = some (.cells #[.int .i64 a0, .int .i64 a1, .int .i64 a2] 24 (0, 0))
  b : wr.heap[w.heap.size + 1]? = some (.cells #[.int .i64 b0, .int .i64 b1, .int .i64 b2] 24 (0, 0))
  tape : ∃ l, TapeIs wr (w.heap.size + 1 + 1) l

set_option maxRecDepth 100000 in
set_option maxHeartbeats 4000000 in
theorem computes_walk (v : Value) (l : List Int) (a0 a1 a2 b0 b1 b2 : Int) (w : World) (h : IntsAt w v l) :
    Calls Try.prog 3 #[v, .agg #[.int .i64 a0, .int .i64 a1, .int .i64 a2], .agg #[.int .i64 b0, .int .i64 b1, .int .i64 b2]] w fun e w' => e = .returned (.bool true) ∧ Ext w w' := by
  have hsh := h.shape
  have htp := new_tape v l _ (h.keep (((Ext.refl w).alloc (.cells #[.int .i64 a0, .int .i64 a1, .int .i64 a2] 24)).alloc (.cells #[.int .i64 b0, .int .i64 b1, .int .i64 b2] 24)))
  have HT := Lib.hid htp
  clear htp
  obtain ⟨a, len, cap, rfl⟩ := hsh
  go_enter Try.func3, Try.ntmps3
  go_wp2_with (go_at_call 5; refine (new_walk _ _ ⟨_, _, _, rfl⟩).mono ?_; rintro e w' ⟨rfl, rfl⟩)
  clear h
  go_loopw [8] (fun i wr => ∃ k : Nat, k ≤ 6 ∧ i = .int .i64 k ∧ CompAt w a0 a1 a2 b0 b1 b2 wr) (fun i _ => 6 - (intOf i).toNat)
  case atStart =>
    refine ⟨0, by omega, rfl, ?_, ?_, ?_, l, ?_⟩
    · repeat (first | exact Ext.refl _ | refine Ext.alloc ?_ _ | refine Ext.setCell ?_ (by dsimp only; omega) _ | refine Ext.drewN ?_ _ | refine Ext.drew ?_ | refine Ext.trans ?_ (by assumption))
    · rw [Below.heap_alloc _ _ _ (by simp), Below.heap_alloc _ _ _ (by simp)]; exact heap_alloc_new _ _
    · rw [Below.heap_alloc _ _ _ (by simp), ← size_alloc w (.cells #[.int .i64 a0, .int .i64 a1, .int .i64 a2] 24)]; exact heap_alloc_new _ _
    · have := HT.out; simpa only [size_alloc] using this
  case round =>
    obtain ⟨k, hk, rfl, hA, hBa, hBb, l', hti⟩ := hrel
    have hAl := hA.le
    have hla := lt_of_heap hBa
    have hlb := lt_of_heap hBb
    have hca : ∀ o, wr.cell? ⟨w.heap.size, o, none⟩ = (#[.int .i64 a0, .int .i64 a1, .int .i64 a2] : Array Value)[o]? := fun o => by simp [World.cell?, hBa]
    have hcb : ∀ o, wr.cell? ⟨w.heap.size + 1, o, none⟩ = (#[.int .i64 b0, .int .i64 b1, .int .i64 b2] : Array Value)[o]? := fun o => by simp [World.cell?, hBb]
    have hz1 : ∀ b, (b = w.heap.size ∨ b = w.heap.size + 1) → b < wr.heap.size := fun _ h => by omega
    clear HT
    by_cases h6 : k < 6
    · have g1 := nx_bd 9 l' (by omega)
      have g2 := nx_bd 7 (nt 9 l') (by omega)
      have g3 := nx_bd 7 (nt 7 (nt 9 l')) (by omega)
      have g4 := nx_bd 7 (nt 7 (nt 7 (nt 9 l'))) (by omega)
      have g5 := nx_bd 9 (nt 7 (nt 7 (nt 7 (nt 9 l')))) (by omega)
      have g6 := nx_bd 3 (nt 9 (nt 7 (nt 7 (nt 7 (nt 9 l'))))) (by omega)
      by_cases h5 : k = 5
      · have e5 : ((k : Int) == 5) = true := by simp; omega
        have hK := Kept.refl (w.heap.size + 1 + 1) wr
        go_wp2_with (go_at_call 6; refine (next_any _ _ _ _ (by omega) hti).mono ?_; rintro e w' ⟨rfl, htp⟩; replace hK := hK.trans htp.kept; replace hti := htp.is; clear htp; (try clear hz hc hf hn hl); obtain ⟨hz, hc, hf, hn, hl⟩ := kept_acc hK hz1 (Nat.le_refl _))
        clear g1 g2 g3 g4 g5 g6
        generalize nx 9 l' - 4 = x0
        generalize nx 7 (nt 9 l') - 3 = x1
        generalize nx 7 (nt 7 (nt 9 l')) - 3 = x2
        generalize nx 7 (nt 7 (nt 7 (nt 9 l'))) - 3 = y0
        generalize nx 9 (nt 7 (nt 7 (nt 7 (nt 9 l')))) - 4 = y1
        generalize nx 3 (nt 9 (nt 7 (nt 7 (nt 7 (nt 9 l'))))) - 1 = y2
        generalize nt 3 (nt 9 (nt 7 (nt 7 (nt 7 (nt 9 l'))))) = l2 at hti
        generalize nx 9 l' = z0
        generalize nx 7 (nt 9 l') = z1
        generalize nx 7 (nt 7 (nt 9 l')) = z2
        generalize nx 7 (nt 7 (nt 7 (nt 9 l'))) = z3
        generalize nx 9 (nt 7 (nt 7 (nt 7 (nt 9 l')))) = z4
        generalize nx 3 (nt 9 (nt 7 (nt 7 (nt 7 (nt 9 l'))))) = z5
        go_region
        go_wp2_with (first | (go_at_call 7; refine (unitMul_any _ _ _ _ _ _ _).mono ?_; rintro e w' ⟨rfl, hb⟩; obtain ⟨hz, hc, hf, hn, hl⟩ := ext_acc hb (by assumption) (by simp [go_sem]); try simp only [size_alloc, size_setCell, size_drewN, size_drew, false_or] at hz hc hf hn hl) | (go_at_call 9; refine (unitDiv_any _ _ _ _ _ _ _).mono ?_; rintro e w' ⟨rfl, hb⟩; obtain ⟨hz, hc, hf, hn, hl⟩ := ext_acc hb (by assumption) (by simp [go_sem]); try simp only [size_alloc, size_setCell, size_drewN, size_drew, false_or] at hz hc hf hn hl) | (go_at_call 8; refine (refMul_any _ _ _ _ _ _ _).mono ?_; rintro e w' ⟨rfl, hb⟩; obtain ⟨hz, hc, hf, hn, hl⟩ := ext_acc hb (by assumption) (by simp [go_sem]); try simp only [size_alloc, size_setCell, size_drewN, size_drew, false_or] at hz hc hf hn hl) | (go_at_call 10; refine (refDiv_any _ _ _ _ _ _ _).mono ?_; rintro e w' ⟨rfl, hb⟩; obtain ⟨hz, hc, hf, hn, hl⟩ := ext_acc hb (by assumption) (by simp [go_sem]); try simp only [size_alloc, size_setCell, size_drewN, size_drew, false_or] at hz hc hf hn hl))
        ((refine wp_region_gw (by kernel_rfl) (by kernel_rfl) ?_); (repeat (first | go_big_quiet_step ((first | (go_at_call 11; exact gw_call (valid_any _ _ _ _)) | (go_at_call 12; exact gw_call (isUnit_any _ _ _ _)))) | quiet_step ((first | (go_at_call 11; exact gw_call (valid_any _ _ _ _)) | (go_at_call 12; exact gw_call (isUnit_any _ _ _ _)))))); (refine wpQuiet_nil ?_); (rintro _ ⟨g, rfl⟩); (have hb := gw_ext _ g); (generalize gw _ g = w' at hb ⊢); obtain ⟨hz, hc, hf, hn, hl⟩ := ext_acc hb (by assumption) (by simp [go_sem]); try simp only [size_alloc, size_setCell, size_drewN, size_drew, false_or] at hz hc hf hn hl)
        go_wp2_with fail
        have hEx := Lib.hid hK
        clear hK
        have hKt : Kept (w.heap.size + 1 + 1) wr w' := by
          refine Kept.ext hEx.out ?_
          repeat (first | exact Ext.refl _ | refine Ext.alloc ?_ _ | refine Ext.setCell ?_ (by dsimp only; omega) _ | refine Ext.drewN ?_ _ | refine Ext.drew ?_ | refine Ext.trans ?_ (by assumption))
        have hTt : ∃ l, TapeIs w' (w.heap.size + 1 + 1) l := by
          refine ⟨_, TapeIs.keep hti ?_⟩
          repeat (first | exact Ext.refl _ | refine Ext.alloc ?_ _ | refine Ext.setCell ?_ (by dsimp only; omega) _ | refine Ext.drewN ?_ _ | refine Ext.drew ?_ | refine Ext.trans ?_ (by assumption))
        go_roundw
        case rel => exact ⟨k + 1, by omega, by go_num, hA.kept hKt (by omega), kept_heap hKt (by omega) hBa, kept_heap hKt (by omega) hBb, hTt⟩
        case measure => simp [intOf]; omega
      · have e5 : ((k : Int) == 5) = false := by simp; omega
        have hK := Kept.refl (w.heap.size + 1 + 1) wr
        go_wp2_with (go_at_call 6; refine (next_any _ _ _ _ (by omega) hti).mono ?_; rintro e w' ⟨rfl, htp⟩; replace hK := hK.trans htp.kept; replace hti := htp.is; clear htp; (try clear hz hc hf hn hl); obtain ⟨hz, hc, hf, hn, hl⟩ := kept_acc hK hz1 (Nat.le_refl _))
        clear g1 g2 g3 g4 g5 g6
        generalize nx 9 l' - 4 = x0
        generalize nx 7 (nt 9 l') - 3 = x1
        generalize nx 7 (nt 7 (nt 9 l')) - 3 = x2
        generalize nx 7 (nt 7 (nt 7 (nt 9 l'))) - 3 = y0
        generalize nx 9 (nt 7 (nt 7 (nt 7 (nt 9 l')))) - 4 = y1
        generalize nx 3 (nt 9 (nt 7 (nt 7 (nt 7 (nt 9 l'))))) - 1 = y2
        generalize nt 3 (nt 9 (nt 7 (nt 7 (nt 7 (nt 9 l'))))) = l2 at hti
        generalize nx 9 l' = z0
        generalize nx 7 (nt 9 l') = z1
        generalize nx 7 (nt 7 (nt 9 l')) = z2
        generalize nx 7 (nt 7 (nt 7 (nt 9 l'))) = z3
        generalize nx 9 (nt 7 (nt 7 (nt 7 (nt 9 l')))) = z4
        generalize nx 3 (nt 9 (nt 7 (nt 7 (nt 7 (nt 9 l'))))) = z5
        go_wp2_with (first | (go_at_call 7; refine (unitMul_any _ _ _ _ _ _ _).mono ?_; rintro e w' ⟨rfl, hb⟩; obtain ⟨hz, hc, hf, hn, hl⟩ := ext_acc hb (by assumption) (by simp [go_sem]); try simp only [size_alloc, size_setCell, size_drewN, size_drew, false_or] at hz hc hf hn hl) | (go_at_call 9; refine (unitDiv_any _ _ _ _ _ _ _).mono ?_; rintro e w' ⟨rfl, hb⟩; obtain ⟨hz, hc, hf, hn, hl⟩ := ext_acc hb (by assumption) (by simp [go_sem]); try simp only [size_alloc, size_setCell, size_drewN, size_drew, false_or] at hz hc hf hn hl) | (go_at_call 8; refine (refMul_any _ _ _ _ _ _ _).mono ?_; rintro e w' ⟨rfl, hb⟩; obtain ⟨hz, hc, hf, hn, hl⟩ := ext_acc hb (by assumption) (by simp [go_sem]); try simp only [size_alloc, size_setCell, size_drewN, size_drew, false_or] at hz hc hf hn hl) | (go_at_call 10; refine (refDiv_any _ _ _ _ _ _ _).mono ?_; rintro e w' ⟨rfl, hb⟩; obtain ⟨hz, hc, hf, hn, hl⟩ := ext_acc hb (by assumption) (by simp [go_sem]); try simp only [size_alloc, size_setCell, size_drewN, size_drew, false_or] at hz hc hf hn hl))
        ((refine wp_region_gw (by kernel_rfl) (by kernel_rfl) ?_); (repeat (first | go_big_quiet_step ((first | (go_at_call 11; exact gw_call (valid_any _ _ _ _)) | (go_at_call 12; exact gw_call (isUnit_any _ _ _ _)))) | quiet_step ((first | (go_at_call 11; exact gw_call (valid_any _ _ _ _)) | (go_at_call 12; exact gw_call (isUnit_any _ _ _ _)))))); (refine wpQuiet_nil ?_); (rintro _ ⟨g, rfl⟩); (have hb := gw_ext _ g); (generalize gw _ g = w' at hb ⊢); obtain ⟨hz, hc, hf, hn, hl⟩ := ext_acc hb (by assumption) (by simp [go_sem]); try simp only [size_alloc, size_setCell, size_drewN, size_drew, false_or] at hz hc hf hn hl)
        go_wp2_with fail
        have hEx := Lib.hid hK
        clear hK
        have hKt : Kept (w.heap.size + 1 + 1) wr w' := by
          refine Kept.ext hEx.out ?_
          repeat (first | exact Ext.refl _ | refine Ext.alloc ?_ _ | refine Ext.setCell ?_ (by dsimp only; omega) _ | refine Ext.drewN ?_ _ | refine Ext.drew ?_ | refine Ext.trans ?_ (by assumption))
        have hTt : ∃ l, TapeIs w' (w.heap.size + 1 + 1) l := by
          refine ⟨_, TapeIs.keep hti ?_⟩
          repeat (first | exact Ext.refl _ | refine Ext.alloc ?_ _ | refine Ext.setCell ?_ (by dsimp only; omega) _ | refine Ext.drewN ?_ _ | refine Ext.drew ?_ | refine Ext.trans ?_ (by assumption))
        go_roundw
        case rel => exact ⟨k + 1, by omega, by go_num, hA.kept hKt (by omega), kept_heap hKt (by omega) hBa, kept_heap hKt (by omega) hBb, hTt⟩
        case measure => simp [intOf]; omega
    · obtain rfl : k = 6 := by omega
      go_wp2_with (go_at_call 13; refine (sane_any _).mono ?_; rintro e w' ⟨rfl, hb⟩; obtain ⟨hz, hc, hf, hn, hl⟩ := ext_acc hb (by assumption) (by simp [go_sem]); try simp only [size_alloc, size_setCell, size_drewN, size_drew, false_or] at hz hc hf hn hl)
      go_ret
      refine ⟨rfl, hA.trans ?_⟩
      repeat (first | exact Ext.refl _ | refine Ext.alloc ?_ _ | refine Ext.setCell ?_ (by dsimp only; omega) _ | refine Ext.drewN ?_ _ | refine Ext.drew ?_ | refine Ext.trans ?_ (by assumption))
end Go.Proofs.Ytgjabadcgndkhaa
