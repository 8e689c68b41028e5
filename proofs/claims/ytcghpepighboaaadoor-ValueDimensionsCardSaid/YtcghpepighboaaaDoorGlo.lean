/- The package variable calendar.lengths: from the row's premise to the walks' GOk; the door's own heap meets the premise. -/
import Derived.Test.YtcghpepighboaaaDoorPvReadOk
import Derived.Test.YtcghpepighboaaaDoorRows
import Derived.ProofKit
import Derived.LaidMore
import Derived.FnData
import Derived.OpenShut
set_option linter.unusedSimpArgs false
set_option linter.unusedVariables false
namespace Go.Proofs.YtcghpepighboaaaDoor
open Go.ChangeShapes Go.WideShapes Go.ChangeAt Go.RowKit
theorem glo_g : Tryd.prog.globalNamed "payroll/calendar.lengths" = some 0 := by kernel_rfl
theorem glo_t : (Tryd.prog.globals[0]?).map (·.type) = some 138 := by kernel_rfl
theorem glo_cs : Tryd.prog.cellsOf 3 = 1 := by kernel_rfl
abbrev gloL : List Int := [31, 28, 31, 30, 31, 30, 31, 31, 30, 31, 30, 31]
theorem door_met (os : Os) (args : Array Value) : laidMetH Tryd.prog [("payroll/calendar.lengths", Rows.laid_payroll_calendar_lengths)] ((World.doorLaid Tryd.prog 400 os).forCall (fun _ _ => 0) ⟨#[], args, []⟩).memory :=
  laidMetH_of_parts3 (fuel := 8) (laidMet_of_run' 8 (by kernel_rfl) (by kernel_rfl)) (by kernel_rfl) (by kernel_rfl)
theorem glo_of {W : World} (h : laidMetH Tryd.prog [("payroll/calendar.lengths", Rows.laid_payroll_calendar_lengths)] W) : GOk (fun b => b < W.heap.size) W := by
  rw [MakeChecks.laidMetH_plain _ _ _ (by kernel_rfl)] at h
  obtain ⟨ps, ⟨g0, t0, cs0, f0, p0, q0, hg0, ht0, hv0, hd0, _, _⟩, _, _⟩ := h
  obtain rfl := Option.some.inj (glo_g.symm.trans hg0)
  obtain rfl := Option.some.inj (glo_t.symm.trans ht0)
  obtain ⟨xs, m1, rfl, hx1, hlen, hn3, hel⟩ := DataW.trod_array Tryd.underlying138 hd0
  simp only [Prod.mk.injEq, Rows.laid_payroll_calendar_lengths, DataW.agg.injEq] at hx1
  have hel' : ∀ (i : Nat) (n : Int), i < 12 → gloL[i]? = some n → cs0.toList[i]? = some (.int .i64 n) := by
    intro i n hi hn
    have h1 := hel i hi
    rw [glo_cs, Nat.mul_one] at h1
    obtain ⟨x, hx⟩ : ∃ x, xs[i]? = some x := ⟨xs[i]'(by omega), List.getElem?_eq_getElem _⟩
    rw [hx] at h1
    obtain ⟨k, e1, e2, _⟩ := DataW.trod_int Tryd.underlying3 h1
    have e3 : (xs.map (·.1))[i]? = some x.1 := by rw [List.getElem?_map, hx]; rfl
    rw [← hx1.1] at e3
    have e4 : (gloL.map fun n => (DataW.lit (.int .i64 n) : DataW Unit))[i]? = some x.1 := e3
    rw [List.getElem?_map, hn, e2] at e4
    have hk : n = k := by simpa using e4
    subst hk
    have e5 := congrArg (·[0]?) e1
    simpa [List.getElem?_take, List.getElem?_drop] using e5
  obtain ⟨T, fz, hh⟩ : ∃ T fz, W.heap[0]? = some (Obj.cells cs0 T fz) := by
    simp only [World.var?, glo_g, Option.bind_some] at hv0
    split at hv0
    · rename_i cs T fz hh
      obtain rfl := Option.some.inj hv0
      exact ⟨_, _, hh⟩
    · cases hv0
  have hl12 : cs0.toList.length = 12 := hlen.trans (by kernel_rfl)
  have hcs : cs0 = (gloL.map fun n => Value.int .i64 n).toArray := by
    apply Array.ext'
    apply List.ext_getElem?
    intro i
    by_cases hi : i < 12
    · obtain ⟨n, hn⟩ : ∃ n, gloL[i]? = some n := ⟨gloL[i]'hi, List.getElem?_eq_getElem _⟩
      rw [hel' i n hi hn]
      show _ = (gloL.map fun n => Value.int .i64 n)[i]?
      rw [List.getElem?_map, hn]; rfl
    · rw [List.getElem?_eq_none (by omega)]
      show _ = (gloL.map fun n => Value.int .i64 n)[i]?
      rw [List.getElem?_eq_none (by simp [gloL]; omega)]
  intro x hx
  have hx' : x = (0, gloL) := by simpa [globs, gloL] using hx
  subst hx'
  refine ⟨?_, T, fz, by rw [hh, hcs]⟩
  exact (Array.getElem?_eq_some_iff.1 hh).1
end Go.Proofs.YtcghpepighboaaaDoor
