/-
  No cell of these rows narrows 'for every input' (looked for: loops, veiled, ifaces, maps, wideKeys, modest, calm, conditions, laid).
  DERIVED. THE GIVEN ROWS OF THIS SEAT. 8 by the template 'for every input the law returns true; each argument reads behind the call as it read before'; 0 by the template 'total and deterministic' (their statements: YtppjjhnaahgmhaaTotals.lean).
  GIVEN WITH THE SEED: the statements are not yours to turn. If you find one false, say at which input.
  Laid BY PROGRAM, IN A SANDBOX (cutbox-rows.mjs): the forced cells as the released guide's own fill.sh prints them over the translation 01bcc58140c3b73c… (all of the seat's roots in one cut). By AI agents, Wed Nov 11 2026. No macro, syntax, notation, axiom, sorry.
-/
import Derived.Test.YtppjjhnaahgmhaaChecked
import GoSem.Claim
import GoSem.ClaimJoined
import GoSem.ClaimMapViews
import Derived.JoinedTies
import Derived.KernelRfl
namespace Go.Proofs.Ytppjjhnaahgmhaa
/- THE CELL 'sum', in the pinned program and in every row, IS THE sha256 OF THE DUMP (.gsa) THAT YtppjjhnaahgmhaaProg.lean LOADS. Nothing in Lean hashes anything: it is a label: what it is worth is what the hold of that sum in a sandbox is worth. -/
noncomputable def Try.pinned : Pinned := { name := "ytppjjhnaahgmhaa", sum := "01bcc58140c3b73c90665aeceae7a35fb4918a7b102338f404838e2b834d713a", checked := Try.checked }
namespace Rows
def none {H : Type} : Left H := { results := [], args := [] }

/-- 'payrolllaw2.RoundingLimits': WHATEVER THE INPUT: true; the input reads as it did. -/
def roundingLimitsSpec : ChangeSpec := { name := "roundingLimits", fn := fun _ => fun
  | [d1, d2, d3] => { results := [.lit (.bool true)], args := [d1, d2, d3] }
  | _ => none }
def roundingLimitsRow : OpenClaim := { program := "ytppjjhnaahgmhaa", sum := "01bcc58140c3b73c90665aeceae7a35fb4918a7b102338f404838e2b834d713a", func := "payroll/payrolllaw2.RoundingLimits", spec := "roundingLimits", unfollowed := true, recurses := true, apart := false }
def RoundingLimitsSaid : Prop := roundingLimitsRow.holds Try.pinned (OpenSpec.ofChange roundingLimitsSpec)

/-- ITS FALSE NEIGHBOUR: 'it returns false'. Refute it at one input. -/
def roundingLimitsWrong : ChangeSpec := { name := "roundingLimits", fn := fun _ => fun
  | [d1, d2, d3] => { results := [.lit (.bool false)], args := [d1, d2, d3] }
  | _ => none }
def RoundingLimitsWrongFalsely : Prop := roundingLimitsRow.holds Try.pinned (OpenSpec.ofChange roundingLimitsWrong)

/-- 'payrolllaw2.RoundingParts': WHATEVER THE INPUT: true; the input reads as it did. -/
def roundingPartsSpec : ChangeSpec := { name := "roundingParts", fn := fun _ => fun
  | [d1, d2, d3, d4, d5, d6] => { results := [.lit (.bool true)], args := [d1, d2, d3, d4, d5, d6] }
  | _ => none }
def roundingPartsRow : OpenClaim := { program := "ytppjjhnaahgmhaa", sum := "01bcc58140c3b73c90665aeceae7a35fb4918a7b102338f404838e2b834d713a", func := "payroll/payrolllaw2.RoundingParts", spec := "roundingParts", unfollowed := true, recurses := true, apart := false }
def RoundingPartsSaid : Prop := roundingPartsRow.holds Try.pinned (OpenSpec.ofChange roundingPartsSpec)

/-- ITS FALSE NEIGHBOUR: 'it returns false'. Refute it at one input. -/
def roundingPartsWrong : ChangeSpec := { name := "roundingParts", fn := fun _ => fun
  | [d1, d2, d3, d4, d5, d6] => { results := [.lit (.bool false)], args := [d1, d2, d3, d4, d5, d6] }
  | _ => none }
def RoundingPartsWrongFalsely : Prop := roundingPartsRow.holds Try.pinned (OpenSpec.ofChange roundingPartsWrong)

/-- 'payrolllaw2.RoundingAllocates': WHATEVER THE INPUT: true; the input reads as it did. -/
def roundingAllocatesSpec : ChangeSpec := { name := "roundingAllocates", fn := fun _ => fun
  | [d1, d2, d3] => { results := [.lit (.bool true)], args := [d1, d2, d3] }
  | _ => none }
def roundingAllocatesRow : OpenClaim := { program := "ytppjjhnaahgmhaa", sum := "01bcc58140c3b73c90665aeceae7a35fb4918a7b102338f404838e2b834d713a", func := "payroll/payrolllaw2.RoundingAllocates", spec := "roundingAllocates", unfollowed := true, recurses := true, apart := false }
def RoundingAllocatesSaid : Prop := roundingAllocatesRow.holds Try.pinned (OpenSpec.ofChange roundingAllocatesSpec)

/-- ITS FALSE NEIGHBOUR: 'it returns false'. Refute it at one input. -/
def roundingAllocatesWrong : ChangeSpec := { name := "roundingAllocates", fn := fun _ => fun
  | [d1, d2, d3] => { results := [.lit (.bool false)], args := [d1, d2, d3] }
  | _ => none }
def RoundingAllocatesWrongFalsely : Prop := roundingAllocatesRow.holds Try.pinned (OpenSpec.ofChange roundingAllocatesWrong)

/-- 'payrolllaw2.RoundingConserves': WHATEVER THE INPUT: true; the input reads as it did. -/
def roundingConservesSpec : ChangeSpec := { name := "roundingConserves", fn := fun _ => fun
  | [d1, d2] => { results := [.lit (.bool true)], args := [d1, d2] }
  | _ => none }
def roundingConservesRow : OpenClaim := { program := "ytppjjhnaahgmhaa", sum := "01bcc58140c3b73c90665aeceae7a35fb4918a7b102338f404838e2b834d713a", func := "payroll/payrolllaw2.RoundingConserves", spec := "roundingConserves", unfollowed := true, recurses := true, apart := false }
def RoundingConservesSaid : Prop := roundingConservesRow.holds Try.pinned (OpenSpec.ofChange roundingConservesSpec)

/-- ITS FALSE NEIGHBOUR: 'it returns false'. Refute it at one input. -/
def roundingConservesWrong : ChangeSpec := { name := "roundingConserves", fn := fun _ => fun
  | [d1, d2] => { results := [.lit (.bool false)], args := [d1, d2] }
  | _ => none }
def RoundingConservesWrongFalsely : Prop := roundingConservesRow.holds Try.pinned (OpenSpec.ofChange roundingConservesWrong)

/-- 'payrolllaw2.RoundingMonotone': WHATEVER THE INPUT: true; the input reads as it did. -/
def roundingMonotoneSpec : ChangeSpec := { name := "roundingMonotone", fn := fun _ => fun
  | [d1, d2] => { results := [.lit (.bool true)], args := [d1, d2] }
  | _ => none }
def roundingMonotoneRow : OpenClaim := { program := "ytppjjhnaahgmhaa", sum := "01bcc58140c3b73c90665aeceae7a35fb4918a7b102338f404838e2b834d713a", func := "payroll/payrolllaw2.RoundingMonotone", spec := "roundingMonotone", unfollowed := true, recurses := true, apart := false }
def RoundingMonotoneSaid : Prop := roundingMonotoneRow.holds Try.pinned (OpenSpec.ofChange roundingMonotoneSpec)

/-- ITS FALSE NEIGHBOUR: 'it returns false'. Refute it at one input. -/
def roundingMonotoneWrong : ChangeSpec := { name := "roundingMonotone", fn := fun _ => fun
  | [d1, d2] => { results := [.lit (.bool false)], args := [d1, d2] }
  | _ => none }
def RoundingMonotoneWrongFalsely : Prop := roundingMonotoneRow.holds Try.pinned (OpenSpec.ofChange roundingMonotoneWrong)

/-- 'payrolllaw2.RoundingRounds': WHATEVER THE INPUT: true; the input reads as it did. -/
def roundingRoundsSpec : ChangeSpec := { name := "roundingRounds", fn := fun _ => fun
  | [d1, d2, d3, d4, d5] => { results := [.lit (.bool true)], args := [d1, d2, d3, d4, d5] }
  | _ => none }
def roundingRoundsRow : OpenClaim := { program := "ytppjjhnaahgmhaa", sum := "01bcc58140c3b73c90665aeceae7a35fb4918a7b102338f404838e2b834d713a", func := "payroll/payrolllaw2.RoundingRounds", spec := "roundingRounds", unfollowed := true, recurses := true, apart := false }
def RoundingRoundsSaid : Prop := roundingRoundsRow.holds Try.pinned (OpenSpec.ofChange roundingRoundsSpec)

/-- ITS FALSE NEIGHBOUR: 'it returns false'. Refute it at one input. -/
def roundingRoundsWrong : ChangeSpec := { name := "roundingRounds", fn := fun _ => fun
  | [d1, d2, d3, d4, d5] => { results := [.lit (.bool false)], args := [d1, d2, d3, d4, d5] }
  | _ => none }
def RoundingRoundsWrongFalsely : Prop := roundingRoundsRow.holds Try.pinned (OpenSpec.ofChange roundingRoundsWrong)

/-- 'payrolllaw2.RoundingCarries': WHATEVER THE INPUT: true; the input reads as it did. -/
def roundingCarriesSpec : ChangeSpec := { name := "roundingCarries", fn := fun _ => fun
  | [d1, d2] => { results := [.lit (.bool true)], args := [d1, d2] }
  | _ => none }
def roundingCarriesRow : OpenClaim := { program := "ytppjjhnaahgmhaa", sum := "01bcc58140c3b73c90665aeceae7a35fb4918a7b102338f404838e2b834d713a", func := "payroll/payrolllaw2.RoundingCarries", spec := "roundingCarries", unfollowed := true, recurses := true, apart := false }
def RoundingCarriesSaid : Prop := roundingCarriesRow.holds Try.pinned (OpenSpec.ofChange roundingCarriesSpec)

/-- ITS FALSE NEIGHBOUR: 'it returns false'. Refute it at one input. -/
def roundingCarriesWrong : ChangeSpec := { name := "roundingCarries", fn := fun _ => fun
  | [d1, d2] => { results := [.lit (.bool false)], args := [d1, d2] }
  | _ => none }
def RoundingCarriesWrongFalsely : Prop := roundingCarriesRow.holds Try.pinned (OpenSpec.ofChange roundingCarriesWrong)

/-- 'payrolllaw2.RoundingNearest': WHATEVER THE INPUT: true; the input reads as it did. -/
def roundingNearestSpec : ChangeSpec := { name := "roundingNearest", fn := fun _ => fun
  | [d1, d2] => { results := [.lit (.bool true)], args := [d1, d2] }
  | _ => none }
def roundingNearestRow : OpenClaim := { program := "ytppjjhnaahgmhaa", sum := "01bcc58140c3b73c90665aeceae7a35fb4918a7b102338f404838e2b834d713a", func := "payroll/payrolllaw2.RoundingNearest", spec := "roundingNearest", unfollowed := true, recurses := true, apart := false }
def RoundingNearestSaid : Prop := roundingNearestRow.holds Try.pinned (OpenSpec.ofChange roundingNearestSpec)

/-- ITS FALSE NEIGHBOUR: 'it returns false'. Refute it at one input. -/
def roundingNearestWrong : ChangeSpec := { name := "roundingNearest", fn := fun _ => fun
  | [d1, d2] => { results := [.lit (.bool false)], args := [d1, d2] }
  | _ => none }
def RoundingNearestWrongFalsely : Prop := roundingNearestRow.holds Try.pinned (OpenSpec.ofChange roundingNearestWrong)

/- THE SECOND FORM. 'bulk': how many values and letters a reading holds, each counted each time it is reached (what is shared counts as often as it is met; a slice's spare places count too). A statement '..UptoSaid' is the law's where the arguments, and the package variables that the reading takes, are together of bulk at most 1048576: NARROWER than '..Said'. Prove '..Said' where nothing that the law and all that it calls make is longer than what came in: it says more and counts as full. Else prove '..UptoSaid'. A law counts once. -/
mutual
def uptoBulk {H : Type} : DataW H → Nat
  | .lit (.string bytes) => bytes.length + 1
  | .lit _ => 1
  | .nil => 1
  | .ptr d => uptoBulk d + 1
  | .slice elems spare => uptoBulkAll elems + uptoBulkAll spare + 1
  | .agg parts => uptoBulkAll parts + 1
  | .iface _ d => uptoBulk d + 1
  | .map entries => uptoBulkEntries entries + 1
  | .held _ => 1
def uptoBulkAll {H : Type} : List (DataW H) → Nat
  | [] => 0
  | d :: r => uptoBulk d + uptoBulkAll r
def uptoBulkEntries {H : Type} : List (Lit × DataW H) → Nat
  | [] => 0
  | x :: r => uptoBulkEntry x + uptoBulkEntries r
def uptoBulkEntry {H : Type} : Lit × DataW H → Nat
  | (.string bytes, d) => bytes.length + uptoBulk d + 1
  | (_, d) => uptoBulk d + 1
 end
def uptoSmall : (H : Type) → List (DataW H) → Bool := fun _ ds => decide (uptoBulkAll ds ≤ 1048576)
def OpenSpec.upto (s : _root_.Go.ChangeSpec) : _root_.Go.OpenSpec := { _root_.Go.OpenSpec.ofChange s with cond := some uptoSmall }

/-- 'payrolllaw2.RoundingLimits', WHERE WHAT IT READS IS OF BULK AT MOST 1048576: true; the input reads as it did. -/
def roundingLimitsUptoRow : OpenClaim := { program := "ytppjjhnaahgmhaa", sum := "01bcc58140c3b73c90665aeceae7a35fb4918a7b102338f404838e2b834d713a", func := "payroll/payrolllaw2.RoundingLimits", spec := "roundingLimits", unfollowed := true, recurses := true, apart := false, narrowed := true }
def RoundingLimitsUptoSaid : Prop := roundingLimitsUptoRow.holds Try.pinned (OpenSpec.upto roundingLimitsSpec)

/-- 'payrolllaw2.RoundingParts', WHERE WHAT IT READS IS OF BULK AT MOST 1048576: true; the input reads as it did. -/
def roundingPartsUptoRow : OpenClaim := { program := "ytppjjhnaahgmhaa", sum := "01bcc58140c3b73c90665aeceae7a35fb4918a7b102338f404838e2b834d713a", func := "payroll/payrolllaw2.RoundingParts", spec := "roundingParts", unfollowed := true, recurses := true, apart := false, narrowed := true }
def RoundingPartsUptoSaid : Prop := roundingPartsUptoRow.holds Try.pinned (OpenSpec.upto roundingPartsSpec)

/-- 'payrolllaw2.RoundingAllocates', WHERE WHAT IT READS IS OF BULK AT MOST 1048576: true; the input reads as it did. -/
def roundingAllocatesUptoRow : OpenClaim := { program := "ytppjjhnaahgmhaa", sum := "01bcc58140c3b73c90665aeceae7a35fb4918a7b102338f404838e2b834d713a", func := "payroll/payrolllaw2.RoundingAllocates", spec := "roundingAllocates", unfollowed := true, recurses := true, apart := false, narrowed := true }
def RoundingAllocatesUptoSaid : Prop := roundingAllocatesUptoRow.holds Try.pinned (OpenSpec.upto roundingAllocatesSpec)

/-- 'payrolllaw2.RoundingConserves', WHERE WHAT IT READS IS OF BULK AT MOST 1048576: true; the input reads as it did. -/
def roundingConservesUptoRow : OpenClaim := { program := "ytppjjhnaahgmhaa", sum := "01bcc58140c3b73c90665aeceae7a35fb4918a7b102338f404838e2b834d713a", func := "payroll/payrolllaw2.RoundingConserves", spec := "roundingConserves", unfollowed := true, recurses := true, apart := false, narrowed := true }
def RoundingConservesUptoSaid : Prop := roundingConservesUptoRow.holds Try.pinned (OpenSpec.upto roundingConservesSpec)

/-- 'payrolllaw2.RoundingMonotone', WHERE WHAT IT READS IS OF BULK AT MOST 1048576: true; the input reads as it did. -/
def roundingMonotoneUptoRow : OpenClaim := { program := "ytppjjhnaahgmhaa", sum := "01bcc58140c3b73c90665aeceae7a35fb4918a7b102338f404838e2b834d713a", func := "payroll/payrolllaw2.RoundingMonotone", spec := "roundingMonotone", unfollowed := true, recurses := true, apart := false, narrowed := true }
def RoundingMonotoneUptoSaid : Prop := roundingMonotoneUptoRow.holds Try.pinned (OpenSpec.upto roundingMonotoneSpec)

/-- 'payrolllaw2.RoundingRounds', WHERE WHAT IT READS IS OF BULK AT MOST 1048576: true; the input reads as it did. -/
def roundingRoundsUptoRow : OpenClaim := { program := "ytppjjhnaahgmhaa", sum := "01bcc58140c3b73c90665aeceae7a35fb4918a7b102338f404838e2b834d713a", func := "payroll/payrolllaw2.RoundingRounds", spec := "roundingRounds", unfollowed := true, recurses := true, apart := false, narrowed := true }
def RoundingRoundsUptoSaid : Prop := roundingRoundsUptoRow.holds Try.pinned (OpenSpec.upto roundingRoundsSpec)

/-- 'payrolllaw2.RoundingCarries', WHERE WHAT IT READS IS OF BULK AT MOST 1048576: true; the input reads as it did. -/
def roundingCarriesUptoRow : OpenClaim := { program := "ytppjjhnaahgmhaa", sum := "01bcc58140c3b73c90665aeceae7a35fb4918a7b102338f404838e2b834d713a", func := "payroll/payrolllaw2.RoundingCarries", spec := "roundingCarries", unfollowed := true, recurses := true, apart := false, narrowed := true }
def RoundingCarriesUptoSaid : Prop := roundingCarriesUptoRow.holds Try.pinned (OpenSpec.upto roundingCarriesSpec)

/-- 'payrolllaw2.RoundingNearest', WHERE WHAT IT READS IS OF BULK AT MOST 1048576: true; the input reads as it did. -/
def roundingNearestUptoRow : OpenClaim := { program := "ytppjjhnaahgmhaa", sum := "01bcc58140c3b73c90665aeceae7a35fb4918a7b102338f404838e2b834d713a", func := "payroll/payrolllaw2.RoundingNearest", spec := "roundingNearest", unfollowed := true, recurses := true, apart := false, narrowed := true }
def RoundingNearestUptoSaid : Prop := roundingNearestUptoRow.holds Try.pinned (OpenSpec.upto roundingNearestSpec)

end Rows
end Go.Proofs.Ytppjjhnaahgmhaa
