/-
  NARROWER THAN 'FOR EVERY INPUT', by the rows' own cells (each row's printed sentence says how): ValueLimits: laid · ValueReference: laid · ValueLazy: laid · ValueLocal: laid · ValueDimensions: laid.
  DERIVED. THE GIVEN ROWS OF THIS SEAT. 5 by the template 'for every input the law returns true; each argument reads behind the call as it read before'; 0 by the template 'total and deterministic' (their statements: YtcghpepighboaaaDoorTotals.lean).
  GIVEN WITH THE SEED: the statements are not yours to turn. If you find one false, say at which input.
  Laid BY PROGRAM, IN A SANDBOX (cutbox-rows.mjs): the forced cells as the released guide's own fill.sh prints them over the translation 9b292534a9e0df45… (all of the seat's roots in one cut). By AI agents, Wed Nov 11 2026. No macro, syntax, notation, axiom, sorry.
-/
import Derived.Test.YtcghpepighboaaaDoorChecked
import GoSem.Claim
import GoSem.ClaimJoined
import GoSem.ClaimMapViews
import Derived.JoinedTies
import Derived.KernelRfl
namespace Go.Proofs.YtcghpepighboaaaDoor
/- THE CELL 'sum', in the pinned program and in every row, IS THE sha256 OF THE DUMP (.gsa) THAT YtcghpepighboaaaDoorProg.lean LOADS. Nothing in Lean hashes anything: it is a label: what it is worth is what the hold of that sum in a sandbox is worth. -/
noncomputable def Tryd.pinned : Pinned := { name := "ytcghpepighboaaadoor", sum := "9b292534a9e0df45739456a6326a21bf8ec687f3d4a7ef4e825eecd5077d4b19", checked := Tryd.checked }
namespace Rows
def none {H : Type} : Left H := { results := [], args := [] }

/- WHAT THE LISTED PACKAGE-LEVEL VARIABLES READ AS WHEN THE CALL BEGINS. Each datum BY PROGRAM (the guide's laid-datum.mjs) off the statement by which the dump's own 'gosem.cut.vars' lays the variable. In a bare row this is a premise. The card (YtcghpepighboaaaDoorCards.lean) ties it to the program's text. -/
def laid_payroll_calendar_lengths {H : Type} : DataW H := .agg [.lit (.int .i64 31), .lit (.int .i64 28), .lit (.int .i64 31), .lit (.int .i64 30), .lit (.int .i64 31), .lit (.int .i64 30), .lit (.int .i64 31), .lit (.int .i64 31), .lit (.int .i64 30), .lit (.int .i64 31), .lit (.int .i64 30), .lit (.int .i64 31)]

/-- 'payrolllaw22.ValueLimits': WHATEVER THE INPUT: true; the input reads as it did. -/
def valueLimitsSpec : ChangeSpec := { name := "valueLimits", fn := fun _ => fun
  | [d1, d2] => { results := [.lit (.bool true)], args := [d1, d2] }
  | _ => none }
def valueLimitsRow : OpenClaim := { program := "ytcghpepighboaaadoor", sum := "9b292534a9e0df45739456a6326a21bf8ec687f3d4a7ef4e825eecd5077d4b19", func := "payroll/payrolllaw22.ValueLimits", spec := "valueLimits", recurses := true, named := ["payroll/calendar.lengths"], apart := false, laid := [("payroll/calendar.lengths", laid_payroll_calendar_lengths)] }
def ValueLimitsSaid : Prop := valueLimitsRow.holds Tryd.pinned (OpenSpec.ofChange valueLimitsSpec)

/-- ITS FALSE NEIGHBOUR: 'it returns false'. Refute it at one input. -/
def valueLimitsWrong : ChangeSpec := { name := "valueLimits", fn := fun _ => fun
  | [d1, d2] => { results := [.lit (.bool false)], args := [d1, d2] }
  | _ => none }
def ValueLimitsWrongFalsely : Prop := valueLimitsRow.holds Tryd.pinned (OpenSpec.ofChange valueLimitsWrong)

/-- 'payrolllaw22.ValueReference': WHATEVER THE INPUT: true; the input reads as it did. -/
def valueReferenceSpec : ChangeSpec := { name := "valueReference", fn := fun _ => fun
  | [d1, d2, d3, d4] => { results := [.lit (.bool true)], args := [d1, d2, d3, d4] }
  | _ => none }
def valueReferenceRow : OpenClaim := { program := "ytcghpepighboaaadoor", sum := "9b292534a9e0df45739456a6326a21bf8ec687f3d4a7ef4e825eecd5077d4b19", func := "payroll/payrolllaw22.ValueReference", spec := "valueReference", recurses := true, named := ["payroll/calendar.lengths"], apart := false, laid := [("payroll/calendar.lengths", laid_payroll_calendar_lengths)] }
def ValueReferenceSaid : Prop := valueReferenceRow.holds Tryd.pinned (OpenSpec.ofChange valueReferenceSpec)

/-- ITS FALSE NEIGHBOUR: 'it returns false'. Refute it at one input. -/
def valueReferenceWrong : ChangeSpec := { name := "valueReference", fn := fun _ => fun
  | [d1, d2, d3, d4] => { results := [.lit (.bool false)], args := [d1, d2, d3, d4] }
  | _ => none }
def ValueReferenceWrongFalsely : Prop := valueReferenceRow.holds Tryd.pinned (OpenSpec.ofChange valueReferenceWrong)

/-- 'payrolllaw22.ValueLazy': WHATEVER THE INPUT: true; the input reads as it did. -/
def valueLazySpec : ChangeSpec := { name := "valueLazy", fn := fun _ => fun
  | [d] => { results := [.lit (.bool true)], args := [d] }
  | _ => none }
def valueLazyRow : OpenClaim := { program := "ytcghpepighboaaadoor", sum := "9b292534a9e0df45739456a6326a21bf8ec687f3d4a7ef4e825eecd5077d4b19", func := "payroll/payrolllaw22.ValueLazy", spec := "valueLazy", recurses := true, named := ["payroll/calendar.lengths"], apart := false, laid := [("payroll/calendar.lengths", laid_payroll_calendar_lengths)] }
def ValueLazySaid : Prop := valueLazyRow.holds Tryd.pinned (OpenSpec.ofChange valueLazySpec)

/-- ITS FALSE NEIGHBOUR: 'it returns false'. Refute it at one input. -/
def valueLazyWrong : ChangeSpec := { name := "valueLazy", fn := fun _ => fun
  | [d] => { results := [.lit (.bool false)], args := [d] }
  | _ => none }
def ValueLazyWrongFalsely : Prop := valueLazyRow.holds Tryd.pinned (OpenSpec.ofChange valueLazyWrong)

/-- 'payrolllaw22.ValueLocal': WHATEVER THE INPUT: true; the input reads as it did. -/
def valueLocalSpec : ChangeSpec := { name := "valueLocal", fn := fun _ => fun
  | [d1, d2] => { results := [.lit (.bool true)], args := [d1, d2] }
  | _ => none }
def valueLocalRow : OpenClaim := { program := "ytcghpepighboaaadoor", sum := "9b292534a9e0df45739456a6326a21bf8ec687f3d4a7ef4e825eecd5077d4b19", func := "payroll/payrolllaw22.ValueLocal", spec := "valueLocal", recurses := true, named := ["payroll/calendar.lengths"], apart := false, laid := [("payroll/calendar.lengths", laid_payroll_calendar_lengths)] }
def ValueLocalSaid : Prop := valueLocalRow.holds Tryd.pinned (OpenSpec.ofChange valueLocalSpec)

/-- ITS FALSE NEIGHBOUR: 'it returns false'. Refute it at one input. -/
def valueLocalWrong : ChangeSpec := { name := "valueLocal", fn := fun _ => fun
  | [d1, d2] => { results := [.lit (.bool false)], args := [d1, d2] }
  | _ => none }
def ValueLocalWrongFalsely : Prop := valueLocalRow.holds Tryd.pinned (OpenSpec.ofChange valueLocalWrong)

/-- 'payrolllaw22.ValueDimensions': WHATEVER THE INPUT: true; the input reads as it did. -/
def valueDimensionsSpec : ChangeSpec := { name := "valueDimensions", fn := fun _ => fun
  | [d] => { results := [.lit (.bool true)], args := [d] }
  | _ => none }
def valueDimensionsRow : OpenClaim := { program := "ytcghpepighboaaadoor", sum := "9b292534a9e0df45739456a6326a21bf8ec687f3d4a7ef4e825eecd5077d4b19", func := "payroll/payrolllaw22.ValueDimensions", spec := "valueDimensions", recurses := true, named := ["payroll/calendar.lengths"], apart := false, laid := [("payroll/calendar.lengths", laid_payroll_calendar_lengths)] }
def ValueDimensionsSaid : Prop := valueDimensionsRow.holds Tryd.pinned (OpenSpec.ofChange valueDimensionsSpec)

/-- ITS FALSE NEIGHBOUR: 'it returns false'. Refute it at one input. -/
def valueDimensionsWrong : ChangeSpec := { name := "valueDimensions", fn := fun _ => fun
  | [d] => { results := [.lit (.bool false)], args := [d] }
  | _ => none }
def ValueDimensionsWrongFalsely : Prop := valueDimensionsRow.holds Tryd.pinned (OpenSpec.ofChange valueDimensionsWrong)

/- THE SECOND FORM. 'bulk': how many values and letters a reading holds, each counted each time it is reached (what is shared counts as often as it is met; a slice's spare places count too). A statement '..UptoSaid' is the law's where the arguments, and the package variables that the reading takes, are together of bulk at most 1048576: NARROWER than '..Said'. Prove '..Said' where nothing that the law and all that it calls make is longer than what came in: it says more and counts as full. Else prove '..UptoSaid'. A law counts once. -/
mutual
def uptoBulk {H : Type} : DataW H → Nat
  | .lit (.string bytes) => bytes.length + 1
  | .lit _ => 1
  | .nil => 1
  | .ptr d => uptoBulk d + 1
  | .slice elems spare => uptoBulkAll elems + uptoBulkAll spare + 1
  | .agg parts => uptoBulkAll parts + 1
  | .iface _ d => uptoBulk d + 1
  | .map entries => uptoBulkEntries entries + 1
  | .held _ => 1
def uptoBulkAll {H : Type} : List (DataW H) → Nat
  | [] => 0
  | d :: r => uptoBulk d + uptoBulkAll r
def uptoBulkEntries {H : Type} : List (Lit × DataW H) → Nat
  | [] => 0
  | x :: r => uptoBulkEntry x + uptoBulkEntries r
def uptoBulkEntry {H : Type} : Lit × DataW H → Nat
  | (.string bytes, d) => bytes.length + uptoBulk d + 1
  | (_, d) => uptoBulk d + 1
 end
def uptoSmall : (H : Type) → List (DataW H) → Bool := fun _ ds => decide (uptoBulkAll ds ≤ 1048576)
def OpenSpec.upto (s : _root_.Go.ChangeSpec) : _root_.Go.OpenSpec := { _root_.Go.OpenSpec.ofChange s with cond := some uptoSmall }

/-- 'payrolllaw22.ValueLimits', WHERE WHAT IT READS IS OF BULK AT MOST 1048576: true; the input reads as it did. -/
def valueLimitsUptoRow : OpenClaim := { program := "ytcghpepighboaaadoor", sum := "9b292534a9e0df45739456a6326a21bf8ec687f3d4a7ef4e825eecd5077d4b19", func := "payroll/payrolllaw22.ValueLimits", spec := "valueLimits", recurses := true, named := ["payroll/calendar.lengths"], apart := false, laid := [("payroll/calendar.lengths", laid_payroll_calendar_lengths)], narrowed := true }
def ValueLimitsUptoSaid : Prop := valueLimitsUptoRow.holds Tryd.pinned (OpenSpec.upto valueLimitsSpec)

/-- 'payrolllaw22.ValueReference', WHERE WHAT IT READS IS OF BULK AT MOST 1048576: true; the input reads as it did. -/
def valueReferenceUptoRow : OpenClaim := { program := "ytcghpepighboaaadoor", sum := "9b292534a9e0df45739456a6326a21bf8ec687f3d4a7ef4e825eecd5077d4b19", func := "payroll/payrolllaw22.ValueReference", spec := "valueReference", recurses := true, named := ["payroll/calendar.lengths"], apart := false, laid := [("payroll/calendar.lengths", laid_payroll_calendar_lengths)], narrowed := true }
def ValueReferenceUptoSaid : Prop := valueReferenceUptoRow.holds Tryd.pinned (OpenSpec.upto valueReferenceSpec)

/-- 'payrolllaw22.ValueLazy', WHERE WHAT IT READS IS OF BULK AT MOST 1048576: true; the input reads as it did. -/
def valueLazyUptoRow : OpenClaim := { program := "ytcghpepighboaaadoor", sum := "9b292534a9e0df45739456a6326a21bf8ec687f3d4a7ef4e825eecd5077d4b19", func := "payroll/payrolllaw22.ValueLazy", spec := "valueLazy", recurses := true, named := ["payroll/calendar.lengths"], apart := false, laid := [("payroll/calendar.lengths", laid_payroll_calendar_lengths)], narrowed := true }
def ValueLazyUptoSaid : Prop := valueLazyUptoRow.holds Tryd.pinned (OpenSpec.upto valueLazySpec)

/-- 'payrolllaw22.ValueLocal', WHERE WHAT IT READS IS OF BULK AT MOST 1048576: true; the input reads as it did. -/
def valueLocalUptoRow : OpenClaim := { program := "ytcghpepighboaaadoor", sum := "9b292534a9e0df45739456a6326a21bf8ec687f3d4a7ef4e825eecd5077d4b19", func := "payroll/payrolllaw22.ValueLocal", spec := "valueLocal", recurses := true, named := ["payroll/calendar.lengths"], apart := false, laid := [("payroll/calendar.lengths", laid_payroll_calendar_lengths)], narrowed := true }
def ValueLocalUptoSaid : Prop := valueLocalUptoRow.holds Tryd.pinned (OpenSpec.upto valueLocalSpec)

/-- 'payrolllaw22.ValueDimensions', WHERE WHAT IT READS IS OF BULK AT MOST 1048576: true; the input reads as it did. -/
def valueDimensionsUptoRow : OpenClaim := { program := "ytcghpepighboaaadoor", sum := "9b292534a9e0df45739456a6326a21bf8ec687f3d4a7ef4e825eecd5077d4b19", func := "payroll/payrolllaw22.ValueDimensions", spec := "valueDimensions", recurses := true, named := ["payroll/calendar.lengths"], apart := false, laid := [("payroll/calendar.lengths", laid_payroll_calendar_lengths)], narrowed := true }
def ValueDimensionsUptoSaid : Prop := valueDimensionsUptoRow.holds Tryd.pinned (OpenSpec.upto valueDimensionsSpec)

end Rows
end Go.Proofs.YtcghpepighboaaaDoor
