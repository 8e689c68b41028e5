/-
  DERIVED. GIVEN WITH THE SEED: THE CARDS: each row of YtcghpepighboaaaDoorRows.lean that lists a variable, with what it lists TIED to the program's text (the seventh form; the later family's looks); each row that meets fmt, with fmt's text TOLD by the authors' own Lean function (tested against real Go, not proved from fmt's source: count such statements apart). THE CARD IS WHAT COUNTS. Prove the row's statement (the work); the ties are given (YtcghpepighboaaaDoorTie.lean); close each card by the builder's one call (the guide's Derived/Test/ToyasCard.lean, 'card_holds'). Laid BY PROGRAM, IN A SANDBOX (cutbox-door.mjs). By AI agents, Wed Nov 11 2026. No macro, syntax, notation, axiom, sorry.
-/
import Derived.Test.YtcghpepighboaaaDoorRows
import GoSem.ClaimSeven
namespace Go.Proofs.YtcghpepighboaaaDoor
namespace Rows

/-- THE TIED CARD OF 'payrolllaw22.ValueLimits'. -/
def valueLimitsCard : Claim7 := { stood := { row := valueLimitsRow, standIns := [], harness := (true, "79681ba0f93811b419d357366bb2f2afe1925af78223a0a5cee879e9a60a0b40"), looks := false }, kinds := [], alts := [], laidByText := true, laidKinds := [.data], laidTests := true, laidLooks := .later }
def ValueLimitsCardSaid : Prop := Claim7.holds Tryd.pinned (.plain (OpenSpec.ofChange valueLimitsSpec)) valueLimitsCard

/-- THE TIED CARD OF 'payrolllaw22.ValueReference'. -/
def valueReferenceCard : Claim7 := { stood := { row := valueReferenceRow, standIns := [], harness := (true, "79681ba0f93811b419d357366bb2f2afe1925af78223a0a5cee879e9a60a0b40"), looks := false }, kinds := [], alts := [], laidByText := true, laidKinds := [.data], laidTests := true, laidLooks := .later }
def ValueReferenceCardSaid : Prop := Claim7.holds Tryd.pinned (.plain (OpenSpec.ofChange valueReferenceSpec)) valueReferenceCard

/-- THE TIED CARD OF 'payrolllaw22.ValueLazy'. -/
def valueLazyCard : Claim7 := { stood := { row := valueLazyRow, standIns := [], harness := (true, "79681ba0f93811b419d357366bb2f2afe1925af78223a0a5cee879e9a60a0b40"), looks := false }, kinds := [], alts := [], laidByText := true, laidKinds := [.data], laidTests := true, laidLooks := .later }
def ValueLazyCardSaid : Prop := Claim7.holds Tryd.pinned (.plain (OpenSpec.ofChange valueLazySpec)) valueLazyCard

/-- THE TIED CARD OF 'payrolllaw22.ValueLocal'. -/
def valueLocalCard : Claim7 := { stood := { row := valueLocalRow, standIns := [], harness := (true, "79681ba0f93811b419d357366bb2f2afe1925af78223a0a5cee879e9a60a0b40"), looks := false }, kinds := [], alts := [], laidByText := true, laidKinds := [.data], laidTests := true, laidLooks := .later }
def ValueLocalCardSaid : Prop := Claim7.holds Tryd.pinned (.plain (OpenSpec.ofChange valueLocalSpec)) valueLocalCard

/-- THE TIED CARD OF 'payrolllaw22.ValueDimensions'. -/
def valueDimensionsCard : Claim7 := { stood := { row := valueDimensionsRow, standIns := [], harness := (true, "79681ba0f93811b419d357366bb2f2afe1925af78223a0a5cee879e9a60a0b40"), looks := false }, kinds := [], alts := [], laidByText := true, laidKinds := [.data], laidTests := true, laidLooks := .later }
def ValueDimensionsCardSaid : Prop := Claim7.holds Tryd.pinned (.plain (OpenSpec.ofChange valueDimensionsSpec)) valueDimensionsCard

/-- THE SECOND FORM's CARD OF 'payrolllaw22.ValueLimits'. -/
def valueLimitsUptoCard : Claim7 := { stood := { row := valueLimitsUptoRow, standIns := [], harness := (true, "79681ba0f93811b419d357366bb2f2afe1925af78223a0a5cee879e9a60a0b40"), looks := false }, kinds := [], alts := [], laidByText := true, laidKinds := [.data], laidTests := true, laidLooks := .later }
def ValueLimitsUptoCardSaid : Prop := Claim7.holds Tryd.pinned (.plain (OpenSpec.upto valueLimitsSpec)) valueLimitsUptoCard

/-- THE SECOND FORM's CARD OF 'payrolllaw22.ValueReference'. -/
def valueReferenceUptoCard : Claim7 := { stood := { row := valueReferenceUptoRow, standIns := [], harness := (true, "79681ba0f93811b419d357366bb2f2afe1925af78223a0a5cee879e9a60a0b40"), looks := false }, kinds := [], alts := [], laidByText := true, laidKinds := [.data], laidTests := true, laidLooks := .later }
def ValueReferenceUptoCardSaid : Prop := Claim7.holds Tryd.pinned (.plain (OpenSpec.upto valueReferenceSpec)) valueReferenceUptoCard

/-- THE SECOND FORM's CARD OF 'payrolllaw22.ValueLazy'. -/
def valueLazyUptoCard : Claim7 := { stood := { row := valueLazyUptoRow, standIns := [], harness := (true, "79681ba0f93811b419d357366bb2f2afe1925af78223a0a5cee879e9a60a0b40"), looks := false }, kinds := [], alts := [], laidByText := true, laidKinds := [.data], laidTests := true, laidLooks := .later }
def ValueLazyUptoCardSaid : Prop := Claim7.holds Tryd.pinned (.plain (OpenSpec.upto valueLazySpec)) valueLazyUptoCard

/-- THE SECOND FORM's CARD OF 'payrolllaw22.ValueLocal'. -/
def valueLocalUptoCard : Claim7 := { stood := { row := valueLocalUptoRow, standIns := [], harness := (true, "79681ba0f93811b419d357366bb2f2afe1925af78223a0a5cee879e9a60a0b40"), looks := false }, kinds := [], alts := [], laidByText := true, laidKinds := [.data], laidTests := true, laidLooks := .later }
def ValueLocalUptoCardSaid : Prop := Claim7.holds Tryd.pinned (.plain (OpenSpec.upto valueLocalSpec)) valueLocalUptoCard

/-- THE SECOND FORM's CARD OF 'payrolllaw22.ValueDimensions'. -/
def valueDimensionsUptoCard : Claim7 := { stood := { row := valueDimensionsUptoRow, standIns := [], harness := (true, "79681ba0f93811b419d357366bb2f2afe1925af78223a0a5cee879e9a60a0b40"), looks := false }, kinds := [], alts := [], laidByText := true, laidKinds := [.data], laidTests := true, laidLooks := .later }
def ValueDimensionsUptoCardSaid : Prop := Claim7.holds Tryd.pinned (.plain (OpenSpec.upto valueDimensionsSpec)) valueDimensionsUptoCard
end Rows
end Go.Proofs.YtcghpepighboaaaDoor
