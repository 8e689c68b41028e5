/-
  DERIVED. GIVEN WITH THE SEED: THE CARDS: each row of YtpaeomgnmimjoaaDoorRows.lean that lists a variable, with what it lists TIED to the program's text (the seventh form; the later family's looks); each row that meets fmt, with fmt's text TOLD by the authors' own Lean function (tested against real Go, not proved from fmt's source: count such statements apart). THE CARD IS WHAT COUNTS. Prove the row's statement (the work); the ties are given (YtpaeomgnmimjoaaDoorTie.lean); close each card by the builder's one call (the guide's Derived/Test/ToyasCard.lean, 'card_holds'). Laid BY PROGRAM, IN A SANDBOX (cutbox-door.mjs). By AI agents, Wed Nov 11 2026. No macro, syntax, notation, axiom, sorry.
-/
import Derived.Test.YtpaeomgnmimjoaaDoorRows
import GoSem.ClaimSeven
namespace Go.Proofs.YtpaeomgnmimjoaaDoor
namespace Rows

/-- THE TIED CARD OF 'payrolllaw15.LeaveConserves'. -/
def leaveConservesCard : Claim7 := { stood := { row := leaveConservesRow, standIns := [], harness := (true, "9e0b29ac25dd75af014a740233bf3ad8fbde74a5d6ccf4af7cf8edd15082083f"), looks := false }, kinds := [], alts := [], laidByText := true, laidKinds := [.data], laidTests := true, laidLooks := .later }
def LeaveConservesCardSaid : Prop := Claim7.holds Tryd.pinned (.plain (OpenSpec.ofChange leaveConservesSpec)) leaveConservesCard

/-- THE TIED CARD OF 'payrolllaw15.LeaveOrderless'. -/
def leaveOrderlessCard : Claim7 := { stood := { row := leaveOrderlessRow, standIns := [], harness := (true, "9e0b29ac25dd75af014a740233bf3ad8fbde74a5d6ccf4af7cf8edd15082083f"), looks := false }, kinds := [], alts := [], laidByText := true, laidKinds := [.data], laidTests := true, laidLooks := .later }
def LeaveOrderlessCardSaid : Prop := Claim7.holds Tryd.pinned (.plain (OpenSpec.ofChange leaveOrderlessSpec)) leaveOrderlessCard

/-- THE TIED CARD OF 'payrolllaw15.LeaveRoomLeast'. -/
def leaveRoomLeastCard : Claim7 := { stood := { row := leaveRoomLeastRow, standIns := [], harness := (true, "9e0b29ac25dd75af014a740233bf3ad8fbde74a5d6ccf4af7cf8edd15082083f"), looks := false }, kinds := [], alts := [], laidByText := true, laidKinds := [.data], laidTests := true, laidLooks := .later }
def LeaveRoomLeastCardSaid : Prop := Claim7.holds Tryd.pinned (.plain (OpenSpec.ofChange leaveRoomLeastSpec)) leaveRoomLeastCard

/-- THE SECOND FORM's CARD OF 'payrolllaw15.LeaveConserves'. -/
def leaveConservesUptoCard : Claim7 := { stood := { row := leaveConservesUptoRow, standIns := [], harness := (true, "9e0b29ac25dd75af014a740233bf3ad8fbde74a5d6ccf4af7cf8edd15082083f"), looks := false }, kinds := [], alts := [], laidByText := true, laidKinds := [.data], laidTests := true, laidLooks := .later }
def LeaveConservesUptoCardSaid : Prop := Claim7.holds Tryd.pinned (.plain (OpenSpec.upto leaveConservesSpec)) leaveConservesUptoCard

/-- THE SECOND FORM's CARD OF 'payrolllaw15.LeaveOrderless'. -/
def leaveOrderlessUptoCard : Claim7 := { stood := { row := leaveOrderlessUptoRow, standIns := [], harness := (true, "9e0b29ac25dd75af014a740233bf3ad8fbde74a5d6ccf4af7cf8edd15082083f"), looks := false }, kinds := [], alts := [], laidByText := true, laidKinds := [.data], laidTests := true, laidLooks := .later }
def LeaveOrderlessUptoCardSaid : Prop := Claim7.holds Tryd.pinned (.plain (OpenSpec.upto leaveOrderlessSpec)) leaveOrderlessUptoCard

/-- THE SECOND FORM's CARD OF 'payrolllaw15.LeaveRoomLeast'. -/
def leaveRoomLeastUptoCard : Claim7 := { stood := { row := leaveRoomLeastUptoRow, standIns := [], harness := (true, "9e0b29ac25dd75af014a740233bf3ad8fbde74a5d6ccf4af7cf8edd15082083f"), looks := false }, kinds := [], alts := [], laidByText := true, laidKinds := [.data], laidTests := true, laidLooks := .later }
def LeaveRoomLeastUptoCardSaid : Prop := Claim7.holds Tryd.pinned (.plain (OpenSpec.upto leaveRoomLeastSpec)) leaveRoomLeastUptoCard
end Rows
end Go.Proofs.YtpaeomgnmimjoaaDoor
