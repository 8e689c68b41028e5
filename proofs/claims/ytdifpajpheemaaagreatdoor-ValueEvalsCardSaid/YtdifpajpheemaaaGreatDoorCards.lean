/-
  DERIVED. GIVEN WITH THE SEED: THE CARDS: each row of YtdifpajpheemaaaGreatDoorRows.lean that lists a variable, with what it lists TIED to the program's text (the seventh form; the later family's looks); each row that meets fmt, with fmt's text TOLD by the authors' own Lean function (tested against real Go, not proved from fmt's source: count such statements apart). THE CARD IS WHAT COUNTS. Prove the row's statement (the work); the ties are given (YtdifpajpheemaaaGreatDoorTie.lean); close each card by the builder's one call (the guide's Derived/Test/ToyasCard.lean, 'card_holds'). Laid BY PROGRAM, IN A SANDBOX (cutbox-door.mjs). By AI agents, Wed Nov 11 2026. No macro, syntax, notation, axiom, sorry.
-/
import Derived.Test.YtdifpajpheemaaaGreatDoorRows
import GoSem.ClaimSeven
namespace Go.Proofs.YtdifpajpheemaaaGreatDoor
namespace Rows

/-- THE TIED CARD OF 'payrolllaw22.ValueEvals'. -/
def valueEvalsCard : Claim7 := { stood := { row := valueEvalsRow, standIns := [], harness := (true, "1b43e5c26aec1a2f7c02579d39d34ef9a67e3e9efe4421ae10b5d7eca194ed52"), looks := false }, kinds := [], alts := [], laidByText := true, laidKinds := [.data], laidTests := true, laidLooks := .later }
def ValueEvalsCardSaid : Prop := Claim7.holds Tryz.pinned (.plain (OpenSpec.ofChange valueEvalsSpec)) valueEvalsCard

/-- THE SECOND FORM's CARD OF 'payrolllaw22.ValueEvals'. -/
def valueEvalsUptoCard : Claim7 := { stood := { row := valueEvalsUptoRow, standIns := [], harness := (true, "1b43e5c26aec1a2f7c02579d39d34ef9a67e3e9efe4421ae10b5d7eca194ed52"), looks := false }, kinds := [], alts := [], laidByText := true, laidKinds := [.data], laidTests := true, laidLooks := .later }
def ValueEvalsUptoCardSaid : Prop := Claim7.holds Tryz.pinned (.plain (OpenSpec.upto valueEvalsSpec)) valueEvalsUptoCard
end Rows
end Go.Proofs.YtdifpajpheemaaaGreatDoor
