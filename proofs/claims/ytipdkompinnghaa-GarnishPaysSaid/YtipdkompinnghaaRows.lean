/-
  No cell of these rows narrows 'for every input' (looked for: loops, veiled, ifaces, maps, wideKeys, modest, calm, conditions, laid).
  DERIVED. THE GIVEN ROWS OF THIS SEAT. 9 by the template 'for every input the law returns true; each argument reads behind the call as it read before'; 0 by the template 'total and deterministic' (their statements: YtipdkompinnghaaTotals.lean).
  GIVEN WITH THE SEED: the statements are not yours to turn. If you find one false, say at which input.
  Laid BY PROGRAM, IN A SANDBOX (cutbox-rows.mjs): the forced cells as the released guide's own fill.sh prints them over the translation 3db5e2e346a54c7b… (all of the seat's roots in one cut). By AI agents, Wed Nov 11 2026. No macro, syntax, notation, axiom, sorry.
-/
import Derived.Test.YtipdkompinnghaaChecked
import GoSem.Claim
import GoSem.ClaimJoined
import GoSem.ClaimMapViews
import Derived.JoinedTies
import Derived.KernelRfl
namespace Go.Proofs.Ytipdkompinnghaa
/- THE CELL 'sum', in the pinned program and in every row, IS THE sha256 OF THE DUMP (.gsa) THAT YtipdkompinnghaaProg.lean LOADS. Nothing in Lean hashes anything: it is a label: what it is worth is what the hold of that sum in a sandbox is worth. -/
noncomputable def Try.pinned : Pinned := { name := "ytipdkompinnghaa", sum := "3db5e2e346a54c7b60d8f33a0be0f5740d0b5bafb4e73205d7a571ce8014bb87", checked := Try.checked }
namespace Rows
def none {H : Type} : Left H := { results := [], args := [] }

/-- 'payrolllaw31.GarnishValid': WHATEVER THE INPUT: true; the input reads as it did. -/
def garnishValidSpec : ChangeSpec := { name := "garnishValid", fn := fun _ => fun
  | [d1, d2, d3, d4, d5] => { results := [.lit (.bool true)], args := [d1, d2, d3, d4, d5] }
  | _ => none }
def garnishValidRow : OpenClaim := { program := "ytipdkompinnghaa", sum := "3db5e2e346a54c7b60d8f33a0be0f5740d0b5bafb4e73205d7a571ce8014bb87", func := "payroll/payrolllaw31.GarnishValid", spec := "garnishValid", unfollowed := true, recurses := true, apart := false }
def GarnishValidSaid : Prop := garnishValidRow.holds Try.pinned (OpenSpec.ofChange garnishValidSpec)

/-- ITS FALSE NEIGHBOUR: 'it returns false'. Refute it at one input. -/
def garnishValidWrong : ChangeSpec := { name := "garnishValid", fn := fun _ => fun
  | [d1, d2, d3, d4, d5] => { results := [.lit (.bool false)], args := [d1, d2, d3, d4, d5] }
  | _ => none }
def GarnishValidWrongFalsely : Prop := garnishValidRow.holds Try.pinned (OpenSpec.ofChange garnishValidWrong)

/-- 'payrolllaw31.GarnishProtects': WHATEVER THE INPUT: true; the input reads as it did. -/
def garnishProtectsSpec : ChangeSpec := { name := "garnishProtects", fn := fun _ => fun
  | [d1, d2, d3, d4] => { results := [.lit (.bool true)], args := [d1, d2, d3, d4] }
  | _ => none }
def garnishProtectsRow : OpenClaim := { program := "ytipdkompinnghaa", sum := "3db5e2e346a54c7b60d8f33a0be0f5740d0b5bafb4e73205d7a571ce8014bb87", func := "payroll/payrolllaw31.GarnishProtects", spec := "garnishProtects", unfollowed := true, recurses := true, apart := false }
def GarnishProtectsSaid : Prop := garnishProtectsRow.holds Try.pinned (OpenSpec.ofChange garnishProtectsSpec)

/-- ITS FALSE NEIGHBOUR: 'it returns false'. Refute it at one input. -/
def garnishProtectsWrong : ChangeSpec := { name := "garnishProtects", fn := fun _ => fun
  | [d1, d2, d3, d4] => { results := [.lit (.bool false)], args := [d1, d2, d3, d4] }
  | _ => none }
def GarnishProtectsWrongFalsely : Prop := garnishProtectsRow.holds Try.pinned (OpenSpec.ofChange garnishProtectsWrong)

/-- 'payrolllaw31.GarnishMonotone': WHATEVER THE INPUT: true; the input reads as it did. -/
def garnishMonotoneSpec : ChangeSpec := { name := "garnishMonotone", fn := fun _ => fun
  | [d1, d2] => { results := [.lit (.bool true)], args := [d1, d2] }
  | _ => none }
def garnishMonotoneRow : OpenClaim := { program := "ytipdkompinnghaa", sum := "3db5e2e346a54c7b60d8f33a0be0f5740d0b5bafb4e73205d7a571ce8014bb87", func := "payroll/payrolllaw31.GarnishMonotone", spec := "garnishMonotone", unfollowed := true, recurses := true, apart := false }
def GarnishMonotoneSaid : Prop := garnishMonotoneRow.holds Try.pinned (OpenSpec.ofChange garnishMonotoneSpec)

/-- ITS FALSE NEIGHBOUR: 'it returns false'. Refute it at one input. -/
def garnishMonotoneWrong : ChangeSpec := { name := "garnishMonotone", fn := fun _ => fun
  | [d1, d2] => { results := [.lit (.bool false)], args := [d1, d2] }
  | _ => none }
def GarnishMonotoneWrongFalsely : Prop := garnishMonotoneRow.holds Try.pinned (OpenSpec.ofChange garnishMonotoneWrong)

/-- 'payrolllaw31.GarnishAttaches': WHATEVER THE INPUT: true; the input reads as it did. -/
def garnishAttachesSpec : ChangeSpec := { name := "garnishAttaches", fn := fun _ => fun
  | [d1, d2, d3, d4, d5] => { results := [.lit (.bool true)], args := [d1, d2, d3, d4, d5] }
  | _ => none }
def garnishAttachesRow : OpenClaim := { program := "ytipdkompinnghaa", sum := "3db5e2e346a54c7b60d8f33a0be0f5740d0b5bafb4e73205d7a571ce8014bb87", func := "payroll/payrolllaw31.GarnishAttaches", spec := "garnishAttaches", unfollowed := true, recurses := true, apart := false }
def GarnishAttachesSaid : Prop := garnishAttachesRow.holds Try.pinned (OpenSpec.ofChange garnishAttachesSpec)

/-- ITS FALSE NEIGHBOUR: 'it returns false'. Refute it at one input. -/
def garnishAttachesWrong : ChangeSpec := { name := "garnishAttaches", fn := fun _ => fun
  | [d1, d2, d3, d4, d5] => { results := [.lit (.bool false)], args := [d1, d2, d3, d4, d5] }
  | _ => none }
def GarnishAttachesWrongFalsely : Prop := garnishAttachesRow.holds Try.pinned (OpenSpec.ofChange garnishAttachesWrong)

/-- 'payrolllaw31.GarnishLeaves': WHATEVER THE INPUT: true; the input reads as it did. -/
def garnishLeavesSpec : ChangeSpec := { name := "garnishLeaves", fn := fun _ => fun
  | [d] => { results := [.lit (.bool true)], args := [d] }
  | _ => none }
def garnishLeavesRow : OpenClaim := { program := "ytipdkompinnghaa", sum := "3db5e2e346a54c7b60d8f33a0be0f5740d0b5bafb4e73205d7a571ce8014bb87", func := "payroll/payrolllaw31.GarnishLeaves", spec := "garnishLeaves", unfollowed := true, recurses := true, apart := false }
def GarnishLeavesSaid : Prop := garnishLeavesRow.holds Try.pinned (OpenSpec.ofChange garnishLeavesSpec)

/-- ITS FALSE NEIGHBOUR: 'it returns false'. Refute it at one input. -/
def garnishLeavesWrong : ChangeSpec := { name := "garnishLeaves", fn := fun _ => fun
  | [d] => { results := [.lit (.bool false)], args := [d] }
  | _ => none }
def GarnishLeavesWrongFalsely : Prop := garnishLeavesRow.holds Try.pinned (OpenSpec.ofChange garnishLeavesWrong)

/-- 'payrolllaw31.GarnishRanks': WHATEVER THE INPUT: true; the input reads as it did. -/
def garnishRanksSpec : ChangeSpec := { name := "garnishRanks", fn := fun _ => fun
  | [d] => { results := [.lit (.bool true)], args := [d] }
  | _ => none }
def garnishRanksRow : OpenClaim := { program := "ytipdkompinnghaa", sum := "3db5e2e346a54c7b60d8f33a0be0f5740d0b5bafb4e73205d7a571ce8014bb87", func := "payroll/payrolllaw31.GarnishRanks", spec := "garnishRanks", unfollowed := true, recurses := true, apart := false }
def GarnishRanksSaid : Prop := garnishRanksRow.holds Try.pinned (OpenSpec.ofChange garnishRanksSpec)

/-- ITS FALSE NEIGHBOUR: 'it returns false'. Refute it at one input. -/
def garnishRanksWrong : ChangeSpec := { name := "garnishRanks", fn := fun _ => fun
  | [d] => { results := [.lit (.bool false)], args := [d] }
  | _ => none }
def GarnishRanksWrongFalsely : Prop := garnishRanksRow.holds Try.pinned (OpenSpec.ofChange garnishRanksWrong)

/-- 'payrolllaw31.GarnishAll': WHATEVER THE INPUT: true; the input reads as it did. -/
def garnishAllSpec : ChangeSpec := { name := "garnishAll", fn := fun _ => fun
  | [d1, d2] => { results := [.lit (.bool true)], args := [d1, d2] }
  | _ => none }
def garnishAllRow : OpenClaim := { program := "ytipdkompinnghaa", sum := "3db5e2e346a54c7b60d8f33a0be0f5740d0b5bafb4e73205d7a571ce8014bb87", func := "payroll/payrolllaw31.GarnishAll", spec := "garnishAll", unfollowed := true, recurses := true, apart := false }
def GarnishAllSaid : Prop := garnishAllRow.holds Try.pinned (OpenSpec.ofChange garnishAllSpec)

/-- ITS FALSE NEIGHBOUR: 'it returns false'. Refute it at one input. -/
def garnishAllWrong : ChangeSpec := { name := "garnishAll", fn := fun _ => fun
  | [d1, d2] => { results := [.lit (.bool false)], args := [d1, d2] }
  | _ => none }
def GarnishAllWrongFalsely : Prop := garnishAllRow.holds Try.pinned (OpenSpec.ofChange garnishAllWrong)

/-- 'payrolllaw31.GarnishSettles': WHATEVER THE INPUT: true; the input reads as it did. -/
def garnishSettlesSpec : ChangeSpec := { name := "garnishSettles", fn := fun _ => fun
  | [d1, d2, d3] => { results := [.lit (.bool true)], args := [d1, d2, d3] }
  | _ => none }
def garnishSettlesRow : OpenClaim := { program := "ytipdkompinnghaa", sum := "3db5e2e346a54c7b60d8f33a0be0f5740d0b5bafb4e73205d7a571ce8014bb87", func := "payroll/payrolllaw31.GarnishSettles", spec := "garnishSettles", unfollowed := true, recurses := true, apart := false }
def GarnishSettlesSaid : Prop := garnishSettlesRow.holds Try.pinned (OpenSpec.ofChange garnishSettlesSpec)

/-- ITS FALSE NEIGHBOUR: 'it returns false'. Refute it at one input. -/
def garnishSettlesWrong : ChangeSpec := { name := "garnishSettles", fn := fun _ => fun
  | [d1, d2, d3] => { results := [.lit (.bool false)], args := [d1, d2, d3] }
  | _ => none }
def GarnishSettlesWrongFalsely : Prop := garnishSettlesRow.holds Try.pinned (OpenSpec.ofChange garnishSettlesWrong)

/-- 'payrolllaw31.GarnishPays': WHATEVER THE INPUT: true; the input reads as it did. -/
def garnishPaysSpec : ChangeSpec := { name := "garnishPays", fn := fun _ => fun
  | [d] => { results := [.lit (.bool true)], args := [d] }
  | _ => none }
def garnishPaysRow : OpenClaim := { program := "ytipdkompinnghaa", sum := "3db5e2e346a54c7b60d8f33a0be0f5740d0b5bafb4e73205d7a571ce8014bb87", func := "payroll/payrolllaw31.GarnishPays", spec := "garnishPays", unfollowed := true, recurses := true, apart := false }
def GarnishPaysSaid : Prop := garnishPaysRow.holds Try.pinned (OpenSpec.ofChange garnishPaysSpec)

/-- ITS FALSE NEIGHBOUR: 'it returns false'. Refute it at one input. -/
def garnishPaysWrong : ChangeSpec := { name := "garnishPays", fn := fun _ => fun
  | [d] => { results := [.lit (.bool false)], args := [d] }
  | _ => none }
def GarnishPaysWrongFalsely : Prop := garnishPaysRow.holds Try.pinned (OpenSpec.ofChange garnishPaysWrong)

/- THE SECOND FORM. 'bulk': how many values and letters a reading holds, each counted each time it is reached (what is shared counts as often as it is met; a slice's spare places count too). A statement '..UptoSaid' is the law's where the arguments, and the package variables that the reading takes, are together of bulk at most 1048576: NARROWER than '..Said'. Prove '..Said' where nothing that the law and all that it calls make is longer than what came in: it says more and counts as full. Else prove '..UptoSaid'. A law counts once. -/
mutual
def uptoBulk {H : Type} : DataW H → Nat
  | .lit (.string bytes) => bytes.length + 1
  | .lit _ => 1
  | .nil => 1
  | .ptr d => uptoBulk d + 1
  | .slice elems spare => uptoBulkAll elems + uptoBulkAll spare + 1
  | .agg parts => uptoBulkAll parts + 1
  | .iface _ d => uptoBulk d + 1
  | .map entries => uptoBulkEntries entries + 1
  | .held _ => 1
def uptoBulkAll {H : Type} : List (DataW H) → Nat
  | [] => 0
  | d :: r => uptoBulk d + uptoBulkAll r
def uptoBulkEntries {H : Type} : List (Lit × DataW H) → Nat
  | [] => 0
  | x :: r => uptoBulkEntry x + uptoBulkEntries r
def uptoBulkEntry {H : Type} : Lit × DataW H → Nat
  | (.string bytes, d) => bytes.length + uptoBulk d + 1
  | (_, d) => uptoBulk d + 1
 end
def uptoSmall : (H : Type) → List (DataW H) → Bool := fun _ ds => decide (uptoBulkAll ds ≤ 1048576)
def OpenSpec.upto (s : _root_.Go.ChangeSpec) : _root_.Go.OpenSpec := { _root_.Go.OpenSpec.ofChange s with cond := some uptoSmall }

/-- 'payrolllaw31.GarnishValid', WHERE WHAT IT READS IS OF BULK AT MOST 1048576: true; the input reads as it did. -/
def garnishValidUptoRow : OpenClaim := { program := "ytipdkompinnghaa", sum := "3db5e2e346a54c7b60d8f33a0be0f5740d0b5bafb4e73205d7a571ce8014bb87", func := "payroll/payrolllaw31.GarnishValid", spec := "garnishValid", unfollowed := true, recurses := true, apart := false, narrowed := true }
def GarnishValidUptoSaid : Prop := garnishValidUptoRow.holds Try.pinned (OpenSpec.upto garnishValidSpec)

/-- 'payrolllaw31.GarnishProtects', WHERE WHAT IT READS IS OF BULK AT MOST 1048576: true; the input reads as it did. -/
def garnishProtectsUptoRow : OpenClaim := { program := "ytipdkompinnghaa", sum := "3db5e2e346a54c7b60d8f33a0be0f5740d0b5bafb4e73205d7a571ce8014bb87", func := "payroll/payrolllaw31.GarnishProtects", spec := "garnishProtects", unfollowed := true, recurses := true, apart := false, narrowed := true }
def GarnishProtectsUptoSaid : Prop := garnishProtectsUptoRow.holds Try.pinned (OpenSpec.upto garnishProtectsSpec)

/-- 'payrolllaw31.GarnishMonotone', WHERE WHAT IT READS IS OF BULK AT MOST 1048576: true; the input reads as it did. -/
def garnishMonotoneUptoRow : OpenClaim := { program := "ytipdkompinnghaa", sum := "3db5e2e346a54c7b60d8f33a0be0f5740d0b5bafb4e73205d7a571ce8014bb87", func := "payroll/payrolllaw31.GarnishMonotone", spec := "garnishMonotone", unfollowed := true, recurses := true, apart := false, narrowed := true }
def GarnishMonotoneUptoSaid : Prop := garnishMonotoneUptoRow.holds Try.pinned (OpenSpec.upto garnishMonotoneSpec)

/-- 'payrolllaw31.GarnishAttaches', WHERE WHAT IT READS IS OF BULK AT MOST 1048576: true; the input reads as it did. -/
def garnishAttachesUptoRow : OpenClaim := { program := "ytipdkompinnghaa", sum := "3db5e2e346a54c7b60d8f33a0be0f5740d0b5bafb4e73205d7a571ce8014bb87", func := "payroll/payrolllaw31.GarnishAttaches", spec := "garnishAttaches", unfollowed := true, recurses := true, apart := false, narrowed := true }
def GarnishAttachesUptoSaid : Prop := garnishAttachesUptoRow.holds Try.pinned (OpenSpec.upto garnishAttachesSpec)

/-- 'payrolllaw31.GarnishLeaves', WHERE WHAT IT READS IS OF BULK AT MOST 1048576: true; the input reads as it did. -/
def garnishLeavesUptoRow : OpenClaim := { program := "ytipdkompinnghaa", sum := "3db5e2e346a54c7b60d8f33a0be0f5740d0b5bafb4e73205d7a571ce8014bb87", func := "payroll/payrolllaw31.GarnishLeaves", spec := "garnishLeaves", unfollowed := true, recurses := true, apart := false, narrowed := true }
def GarnishLeavesUptoSaid : Prop := garnishLeavesUptoRow.holds Try.pinned (OpenSpec.upto garnishLeavesSpec)

/-- 'payrolllaw31.GarnishRanks', WHERE WHAT IT READS IS OF BULK AT MOST 1048576: true; the input reads as it did. -/
def garnishRanksUptoRow : OpenClaim := { program := "ytipdkompinnghaa", sum := "3db5e2e346a54c7b60d8f33a0be0f5740d0b5bafb4e73205d7a571ce8014bb87", func := "payroll/payrolllaw31.GarnishRanks", spec := "garnishRanks", unfollowed := true, recurses := true, apart := false, narrowed := true }
def GarnishRanksUptoSaid : Prop := garnishRanksUptoRow.holds Try.pinned (OpenSpec.upto garnishRanksSpec)

/-- 'payrolllaw31.GarnishAll', WHERE WHAT IT READS IS OF BULK AT MOST 1048576: true; the input reads as it did. -/
def garnishAllUptoRow : OpenClaim := { program := "ytipdkompinnghaa", sum := "3db5e2e346a54c7b60d8f33a0be0f5740d0b5bafb4e73205d7a571ce8014bb87", func := "payroll/payrolllaw31.GarnishAll", spec := "garnishAll", unfollowed := true, recurses := true, apart := false, narrowed := true }
def GarnishAllUptoSaid : Prop := garnishAllUptoRow.holds Try.pinned (OpenSpec.upto garnishAllSpec)

/-- 'payrolllaw31.GarnishSettles', WHERE WHAT IT READS IS OF BULK AT MOST 1048576: true; the input reads as it did. -/
def garnishSettlesUptoRow : OpenClaim := { program := "ytipdkompinnghaa", sum := "3db5e2e346a54c7b60d8f33a0be0f5740d0b5bafb4e73205d7a571ce8014bb87", func := "payroll/payrolllaw31.GarnishSettles", spec := "garnishSettles", unfollowed := true, recurses := true, apart := false, narrowed := true }
def GarnishSettlesUptoSaid : Prop := garnishSettlesUptoRow.holds Try.pinned (OpenSpec.upto garnishSettlesSpec)

/-- 'payrolllaw31.GarnishPays', WHERE WHAT IT READS IS OF BULK AT MOST 1048576: true; the input reads as it did. -/
def garnishPaysUptoRow : OpenClaim := { program := "ytipdkompinnghaa", sum := "3db5e2e346a54c7b60d8f33a0be0f5740d0b5bafb4e73205d7a571ce8014bb87", func := "payroll/payrolllaw31.GarnishPays", spec := "garnishPays", unfollowed := true, recurses := true, apart := false, narrowed := true }
def GarnishPaysUptoSaid : Prop := garnishPaysUptoRow.holds Try.pinned (OpenSpec.upto garnishPaysSpec)

end Rows
end Go.Proofs.Ytipdkompinnghaa
