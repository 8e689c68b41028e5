/-
  No cell of these rows narrows 'for every input' (looked for: loops, veiled, ifaces, maps, wideKeys, modest, calm, conditions, laid).
  DERIVED. THE GIVEN ROWS OF THIS SEAT. 9 by the template 'for every input the law returns true; each argument reads behind the call as it read before'; 0 by the template 'total and deterministic' (their statements: YtpfpikpioidldaaTotals.lean).
  GIVEN WITH THE SEED: the statements are not yours to turn. If you find one false, say at which input.
  Laid BY PROGRAM, IN A SANDBOX (cutbox-rows.mjs): the forced cells as the released guide's own fill.sh prints them over the translation 1c1c621d17855c1a… (all of the seat's roots in one cut). By AI agents, Wed Nov 11 2026. No macro, syntax, notation, axiom, sorry.
-/
import Derived.Test.YtpfpikpioidldaaChecked
import GoSem.Claim
import GoSem.ClaimJoined
import GoSem.ClaimMapViews
import Derived.JoinedTies
import Derived.KernelRfl
namespace Go.Proofs.Ytpfpikpioidldaa
/- THE CELL 'sum', in the pinned program and in every row, IS THE sha256 OF THE DUMP (.gsa) THAT YtpfpikpioidldaaProg.lean LOADS. Nothing in Lean hashes anything: it is a label: what it is worth is what the hold of that sum in a sandbox is worth. -/
noncomputable def Try.pinned : Pinned := { name := "ytpfpikpioidldaa", sum := "1c1c621d17855c1a57fb11be4c087ba7e5a2b4535b6d3c703e6d62ddf31c5dfa", checked := Try.checked }
namespace Rows
def none {H : Type} : Left H := { results := [], args := [] }

/-- 'payrolllaw28.ContributionValid': WHATEVER THE INPUT: true; the input reads as it did. -/
def contributionValidSpec : ChangeSpec := { name := "contributionValid", fn := fun _ => fun
  | [d1, d2, d3, d4] => { results := [.lit (.bool true)], args := [d1, d2, d3, d4] }
  | _ => none }
def contributionValidRow : OpenClaim := { program := "ytpfpikpioidldaa", sum := "1c1c621d17855c1a57fb11be4c087ba7e5a2b4535b6d3c703e6d62ddf31c5dfa", func := "payroll/payrolllaw28.ContributionValid", spec := "contributionValid", unfollowed := true, recurses := true, apart := false }
def ContributionValidSaid : Prop := contributionValidRow.holds Try.pinned (OpenSpec.ofChange contributionValidSpec)

/-- ITS FALSE NEIGHBOUR: 'it returns false'. Refute it at one input. -/
def contributionValidWrong : ChangeSpec := { name := "contributionValid", fn := fun _ => fun
  | [d1, d2, d3, d4] => { results := [.lit (.bool false)], args := [d1, d2, d3, d4] }
  | _ => none }
def ContributionValidWrongFalsely : Prop := contributionValidRow.holds Try.pinned (OpenSpec.ofChange contributionValidWrong)

/-- 'payrolllaw28.ContributionOne': WHATEVER THE INPUT: true; the input reads as it did. -/
def contributionOneSpec : ChangeSpec := { name := "contributionOne", fn := fun _ => fun
  | [d1, d2, d3] => { results := [.lit (.bool true)], args := [d1, d2, d3] }
  | _ => none }
def contributionOneRow : OpenClaim := { program := "ytpfpikpioidldaa", sum := "1c1c621d17855c1a57fb11be4c087ba7e5a2b4535b6d3c703e6d62ddf31c5dfa", func := "payroll/payrolllaw28.ContributionOne", spec := "contributionOne", unfollowed := true, recurses := true, apart := false }
def ContributionOneSaid : Prop := contributionOneRow.holds Try.pinned (OpenSpec.ofChange contributionOneSpec)

/-- ITS FALSE NEIGHBOUR: 'it returns false'. Refute it at one input. -/
def contributionOneWrong : ChangeSpec := { name := "contributionOne", fn := fun _ => fun
  | [d1, d2, d3] => { results := [.lit (.bool false)], args := [d1, d2, d3] }
  | _ => none }
def ContributionOneWrongFalsely : Prop := contributionOneRow.holds Try.pinned (OpenSpec.ofChange contributionOneWrong)

/-- 'payrolllaw28.ContributionShared': WHATEVER THE INPUT: true; the input reads as it did. -/
def contributionSharedSpec : ChangeSpec := { name := "contributionShared", fn := fun _ => fun
  | [d1, d2] => { results := [.lit (.bool true)], args := [d1, d2] }
  | _ => none }
def contributionSharedRow : OpenClaim := { program := "ytpfpikpioidldaa", sum := "1c1c621d17855c1a57fb11be4c087ba7e5a2b4535b6d3c703e6d62ddf31c5dfa", func := "payroll/payrolllaw28.ContributionShared", spec := "contributionShared", unfollowed := true, recurses := true, apart := false }
def ContributionSharedSaid : Prop := contributionSharedRow.holds Try.pinned (OpenSpec.ofChange contributionSharedSpec)

/-- ITS FALSE NEIGHBOUR: 'it returns false'. Refute it at one input. -/
def contributionSharedWrong : ChangeSpec := { name := "contributionShared", fn := fun _ => fun
  | [d1, d2] => { results := [.lit (.bool false)], args := [d1, d2] }
  | _ => none }
def ContributionSharedWrongFalsely : Prop := contributionSharedRow.holds Try.pinned (OpenSpec.ofChange contributionSharedWrong)

/-- 'payrolllaw28.ContributionNext': WHATEVER THE INPUT: true; the input reads as it did. -/
def contributionNextSpec : ChangeSpec := { name := "contributionNext", fn := fun _ => fun
  | [d1, d2, d3] => { results := [.lit (.bool true)], args := [d1, d2, d3] }
  | _ => none }
def contributionNextRow : OpenClaim := { program := "ytpfpikpioidldaa", sum := "1c1c621d17855c1a57fb11be4c087ba7e5a2b4535b6d3c703e6d62ddf31c5dfa", func := "payroll/payrolllaw28.ContributionNext", spec := "contributionNext", unfollowed := true, recurses := true, apart := false }
def ContributionNextSaid : Prop := contributionNextRow.holds Try.pinned (OpenSpec.ofChange contributionNextSpec)

/-- ITS FALSE NEIGHBOUR: 'it returns false'. Refute it at one input. -/
def contributionNextWrong : ChangeSpec := { name := "contributionNext", fn := fun _ => fun
  | [d1, d2, d3] => { results := [.lit (.bool false)], args := [d1, d2, d3] }
  | _ => none }
def ContributionNextWrongFalsely : Prop := contributionNextRow.holds Try.pinned (OpenSpec.ofChange contributionNextWrong)

/-- 'payrolllaw28.ContributionYear': WHATEVER THE INPUT: true; the input reads as it did. -/
def contributionYearSpec : ChangeSpec := { name := "contributionYear", fn := fun _ => fun
  | [d] => { results := [.lit (.bool true)], args := [d] }
  | _ => none }
def contributionYearRow : OpenClaim := { program := "ytpfpikpioidldaa", sum := "1c1c621d17855c1a57fb11be4c087ba7e5a2b4535b6d3c703e6d62ddf31c5dfa", func := "payroll/payrolllaw28.ContributionYear", spec := "contributionYear", unfollowed := true, recurses := true, apart := false }
def ContributionYearSaid : Prop := contributionYearRow.holds Try.pinned (OpenSpec.ofChange contributionYearSpec)

/-- ITS FALSE NEIGHBOUR: 'it returns false'. Refute it at one input. -/
def contributionYearWrong : ChangeSpec := { name := "contributionYear", fn := fun _ => fun
  | [d] => { results := [.lit (.bool false)], args := [d] }
  | _ => none }
def ContributionYearWrongFalsely : Prop := contributionYearRow.holds Try.pinned (OpenSpec.ofChange contributionYearWrong)

/-- 'payrolllaw28.ContributionFair': WHATEVER THE INPUT: true; the input reads as it did. -/
def contributionFairSpec : ChangeSpec := { name := "contributionFair", fn := fun _ => fun
  | [d] => { results := [.lit (.bool true)], args := [d] }
  | _ => none }
def contributionFairRow : OpenClaim := { program := "ytpfpikpioidldaa", sum := "1c1c621d17855c1a57fb11be4c087ba7e5a2b4535b6d3c703e6d62ddf31c5dfa", func := "payroll/payrolllaw28.ContributionFair", spec := "contributionFair", unfollowed := true, recurses := true, apart := false }
def ContributionFairSaid : Prop := contributionFairRow.holds Try.pinned (OpenSpec.ofChange contributionFairSpec)

/-- ITS FALSE NEIGHBOUR: 'it returns false'. Refute it at one input. -/
def contributionFairWrong : ChangeSpec := { name := "contributionFair", fn := fun _ => fun
  | [d] => { results := [.lit (.bool false)], args := [d] }
  | _ => none }
def ContributionFairWrongFalsely : Prop := contributionFairRow.holds Try.pinned (OpenSpec.ofChange contributionFairWrong)

/-- 'payrolllaw28.ContributionPlain': WHATEVER THE INPUT: true; the input reads as it did. -/
def contributionPlainSpec : ChangeSpec := { name := "contributionPlain", fn := fun _ => fun
  | [d] => { results := [.lit (.bool true)], args := [d] }
  | _ => none }
def contributionPlainRow : OpenClaim := { program := "ytpfpikpioidldaa", sum := "1c1c621d17855c1a57fb11be4c087ba7e5a2b4535b6d3c703e6d62ddf31c5dfa", func := "payroll/payrolllaw28.ContributionPlain", spec := "contributionPlain", unfollowed := true, recurses := true, apart := false }
def ContributionPlainSaid : Prop := contributionPlainRow.holds Try.pinned (OpenSpec.ofChange contributionPlainSpec)

/-- ITS FALSE NEIGHBOUR: 'it returns false'. Refute it at one input. -/
def contributionPlainWrong : ChangeSpec := { name := "contributionPlain", fn := fun _ => fun
  | [d] => { results := [.lit (.bool false)], args := [d] }
  | _ => none }
def ContributionPlainWrongFalsely : Prop := contributionPlainRow.holds Try.pinned (OpenSpec.ofChange contributionPlainWrong)

/-- 'payrolllaw28.ContributionJoint': WHATEVER THE INPUT: true; the input reads as it did. -/
def contributionJointSpec : ChangeSpec := { name := "contributionJoint", fn := fun _ => fun
  | [d1, d2] => { results := [.lit (.bool true)], args := [d1, d2] }
  | _ => none }
def contributionJointRow : OpenClaim := { program := "ytpfpikpioidldaa", sum := "1c1c621d17855c1a57fb11be4c087ba7e5a2b4535b6d3c703e6d62ddf31c5dfa", func := "payroll/payrolllaw28.ContributionJoint", spec := "contributionJoint", unfollowed := true, recurses := true, apart := false }
def ContributionJointSaid : Prop := contributionJointRow.holds Try.pinned (OpenSpec.ofChange contributionJointSpec)

/-- ITS FALSE NEIGHBOUR: 'it returns false'. Refute it at one input. -/
def contributionJointWrong : ChangeSpec := { name := "contributionJoint", fn := fun _ => fun
  | [d1, d2] => { results := [.lit (.bool false)], args := [d1, d2] }
  | _ => none }
def ContributionJointWrongFalsely : Prop := contributionJointRow.holds Try.pinned (OpenSpec.ofChange contributionJointWrong)

/-- 'payrolllaw28.ContributionCommon': WHATEVER THE INPUT: true; the input reads as it did. -/
def contributionCommonSpec : ChangeSpec := { name := "contributionCommon", fn := fun _ => fun
  | [d1, d2] => { results := [.lit (.bool true)], args := [d1, d2] }
  | _ => none }
def contributionCommonRow : OpenClaim := { program := "ytpfpikpioidldaa", sum := "1c1c621d17855c1a57fb11be4c087ba7e5a2b4535b6d3c703e6d62ddf31c5dfa", func := "payroll/payrolllaw28.ContributionCommon", spec := "contributionCommon", unfollowed := true, recurses := true, apart := false }
def ContributionCommonSaid : Prop := contributionCommonRow.holds Try.pinned (OpenSpec.ofChange contributionCommonSpec)

/-- ITS FALSE NEIGHBOUR: 'it returns false'. Refute it at one input. -/
def contributionCommonWrong : ChangeSpec := { name := "contributionCommon", fn := fun _ => fun
  | [d1, d2] => { results := [.lit (.bool false)], args := [d1, d2] }
  | _ => none }
def ContributionCommonWrongFalsely : Prop := contributionCommonRow.holds Try.pinned (OpenSpec.ofChange contributionCommonWrong)

/- THE SECOND FORM. 'bulk': how many values and letters a reading holds, each counted each time it is reached (what is shared counts as often as it is met; a slice's spare places count too). A statement '..UptoSaid' is the law's where the arguments, and the package variables that the reading takes, are together of bulk at most 1048576: NARROWER than '..Said'. Prove '..Said' where nothing that the law and all that it calls make is longer than what came in: it says more and counts as full. Else prove '..UptoSaid'. A law counts once. -/
mutual
def uptoBulk {H : Type} : DataW H → Nat
  | .lit (.string bytes) => bytes.length + 1
  | .lit _ => 1
  | .nil => 1
  | .ptr d => uptoBulk d + 1
  | .slice elems spare => uptoBulkAll elems + uptoBulkAll spare + 1
  | .agg parts => uptoBulkAll parts + 1
  | .iface _ d => uptoBulk d + 1
  | .map entries => uptoBulkEntries entries + 1
  | .held _ => 1
def uptoBulkAll {H : Type} : List (DataW H) → Nat
  | [] => 0
  | d :: r => uptoBulk d + uptoBulkAll r
def uptoBulkEntries {H : Type} : List (Lit × DataW H) → Nat
  | [] => 0
  | x :: r => uptoBulkEntry x + uptoBulkEntries r
def uptoBulkEntry {H : Type} : Lit × DataW H → Nat
  | (.string bytes, d) => bytes.length + uptoBulk d + 1
  | (_, d) => uptoBulk d + 1
 end
def uptoSmall : (H : Type) → List (DataW H) → Bool := fun _ ds => decide (uptoBulkAll ds ≤ 1048576)
def OpenSpec.upto (s : _root_.Go.ChangeSpec) : _root_.Go.OpenSpec := { _root_.Go.OpenSpec.ofChange s with cond := some uptoSmall }

/-- 'payrolllaw28.ContributionValid', WHERE WHAT IT READS IS OF BULK AT MOST 1048576: true; the input reads as it did. -/
def contributionValidUptoRow : OpenClaim := { program := "ytpfpikpioidldaa", sum := "1c1c621d17855c1a57fb11be4c087ba7e5a2b4535b6d3c703e6d62ddf31c5dfa", func := "payroll/payrolllaw28.ContributionValid", spec := "contributionValid", unfollowed := true, recurses := true, apart := false, narrowed := true }
def ContributionValidUptoSaid : Prop := contributionValidUptoRow.holds Try.pinned (OpenSpec.upto contributionValidSpec)

/-- 'payrolllaw28.ContributionOne', WHERE WHAT IT READS IS OF BULK AT MOST 1048576: true; the input reads as it did. -/
def contributionOneUptoRow : OpenClaim := { program := "ytpfpikpioidldaa", sum := "1c1c621d17855c1a57fb11be4c087ba7e5a2b4535b6d3c703e6d62ddf31c5dfa", func := "payroll/payrolllaw28.ContributionOne", spec := "contributionOne", unfollowed := true, recurses := true, apart := false, narrowed := true }
def ContributionOneUptoSaid : Prop := contributionOneUptoRow.holds Try.pinned (OpenSpec.upto contributionOneSpec)

/-- 'payrolllaw28.ContributionShared', WHERE WHAT IT READS IS OF BULK AT MOST 1048576: true; the input reads as it did. -/
def contributionSharedUptoRow : OpenClaim := { program := "ytpfpikpioidldaa", sum := "1c1c621d17855c1a57fb11be4c087ba7e5a2b4535b6d3c703e6d62ddf31c5dfa", func := "payroll/payrolllaw28.ContributionShared", spec := "contributionShared", unfollowed := true, recurses := true, apart := false, narrowed := true }
def ContributionSharedUptoSaid : Prop := contributionSharedUptoRow.holds Try.pinned (OpenSpec.upto contributionSharedSpec)

/-- 'payrolllaw28.ContributionNext', WHERE WHAT IT READS IS OF BULK AT MOST 1048576: true; the input reads as it did. -/
def contributionNextUptoRow : OpenClaim := { program := "ytpfpikpioidldaa", sum := "1c1c621d17855c1a57fb11be4c087ba7e5a2b4535b6d3c703e6d62ddf31c5dfa", func := "payroll/payrolllaw28.ContributionNext", spec := "contributionNext", unfollowed := true, recurses := true, apart := false, narrowed := true }
def ContributionNextUptoSaid : Prop := contributionNextUptoRow.holds Try.pinned (OpenSpec.upto contributionNextSpec)

/-- 'payrolllaw28.ContributionYear', WHERE WHAT IT READS IS OF BULK AT MOST 1048576: true; the input reads as it did. -/
def contributionYearUptoRow : OpenClaim := { program := "ytpfpikpioidldaa", sum := "1c1c621d17855c1a57fb11be4c087ba7e5a2b4535b6d3c703e6d62ddf31c5dfa", func := "payroll/payrolllaw28.ContributionYear", spec := "contributionYear", unfollowed := true, recurses := true, apart := false, narrowed := true }
def ContributionYearUptoSaid : Prop := contributionYearUptoRow.holds Try.pinned (OpenSpec.upto contributionYearSpec)

/-- 'payrolllaw28.ContributionFair', WHERE WHAT IT READS IS OF BULK AT MOST 1048576: true; the input reads as it did. -/
def contributionFairUptoRow : OpenClaim := { program := "ytpfpikpioidldaa", sum := "1c1c621d17855c1a57fb11be4c087ba7e5a2b4535b6d3c703e6d62ddf31c5dfa", func := "payroll/payrolllaw28.ContributionFair", spec := "contributionFair", unfollowed := true, recurses := true, apart := false, narrowed := true }
def ContributionFairUptoSaid : Prop := contributionFairUptoRow.holds Try.pinned (OpenSpec.upto contributionFairSpec)

/-- 'payrolllaw28.ContributionPlain', WHERE WHAT IT READS IS OF BULK AT MOST 1048576: true; the input reads as it did. -/
def contributionPlainUptoRow : OpenClaim := { program := "ytpfpikpioidldaa", sum := "1c1c621d17855c1a57fb11be4c087ba7e5a2b4535b6d3c703e6d62ddf31c5dfa", func := "payroll/payrolllaw28.ContributionPlain", spec := "contributionPlain", unfollowed := true, recurses := true, apart := false, narrowed := true }
def ContributionPlainUptoSaid : Prop := contributionPlainUptoRow.holds Try.pinned (OpenSpec.upto contributionPlainSpec)

/-- 'payrolllaw28.ContributionJoint', WHERE WHAT IT READS IS OF BULK AT MOST 1048576: true; the input reads as it did. -/
def contributionJointUptoRow : OpenClaim := { program := "ytpfpikpioidldaa", sum := "1c1c621d17855c1a57fb11be4c087ba7e5a2b4535b6d3c703e6d62ddf31c5dfa", func := "payroll/payrolllaw28.ContributionJoint", spec := "contributionJoint", unfollowed := true, recurses := true, apart := false, narrowed := true }
def ContributionJointUptoSaid : Prop := contributionJointUptoRow.holds Try.pinned (OpenSpec.upto contributionJointSpec)

/-- 'payrolllaw28.ContributionCommon', WHERE WHAT IT READS IS OF BULK AT MOST 1048576: true; the input reads as it did. -/
def contributionCommonUptoRow : OpenClaim := { program := "ytpfpikpioidldaa", sum := "1c1c621d17855c1a57fb11be4c087ba7e5a2b4535b6d3c703e6d62ddf31c5dfa", func := "payroll/payrolllaw28.ContributionCommon", spec := "contributionCommon", unfollowed := true, recurses := true, apart := false, narrowed := true }
def ContributionCommonUptoSaid : Prop := contributionCommonUptoRow.holds Try.pinned (OpenSpec.upto contributionCommonSpec)

end Rows
end Go.Proofs.Ytpfpikpioidldaa
