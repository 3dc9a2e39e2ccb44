/-
  NARROWER THAN 'FOR EVERY INPUT', by the rows' own cells (each row's printed sentence says how): KernSteps: laid · KernParts: laid · WorldRuns: laid · AuditAccepts: laid · StatJobs: laid · StatBound: laid · StatParts: laid · StatWhole: laid · StatRan: laid · StatSpreads: laid.
  DERIVED. THE GIVEN ROWS OF THIS SEAT. 10 by the template 'for every input the law returns true; each argument reads behind the call as it read before'; 0 by the template 'total and deterministic' (their statements: YtndjjndllfdklaaGreatDoorTotals.lean).
  GIVEN WITH THE SEED: the statements are not yours to turn. If you find one false, say at which input.
  Laid BY PROGRAM, IN A SANDBOX (cutbox-rows.mjs): the forced cells as the released guide's own fill.sh prints them over the translation 2b103640b68c56a8… (all of the seat's roots in one cut). By AI agents, Wed Nov 11 2026. No macro, syntax, notation, axiom, sorry.
-/
import Derived.Test.YtndjjndllfdklaaGreatDoorChecked
import GoSem.Claim
import GoSem.ClaimJoined
import GoSem.ClaimMapViews
import Derived.JoinedTies
import Derived.KernelRfl
namespace Go.Proofs.YtndjjndllfdklaaGreatDoor
/- THE CELL 'sum', in the pinned program and in every row, IS THE sha256 OF THE DUMP (.gsa) THAT YtndjjndllfdklaaGreatDoorProg.lean LOADS. Nothing in Lean hashes anything: it is a label: what it is worth is what the hold of that sum in a sandbox is worth. -/
noncomputable def Tryz.pinned : Pinned := { name := "ytndjjndllfdklaagreatdoor", sum := "2b103640b68c56a881859e95300a21bdedb09c60d980eca1c5e0295324868ac9", checked := Tryz.checked }
namespace Rows
def none {H : Type} : Left H := { results := [], args := [] }

/- WHAT THE LISTED PACKAGE-LEVEL VARIABLES READ AS WHEN THE CALL BEGINS. Each datum BY PROGRAM (the guide's laid-datum.mjs) off the statement by which the dump's own 'gosem.cut.vars' lays the variable. In a bare row this is a premise. The card (YtndjjndllfdklaaGreatDoorCards.lean) ties it to the program's text. -/
def laid_math_bits_deBruijn32tab {H : Type} : DataW H := .agg [.lit (.int .u8 0), .lit (.int .u8 1), .lit (.int .u8 28), .lit (.int .u8 2), .lit (.int .u8 29), .lit (.int .u8 14), .lit (.int .u8 24), .lit (.int .u8 3), .lit (.int .u8 30), .lit (.int .u8 22), .lit (.int .u8 20), .lit (.int .u8 15), .lit (.int .u8 25), .lit (.int .u8 17), .lit (.int .u8 4), .lit (.int .u8 8), .lit (.int .u8 31), .lit (.int .u8 27), .lit (.int .u8 13), .lit (.int .u8 23), .lit (.int .u8 21), .lit (.int .u8 19), .lit (.int .u8 16), .lit (.int .u8 7), .lit (.int .u8 26), .lit (.int .u8 12), .lit (.int .u8 18), .lit (.int .u8 6), .lit (.int .u8 11), .lit (.int .u8 5), .lit (.int .u8 10), .lit (.int .u8 9)]

/-- 'taffraillaw21.KernSteps': WHATEVER THE INPUT: true; the input reads as it did. -/
def kernStepsSpec : ChangeSpec := { name := "kernSteps", fn := fun _ => fun
  | [d1, d2] => { results := [.lit (.bool true)], args := [d1, d2] }
  | _ => none }
def kernStepsRow : OpenClaim := { program := "ytndjjndllfdklaagreatdoor", sum := "2b103640b68c56a881859e95300a21bdedb09c60d980eca1c5e0295324868ac9", func := "taffrail/taffraillaw21.KernSteps", spec := "kernSteps", inPlace := ["slices.overlaps[taffrail/delta.clock]"], unfollowed := true, recurses := true, named := ["math/bits.deBruijn32tab"], apart := false, laid := [("math/bits.deBruijn32tab", laid_math_bits_deBruijn32tab)] }
def KernStepsSaid : Prop := kernStepsRow.holds Tryz.pinned (OpenSpec.ofChange kernStepsSpec)

/-- ITS FALSE NEIGHBOUR: 'it returns false'. Refute it at one input. -/
def kernStepsWrong : ChangeSpec := { name := "kernSteps", fn := fun _ => fun
  | [d1, d2] => { results := [.lit (.bool false)], args := [d1, d2] }
  | _ => none }
def KernStepsWrongFalsely : Prop := kernStepsRow.holds Tryz.pinned (OpenSpec.ofChange kernStepsWrong)

/-- 'taffraillaw21.KernParts': WHATEVER THE INPUT: true; the input reads as it did. -/
def kernPartsSpec : ChangeSpec := { name := "kernParts", fn := fun _ => fun
  | [d1, d2, d3] => { results := [.lit (.bool true)], args := [d1, d2, d3] }
  | _ => none }
def kernPartsRow : OpenClaim := { program := "ytndjjndllfdklaagreatdoor", sum := "2b103640b68c56a881859e95300a21bdedb09c60d980eca1c5e0295324868ac9", func := "taffrail/taffraillaw21.KernParts", spec := "kernParts", inPlace := ["slices.overlaps[taffrail/delta.clock]"], unfollowed := true, recurses := true, named := ["math/bits.deBruijn32tab"], apart := false, laid := [("math/bits.deBruijn32tab", laid_math_bits_deBruijn32tab)] }
def KernPartsSaid : Prop := kernPartsRow.holds Tryz.pinned (OpenSpec.ofChange kernPartsSpec)

/-- ITS FALSE NEIGHBOUR: 'it returns false'. Refute it at one input. -/
def kernPartsWrong : ChangeSpec := { name := "kernParts", fn := fun _ => fun
  | [d1, d2, d3] => { results := [.lit (.bool false)], args := [d1, d2, d3] }
  | _ => none }
def KernPartsWrongFalsely : Prop := kernPartsRow.holds Tryz.pinned (OpenSpec.ofChange kernPartsWrong)

/-- 'taffraillaw22.WorldRuns': WHATEVER THE INPUT: true; the input reads as it did. -/
def worldRunsSpec : ChangeSpec := { name := "worldRuns", fn := fun _ => fun
  | [d1, d2, d3] => { results := [.lit (.bool true)], args := [d1, d2, d3] }
  | _ => none }
def worldRunsRow : OpenClaim := { program := "ytndjjndllfdklaagreatdoor", sum := "2b103640b68c56a881859e95300a21bdedb09c60d980eca1c5e0295324868ac9", func := "taffrail/taffraillaw22.WorldRuns", spec := "worldRuns", inPlace := ["slices.overlaps[taffrail/delta.clock]"], unfollowed := true, recurses := true, named := ["math/bits.deBruijn32tab"], apart := false, laid := [("math/bits.deBruijn32tab", laid_math_bits_deBruijn32tab)] }
def WorldRunsSaid : Prop := worldRunsRow.holds Tryz.pinned (OpenSpec.ofChange worldRunsSpec)

/-- ITS FALSE NEIGHBOUR: 'it returns false'. Refute it at one input. -/
def worldRunsWrong : ChangeSpec := { name := "worldRuns", fn := fun _ => fun
  | [d1, d2, d3] => { results := [.lit (.bool false)], args := [d1, d2, d3] }
  | _ => none }
def WorldRunsWrongFalsely : Prop := worldRunsRow.holds Tryz.pinned (OpenSpec.ofChange worldRunsWrong)

/-- 'taffraillaw26.AuditAccepts': WHATEVER THE INPUT: true; the input reads as it did. -/
def auditAcceptsSpec : ChangeSpec := { name := "auditAccepts", fn := fun _ => fun
  | [d1, d2] => { results := [.lit (.bool true)], args := [d1, d2] }
  | _ => none }
def auditAcceptsRow : OpenClaim := { program := "ytndjjndllfdklaagreatdoor", sum := "2b103640b68c56a881859e95300a21bdedb09c60d980eca1c5e0295324868ac9", func := "taffrail/taffraillaw26.AuditAccepts", spec := "auditAccepts", inPlace := ["slices.overlaps[taffrail/delta.clock]"], unfollowed := true, recurses := true, named := ["math/bits.deBruijn32tab"], apart := false, laid := [("math/bits.deBruijn32tab", laid_math_bits_deBruijn32tab)] }
def AuditAcceptsSaid : Prop := auditAcceptsRow.holds Tryz.pinned (OpenSpec.ofChange auditAcceptsSpec)

/-- ITS FALSE NEIGHBOUR: 'it returns false'. Refute it at one input. -/
def auditAcceptsWrong : ChangeSpec := { name := "auditAccepts", fn := fun _ => fun
  | [d1, d2] => { results := [.lit (.bool false)], args := [d1, d2] }
  | _ => none }
def AuditAcceptsWrongFalsely : Prop := auditAcceptsRow.holds Tryz.pinned (OpenSpec.ofChange auditAcceptsWrong)

/-- 'taffraillaw28.StatJobs': WHATEVER THE INPUT: true; the input reads as it did. -/
def statJobsSpec : ChangeSpec := { name := "statJobs", fn := fun _ => fun
  | [d1, d2] => { results := [.lit (.bool true)], args := [d1, d2] }
  | _ => none }
def statJobsRow : OpenClaim := { program := "ytndjjndllfdklaagreatdoor", sum := "2b103640b68c56a881859e95300a21bdedb09c60d980eca1c5e0295324868ac9", func := "taffrail/taffraillaw28.StatJobs", spec := "statJobs", inPlace := ["slices.overlaps[taffrail/delta.clock]"], unfollowed := true, recurses := true, named := ["math/bits.deBruijn32tab"], apart := false, laid := [("math/bits.deBruijn32tab", laid_math_bits_deBruijn32tab)] }
def StatJobsSaid : Prop := statJobsRow.holds Tryz.pinned (OpenSpec.ofChange statJobsSpec)

/-- ITS FALSE NEIGHBOUR: 'it returns false'. Refute it at one input. -/
def statJobsWrong : ChangeSpec := { name := "statJobs", fn := fun _ => fun
  | [d1, d2] => { results := [.lit (.bool false)], args := [d1, d2] }
  | _ => none }
def StatJobsWrongFalsely : Prop := statJobsRow.holds Tryz.pinned (OpenSpec.ofChange statJobsWrong)

/-- 'taffraillaw28.StatBound': WHATEVER THE INPUT: true; the input reads as it did. -/
def statBoundSpec : ChangeSpec := { name := "statBound", fn := fun _ => fun
  | [d1, d2] => { results := [.lit (.bool true)], args := [d1, d2] }
  | _ => none }
def statBoundRow : OpenClaim := { program := "ytndjjndllfdklaagreatdoor", sum := "2b103640b68c56a881859e95300a21bdedb09c60d980eca1c5e0295324868ac9", func := "taffrail/taffraillaw28.StatBound", spec := "statBound", inPlace := ["slices.overlaps[taffrail/delta.clock]"], unfollowed := true, recurses := true, named := ["math/bits.deBruijn32tab"], apart := false, laid := [("math/bits.deBruijn32tab", laid_math_bits_deBruijn32tab)] }
def StatBoundSaid : Prop := statBoundRow.holds Tryz.pinned (OpenSpec.ofChange statBoundSpec)

/-- ITS FALSE NEIGHBOUR: 'it returns false'. Refute it at one input. -/
def statBoundWrong : ChangeSpec := { name := "statBound", fn := fun _ => fun
  | [d1, d2] => { results := [.lit (.bool false)], args := [d1, d2] }
  | _ => none }
def StatBoundWrongFalsely : Prop := statBoundRow.holds Tryz.pinned (OpenSpec.ofChange statBoundWrong)

/-- 'taffraillaw28.StatParts': WHATEVER THE INPUT: true; the input reads as it did. -/
def statPartsSpec : ChangeSpec := { name := "statParts", fn := fun _ => fun
  | [d1, d2, d3] => { results := [.lit (.bool true)], args := [d1, d2, d3] }
  | _ => none }
def statPartsRow : OpenClaim := { program := "ytndjjndllfdklaagreatdoor", sum := "2b103640b68c56a881859e95300a21bdedb09c60d980eca1c5e0295324868ac9", func := "taffrail/taffraillaw28.StatParts", spec := "statParts", inPlace := ["slices.overlaps[taffrail/delta.clock]"], unfollowed := true, recurses := true, named := ["math/bits.deBruijn32tab"], apart := false, laid := [("math/bits.deBruijn32tab", laid_math_bits_deBruijn32tab)] }
def StatPartsSaid : Prop := statPartsRow.holds Tryz.pinned (OpenSpec.ofChange statPartsSpec)

/-- ITS FALSE NEIGHBOUR: 'it returns false'. Refute it at one input. -/
def statPartsWrong : ChangeSpec := { name := "statParts", fn := fun _ => fun
  | [d1, d2, d3] => { results := [.lit (.bool false)], args := [d1, d2, d3] }
  | _ => none }
def StatPartsWrongFalsely : Prop := statPartsRow.holds Tryz.pinned (OpenSpec.ofChange statPartsWrong)

/-- 'taffraillaw28.StatWhole': WHATEVER THE INPUT: true; the input reads as it did. -/
def statWholeSpec : ChangeSpec := { name := "statWhole", fn := fun _ => fun
  | [d1, d2] => { results := [.lit (.bool true)], args := [d1, d2] }
  | _ => none }
def statWholeRow : OpenClaim := { program := "ytndjjndllfdklaagreatdoor", sum := "2b103640b68c56a881859e95300a21bdedb09c60d980eca1c5e0295324868ac9", func := "taffrail/taffraillaw28.StatWhole", spec := "statWhole", inPlace := ["slices.overlaps[taffrail/delta.clock]"], unfollowed := true, recurses := true, named := ["math/bits.deBruijn32tab"], apart := false, laid := [("math/bits.deBruijn32tab", laid_math_bits_deBruijn32tab)] }
def StatWholeSaid : Prop := statWholeRow.holds Tryz.pinned (OpenSpec.ofChange statWholeSpec)

/-- ITS FALSE NEIGHBOUR: 'it returns false'. Refute it at one input. -/
def statWholeWrong : ChangeSpec := { name := "statWhole", fn := fun _ => fun
  | [d1, d2] => { results := [.lit (.bool false)], args := [d1, d2] }
  | _ => none }
def StatWholeWrongFalsely : Prop := statWholeRow.holds Tryz.pinned (OpenSpec.ofChange statWholeWrong)

/-- 'taffraillaw28.StatRan': WHATEVER THE INPUT: true; the input reads as it did. -/
def statRanSpec : ChangeSpec := { name := "statRan", fn := fun _ => fun
  | [d1, d2] => { results := [.lit (.bool true)], args := [d1, d2] }
  | _ => none }
def statRanRow : OpenClaim := { program := "ytndjjndllfdklaagreatdoor", sum := "2b103640b68c56a881859e95300a21bdedb09c60d980eca1c5e0295324868ac9", func := "taffrail/taffraillaw28.StatRan", spec := "statRan", inPlace := ["slices.overlaps[taffrail/delta.clock]"], unfollowed := true, recurses := true, named := ["math/bits.deBruijn32tab"], apart := false, laid := [("math/bits.deBruijn32tab", laid_math_bits_deBruijn32tab)] }
def StatRanSaid : Prop := statRanRow.holds Tryz.pinned (OpenSpec.ofChange statRanSpec)

/-- ITS FALSE NEIGHBOUR: 'it returns false'. Refute it at one input. -/
def statRanWrong : ChangeSpec := { name := "statRan", fn := fun _ => fun
  | [d1, d2] => { results := [.lit (.bool false)], args := [d1, d2] }
  | _ => none }
def StatRanWrongFalsely : Prop := statRanRow.holds Tryz.pinned (OpenSpec.ofChange statRanWrong)

/-- 'taffraillaw28.StatSpreads': WHATEVER THE INPUT: true; the input reads as it did. -/
def statSpreadsSpec : ChangeSpec := { name := "statSpreads", fn := fun _ => fun
  | [d1, d2, d3] => { results := [.lit (.bool true)], args := [d1, d2, d3] }
  | _ => none }
def statSpreadsRow : OpenClaim := { program := "ytndjjndllfdklaagreatdoor", sum := "2b103640b68c56a881859e95300a21bdedb09c60d980eca1c5e0295324868ac9", func := "taffrail/taffraillaw28.StatSpreads", spec := "statSpreads", inPlace := ["slices.overlaps[taffrail/delta.clock]", "math/bits.Add64"], unfollowed := true, recurses := true, named := ["math/bits.deBruijn32tab"], apart := false, laid := [("math/bits.deBruijn32tab", laid_math_bits_deBruijn32tab)] }
def StatSpreadsSaid : Prop := statSpreadsRow.holds Tryz.pinned (OpenSpec.ofChange statSpreadsSpec)

/-- ITS FALSE NEIGHBOUR: 'it returns false'. Refute it at one input. -/
def statSpreadsWrong : ChangeSpec := { name := "statSpreads", fn := fun _ => fun
  | [d1, d2, d3] => { results := [.lit (.bool false)], args := [d1, d2, d3] }
  | _ => none }
def StatSpreadsWrongFalsely : Prop := statSpreadsRow.holds Tryz.pinned (OpenSpec.ofChange statSpreadsWrong)

/- THE SECOND FORM. 'bulk': how many values and letters a reading holds, each counted each time it is reached (what is shared counts as often as it is met; a slice's spare places count too). A statement '..UptoSaid' is the law's where the arguments, and the package variables that the reading takes, are together of bulk at most 1048576: NARROWER than '..Said'. Prove '..Said' where nothing that the law and all that it calls make is longer than what came in: it says more and counts as full. Else prove '..UptoSaid'. A law counts once. -/
mutual
def uptoBulk {H : Type} : DataW H → Nat
  | .lit (.string bytes) => bytes.length + 1
  | .lit _ => 1
  | .nil => 1
  | .ptr d => uptoBulk d + 1
  | .slice elems spare => uptoBulkAll elems + uptoBulkAll spare + 1
  | .agg parts => uptoBulkAll parts + 1
  | .iface _ d => uptoBulk d + 1
  | .map entries => uptoBulkEntries entries + 1
  | .held _ => 1
def uptoBulkAll {H : Type} : List (DataW H) → Nat
  | [] => 0
  | d :: r => uptoBulk d + uptoBulkAll r
def uptoBulkEntries {H : Type} : List (Lit × DataW H) → Nat
  | [] => 0
  | x :: r => uptoBulkEntry x + uptoBulkEntries r
def uptoBulkEntry {H : Type} : Lit × DataW H → Nat
  | (.string bytes, d) => bytes.length + uptoBulk d + 1
  | (_, d) => uptoBulk d + 1
 end
def uptoSmall : (H : Type) → List (DataW H) → Bool := fun _ ds => decide (uptoBulkAll ds ≤ 1048576)
def OpenSpec.upto (s : _root_.Go.ChangeSpec) : _root_.Go.OpenSpec := { _root_.Go.OpenSpec.ofChange s with cond := some uptoSmall }

/-- 'taffraillaw21.KernSteps', WHERE WHAT IT READS IS OF BULK AT MOST 1048576: true; the input reads as it did. -/
def kernStepsUptoRow : OpenClaim := { program := "ytndjjndllfdklaagreatdoor", sum := "2b103640b68c56a881859e95300a21bdedb09c60d980eca1c5e0295324868ac9", func := "taffrail/taffraillaw21.KernSteps", spec := "kernSteps", inPlace := ["slices.overlaps[taffrail/delta.clock]"], unfollowed := true, recurses := true, named := ["math/bits.deBruijn32tab"], apart := false, laid := [("math/bits.deBruijn32tab", laid_math_bits_deBruijn32tab)], narrowed := true }
def KernStepsUptoSaid : Prop := kernStepsUptoRow.holds Tryz.pinned (OpenSpec.upto kernStepsSpec)

/-- 'taffraillaw21.KernParts', WHERE WHAT IT READS IS OF BULK AT MOST 1048576: true; the input reads as it did. -/
def kernPartsUptoRow : OpenClaim := { program := "ytndjjndllfdklaagreatdoor", sum := "2b103640b68c56a881859e95300a21bdedb09c60d980eca1c5e0295324868ac9", func := "taffrail/taffraillaw21.KernParts", spec := "kernParts", inPlace := ["slices.overlaps[taffrail/delta.clock]"], unfollowed := true, recurses := true, named := ["math/bits.deBruijn32tab"], apart := false, laid := [("math/bits.deBruijn32tab", laid_math_bits_deBruijn32tab)], narrowed := true }
def KernPartsUptoSaid : Prop := kernPartsUptoRow.holds Tryz.pinned (OpenSpec.upto kernPartsSpec)

/-- 'taffraillaw22.WorldRuns', WHERE WHAT IT READS IS OF BULK AT MOST 1048576: true; the input reads as it did. -/
def worldRunsUptoRow : OpenClaim := { program := "ytndjjndllfdklaagreatdoor", sum := "2b103640b68c56a881859e95300a21bdedb09c60d980eca1c5e0295324868ac9", func := "taffrail/taffraillaw22.WorldRuns", spec := "worldRuns", inPlace := ["slices.overlaps[taffrail/delta.clock]"], unfollowed := true, recurses := true, named := ["math/bits.deBruijn32tab"], apart := false, laid := [("math/bits.deBruijn32tab", laid_math_bits_deBruijn32tab)], narrowed := true }
def WorldRunsUptoSaid : Prop := worldRunsUptoRow.holds Tryz.pinned (OpenSpec.upto worldRunsSpec)

/-- 'taffraillaw26.AuditAccepts', WHERE WHAT IT READS IS OF BULK AT MOST 1048576: true; the input reads as it did. -/
def auditAcceptsUptoRow : OpenClaim := { program := "ytndjjndllfdklaagreatdoor", sum := "2b103640b68c56a881859e95300a21bdedb09c60d980eca1c5e0295324868ac9", func := "taffrail/taffraillaw26.AuditAccepts", spec := "auditAccepts", inPlace := ["slices.overlaps[taffrail/delta.clock]"], unfollowed := true, recurses := true, named := ["math/bits.deBruijn32tab"], apart := false, laid := [("math/bits.deBruijn32tab", laid_math_bits_deBruijn32tab)], narrowed := true }
def AuditAcceptsUptoSaid : Prop := auditAcceptsUptoRow.holds Tryz.pinned (OpenSpec.upto auditAcceptsSpec)

/-- 'taffraillaw28.StatJobs', WHERE WHAT IT READS IS OF BULK AT MOST 1048576: true; the input reads as it did. -/
def statJobsUptoRow : OpenClaim := { program := "ytndjjndllfdklaagreatdoor", sum := "2b103640b68c56a881859e95300a21bdedb09c60d980eca1c5e0295324868ac9", func := "taffrail/taffraillaw28.StatJobs", spec := "statJobs", inPlace := ["slices.overlaps[taffrail/delta.clock]"], unfollowed := true, recurses := true, named := ["math/bits.deBruijn32tab"], apart := false, laid := [("math/bits.deBruijn32tab", laid_math_bits_deBruijn32tab)], narrowed := true }
def StatJobsUptoSaid : Prop := statJobsUptoRow.holds Tryz.pinned (OpenSpec.upto statJobsSpec)

/-- 'taffraillaw28.StatBound', WHERE WHAT IT READS IS OF BULK AT MOST 1048576: true; the input reads as it did. -/
def statBoundUptoRow : OpenClaim := { program := "ytndjjndllfdklaagreatdoor", sum := "2b103640b68c56a881859e95300a21bdedb09c60d980eca1c5e0295324868ac9", func := "taffrail/taffraillaw28.StatBound", spec := "statBound", inPlace := ["slices.overlaps[taffrail/delta.clock]"], unfollowed := true, recurses := true, named := ["math/bits.deBruijn32tab"], apart := false, laid := [("math/bits.deBruijn32tab", laid_math_bits_deBruijn32tab)], narrowed := true }
def StatBoundUptoSaid : Prop := statBoundUptoRow.holds Tryz.pinned (OpenSpec.upto statBoundSpec)

/-- 'taffraillaw28.StatParts', WHERE WHAT IT READS IS OF BULK AT MOST 1048576: true; the input reads as it did. -/
def statPartsUptoRow : OpenClaim := { program := "ytndjjndllfdklaagreatdoor", sum := "2b103640b68c56a881859e95300a21bdedb09c60d980eca1c5e0295324868ac9", func := "taffrail/taffraillaw28.StatParts", spec := "statParts", inPlace := ["slices.overlaps[taffrail/delta.clock]"], unfollowed := true, recurses := true, named := ["math/bits.deBruijn32tab"], apart := false, laid := [("math/bits.deBruijn32tab", laid_math_bits_deBruijn32tab)], narrowed := true }
def StatPartsUptoSaid : Prop := statPartsUptoRow.holds Tryz.pinned (OpenSpec.upto statPartsSpec)

/-- 'taffraillaw28.StatWhole', WHERE WHAT IT READS IS OF BULK AT MOST 1048576: true; the input reads as it did. -/
def statWholeUptoRow : OpenClaim := { program := "ytndjjndllfdklaagreatdoor", sum := "2b103640b68c56a881859e95300a21bdedb09c60d980eca1c5e0295324868ac9", func := "taffrail/taffraillaw28.StatWhole", spec := "statWhole", inPlace := ["slices.overlaps[taffrail/delta.clock]"], unfollowed := true, recurses := true, named := ["math/bits.deBruijn32tab"], apart := false, laid := [("math/bits.deBruijn32tab", laid_math_bits_deBruijn32tab)], narrowed := true }
def StatWholeUptoSaid : Prop := statWholeUptoRow.holds Tryz.pinned (OpenSpec.upto statWholeSpec)

/-- 'taffraillaw28.StatRan', WHERE WHAT IT READS IS OF BULK AT MOST 1048576: true; the input reads as it did. -/
def statRanUptoRow : OpenClaim := { program := "ytndjjndllfdklaagreatdoor", sum := "2b103640b68c56a881859e95300a21bdedb09c60d980eca1c5e0295324868ac9", func := "taffrail/taffraillaw28.StatRan", spec := "statRan", inPlace := ["slices.overlaps[taffrail/delta.clock]"], unfollowed := true, recurses := true, named := ["math/bits.deBruijn32tab"], apart := false, laid := [("math/bits.deBruijn32tab", laid_math_bits_deBruijn32tab)], narrowed := true }
def StatRanUptoSaid : Prop := statRanUptoRow.holds Tryz.pinned (OpenSpec.upto statRanSpec)

/-- 'taffraillaw28.StatSpreads', WHERE WHAT IT READS IS OF BULK AT MOST 1048576: true; the input reads as it did. -/
def statSpreadsUptoRow : OpenClaim := { program := "ytndjjndllfdklaagreatdoor", sum := "2b103640b68c56a881859e95300a21bdedb09c60d980eca1c5e0295324868ac9", func := "taffrail/taffraillaw28.StatSpreads", spec := "statSpreads", inPlace := ["slices.overlaps[taffrail/delta.clock]", "math/bits.Add64"], unfollowed := true, recurses := true, named := ["math/bits.deBruijn32tab"], apart := false, laid := [("math/bits.deBruijn32tab", laid_math_bits_deBruijn32tab)], narrowed := true }
def StatSpreadsUptoSaid : Prop := statSpreadsUptoRow.holds Tryz.pinned (OpenSpec.upto statSpreadsSpec)

end Rows
end Go.Proofs.YtndjjndllfdklaaGreatDoor
