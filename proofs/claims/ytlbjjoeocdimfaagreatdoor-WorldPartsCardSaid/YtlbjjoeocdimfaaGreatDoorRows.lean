/-
  NARROWER THAN 'FOR EVERY INPUT', by the rows' own cells (each row's printed sentence says how): KernSteps: laid · KernParts: laid · WorldLater: laid · WorldTape: laid · WorldParts: laid · WorldChecks: laid · WorldRuns: laid · WorldNil: laid · AuditAccepts: laid.
  DERIVED. THE GIVEN ROWS OF THIS SEAT. 9 by the template 'for every input the law returns true; each argument reads behind the call as it read before'; 0 by the template 'total and deterministic' (their statements: YtlbjjoeocdimfaaGreatDoorTotals.lean).
  GIVEN WITH THE SEED: the statements are not yours to turn. If you find one false, say at which input.
  Laid BY PROGRAM, IN A SANDBOX (cutbox-rows.mjs): the forced cells as the released guide's own fill.sh prints them over the translation 065f3ea05714e73d… (all of the seat's roots in one cut). By AI agents, Wed Nov 11 2026. No macro, syntax, notation, axiom, sorry.
-/
import Derived.Test.YtlbjjoeocdimfaaGreatDoorChecked
import GoSem.Claim
import GoSem.ClaimJoined
import GoSem.ClaimMapViews
import Derived.JoinedTies
import Derived.KernelRfl
namespace Go.Proofs.YtlbjjoeocdimfaaGreatDoor
/- THE CELL 'sum', in the pinned program and in every row, IS THE sha256 OF THE DUMP (.gsa) THAT YtlbjjoeocdimfaaGreatDoorProg.lean LOADS. Nothing in Lean hashes anything: it is a label: what it is worth is what the hold of that sum in a sandbox is worth. -/
noncomputable def Tryz.pinned : Pinned := { name := "ytlbjjoeocdimfaagreatdoor", sum := "065f3ea05714e73d098a08d196cd7bc5f57b5a57c8a2d21b574b552cc39f28ea", checked := Tryz.checked }
namespace Rows
def none {H : Type} : Left H := { results := [], args := [] }

/- WHAT THE LISTED PACKAGE-LEVEL VARIABLES READ AS WHEN THE CALL BEGINS. Each datum BY PROGRAM (the guide's laid-datum.mjs) off the statement by which the dump's own 'gosem.cut.vars' lays the variable. In a bare row this is a premise. The card (YtlbjjoeocdimfaaGreatDoorCards.lean) ties it to the program's text. -/
def laid_math_bits_deBruijn32tab {H : Type} : DataW H := .agg [.lit (.int .u8 0), .lit (.int .u8 1), .lit (.int .u8 28), .lit (.int .u8 2), .lit (.int .u8 29), .lit (.int .u8 14), .lit (.int .u8 24), .lit (.int .u8 3), .lit (.int .u8 30), .lit (.int .u8 22), .lit (.int .u8 20), .lit (.int .u8 15), .lit (.int .u8 25), .lit (.int .u8 17), .lit (.int .u8 4), .lit (.int .u8 8), .lit (.int .u8 31), .lit (.int .u8 27), .lit (.int .u8 13), .lit (.int .u8 23), .lit (.int .u8 21), .lit (.int .u8 19), .lit (.int .u8 16), .lit (.int .u8 7), .lit (.int .u8 26), .lit (.int .u8 12), .lit (.int .u8 18), .lit (.int .u8 6), .lit (.int .u8 11), .lit (.int .u8 5), .lit (.int .u8 10), .lit (.int .u8 9)]

/-- 'taffraillaw21.KernSteps': WHATEVER THE INPUT: true; the input reads as it did. -/
def kernStepsSpec : ChangeSpec := { name := "kernSteps", fn := fun _ => fun
  | [d1, d2] => { results := [.lit (.bool true)], args := [d1, d2] }
  | _ => none }
def kernStepsRow : OpenClaim := { program := "ytlbjjoeocdimfaagreatdoor", sum := "065f3ea05714e73d098a08d196cd7bc5f57b5a57c8a2d21b574b552cc39f28ea", func := "taffrail/taffraillaw21.KernSteps", spec := "kernSteps", inPlace := ["slices.overlaps[taffrail/delta.clock]"], unfollowed := true, recurses := true, named := ["math/bits.deBruijn32tab"], apart := false, laid := [("math/bits.deBruijn32tab", laid_math_bits_deBruijn32tab)] }
def KernStepsSaid : Prop := kernStepsRow.holds Tryz.pinned (OpenSpec.ofChange kernStepsSpec)

/-- ITS FALSE NEIGHBOUR: 'it returns false'. Refute it at one input. -/
def kernStepsWrong : ChangeSpec := { name := "kernSteps", fn := fun _ => fun
  | [d1, d2] => { results := [.lit (.bool false)], args := [d1, d2] }
  | _ => none }
def KernStepsWrongFalsely : Prop := kernStepsRow.holds Tryz.pinned (OpenSpec.ofChange kernStepsWrong)

/-- 'taffraillaw21.KernParts': WHATEVER THE INPUT: true; the input reads as it did. -/
def kernPartsSpec : ChangeSpec := { name := "kernParts", fn := fun _ => fun
  | [d1, d2, d3] => { results := [.lit (.bool true)], args := [d1, d2, d3] }
  | _ => none }
def kernPartsRow : OpenClaim := { program := "ytlbjjoeocdimfaagreatdoor", sum := "065f3ea05714e73d098a08d196cd7bc5f57b5a57c8a2d21b574b552cc39f28ea", func := "taffrail/taffraillaw21.KernParts", spec := "kernParts", inPlace := ["slices.overlaps[taffrail/delta.clock]"], unfollowed := true, recurses := true, named := ["math/bits.deBruijn32tab"], apart := false, laid := [("math/bits.deBruijn32tab", laid_math_bits_deBruijn32tab)] }
def KernPartsSaid : Prop := kernPartsRow.holds Tryz.pinned (OpenSpec.ofChange kernPartsSpec)

/-- ITS FALSE NEIGHBOUR: 'it returns false'. Refute it at one input. -/
def kernPartsWrong : ChangeSpec := { name := "kernParts", fn := fun _ => fun
  | [d1, d2, d3] => { results := [.lit (.bool false)], args := [d1, d2, d3] }
  | _ => none }
def KernPartsWrongFalsely : Prop := kernPartsRow.holds Tryz.pinned (OpenSpec.ofChange kernPartsWrong)

/-- 'taffraillaw22.WorldLater': WHATEVER THE INPUT: true; the input reads as it did. -/
def worldLaterSpec : ChangeSpec := { name := "worldLater", fn := fun _ => fun
  | [d1, d2, d3] => { results := [.lit (.bool true)], args := [d1, d2, d3] }
  | _ => none }
def worldLaterRow : OpenClaim := { program := "ytlbjjoeocdimfaagreatdoor", sum := "065f3ea05714e73d098a08d196cd7bc5f57b5a57c8a2d21b574b552cc39f28ea", func := "taffrail/taffraillaw22.WorldLater", spec := "worldLater", inPlace := ["slices.overlaps[taffrail/delta.clock]"], unfollowed := true, recurses := true, named := ["math/bits.deBruijn32tab"], apart := false, laid := [("math/bits.deBruijn32tab", laid_math_bits_deBruijn32tab)] }
def WorldLaterSaid : Prop := worldLaterRow.holds Tryz.pinned (OpenSpec.ofChange worldLaterSpec)

/-- ITS FALSE NEIGHBOUR: 'it returns false'. Refute it at one input. -/
def worldLaterWrong : ChangeSpec := { name := "worldLater", fn := fun _ => fun
  | [d1, d2, d3] => { results := [.lit (.bool false)], args := [d1, d2, d3] }
  | _ => none }
def WorldLaterWrongFalsely : Prop := worldLaterRow.holds Tryz.pinned (OpenSpec.ofChange worldLaterWrong)

/-- 'taffraillaw22.WorldTape': WHATEVER THE INPUT: true; the input reads as it did. -/
def worldTapeSpec : ChangeSpec := { name := "worldTape", fn := fun _ => fun
  | [d1, d2] => { results := [.lit (.bool true)], args := [d1, d2] }
  | _ => none }
def worldTapeRow : OpenClaim := { program := "ytlbjjoeocdimfaagreatdoor", sum := "065f3ea05714e73d098a08d196cd7bc5f57b5a57c8a2d21b574b552cc39f28ea", func := "taffrail/taffraillaw22.WorldTape", spec := "worldTape", inPlace := ["slices.overlaps[taffrail/delta.clock]"], unfollowed := true, recurses := true, named := ["math/bits.deBruijn32tab"], apart := false, laid := [("math/bits.deBruijn32tab", laid_math_bits_deBruijn32tab)] }
def WorldTapeSaid : Prop := worldTapeRow.holds Tryz.pinned (OpenSpec.ofChange worldTapeSpec)

/-- ITS FALSE NEIGHBOUR: 'it returns false'. Refute it at one input. -/
def worldTapeWrong : ChangeSpec := { name := "worldTape", fn := fun _ => fun
  | [d1, d2] => { results := [.lit (.bool false)], args := [d1, d2] }
  | _ => none }
def WorldTapeWrongFalsely : Prop := worldTapeRow.holds Tryz.pinned (OpenSpec.ofChange worldTapeWrong)

/-- 'taffraillaw22.WorldParts': WHATEVER THE INPUT: true; the input reads as it did. -/
def worldPartsSpec : ChangeSpec := { name := "worldParts", fn := fun _ => fun
  | [d1, d2, d3] => { results := [.lit (.bool true)], args := [d1, d2, d3] }
  | _ => none }
def worldPartsRow : OpenClaim := { program := "ytlbjjoeocdimfaagreatdoor", sum := "065f3ea05714e73d098a08d196cd7bc5f57b5a57c8a2d21b574b552cc39f28ea", func := "taffrail/taffraillaw22.WorldParts", spec := "worldParts", inPlace := ["slices.overlaps[taffrail/delta.clock]"], unfollowed := true, recurses := true, named := ["math/bits.deBruijn32tab"], apart := false, laid := [("math/bits.deBruijn32tab", laid_math_bits_deBruijn32tab)] }
def WorldPartsSaid : Prop := worldPartsRow.holds Tryz.pinned (OpenSpec.ofChange worldPartsSpec)

/-- ITS FALSE NEIGHBOUR: 'it returns false'. Refute it at one input. -/
def worldPartsWrong : ChangeSpec := { name := "worldParts", fn := fun _ => fun
  | [d1, d2, d3] => { results := [.lit (.bool false)], args := [d1, d2, d3] }
  | _ => none }
def WorldPartsWrongFalsely : Prop := worldPartsRow.holds Tryz.pinned (OpenSpec.ofChange worldPartsWrong)

/-- 'taffraillaw22.WorldChecks': WHATEVER THE INPUT: true; the input reads as it did. -/
def worldChecksSpec : ChangeSpec := { name := "worldChecks", fn := fun _ => fun
  | [d1, d2] => { results := [.lit (.bool true)], args := [d1, d2] }
  | _ => none }
def worldChecksRow : OpenClaim := { program := "ytlbjjoeocdimfaagreatdoor", sum := "065f3ea05714e73d098a08d196cd7bc5f57b5a57c8a2d21b574b552cc39f28ea", func := "taffrail/taffraillaw22.WorldChecks", spec := "worldChecks", inPlace := ["slices.overlaps[taffrail/delta.clock]"], unfollowed := true, recurses := true, named := ["math/bits.deBruijn32tab"], apart := false, laid := [("math/bits.deBruijn32tab", laid_math_bits_deBruijn32tab)] }
def WorldChecksSaid : Prop := worldChecksRow.holds Tryz.pinned (OpenSpec.ofChange worldChecksSpec)

/-- ITS FALSE NEIGHBOUR: 'it returns false'. Refute it at one input. -/
def worldChecksWrong : ChangeSpec := { name := "worldChecks", fn := fun _ => fun
  | [d1, d2] => { results := [.lit (.bool false)], args := [d1, d2] }
  | _ => none }
def WorldChecksWrongFalsely : Prop := worldChecksRow.holds Tryz.pinned (OpenSpec.ofChange worldChecksWrong)

/-- 'taffraillaw22.WorldRuns': WHATEVER THE INPUT: true; the input reads as it did. -/
def worldRunsSpec : ChangeSpec := { name := "worldRuns", fn := fun _ => fun
  | [d1, d2, d3] => { results := [.lit (.bool true)], args := [d1, d2, d3] }
  | _ => none }
def worldRunsRow : OpenClaim := { program := "ytlbjjoeocdimfaagreatdoor", sum := "065f3ea05714e73d098a08d196cd7bc5f57b5a57c8a2d21b574b552cc39f28ea", func := "taffrail/taffraillaw22.WorldRuns", spec := "worldRuns", inPlace := ["slices.overlaps[taffrail/delta.clock]"], unfollowed := true, recurses := true, named := ["math/bits.deBruijn32tab"], apart := false, laid := [("math/bits.deBruijn32tab", laid_math_bits_deBruijn32tab)] }
def WorldRunsSaid : Prop := worldRunsRow.holds Tryz.pinned (OpenSpec.ofChange worldRunsSpec)

/-- ITS FALSE NEIGHBOUR: 'it returns false'. Refute it at one input. -/
def worldRunsWrong : ChangeSpec := { name := "worldRuns", fn := fun _ => fun
  | [d1, d2, d3] => { results := [.lit (.bool false)], args := [d1, d2, d3] }
  | _ => none }
def WorldRunsWrongFalsely : Prop := worldRunsRow.holds Tryz.pinned (OpenSpec.ofChange worldRunsWrong)

/-- 'taffraillaw22.WorldNil': WHATEVER THE INPUT: true; the input reads as it did. -/
def worldNilSpec : ChangeSpec := { name := "worldNil", fn := fun _ => fun
  | [d] => { results := [.lit (.bool true)], args := [d] }
  | _ => none }
def worldNilRow : OpenClaim := { program := "ytlbjjoeocdimfaagreatdoor", sum := "065f3ea05714e73d098a08d196cd7bc5f57b5a57c8a2d21b574b552cc39f28ea", func := "taffrail/taffraillaw22.WorldNil", spec := "worldNil", inPlace := ["slices.overlaps[taffrail/delta.clock]"], unfollowed := true, recurses := true, named := ["math/bits.deBruijn32tab"], apart := false, laid := [("math/bits.deBruijn32tab", laid_math_bits_deBruijn32tab)] }
def WorldNilSaid : Prop := worldNilRow.holds Tryz.pinned (OpenSpec.ofChange worldNilSpec)

/-- ITS FALSE NEIGHBOUR: 'it returns false'. Refute it at one input. -/
def worldNilWrong : ChangeSpec := { name := "worldNil", fn := fun _ => fun
  | [d] => { results := [.lit (.bool false)], args := [d] }
  | _ => none }
def WorldNilWrongFalsely : Prop := worldNilRow.holds Tryz.pinned (OpenSpec.ofChange worldNilWrong)

/-- 'taffraillaw26.AuditAccepts': WHATEVER THE INPUT: true; the input reads as it did. -/
def auditAcceptsSpec : ChangeSpec := { name := "auditAccepts", fn := fun _ => fun
  | [d1, d2] => { results := [.lit (.bool true)], args := [d1, d2] }
  | _ => none }
def auditAcceptsRow : OpenClaim := { program := "ytlbjjoeocdimfaagreatdoor", sum := "065f3ea05714e73d098a08d196cd7bc5f57b5a57c8a2d21b574b552cc39f28ea", func := "taffrail/taffraillaw26.AuditAccepts", spec := "auditAccepts", inPlace := ["slices.overlaps[taffrail/delta.clock]"], unfollowed := true, recurses := true, named := ["math/bits.deBruijn32tab"], apart := false, laid := [("math/bits.deBruijn32tab", laid_math_bits_deBruijn32tab)] }
def AuditAcceptsSaid : Prop := auditAcceptsRow.holds Tryz.pinned (OpenSpec.ofChange auditAcceptsSpec)

/-- ITS FALSE NEIGHBOUR: 'it returns false'. Refute it at one input. -/
def auditAcceptsWrong : ChangeSpec := { name := "auditAccepts", fn := fun _ => fun
  | [d1, d2] => { results := [.lit (.bool false)], args := [d1, d2] }
  | _ => none }
def AuditAcceptsWrongFalsely : Prop := auditAcceptsRow.holds Tryz.pinned (OpenSpec.ofChange auditAcceptsWrong)

/- THE SECOND FORM. 'bulk': how many values and letters a reading holds, each counted each time it is reached (what is shared counts as often as it is met; a slice's spare places count too). A statement '..UptoSaid' is the law's where the arguments, and the package variables that the reading takes, are together of bulk at most 1048576: NARROWER than '..Said'. Prove '..Said' where nothing that the law and all that it calls make is longer than what came in: it says more and counts as full. Else prove '..UptoSaid'. A law counts once. -/
mutual
def uptoBulk {H : Type} : DataW H → Nat
  | .lit (.string bytes) => bytes.length + 1
  | .lit _ => 1
  | .nil => 1
  | .ptr d => uptoBulk d + 1
  | .slice elems spare => uptoBulkAll elems + uptoBulkAll spare + 1
  | .agg parts => uptoBulkAll parts + 1
  | .iface _ d => uptoBulk d + 1
  | .map entries => uptoBulkEntries entries + 1
  | .held _ => 1
def uptoBulkAll {H : Type} : List (DataW H) → Nat
  | [] => 0
  | d :: r => uptoBulk d + uptoBulkAll r
def uptoBulkEntries {H : Type} : List (Lit × DataW H) → Nat
  | [] => 0
  | x :: r => uptoBulkEntry x + uptoBulkEntries r
def uptoBulkEntry {H : Type} : Lit × DataW H → Nat
  | (.string bytes, d) => bytes.length + uptoBulk d + 1
  | (_, d) => uptoBulk d + 1
 end
def uptoSmall : (H : Type) → List (DataW H) → Bool := fun _ ds => decide (uptoBulkAll ds ≤ 1048576)
def OpenSpec.upto (s : _root_.Go.ChangeSpec) : _root_.Go.OpenSpec := { _root_.Go.OpenSpec.ofChange s with cond := some uptoSmall }

/-- 'taffraillaw21.KernSteps', WHERE WHAT IT READS IS OF BULK AT MOST 1048576: true; the input reads as it did. -/
def kernStepsUptoRow : OpenClaim := { program := "ytlbjjoeocdimfaagreatdoor", sum := "065f3ea05714e73d098a08d196cd7bc5f57b5a57c8a2d21b574b552cc39f28ea", func := "taffrail/taffraillaw21.KernSteps", spec := "kernSteps", inPlace := ["slices.overlaps[taffrail/delta.clock]"], unfollowed := true, recurses := true, named := ["math/bits.deBruijn32tab"], apart := false, laid := [("math/bits.deBruijn32tab", laid_math_bits_deBruijn32tab)], narrowed := true }
def KernStepsUptoSaid : Prop := kernStepsUptoRow.holds Tryz.pinned (OpenSpec.upto kernStepsSpec)

/-- 'taffraillaw21.KernParts', WHERE WHAT IT READS IS OF BULK AT MOST 1048576: true; the input reads as it did. -/
def kernPartsUptoRow : OpenClaim := { program := "ytlbjjoeocdimfaagreatdoor", sum := "065f3ea05714e73d098a08d196cd7bc5f57b5a57c8a2d21b574b552cc39f28ea", func := "taffrail/taffraillaw21.KernParts", spec := "kernParts", inPlace := ["slices.overlaps[taffrail/delta.clock]"], unfollowed := true, recurses := true, named := ["math/bits.deBruijn32tab"], apart := false, laid := [("math/bits.deBruijn32tab", laid_math_bits_deBruijn32tab)], narrowed := true }
def KernPartsUptoSaid : Prop := kernPartsUptoRow.holds Tryz.pinned (OpenSpec.upto kernPartsSpec)

/-- 'taffraillaw22.WorldLater', WHERE WHAT IT READS IS OF BULK AT MOST 1048576: true; the input reads as it did. -/
def worldLaterUptoRow : OpenClaim := { program := "ytlbjjoeocdimfaagreatdoor", sum := "065f3ea05714e73d098a08d196cd7bc5f57b5a57c8a2d21b574b552cc39f28ea", func := "taffrail/taffraillaw22.WorldLater", spec := "worldLater", inPlace := ["slices.overlaps[taffrail/delta.clock]"], unfollowed := true, recurses := true, named := ["math/bits.deBruijn32tab"], apart := false, laid := [("math/bits.deBruijn32tab", laid_math_bits_deBruijn32tab)], narrowed := true }
def WorldLaterUptoSaid : Prop := worldLaterUptoRow.holds Tryz.pinned (OpenSpec.upto worldLaterSpec)

/-- 'taffraillaw22.WorldTape', WHERE WHAT IT READS IS OF BULK AT MOST 1048576: true; the input reads as it did. -/
def worldTapeUptoRow : OpenClaim := { program := "ytlbjjoeocdimfaagreatdoor", sum := "065f3ea05714e73d098a08d196cd7bc5f57b5a57c8a2d21b574b552cc39f28ea", func := "taffrail/taffraillaw22.WorldTape", spec := "worldTape", inPlace := ["slices.overlaps[taffrail/delta.clock]"], unfollowed := true, recurses := true, named := ["math/bits.deBruijn32tab"], apart := false, laid := [("math/bits.deBruijn32tab", laid_math_bits_deBruijn32tab)], narrowed := true }
def WorldTapeUptoSaid : Prop := worldTapeUptoRow.holds Tryz.pinned (OpenSpec.upto worldTapeSpec)

/-- 'taffraillaw22.WorldParts', WHERE WHAT IT READS IS OF BULK AT MOST 1048576: true; the input reads as it did. -/
def worldPartsUptoRow : OpenClaim := { program := "ytlbjjoeocdimfaagreatdoor", sum := "065f3ea05714e73d098a08d196cd7bc5f57b5a57c8a2d21b574b552cc39f28ea", func := "taffrail/taffraillaw22.WorldParts", spec := "worldParts", inPlace := ["slices.overlaps[taffrail/delta.clock]"], unfollowed := true, recurses := true, named := ["math/bits.deBruijn32tab"], apart := false, laid := [("math/bits.deBruijn32tab", laid_math_bits_deBruijn32tab)], narrowed := true }
def WorldPartsUptoSaid : Prop := worldPartsUptoRow.holds Tryz.pinned (OpenSpec.upto worldPartsSpec)

/-- 'taffraillaw22.WorldChecks', WHERE WHAT IT READS IS OF BULK AT MOST 1048576: true; the input reads as it did. -/
def worldChecksUptoRow : OpenClaim := { program := "ytlbjjoeocdimfaagreatdoor", sum := "065f3ea05714e73d098a08d196cd7bc5f57b5a57c8a2d21b574b552cc39f28ea", func := "taffrail/taffraillaw22.WorldChecks", spec := "worldChecks", inPlace := ["slices.overlaps[taffrail/delta.clock]"], unfollowed := true, recurses := true, named := ["math/bits.deBruijn32tab"], apart := false, laid := [("math/bits.deBruijn32tab", laid_math_bits_deBruijn32tab)], narrowed := true }
def WorldChecksUptoSaid : Prop := worldChecksUptoRow.holds Tryz.pinned (OpenSpec.upto worldChecksSpec)

/-- 'taffraillaw22.WorldRuns', WHERE WHAT IT READS IS OF BULK AT MOST 1048576: true; the input reads as it did. -/
def worldRunsUptoRow : OpenClaim := { program := "ytlbjjoeocdimfaagreatdoor", sum := "065f3ea05714e73d098a08d196cd7bc5f57b5a57c8a2d21b574b552cc39f28ea", func := "taffrail/taffraillaw22.WorldRuns", spec := "worldRuns", inPlace := ["slices.overlaps[taffrail/delta.clock]"], unfollowed := true, recurses := true, named := ["math/bits.deBruijn32tab"], apart := false, laid := [("math/bits.deBruijn32tab", laid_math_bits_deBruijn32tab)], narrowed := true }
def WorldRunsUptoSaid : Prop := worldRunsUptoRow.holds Tryz.pinned (OpenSpec.upto worldRunsSpec)

/-- 'taffraillaw22.WorldNil', WHERE WHAT IT READS IS OF BULK AT MOST 1048576: true; the input reads as it did. -/
def worldNilUptoRow : OpenClaim := { program := "ytlbjjoeocdimfaagreatdoor", sum := "065f3ea05714e73d098a08d196cd7bc5f57b5a57c8a2d21b574b552cc39f28ea", func := "taffrail/taffraillaw22.WorldNil", spec := "worldNil", inPlace := ["slices.overlaps[taffrail/delta.clock]"], unfollowed := true, recurses := true, named := ["math/bits.deBruijn32tab"], apart := false, laid := [("math/bits.deBruijn32tab", laid_math_bits_deBruijn32tab)], narrowed := true }
def WorldNilUptoSaid : Prop := worldNilUptoRow.holds Tryz.pinned (OpenSpec.upto worldNilSpec)

/-- 'taffraillaw26.AuditAccepts', WHERE WHAT IT READS IS OF BULK AT MOST 1048576: true; the input reads as it did. -/
def auditAcceptsUptoRow : OpenClaim := { program := "ytlbjjoeocdimfaagreatdoor", sum := "065f3ea05714e73d098a08d196cd7bc5f57b5a57c8a2d21b574b552cc39f28ea", func := "taffrail/taffraillaw26.AuditAccepts", spec := "auditAccepts", inPlace := ["slices.overlaps[taffrail/delta.clock]"], unfollowed := true, recurses := true, named := ["math/bits.deBruijn32tab"], apart := false, laid := [("math/bits.deBruijn32tab", laid_math_bits_deBruijn32tab)], narrowed := true }
def AuditAcceptsUptoSaid : Prop := auditAcceptsUptoRow.holds Tryz.pinned (OpenSpec.upto auditAcceptsSpec)

end Rows
end Go.Proofs.YtlbjjoeocdimfaaGreatDoor
