/-
  No cell of these rows narrows 'for every input' (looked for: loops, veiled, ifaces, maps, wideKeys, modest, calm, conditions, laid).
  DERIVED. THE GIVEN ROWS OF THIS SEAT. 17 by the template 'for every input the law returns true; each argument reads behind the call as it read before'; 0 by the template 'total and deterministic' (their statements: YtfphgcplpokigaaTotals.lean).
  GIVEN WITH THE SEED: the statements are not yours to turn. If you find one false, say at which input.
  Laid BY PROGRAM, IN A SANDBOX (cutbox-rows.mjs): the forced cells as the released guide's own fill.sh prints them over the translation 5561e97d8f785993… (all of the seat's roots in one cut). By AI agents, Wed Nov 11 2026. No macro, syntax, notation, axiom, sorry.
-/
import Derived.Test.YtfphgcplpokigaaChecked
import GoSem.Claim
import GoSem.ClaimJoined
import GoSem.ClaimMapViews
import Derived.JoinedTies
import Derived.KernelRfl
namespace Go.Proofs.Ytfphgcplpokigaa
/- THE CELL 'sum', in the pinned program and in every row, IS THE sha256 OF THE DUMP (.gsa) THAT YtfphgcplpokigaaProg.lean LOADS. Nothing in Lean hashes anything: it is a label: what it is worth is what the hold of that sum in a sandbox is worth. -/
noncomputable def Try.pinned : Pinned := { name := "ytfphgcplpokigaa", sum := "5561e97d8f78599311a227626ad722d41821d65d4dc97f94ba593c3cedd87568", checked := Try.checked }
namespace Rows
def none {H : Type} : Left H := { results := [], args := [] }

/-- 'taffraillaw15.DeltaOver': WHATEVER THE INPUT: true; the input reads as it did. -/
def deltaOverSpec : ChangeSpec := { name := "deltaOver", fn := fun _ => fun
  | [d] => { results := [.lit (.bool true)], args := [d] }
  | _ => none }
def deltaOverRow : OpenClaim := { program := "ytfphgcplpokigaa", sum := "5561e97d8f78599311a227626ad722d41821d65d4dc97f94ba593c3cedd87568", func := "taffrail/taffraillaw15.DeltaOver", spec := "deltaOver", inPlace := ["slices.overlaps[taffrail/delta.clock]"], apart := false }
def DeltaOverSaid : Prop := deltaOverRow.holds Try.pinned (OpenSpec.ofChange deltaOverSpec)

/-- ITS FALSE NEIGHBOUR: 'it returns false'. Refute it at one input. -/
def deltaOverWrong : ChangeSpec := { name := "deltaOver", fn := fun _ => fun
  | [d] => { results := [.lit (.bool false)], args := [d] }
  | _ => none }
def DeltaOverWrongFalsely : Prop := deltaOverRow.holds Try.pinned (OpenSpec.ofChange deltaOverWrong)

/-- 'taffraillaw17.LockEnds': WHATEVER THE INPUT: true; the input reads as it did. -/
def lockEndsSpec : ChangeSpec := { name := "lockEnds", fn := fun _ => fun
  | [d1, d2, d3] => { results := [.lit (.bool true)], args := [d1, d2, d3] }
  | _ => none }
def lockEndsRow : OpenClaim := { program := "ytfphgcplpokigaa", sum := "5561e97d8f78599311a227626ad722d41821d65d4dc97f94ba593c3cedd87568", func := "taffrail/taffraillaw17.LockEnds", spec := "lockEnds", apart := false }
def LockEndsSaid : Prop := lockEndsRow.holds Try.pinned (OpenSpec.ofChange lockEndsSpec)

/-- ITS FALSE NEIGHBOUR: 'it returns false'. Refute it at one input. -/
def lockEndsWrong : ChangeSpec := { name := "lockEnds", fn := fun _ => fun
  | [d1, d2, d3] => { results := [.lit (.bool false)], args := [d1, d2, d3] }
  | _ => none }
def LockEndsWrongFalsely : Prop := lockEndsRow.holds Try.pinned (OpenSpec.ofChange lockEndsWrong)

/-- 'taffraillaw15.DeltaApart': WHATEVER THE INPUT: true; the input reads as it did. -/
def deltaApartSpec : ChangeSpec := { name := "deltaApart", fn := fun _ => fun
  | [d1, d2] => { results := [.lit (.bool true)], args := [d1, d2] }
  | _ => none }
def deltaApartRow : OpenClaim := { program := "ytfphgcplpokigaa", sum := "5561e97d8f78599311a227626ad722d41821d65d4dc97f94ba593c3cedd87568", func := "taffrail/taffraillaw15.DeltaApart", spec := "deltaApart", inPlace := ["slices.overlaps[taffrail/delta.clock]"], unfollowed := true, recurses := true, apart := false }
def DeltaApartSaid : Prop := deltaApartRow.holds Try.pinned (OpenSpec.ofChange deltaApartSpec)

/-- ITS FALSE NEIGHBOUR: 'it returns false'. Refute it at one input. -/
def deltaApartWrong : ChangeSpec := { name := "deltaApart", fn := fun _ => fun
  | [d1, d2] => { results := [.lit (.bool false)], args := [d1, d2] }
  | _ => none }
def DeltaApartWrongFalsely : Prop := deltaApartRow.holds Try.pinned (OpenSpec.ofChange deltaApartWrong)

/-- 'taffraillaw17.LockFree': WHATEVER THE INPUT: true; the input reads as it did. -/
def lockFreeSpec : ChangeSpec := { name := "lockFree", fn := fun _ => fun
  | [d1, d2, d3] => { results := [.lit (.bool true)], args := [d1, d2, d3] }
  | _ => none }
def lockFreeRow : OpenClaim := { program := "ytfphgcplpokigaa", sum := "5561e97d8f78599311a227626ad722d41821d65d4dc97f94ba593c3cedd87568", func := "taffrail/taffraillaw17.LockFree", spec := "lockFree", apart := false }
def LockFreeSaid : Prop := lockFreeRow.holds Try.pinned (OpenSpec.ofChange lockFreeSpec)

/-- ITS FALSE NEIGHBOUR: 'it returns false'. Refute it at one input. -/
def lockFreeWrong : ChangeSpec := { name := "lockFree", fn := fun _ => fun
  | [d1, d2, d3] => { results := [.lit (.bool false)], args := [d1, d2, d3] }
  | _ => none }
def LockFreeWrongFalsely : Prop := lockFreeRow.holds Try.pinned (OpenSpec.ofChange lockFreeWrong)

/-- 'taffraillaw17.LockTurn': WHATEVER THE INPUT: true; the input reads as it did. -/
def lockTurnSpec : ChangeSpec := { name := "lockTurn", fn := fun _ => fun
  | [d1, d2, d3] => { results := [.lit (.bool true)], args := [d1, d2, d3] }
  | _ => none }
def lockTurnRow : OpenClaim := { program := "ytfphgcplpokigaa", sum := "5561e97d8f78599311a227626ad722d41821d65d4dc97f94ba593c3cedd87568", func := "taffrail/taffraillaw17.LockTurn", spec := "lockTurn", apart := false }
def LockTurnSaid : Prop := lockTurnRow.holds Try.pinned (OpenSpec.ofChange lockTurnSpec)

/-- ITS FALSE NEIGHBOUR: 'it returns false'. Refute it at one input. -/
def lockTurnWrong : ChangeSpec := { name := "lockTurn", fn := fun _ => fun
  | [d1, d2, d3] => { results := [.lit (.bool false)], args := [d1, d2, d3] }
  | _ => none }
def LockTurnWrongFalsely : Prop := lockTurnRow.holds Try.pinned (OpenSpec.ofChange lockTurnWrong)

/-- 'taffraillaw15.DeltaRises': WHATEVER THE INPUT: true; the input reads as it did. -/
def deltaRisesSpec : ChangeSpec := { name := "deltaRises", fn := fun _ => fun
  | [d] => { results := [.lit (.bool true)], args := [d] }
  | _ => none }
def deltaRisesRow : OpenClaim := { program := "ytfphgcplpokigaa", sum := "5561e97d8f78599311a227626ad722d41821d65d4dc97f94ba593c3cedd87568", func := "taffrail/taffraillaw15.DeltaRises", spec := "deltaRises", inPlace := ["slices.overlaps[taffrail/delta.clock]"], unfollowed := true, recurses := true, apart := false }
def DeltaRisesSaid : Prop := deltaRisesRow.holds Try.pinned (OpenSpec.ofChange deltaRisesSpec)

/-- ITS FALSE NEIGHBOUR: 'it returns false'. Refute it at one input. -/
def deltaRisesWrong : ChangeSpec := { name := "deltaRises", fn := fun _ => fun
  | [d] => { results := [.lit (.bool false)], args := [d] }
  | _ => none }
def DeltaRisesWrongFalsely : Prop := deltaRisesRow.holds Try.pinned (OpenSpec.ofChange deltaRisesWrong)

/-- 'taffraillaw17.LockPlays': WHATEVER THE INPUT: true; the input reads as it did. -/
def lockPlaysSpec : ChangeSpec := { name := "lockPlays", fn := fun _ => fun
  | [d1, d2, d3] => { results := [.lit (.bool true)], args := [d1, d2, d3] }
  | _ => none }
def lockPlaysRow : OpenClaim := { program := "ytfphgcplpokigaa", sum := "5561e97d8f78599311a227626ad722d41821d65d4dc97f94ba593c3cedd87568", func := "taffrail/taffraillaw17.LockPlays", spec := "lockPlays", apart := false }
def LockPlaysSaid : Prop := lockPlaysRow.holds Try.pinned (OpenSpec.ofChange lockPlaysSpec)

/-- ITS FALSE NEIGHBOUR: 'it returns false'. Refute it at one input. -/
def lockPlaysWrong : ChangeSpec := { name := "lockPlays", fn := fun _ => fun
  | [d1, d2, d3] => { results := [.lit (.bool false)], args := [d1, d2, d3] }
  | _ => none }
def LockPlaysWrongFalsely : Prop := lockPlaysRow.holds Try.pinned (OpenSpec.ofChange lockPlaysWrong)

/-- 'taffraillaw17.LockInherits': WHATEVER THE INPUT: true; the input reads as it did. -/
def lockInheritsSpec : ChangeSpec := { name := "lockInherits", fn := fun _ => fun
  | [d1, d2, d3] => { results := [.lit (.bool true)], args := [d1, d2, d3] }
  | _ => none }
def lockInheritsRow : OpenClaim := { program := "ytfphgcplpokigaa", sum := "5561e97d8f78599311a227626ad722d41821d65d4dc97f94ba593c3cedd87568", func := "taffrail/taffraillaw17.LockInherits", spec := "lockInherits", apart := false }
def LockInheritsSaid : Prop := lockInheritsRow.holds Try.pinned (OpenSpec.ofChange lockInheritsSpec)

/-- ITS FALSE NEIGHBOUR: 'it returns false'. Refute it at one input. -/
def lockInheritsWrong : ChangeSpec := { name := "lockInherits", fn := fun _ => fun
  | [d1, d2, d3] => { results := [.lit (.bool false)], args := [d1, d2, d3] }
  | _ => none }
def LockInheritsWrongFalsely : Prop := lockInheritsRow.holds Try.pinned (OpenSpec.ofChange lockInheritsWrong)

/-- 'taffraillaw17.LockNil': WHATEVER THE INPUT: true; the input reads as it did. -/
def lockNilSpec : ChangeSpec := { name := "lockNil", fn := fun _ => fun
  | [d1, d2] => { results := [.lit (.bool true)], args := [d1, d2] }
  | _ => none }
def lockNilRow : OpenClaim := { program := "ytfphgcplpokigaa", sum := "5561e97d8f78599311a227626ad722d41821d65d4dc97f94ba593c3cedd87568", func := "taffrail/taffraillaw17.LockNil", spec := "lockNil", apart := false }
def LockNilSaid : Prop := lockNilRow.holds Try.pinned (OpenSpec.ofChange lockNilSpec)

/-- ITS FALSE NEIGHBOUR: 'it returns false'. Refute it at one input. -/
def lockNilWrong : ChangeSpec := { name := "lockNil", fn := fun _ => fun
  | [d1, d2] => { results := [.lit (.bool false)], args := [d1, d2] }
  | _ => none }
def LockNilWrongFalsely : Prop := lockNilRow.holds Try.pinned (OpenSpec.ofChange lockNilWrong)

/-- 'taffraillaw15.DeltaPlays': WHATEVER THE INPUT: true; the input reads as it did. -/
def deltaPlaysSpec : ChangeSpec := { name := "deltaPlays", fn := fun _ => fun
  | [d] => { results := [.lit (.bool true)], args := [d] }
  | _ => none }
def deltaPlaysRow : OpenClaim := { program := "ytfphgcplpokigaa", sum := "5561e97d8f78599311a227626ad722d41821d65d4dc97f94ba593c3cedd87568", func := "taffrail/taffraillaw15.DeltaPlays", spec := "deltaPlays", inPlace := ["slices.overlaps[taffrail/delta.clock]"], unfollowed := true, recurses := true, apart := false }
def DeltaPlaysSaid : Prop := deltaPlaysRow.holds Try.pinned (OpenSpec.ofChange deltaPlaysSpec)

/-- ITS FALSE NEIGHBOUR: 'it returns false'. Refute it at one input. -/
def deltaPlaysWrong : ChangeSpec := { name := "deltaPlays", fn := fun _ => fun
  | [d] => { results := [.lit (.bool false)], args := [d] }
  | _ => none }
def DeltaPlaysWrongFalsely : Prop := deltaPlaysRow.holds Try.pinned (OpenSpec.ofChange deltaPlaysWrong)

/-- 'taffraillaw15.DeltaNil': WHATEVER THE INPUT: true; the input reads as it did. -/
def deltaNilSpec : ChangeSpec := { name := "deltaNil", fn := fun _ => fun
  | [d1, d2] => { results := [.lit (.bool true)], args := [d1, d2] }
  | _ => none }
def deltaNilRow : OpenClaim := { program := "ytfphgcplpokigaa", sum := "5561e97d8f78599311a227626ad722d41821d65d4dc97f94ba593c3cedd87568", func := "taffrail/taffraillaw15.DeltaNil", spec := "deltaNil", inPlace := ["slices.overlaps[taffrail/delta.clock]"], unfollowed := true, recurses := true, apart := false }
def DeltaNilSaid : Prop := deltaNilRow.holds Try.pinned (OpenSpec.ofChange deltaNilSpec)

/-- ITS FALSE NEIGHBOUR: 'it returns false'. Refute it at one input. -/
def deltaNilWrong : ChangeSpec := { name := "deltaNil", fn := fun _ => fun
  | [d1, d2] => { results := [.lit (.bool false)], args := [d1, d2] }
  | _ => none }
def DeltaNilWrongFalsely : Prop := deltaNilRow.holds Try.pinned (OpenSpec.ofChange deltaNilWrong)

/-- 'taffraillaw26.AuditChecks': WHATEVER THE INPUT: true; the input reads as it did. -/
def auditChecksSpec : ChangeSpec := { name := "auditChecks", fn := fun _ => fun
  | [d] => { results := [.lit (.bool true)], args := [d] }
  | _ => none }
def auditChecksRow : OpenClaim := { program := "ytfphgcplpokigaa", sum := "5561e97d8f78599311a227626ad722d41821d65d4dc97f94ba593c3cedd87568", func := "taffrail/taffraillaw26.AuditChecks", spec := "auditChecks", apart := false }
def AuditChecksSaid : Prop := auditChecksRow.holds Try.pinned (OpenSpec.ofChange auditChecksSpec)

/-- ITS FALSE NEIGHBOUR: 'it returns false'. Refute it at one input. -/
def auditChecksWrong : ChangeSpec := { name := "auditChecks", fn := fun _ => fun
  | [d] => { results := [.lit (.bool false)], args := [d] }
  | _ => none }
def AuditChecksWrongFalsely : Prop := auditChecksRow.holds Try.pinned (OpenSpec.ofChange auditChecksWrong)

/-- 'taffraillaw26.AuditSteps': WHATEVER THE INPUT: true; the input reads as it did. -/
def auditStepsSpec : ChangeSpec := { name := "auditSteps", fn := fun _ => fun
  | [d] => { results := [.lit (.bool true)], args := [d] }
  | _ => none }
def auditStepsRow : OpenClaim := { program := "ytfphgcplpokigaa", sum := "5561e97d8f78599311a227626ad722d41821d65d4dc97f94ba593c3cedd87568", func := "taffrail/taffraillaw26.AuditSteps", spec := "auditSteps", apart := false }
def AuditStepsSaid : Prop := auditStepsRow.holds Try.pinned (OpenSpec.ofChange auditStepsSpec)

/-- ITS FALSE NEIGHBOUR: 'it returns false'. Refute it at one input. -/
def auditStepsWrong : ChangeSpec := { name := "auditSteps", fn := fun _ => fun
  | [d] => { results := [.lit (.bool false)], args := [d] }
  | _ => none }
def AuditStepsWrongFalsely : Prop := auditStepsRow.holds Try.pinned (OpenSpec.ofChange auditStepsWrong)

/-- 'taffraillaw26.AuditFront': WHATEVER THE INPUT: true; the input reads as it did. -/
def auditFrontSpec : ChangeSpec := { name := "auditFront", fn := fun _ => fun
  | [d1, d2, d3] => { results := [.lit (.bool true)], args := [d1, d2, d3] }
  | _ => none }
def auditFrontRow : OpenClaim := { program := "ytfphgcplpokigaa", sum := "5561e97d8f78599311a227626ad722d41821d65d4dc97f94ba593c3cedd87568", func := "taffrail/taffraillaw26.AuditFront", spec := "auditFront", apart := false }
def AuditFrontSaid : Prop := auditFrontRow.holds Try.pinned (OpenSpec.ofChange auditFrontSpec)

/-- ITS FALSE NEIGHBOUR: 'it returns false'. Refute it at one input. -/
def auditFrontWrong : ChangeSpec := { name := "auditFront", fn := fun _ => fun
  | [d1, d2, d3] => { results := [.lit (.bool false)], args := [d1, d2, d3] }
  | _ => none }
def AuditFrontWrongFalsely : Prop := auditFrontRow.holds Try.pinned (OpenSpec.ofChange auditFrontWrong)

/-- 'taffraillaw26.AuditAlone': WHATEVER THE INPUT: true; the input reads as it did. -/
def auditAloneSpec : ChangeSpec := { name := "auditAlone", fn := fun _ => fun
  | [d1, d2] => { results := [.lit (.bool true)], args := [d1, d2] }
  | _ => none }
def auditAloneRow : OpenClaim := { program := "ytfphgcplpokigaa", sum := "5561e97d8f78599311a227626ad722d41821d65d4dc97f94ba593c3cedd87568", func := "taffrail/taffraillaw26.AuditAlone", spec := "auditAlone", apart := false }
def AuditAloneSaid : Prop := auditAloneRow.holds Try.pinned (OpenSpec.ofChange auditAloneSpec)

/-- ITS FALSE NEIGHBOUR: 'it returns false'. Refute it at one input. -/
def auditAloneWrong : ChangeSpec := { name := "auditAlone", fn := fun _ => fun
  | [d1, d2] => { results := [.lit (.bool false)], args := [d1, d2] }
  | _ => none }
def AuditAloneWrongFalsely : Prop := auditAloneRow.holds Try.pinned (OpenSpec.ofChange auditAloneWrong)

/-- 'taffraillaw26.AuditJobs': WHATEVER THE INPUT: true; the input reads as it did. -/
def auditJobsSpec : ChangeSpec := { name := "auditJobs", fn := fun _ => fun
  | [d1, d2] => { results := [.lit (.bool true)], args := [d1, d2] }
  | _ => none }
def auditJobsRow : OpenClaim := { program := "ytfphgcplpokigaa", sum := "5561e97d8f78599311a227626ad722d41821d65d4dc97f94ba593c3cedd87568", func := "taffrail/taffraillaw26.AuditJobs", spec := "auditJobs", apart := false }
def AuditJobsSaid : Prop := auditJobsRow.holds Try.pinned (OpenSpec.ofChange auditJobsSpec)

/-- ITS FALSE NEIGHBOUR: 'it returns false'. Refute it at one input. -/
def auditJobsWrong : ChangeSpec := { name := "auditJobs", fn := fun _ => fun
  | [d1, d2] => { results := [.lit (.bool false)], args := [d1, d2] }
  | _ => none }
def AuditJobsWrongFalsely : Prop := auditJobsRow.holds Try.pinned (OpenSpec.ofChange auditJobsWrong)

/-- 'taffraillaw26.AuditNil': WHATEVER THE INPUT: true; the input reads as it did. -/
def auditNilSpec : ChangeSpec := { name := "auditNil", fn := fun _ => fun
  | [d] => { results := [.lit (.bool true)], args := [d] }
  | _ => none }
def auditNilRow : OpenClaim := { program := "ytfphgcplpokigaa", sum := "5561e97d8f78599311a227626ad722d41821d65d4dc97f94ba593c3cedd87568", func := "taffrail/taffraillaw26.AuditNil", spec := "auditNil", apart := false }
def AuditNilSaid : Prop := auditNilRow.holds Try.pinned (OpenSpec.ofChange auditNilSpec)

/-- ITS FALSE NEIGHBOUR: 'it returns false'. Refute it at one input. -/
def auditNilWrong : ChangeSpec := { name := "auditNil", fn := fun _ => fun
  | [d] => { results := [.lit (.bool false)], args := [d] }
  | _ => none }
def AuditNilWrongFalsely : Prop := auditNilRow.holds Try.pinned (OpenSpec.ofChange auditNilWrong)

/- THE SECOND FORM. 'bulk': how many values and letters a reading holds, each counted each time it is reached (what is shared counts as often as it is met; a slice's spare places count too). A statement '..UptoSaid' is the law's where the arguments, and the package variables that the reading takes, are together of bulk at most 1048576: NARROWER than '..Said'. Prove '..Said' where nothing that the law and all that it calls make is longer than what came in: it says more and counts as full. Else prove '..UptoSaid'. A law counts once. -/
mutual
def uptoBulk {H : Type} : DataW H → Nat
  | .lit (.string bytes) => bytes.length + 1
  | .lit _ => 1
  | .nil => 1
  | .ptr d => uptoBulk d + 1
  | .slice elems spare => uptoBulkAll elems + uptoBulkAll spare + 1
  | .agg parts => uptoBulkAll parts + 1
  | .iface _ d => uptoBulk d + 1
  | .map entries => uptoBulkEntries entries + 1
  | .held _ => 1
def uptoBulkAll {H : Type} : List (DataW H) → Nat
  | [] => 0
  | d :: r => uptoBulk d + uptoBulkAll r
def uptoBulkEntries {H : Type} : List (Lit × DataW H) → Nat
  | [] => 0
  | x :: r => uptoBulkEntry x + uptoBulkEntries r
def uptoBulkEntry {H : Type} : Lit × DataW H → Nat
  | (.string bytes, d) => bytes.length + uptoBulk d + 1
  | (_, d) => uptoBulk d + 1
 end
def uptoSmall : (H : Type) → List (DataW H) → Bool := fun _ ds => decide (uptoBulkAll ds ≤ 1048576)
def OpenSpec.upto (s : _root_.Go.ChangeSpec) : _root_.Go.OpenSpec := { _root_.Go.OpenSpec.ofChange s with cond := some uptoSmall }

/-- 'taffraillaw15.DeltaOver', WHERE WHAT IT READS IS OF BULK AT MOST 1048576: true; the input reads as it did. -/
def deltaOverUptoRow : OpenClaim := { program := "ytfphgcplpokigaa", sum := "5561e97d8f78599311a227626ad722d41821d65d4dc97f94ba593c3cedd87568", func := "taffrail/taffraillaw15.DeltaOver", spec := "deltaOver", inPlace := ["slices.overlaps[taffrail/delta.clock]"], apart := false, narrowed := true }
def DeltaOverUptoSaid : Prop := deltaOverUptoRow.holds Try.pinned (OpenSpec.upto deltaOverSpec)

/-- 'taffraillaw17.LockEnds', WHERE WHAT IT READS IS OF BULK AT MOST 1048576: true; the input reads as it did. -/
def lockEndsUptoRow : OpenClaim := { program := "ytfphgcplpokigaa", sum := "5561e97d8f78599311a227626ad722d41821d65d4dc97f94ba593c3cedd87568", func := "taffrail/taffraillaw17.LockEnds", spec := "lockEnds", apart := false, narrowed := true }
def LockEndsUptoSaid : Prop := lockEndsUptoRow.holds Try.pinned (OpenSpec.upto lockEndsSpec)

/-- 'taffraillaw15.DeltaApart', WHERE WHAT IT READS IS OF BULK AT MOST 1048576: true; the input reads as it did. -/
def deltaApartUptoRow : OpenClaim := { program := "ytfphgcplpokigaa", sum := "5561e97d8f78599311a227626ad722d41821d65d4dc97f94ba593c3cedd87568", func := "taffrail/taffraillaw15.DeltaApart", spec := "deltaApart", inPlace := ["slices.overlaps[taffrail/delta.clock]"], unfollowed := true, recurses := true, apart := false, narrowed := true }
def DeltaApartUptoSaid : Prop := deltaApartUptoRow.holds Try.pinned (OpenSpec.upto deltaApartSpec)

/-- 'taffraillaw17.LockFree', WHERE WHAT IT READS IS OF BULK AT MOST 1048576: true; the input reads as it did. -/
def lockFreeUptoRow : OpenClaim := { program := "ytfphgcplpokigaa", sum := "5561e97d8f78599311a227626ad722d41821d65d4dc97f94ba593c3cedd87568", func := "taffrail/taffraillaw17.LockFree", spec := "lockFree", apart := false, narrowed := true }
def LockFreeUptoSaid : Prop := lockFreeUptoRow.holds Try.pinned (OpenSpec.upto lockFreeSpec)

/-- 'taffraillaw17.LockTurn', WHERE WHAT IT READS IS OF BULK AT MOST 1048576: true; the input reads as it did. -/
def lockTurnUptoRow : OpenClaim := { program := "ytfphgcplpokigaa", sum := "5561e97d8f78599311a227626ad722d41821d65d4dc97f94ba593c3cedd87568", func := "taffrail/taffraillaw17.LockTurn", spec := "lockTurn", apart := false, narrowed := true }
def LockTurnUptoSaid : Prop := lockTurnUptoRow.holds Try.pinned (OpenSpec.upto lockTurnSpec)

/-- 'taffraillaw15.DeltaRises', WHERE WHAT IT READS IS OF BULK AT MOST 1048576: true; the input reads as it did. -/
def deltaRisesUptoRow : OpenClaim := { program := "ytfphgcplpokigaa", sum := "5561e97d8f78599311a227626ad722d41821d65d4dc97f94ba593c3cedd87568", func := "taffrail/taffraillaw15.DeltaRises", spec := "deltaRises", inPlace := ["slices.overlaps[taffrail/delta.clock]"], unfollowed := true, recurses := true, apart := false, narrowed := true }
def DeltaRisesUptoSaid : Prop := deltaRisesUptoRow.holds Try.pinned (OpenSpec.upto deltaRisesSpec)

/-- 'taffraillaw17.LockPlays', WHERE WHAT IT READS IS OF BULK AT MOST 1048576: true; the input reads as it did. -/
def lockPlaysUptoRow : OpenClaim := { program := "ytfphgcplpokigaa", sum := "5561e97d8f78599311a227626ad722d41821d65d4dc97f94ba593c3cedd87568", func := "taffrail/taffraillaw17.LockPlays", spec := "lockPlays", apart := false, narrowed := true }
def LockPlaysUptoSaid : Prop := lockPlaysUptoRow.holds Try.pinned (OpenSpec.upto lockPlaysSpec)

/-- 'taffraillaw17.LockInherits', WHERE WHAT IT READS IS OF BULK AT MOST 1048576: true; the input reads as it did. -/
def lockInheritsUptoRow : OpenClaim := { program := "ytfphgcplpokigaa", sum := "5561e97d8f78599311a227626ad722d41821d65d4dc97f94ba593c3cedd87568", func := "taffrail/taffraillaw17.LockInherits", spec := "lockInherits", apart := false, narrowed := true }
def LockInheritsUptoSaid : Prop := lockInheritsUptoRow.holds Try.pinned (OpenSpec.upto lockInheritsSpec)

/-- 'taffraillaw17.LockNil', WHERE WHAT IT READS IS OF BULK AT MOST 1048576: true; the input reads as it did. -/
def lockNilUptoRow : OpenClaim := { program := "ytfphgcplpokigaa", sum := "5561e97d8f78599311a227626ad722d41821d65d4dc97f94ba593c3cedd87568", func := "taffrail/taffraillaw17.LockNil", spec := "lockNil", apart := false, narrowed := true }
def LockNilUptoSaid : Prop := lockNilUptoRow.holds Try.pinned (OpenSpec.upto lockNilSpec)

/-- 'taffraillaw15.DeltaPlays', WHERE WHAT IT READS IS OF BULK AT MOST 1048576: true; the input reads as it did. -/
def deltaPlaysUptoRow : OpenClaim := { program := "ytfphgcplpokigaa", sum := "5561e97d8f78599311a227626ad722d41821d65d4dc97f94ba593c3cedd87568", func := "taffrail/taffraillaw15.DeltaPlays", spec := "deltaPlays", inPlace := ["slices.overlaps[taffrail/delta.clock]"], unfollowed := true, recurses := true, apart := false, narrowed := true }
def DeltaPlaysUptoSaid : Prop := deltaPlaysUptoRow.holds Try.pinned (OpenSpec.upto deltaPlaysSpec)

/-- 'taffraillaw15.DeltaNil', WHERE WHAT IT READS IS OF BULK AT MOST 1048576: true; the input reads as it did. -/
def deltaNilUptoRow : OpenClaim := { program := "ytfphgcplpokigaa", sum := "5561e97d8f78599311a227626ad722d41821d65d4dc97f94ba593c3cedd87568", func := "taffrail/taffraillaw15.DeltaNil", spec := "deltaNil", inPlace := ["slices.overlaps[taffrail/delta.clock]"], unfollowed := true, recurses := true, apart := false, narrowed := true }
def DeltaNilUptoSaid : Prop := deltaNilUptoRow.holds Try.pinned (OpenSpec.upto deltaNilSpec)

/-- 'taffraillaw26.AuditChecks', WHERE WHAT IT READS IS OF BULK AT MOST 1048576: true; the input reads as it did. -/
def auditChecksUptoRow : OpenClaim := { program := "ytfphgcplpokigaa", sum := "5561e97d8f78599311a227626ad722d41821d65d4dc97f94ba593c3cedd87568", func := "taffrail/taffraillaw26.AuditChecks", spec := "auditChecks", apart := false, narrowed := true }
def AuditChecksUptoSaid : Prop := auditChecksUptoRow.holds Try.pinned (OpenSpec.upto auditChecksSpec)

/-- 'taffraillaw26.AuditSteps', WHERE WHAT IT READS IS OF BULK AT MOST 1048576: true; the input reads as it did. -/
def auditStepsUptoRow : OpenClaim := { program := "ytfphgcplpokigaa", sum := "5561e97d8f78599311a227626ad722d41821d65d4dc97f94ba593c3cedd87568", func := "taffrail/taffraillaw26.AuditSteps", spec := "auditSteps", apart := false, narrowed := true }
def AuditStepsUptoSaid : Prop := auditStepsUptoRow.holds Try.pinned (OpenSpec.upto auditStepsSpec)

/-- 'taffraillaw26.AuditFront', WHERE WHAT IT READS IS OF BULK AT MOST 1048576: true; the input reads as it did. -/
def auditFrontUptoRow : OpenClaim := { program := "ytfphgcplpokigaa", sum := "5561e97d8f78599311a227626ad722d41821d65d4dc97f94ba593c3cedd87568", func := "taffrail/taffraillaw26.AuditFront", spec := "auditFront", apart := false, narrowed := true }
def AuditFrontUptoSaid : Prop := auditFrontUptoRow.holds Try.pinned (OpenSpec.upto auditFrontSpec)

/-- 'taffraillaw26.AuditAlone', WHERE WHAT IT READS IS OF BULK AT MOST 1048576: true; the input reads as it did. -/
def auditAloneUptoRow : OpenClaim := { program := "ytfphgcplpokigaa", sum := "5561e97d8f78599311a227626ad722d41821d65d4dc97f94ba593c3cedd87568", func := "taffrail/taffraillaw26.AuditAlone", spec := "auditAlone", apart := false, narrowed := true }
def AuditAloneUptoSaid : Prop := auditAloneUptoRow.holds Try.pinned (OpenSpec.upto auditAloneSpec)

/-- 'taffraillaw26.AuditJobs', WHERE WHAT IT READS IS OF BULK AT MOST 1048576: true; the input reads as it did. -/
def auditJobsUptoRow : OpenClaim := { program := "ytfphgcplpokigaa", sum := "5561e97d8f78599311a227626ad722d41821d65d4dc97f94ba593c3cedd87568", func := "taffrail/taffraillaw26.AuditJobs", spec := "auditJobs", apart := false, narrowed := true }
def AuditJobsUptoSaid : Prop := auditJobsUptoRow.holds Try.pinned (OpenSpec.upto auditJobsSpec)

/-- 'taffraillaw26.AuditNil', WHERE WHAT IT READS IS OF BULK AT MOST 1048576: true; the input reads as it did. -/
def auditNilUptoRow : OpenClaim := { program := "ytfphgcplpokigaa", sum := "5561e97d8f78599311a227626ad722d41821d65d4dc97f94ba593c3cedd87568", func := "taffrail/taffraillaw26.AuditNil", spec := "auditNil", apart := false, narrowed := true }
def AuditNilUptoSaid : Prop := auditNilUptoRow.holds Try.pinned (OpenSpec.upto auditNilSpec)

end Rows
end Go.Proofs.Ytfphgcplpokigaa
