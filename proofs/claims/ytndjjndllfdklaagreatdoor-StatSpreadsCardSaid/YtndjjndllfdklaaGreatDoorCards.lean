/-
  DERIVED. GIVEN WITH THE SEED: THE CARDS: each row of YtndjjndllfdklaaGreatDoorRows.lean that lists a variable, with what it lists TIED to the program's text (the seventh form; the later family's looks); each row that meets fmt, with fmt's text TOLD by the authors' own Lean function (tested against real Go, not proved from fmt's source: count such statements apart). THE CARD IS WHAT COUNTS. Prove the row's statement (the work); the ties are given (YtndjjndllfdklaaGreatDoorTie.lean); close each card by the builder's one call (the guide's Derived/Test/ToyasCard.lean, 'card_holds'). Laid BY PROGRAM, IN A SANDBOX (cutbox-door.mjs). By AI agents, Wed Nov 11 2026. No macro, syntax, notation, axiom, sorry.
-/
import Derived.Test.YtndjjndllfdklaaGreatDoorRows
import GoSem.ClaimSeven
namespace Go.Proofs.YtndjjndllfdklaaGreatDoor
namespace Rows

/-- THE TIED CARD OF 'taffraillaw21.KernSteps'. -/
def kernStepsCard : Claim7 := { stood := { row := kernStepsRow, standIns := [], harness := (true, "6a88202dcd1eeb4759037ece4d178da40f94800022debf03758442279bd9868a"), looks := false }, kinds := [], alts := [], laidByText := true, laidKinds := [.data], laidTests := true, laidLooks := .later }
def KernStepsCardSaid : Prop := Claim7.holds Tryz.pinned (.plain (OpenSpec.ofChange kernStepsSpec)) kernStepsCard

/-- THE TIED CARD OF 'taffraillaw21.KernParts'. -/
def kernPartsCard : Claim7 := { stood := { row := kernPartsRow, standIns := [], harness := (true, "6a88202dcd1eeb4759037ece4d178da40f94800022debf03758442279bd9868a"), looks := false }, kinds := [], alts := [], laidByText := true, laidKinds := [.data], laidTests := true, laidLooks := .later }
def KernPartsCardSaid : Prop := Claim7.holds Tryz.pinned (.plain (OpenSpec.ofChange kernPartsSpec)) kernPartsCard

/-- THE TIED CARD OF 'taffraillaw22.WorldRuns'. -/
def worldRunsCard : Claim7 := { stood := { row := worldRunsRow, standIns := [], harness := (true, "6a88202dcd1eeb4759037ece4d178da40f94800022debf03758442279bd9868a"), looks := false }, kinds := [], alts := [], laidByText := true, laidKinds := [.data], laidTests := true, laidLooks := .later }
def WorldRunsCardSaid : Prop := Claim7.holds Tryz.pinned (.plain (OpenSpec.ofChange worldRunsSpec)) worldRunsCard

/-- THE TIED CARD OF 'taffraillaw26.AuditAccepts'. -/
def auditAcceptsCard : Claim7 := { stood := { row := auditAcceptsRow, standIns := [], harness := (true, "6a88202dcd1eeb4759037ece4d178da40f94800022debf03758442279bd9868a"), looks := false }, kinds := [], alts := [], laidByText := true, laidKinds := [.data], laidTests := true, laidLooks := .later }
def AuditAcceptsCardSaid : Prop := Claim7.holds Tryz.pinned (.plain (OpenSpec.ofChange auditAcceptsSpec)) auditAcceptsCard

/-- THE TIED CARD OF 'taffraillaw28.StatJobs'. -/
def statJobsCard : Claim7 := { stood := { row := statJobsRow, standIns := [], harness := (true, "6a88202dcd1eeb4759037ece4d178da40f94800022debf03758442279bd9868a"), looks := false }, kinds := [], alts := [], laidByText := true, laidKinds := [.data], laidTests := true, laidLooks := .later }
def StatJobsCardSaid : Prop := Claim7.holds Tryz.pinned (.plain (OpenSpec.ofChange statJobsSpec)) statJobsCard

/-- THE TIED CARD OF 'taffraillaw28.StatBound'. -/
def statBoundCard : Claim7 := { stood := { row := statBoundRow, standIns := [], harness := (true, "6a88202dcd1eeb4759037ece4d178da40f94800022debf03758442279bd9868a"), looks := false }, kinds := [], alts := [], laidByText := true, laidKinds := [.data], laidTests := true, laidLooks := .later }
def StatBoundCardSaid : Prop := Claim7.holds Tryz.pinned (.plain (OpenSpec.ofChange statBoundSpec)) statBoundCard

/-- THE TIED CARD OF 'taffraillaw28.StatParts'. -/
def statPartsCard : Claim7 := { stood := { row := statPartsRow, standIns := [], harness := (true, "6a88202dcd1eeb4759037ece4d178da40f94800022debf03758442279bd9868a"), looks := false }, kinds := [], alts := [], laidByText := true, laidKinds := [.data], laidTests := true, laidLooks := .later }
def StatPartsCardSaid : Prop := Claim7.holds Tryz.pinned (.plain (OpenSpec.ofChange statPartsSpec)) statPartsCard

/-- THE TIED CARD OF 'taffraillaw28.StatWhole'. -/
def statWholeCard : Claim7 := { stood := { row := statWholeRow, standIns := [], harness := (true, "6a88202dcd1eeb4759037ece4d178da40f94800022debf03758442279bd9868a"), looks := false }, kinds := [], alts := [], laidByText := true, laidKinds := [.data], laidTests := true, laidLooks := .later }
def StatWholeCardSaid : Prop := Claim7.holds Tryz.pinned (.plain (OpenSpec.ofChange statWholeSpec)) statWholeCard

/-- THE TIED CARD OF 'taffraillaw28.StatRan'. -/
def statRanCard : Claim7 := { stood := { row := statRanRow, standIns := [], harness := (true, "6a88202dcd1eeb4759037ece4d178da40f94800022debf03758442279bd9868a"), looks := false }, kinds := [], alts := [], laidByText := true, laidKinds := [.data], laidTests := true, laidLooks := .later }
def StatRanCardSaid : Prop := Claim7.holds Tryz.pinned (.plain (OpenSpec.ofChange statRanSpec)) statRanCard

/-- THE TIED CARD OF 'taffraillaw28.StatSpreads'. -/
def statSpreadsCard : Claim7 := { stood := { row := statSpreadsRow, standIns := [], harness := (true, "6a88202dcd1eeb4759037ece4d178da40f94800022debf03758442279bd9868a"), looks := false }, kinds := [], alts := [], laidByText := true, laidKinds := [.data], laidTests := true, laidLooks := .later }
def StatSpreadsCardSaid : Prop := Claim7.holds Tryz.pinned (.plain (OpenSpec.ofChange statSpreadsSpec)) statSpreadsCard

/-- THE SECOND FORM's CARD OF 'taffraillaw21.KernSteps'. -/
def kernStepsUptoCard : Claim7 := { stood := { row := kernStepsUptoRow, standIns := [], harness := (true, "6a88202dcd1eeb4759037ece4d178da40f94800022debf03758442279bd9868a"), looks := false }, kinds := [], alts := [], laidByText := true, laidKinds := [.data], laidTests := true, laidLooks := .later }
def KernStepsUptoCardSaid : Prop := Claim7.holds Tryz.pinned (.plain (OpenSpec.upto kernStepsSpec)) kernStepsUptoCard

/-- THE SECOND FORM's CARD OF 'taffraillaw21.KernParts'. -/
def kernPartsUptoCard : Claim7 := { stood := { row := kernPartsUptoRow, standIns := [], harness := (true, "6a88202dcd1eeb4759037ece4d178da40f94800022debf03758442279bd9868a"), looks := false }, kinds := [], alts := [], laidByText := true, laidKinds := [.data], laidTests := true, laidLooks := .later }
def KernPartsUptoCardSaid : Prop := Claim7.holds Tryz.pinned (.plain (OpenSpec.upto kernPartsSpec)) kernPartsUptoCard

/-- THE SECOND FORM's CARD OF 'taffraillaw22.WorldRuns'. -/
def worldRunsUptoCard : Claim7 := { stood := { row := worldRunsUptoRow, standIns := [], harness := (true, "6a88202dcd1eeb4759037ece4d178da40f94800022debf03758442279bd9868a"), looks := false }, kinds := [], alts := [], laidByText := true, laidKinds := [.data], laidTests := true, laidLooks := .later }
def WorldRunsUptoCardSaid : Prop := Claim7.holds Tryz.pinned (.plain (OpenSpec.upto worldRunsSpec)) worldRunsUptoCard

/-- THE SECOND FORM's CARD OF 'taffraillaw26.AuditAccepts'. -/
def auditAcceptsUptoCard : Claim7 := { stood := { row := auditAcceptsUptoRow, standIns := [], harness := (true, "6a88202dcd1eeb4759037ece4d178da40f94800022debf03758442279bd9868a"), looks := false }, kinds := [], alts := [], laidByText := true, laidKinds := [.data], laidTests := true, laidLooks := .later }
def AuditAcceptsUptoCardSaid : Prop := Claim7.holds Tryz.pinned (.plain (OpenSpec.upto auditAcceptsSpec)) auditAcceptsUptoCard

/-- THE SECOND FORM's CARD OF 'taffraillaw28.StatJobs'. -/
def statJobsUptoCard : Claim7 := { stood := { row := statJobsUptoRow, standIns := [], harness := (true, "6a88202dcd1eeb4759037ece4d178da40f94800022debf03758442279bd9868a"), looks := false }, kinds := [], alts := [], laidByText := true, laidKinds := [.data], laidTests := true, laidLooks := .later }
def StatJobsUptoCardSaid : Prop := Claim7.holds Tryz.pinned (.plain (OpenSpec.upto statJobsSpec)) statJobsUptoCard

/-- THE SECOND FORM's CARD OF 'taffraillaw28.StatBound'. -/
def statBoundUptoCard : Claim7 := { stood := { row := statBoundUptoRow, standIns := [], harness := (true, "6a88202dcd1eeb4759037ece4d178da40f94800022debf03758442279bd9868a"), looks := false }, kinds := [], alts := [], laidByText := true, laidKinds := [.data], laidTests := true, laidLooks := .later }
def StatBoundUptoCardSaid : Prop := Claim7.holds Tryz.pinned (.plain (OpenSpec.upto statBoundSpec)) statBoundUptoCard

/-- THE SECOND FORM's CARD OF 'taffraillaw28.StatParts'. -/
def statPartsUptoCard : Claim7 := { stood := { row := statPartsUptoRow, standIns := [], harness := (true, "6a88202dcd1eeb4759037ece4d178da40f94800022debf03758442279bd9868a"), looks := false }, kinds := [], alts := [], laidByText := true, laidKinds := [.data], laidTests := true, laidLooks := .later }
def StatPartsUptoCardSaid : Prop := Claim7.holds Tryz.pinned (.plain (OpenSpec.upto statPartsSpec)) statPartsUptoCard

/-- THE SECOND FORM's CARD OF 'taffraillaw28.StatWhole'. -/
def statWholeUptoCard : Claim7 := { stood := { row := statWholeUptoRow, standIns := [], harness := (true, "6a88202dcd1eeb4759037ece4d178da40f94800022debf03758442279bd9868a"), looks := false }, kinds := [], alts := [], laidByText := true, laidKinds := [.data], laidTests := true, laidLooks := .later }
def StatWholeUptoCardSaid : Prop := Claim7.holds Tryz.pinned (.plain (OpenSpec.upto statWholeSpec)) statWholeUptoCard

/-- THE SECOND FORM's CARD OF 'taffraillaw28.StatRan'. -/
def statRanUptoCard : Claim7 := { stood := { row := statRanUptoRow, standIns := [], harness := (true, "6a88202dcd1eeb4759037ece4d178da40f94800022debf03758442279bd9868a"), looks := false }, kinds := [], alts := [], laidByText := true, laidKinds := [.data], laidTests := true, laidLooks := .later }
def StatRanUptoCardSaid : Prop := Claim7.holds Tryz.pinned (.plain (OpenSpec.upto statRanSpec)) statRanUptoCard

/-- THE SECOND FORM's CARD OF 'taffraillaw28.StatSpreads'. -/
def statSpreadsUptoCard : Claim7 := { stood := { row := statSpreadsUptoRow, standIns := [], harness := (true, "6a88202dcd1eeb4759037ece4d178da40f94800022debf03758442279bd9868a"), looks := false }, kinds := [], alts := [], laidByText := true, laidKinds := [.data], laidTests := true, laidLooks := .later }
def StatSpreadsUptoCardSaid : Prop := Claim7.holds Tryz.pinned (.plain (OpenSpec.upto statSpreadsSpec)) statSpreadsUptoCard
end Rows
end Go.Proofs.YtndjjndllfdklaaGreatDoor
