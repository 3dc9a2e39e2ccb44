/-
  DERIVED. GIVEN WITH THE SEED: THE CARDS: each row of YtlbjjoeocdimfaaGreatDoorRows.lean that lists a variable, with what it lists TIED to the program's text (the seventh form; the later family's looks); each row that meets fmt, with fmt's text TOLD by the authors' own Lean function (tested against real Go, not proved from fmt's source: count such statements apart). THE CARD IS WHAT COUNTS. Prove the row's statement (the work); the ties are given (YtlbjjoeocdimfaaGreatDoorTie.lean); close each card by the builder's one call (the guide's Derived/Test/ToyasCard.lean, 'card_holds'). Laid BY PROGRAM, IN A SANDBOX (cutbox-door.mjs). By AI agents, Wed Nov 11 2026. No macro, syntax, notation, axiom, sorry.
-/
import Derived.Test.YtlbjjoeocdimfaaGreatDoorRows
import GoSem.ClaimSeven
namespace Go.Proofs.YtlbjjoeocdimfaaGreatDoor
namespace Rows

/-- THE TIED CARD OF 'taffraillaw21.KernSteps'. -/
def kernStepsCard : Claim7 := { stood := { row := kernStepsRow, standIns := [], harness := (true, "71a3b338287004daa503456ca6a0dce932433e17f1d826c79dba323f58c3cd28"), looks := false }, kinds := [], alts := [], laidByText := true, laidKinds := [.data], laidTests := true, laidLooks := .later }
def KernStepsCardSaid : Prop := Claim7.holds Tryz.pinned (.plain (OpenSpec.ofChange kernStepsSpec)) kernStepsCard

/-- THE TIED CARD OF 'taffraillaw21.KernParts'. -/
def kernPartsCard : Claim7 := { stood := { row := kernPartsRow, standIns := [], harness := (true, "71a3b338287004daa503456ca6a0dce932433e17f1d826c79dba323f58c3cd28"), looks := false }, kinds := [], alts := [], laidByText := true, laidKinds := [.data], laidTests := true, laidLooks := .later }
def KernPartsCardSaid : Prop := Claim7.holds Tryz.pinned (.plain (OpenSpec.ofChange kernPartsSpec)) kernPartsCard

/-- THE TIED CARD OF 'taffraillaw22.WorldLater'. -/
def worldLaterCard : Claim7 := { stood := { row := worldLaterRow, standIns := [], harness := (true, "71a3b338287004daa503456ca6a0dce932433e17f1d826c79dba323f58c3cd28"), looks := false }, kinds := [], alts := [], laidByText := true, laidKinds := [.data], laidTests := true, laidLooks := .later }
def WorldLaterCardSaid : Prop := Claim7.holds Tryz.pinned (.plain (OpenSpec.ofChange worldLaterSpec)) worldLaterCard

/-- THE TIED CARD OF 'taffraillaw22.WorldTape'. -/
def worldTapeCard : Claim7 := { stood := { row := worldTapeRow, standIns := [], harness := (true, "71a3b338287004daa503456ca6a0dce932433e17f1d826c79dba323f58c3cd28"), looks := false }, kinds := [], alts := [], laidByText := true, laidKinds := [.data], laidTests := true, laidLooks := .later }
def WorldTapeCardSaid : Prop := Claim7.holds Tryz.pinned (.plain (OpenSpec.ofChange worldTapeSpec)) worldTapeCard

/-- THE TIED CARD OF 'taffraillaw22.WorldParts'. -/
def worldPartsCard : Claim7 := { stood := { row := worldPartsRow, standIns := [], harness := (true, "71a3b338287004daa503456ca6a0dce932433e17f1d826c79dba323f58c3cd28"), looks := false }, kinds := [], alts := [], laidByText := true, laidKinds := [.data], laidTests := true, laidLooks := .later }
def WorldPartsCardSaid : Prop := Claim7.holds Tryz.pinned (.plain (OpenSpec.ofChange worldPartsSpec)) worldPartsCard

/-- THE TIED CARD OF 'taffraillaw22.WorldChecks'. -/
def worldChecksCard : Claim7 := { stood := { row := worldChecksRow, standIns := [], harness := (true, "71a3b338287004daa503456ca6a0dce932433e17f1d826c79dba323f58c3cd28"), looks := false }, kinds := [], alts := [], laidByText := true, laidKinds := [.data], laidTests := true, laidLooks := .later }
def WorldChecksCardSaid : Prop := Claim7.holds Tryz.pinned (.plain (OpenSpec.ofChange worldChecksSpec)) worldChecksCard

/-- THE TIED CARD OF 'taffraillaw22.WorldRuns'. -/
def worldRunsCard : Claim7 := { stood := { row := worldRunsRow, standIns := [], harness := (true, "71a3b338287004daa503456ca6a0dce932433e17f1d826c79dba323f58c3cd28"), looks := false }, kinds := [], alts := [], laidByText := true, laidKinds := [.data], laidTests := true, laidLooks := .later }
def WorldRunsCardSaid : Prop := Claim7.holds Tryz.pinned (.plain (OpenSpec.ofChange worldRunsSpec)) worldRunsCard

/-- THE TIED CARD OF 'taffraillaw22.WorldNil'. -/
def worldNilCard : Claim7 := { stood := { row := worldNilRow, standIns := [], harness := (true, "71a3b338287004daa503456ca6a0dce932433e17f1d826c79dba323f58c3cd28"), looks := false }, kinds := [], alts := [], laidByText := true, laidKinds := [.data], laidTests := true, laidLooks := .later }
def WorldNilCardSaid : Prop := Claim7.holds Tryz.pinned (.plain (OpenSpec.ofChange worldNilSpec)) worldNilCard

/-- THE TIED CARD OF 'taffraillaw26.AuditAccepts'. -/
def auditAcceptsCard : Claim7 := { stood := { row := auditAcceptsRow, standIns := [], harness := (true, "71a3b338287004daa503456ca6a0dce932433e17f1d826c79dba323f58c3cd28"), looks := false }, kinds := [], alts := [], laidByText := true, laidKinds := [.data], laidTests := true, laidLooks := .later }
def AuditAcceptsCardSaid : Prop := Claim7.holds Tryz.pinned (.plain (OpenSpec.ofChange auditAcceptsSpec)) auditAcceptsCard

/-- THE SECOND FORM's CARD OF 'taffraillaw21.KernSteps'. -/
def kernStepsUptoCard : Claim7 := { stood := { row := kernStepsUptoRow, standIns := [], harness := (true, "71a3b338287004daa503456ca6a0dce932433e17f1d826c79dba323f58c3cd28"), looks := false }, kinds := [], alts := [], laidByText := true, laidKinds := [.data], laidTests := true, laidLooks := .later }
def KernStepsUptoCardSaid : Prop := Claim7.holds Tryz.pinned (.plain (OpenSpec.upto kernStepsSpec)) kernStepsUptoCard

/-- THE SECOND FORM's CARD OF 'taffraillaw21.KernParts'. -/
def kernPartsUptoCard : Claim7 := { stood := { row := kernPartsUptoRow, standIns := [], harness := (true, "71a3b338287004daa503456ca6a0dce932433e17f1d826c79dba323f58c3cd28"), looks := false }, kinds := [], alts := [], laidByText := true, laidKinds := [.data], laidTests := true, laidLooks := .later }
def KernPartsUptoCardSaid : Prop := Claim7.holds Tryz.pinned (.plain (OpenSpec.upto kernPartsSpec)) kernPartsUptoCard

/-- THE SECOND FORM's CARD OF 'taffraillaw22.WorldLater'. -/
def worldLaterUptoCard : Claim7 := { stood := { row := worldLaterUptoRow, standIns := [], harness := (true, "71a3b338287004daa503456ca6a0dce932433e17f1d826c79dba323f58c3cd28"), looks := false }, kinds := [], alts := [], laidByText := true, laidKinds := [.data], laidTests := true, laidLooks := .later }
def WorldLaterUptoCardSaid : Prop := Claim7.holds Tryz.pinned (.plain (OpenSpec.upto worldLaterSpec)) worldLaterUptoCard

/-- THE SECOND FORM's CARD OF 'taffraillaw22.WorldTape'. -/
def worldTapeUptoCard : Claim7 := { stood := { row := worldTapeUptoRow, standIns := [], harness := (true, "71a3b338287004daa503456ca6a0dce932433e17f1d826c79dba323f58c3cd28"), looks := false }, kinds := [], alts := [], laidByText := true, laidKinds := [.data], laidTests := true, laidLooks := .later }
def WorldTapeUptoCardSaid : Prop := Claim7.holds Tryz.pinned (.plain (OpenSpec.upto worldTapeSpec)) worldTapeUptoCard

/-- THE SECOND FORM's CARD OF 'taffraillaw22.WorldParts'. -/
def worldPartsUptoCard : Claim7 := { stood := { row := worldPartsUptoRow, standIns := [], harness := (true, "71a3b338287004daa503456ca6a0dce932433e17f1d826c79dba323f58c3cd28"), looks := false }, kinds := [], alts := [], laidByText := true, laidKinds := [.data], laidTests := true, laidLooks := .later }
def WorldPartsUptoCardSaid : Prop := Claim7.holds Tryz.pinned (.plain (OpenSpec.upto worldPartsSpec)) worldPartsUptoCard

/-- THE SECOND FORM's CARD OF 'taffraillaw22.WorldChecks'. -/
def worldChecksUptoCard : Claim7 := { stood := { row := worldChecksUptoRow, standIns := [], harness := (true, "71a3b338287004daa503456ca6a0dce932433e17f1d826c79dba323f58c3cd28"), looks := false }, kinds := [], alts := [], laidByText := true, laidKinds := [.data], laidTests := true, laidLooks := .later }
def WorldChecksUptoCardSaid : Prop := Claim7.holds Tryz.pinned (.plain (OpenSpec.upto worldChecksSpec)) worldChecksUptoCard

/-- THE SECOND FORM's CARD OF 'taffraillaw22.WorldRuns'. -/
def worldRunsUptoCard : Claim7 := { stood := { row := worldRunsUptoRow, standIns := [], harness := (true, "71a3b338287004daa503456ca6a0dce932433e17f1d826c79dba323f58c3cd28"), looks := false }, kinds := [], alts := [], laidByText := true, laidKinds := [.data], laidTests := true, laidLooks := .later }
def WorldRunsUptoCardSaid : Prop := Claim7.holds Tryz.pinned (.plain (OpenSpec.upto worldRunsSpec)) worldRunsUptoCard

/-- THE SECOND FORM's CARD OF 'taffraillaw22.WorldNil'. -/
def worldNilUptoCard : Claim7 := { stood := { row := worldNilUptoRow, standIns := [], harness := (true, "71a3b338287004daa503456ca6a0dce932433e17f1d826c79dba323f58c3cd28"), looks := false }, kinds := [], alts := [], laidByText := true, laidKinds := [.data], laidTests := true, laidLooks := .later }
def WorldNilUptoCardSaid : Prop := Claim7.holds Tryz.pinned (.plain (OpenSpec.upto worldNilSpec)) worldNilUptoCard

/-- THE SECOND FORM's CARD OF 'taffraillaw26.AuditAccepts'. -/
def auditAcceptsUptoCard : Claim7 := { stood := { row := auditAcceptsUptoRow, standIns := [], harness := (true, "71a3b338287004daa503456ca6a0dce932433e17f1d826c79dba323f58c3cd28"), looks := false }, kinds := [], alts := [], laidByText := true, laidKinds := [.data], laidTests := true, laidLooks := .later }
def AuditAcceptsUptoCardSaid : Prop := Claim7.holds Tryz.pinned (.plain (OpenSpec.upto auditAcceptsSpec)) auditAcceptsUptoCard
end Rows
end Go.Proofs.YtlbjjoeocdimfaaGreatDoor
