/-
  DERIVED. GIVEN WITH THE SEED: THE CARDS: each row of YtgiiidminlhbpaaGreatDoorRows.lean that lists a variable, with what it lists TIED to the program's text (the seventh form; the later family's looks); each row that meets fmt, with fmt's text TOLD by the authors' own Lean function (tested against real Go, not proved from fmt's source: count such statements apart). THE CARD IS WHAT COUNTS. Prove the row's statement (the work); the ties are given (YtgiiidminlhbpaaGreatDoorTie.lean); close each card by the builder's one call (the guide's Derived/Test/ToyasCard.lean, 'card_holds'). Laid BY PROGRAM, IN A SANDBOX (cutbox-door.mjs). By AI agents, Wed Nov 11 2026. No macro, syntax, notation, axiom, sorry.
-/
import Derived.Test.YtgiiidminlhbpaaGreatDoorRows
import GoSem.ClaimSeven
namespace Go.Proofs.YtgiiidminlhbpaaGreatDoor
namespace Rows

/-- THE TIED CARD OF 'taffraillaw26.AuditAccepts'. -/
def auditAcceptsCard : Claim7 := { stood := { row := auditAcceptsRow, standIns := [], harness := (true, "929fba1f6748321de033e317507047ff10ab3d694f9e61a4158578c4ebfc0f1b"), looks := false }, kinds := [], alts := [], laidByText := true, laidKinds := [.data], laidTests := true, laidLooks := .later }
def AuditAcceptsCardSaid : Prop := Claim7.holds Tryz.pinned (.plain (OpenSpec.ofChange auditAcceptsSpec)) auditAcceptsCard

/-- THE SECOND FORM's CARD OF 'taffraillaw26.AuditAccepts'. -/
def auditAcceptsUptoCard : Claim7 := { stood := { row := auditAcceptsUptoRow, standIns := [], harness := (true, "929fba1f6748321de033e317507047ff10ab3d694f9e61a4158578c4ebfc0f1b"), looks := false }, kinds := [], alts := [], laidByText := true, laidKinds := [.data], laidTests := true, laidLooks := .later }
def AuditAcceptsUptoCardSaid : Prop := Claim7.holds Tryz.pinned (.plain (OpenSpec.upto auditAcceptsSpec)) auditAcceptsUptoCard
end Rows
end Go.Proofs.YtgiiidminlhbpaaGreatDoor
