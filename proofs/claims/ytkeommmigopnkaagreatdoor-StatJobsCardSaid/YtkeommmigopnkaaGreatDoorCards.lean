/-
  DERIVED. GIVEN WITH THE SEED: THE CARDS: each row of YtkeommmigopnkaaGreatDoorRows.lean that lists a variable, with what it lists TIED to the program's text (the seventh form; the later family's looks); each row that meets fmt, with fmt's text TOLD by the authors' own Lean function (tested against real Go, not proved from fmt's source: count such statements apart). THE CARD IS WHAT COUNTS. Prove the row's statement (the work); the ties are given (YtkeommmigopnkaaGreatDoorTie.lean); close each card by the builder's one call (the guide's Derived/Test/ToyasCard.lean, 'card_holds'). Laid BY PROGRAM, IN A SANDBOX (cutbox-door.mjs). By AI agents, Wed Nov 11 2026. No macro, syntax, notation, axiom, sorry.
-/
import Derived.Test.YtkeommmigopnkaaGreatDoorRows
import GoSem.ClaimSeven
namespace Go.Proofs.YtkeommmigopnkaaGreatDoor
namespace Rows

/-- THE TIED CARD OF 'taffraillaw28.StatJobs'. -/
def statJobsCard : Claim7 := { stood := { row := statJobsRow, standIns := [], harness := (true, "3a7c2cd736b87961938d009e8c119622dffc178fcf3449f884ca5d345b8d49e4"), looks := false }, kinds := [], alts := [], laidByText := true, laidKinds := [.data], laidTests := true, laidLooks := .later }
def StatJobsCardSaid : Prop := Claim7.holds Tryz.pinned (.plain (OpenSpec.ofChange statJobsSpec)) statJobsCard

/-- THE TIED CARD OF 'taffraillaw28.StatParts'. -/
def statPartsCard : Claim7 := { stood := { row := statPartsRow, standIns := [], harness := (true, "3a7c2cd736b87961938d009e8c119622dffc178fcf3449f884ca5d345b8d49e4"), looks := false }, kinds := [], alts := [], laidByText := true, laidKinds := [.data], laidTests := true, laidLooks := .later }
def StatPartsCardSaid : Prop := Claim7.holds Tryz.pinned (.plain (OpenSpec.ofChange statPartsSpec)) statPartsCard

/-- THE TIED CARD OF 'taffraillaw28.StatRan'. -/
def statRanCard : Claim7 := { stood := { row := statRanRow, standIns := [], harness := (true, "3a7c2cd736b87961938d009e8c119622dffc178fcf3449f884ca5d345b8d49e4"), looks := false }, kinds := [], alts := [], laidByText := true, laidKinds := [.data], laidTests := true, laidLooks := .later }
def StatRanCardSaid : Prop := Claim7.holds Tryz.pinned (.plain (OpenSpec.ofChange statRanSpec)) statRanCard

/-- THE SECOND FORM's CARD OF 'taffraillaw28.StatJobs'. -/
def statJobsUptoCard : Claim7 := { stood := { row := statJobsUptoRow, standIns := [], harness := (true, "3a7c2cd736b87961938d009e8c119622dffc178fcf3449f884ca5d345b8d49e4"), looks := false }, kinds := [], alts := [], laidByText := true, laidKinds := [.data], laidTests := true, laidLooks := .later }
def StatJobsUptoCardSaid : Prop := Claim7.holds Tryz.pinned (.plain (OpenSpec.upto statJobsSpec)) statJobsUptoCard

/-- THE SECOND FORM's CARD OF 'taffraillaw28.StatParts'. -/
def statPartsUptoCard : Claim7 := { stood := { row := statPartsUptoRow, standIns := [], harness := (true, "3a7c2cd736b87961938d009e8c119622dffc178fcf3449f884ca5d345b8d49e4"), looks := false }, kinds := [], alts := [], laidByText := true, laidKinds := [.data], laidTests := true, laidLooks := .later }
def StatPartsUptoCardSaid : Prop := Claim7.holds Tryz.pinned (.plain (OpenSpec.upto statPartsSpec)) statPartsUptoCard

/-- THE SECOND FORM's CARD OF 'taffraillaw28.StatRan'. -/
def statRanUptoCard : Claim7 := { stood := { row := statRanUptoRow, standIns := [], harness := (true, "3a7c2cd736b87961938d009e8c119622dffc178fcf3449f884ca5d345b8d49e4"), looks := false }, kinds := [], alts := [], laidByText := true, laidKinds := [.data], laidTests := true, laidLooks := .later }
def StatRanUptoCardSaid : Prop := Claim7.holds Tryz.pinned (.plain (OpenSpec.upto statRanSpec)) statRanUptoCard
end Rows
end Go.Proofs.YtkeommmigopnkaaGreatDoor
