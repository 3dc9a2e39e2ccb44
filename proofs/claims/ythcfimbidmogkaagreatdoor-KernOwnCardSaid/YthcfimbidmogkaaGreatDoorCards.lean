/-
  DERIVED. GIVEN WITH THE SEED: THE CARDS: each row of YthcfimbidmogkaaGreatDoorRows.lean that lists a variable, with what it lists TIED to the program's text (the seventh form; the later family's looks); each row that meets fmt, with fmt's text TOLD by the authors' own Lean function (tested against real Go, not proved from fmt's source: count such statements apart). THE CARD IS WHAT COUNTS. Prove the row's statement (the work); the ties are given (YthcfimbidmogkaaGreatDoorTie.lean); close each card by the builder's one call (the guide's Derived/Test/ToyasCard.lean, 'card_holds'). Laid BY PROGRAM, IN A SANDBOX (cutbox-door.mjs). By AI agents, Wed Nov 11 2026. No macro, syntax, notation, axiom, sorry.
-/
import Derived.Test.YthcfimbidmogkaaGreatDoorRows
import GoSem.ClaimSeven
namespace Go.Proofs.YthcfimbidmogkaaGreatDoor
namespace Rows

/-- THE TIED CARD OF 'taffraillaw21.KernSteps'. -/
def kernStepsCard : Claim7 := { stood := { row := kernStepsRow, standIns := [], harness := (true, "fec85798b4d6e9e2ba3fb0d6aab7a10188736ba39e4dad82c94930c4a1925845"), looks := false }, kinds := [], alts := [], laidByText := true, laidKinds := [.data], laidTests := true, laidLooks := .later }
def KernStepsCardSaid : Prop := Claim7.holds Tryz.pinned (.plain (OpenSpec.ofChange kernStepsSpec)) kernStepsCard

/-- THE TIED CARD OF 'taffraillaw21.KernTakes'. -/
def kernTakesCard : Claim7 := { stood := { row := kernTakesRow, standIns := [], harness := (true, "fec85798b4d6e9e2ba3fb0d6aab7a10188736ba39e4dad82c94930c4a1925845"), looks := false }, kinds := [], alts := [], laidByText := true, laidKinds := [.data], laidTests := true, laidLooks := .later }
def KernTakesCardSaid : Prop := Claim7.holds Tryz.pinned (.plain (OpenSpec.ofChange kernTakesSpec)) kernTakesCard

/-- THE TIED CARD OF 'taffraillaw21.KernOwn'. -/
def kernOwnCard : Claim7 := { stood := { row := kernOwnRow, standIns := [], harness := (true, "fec85798b4d6e9e2ba3fb0d6aab7a10188736ba39e4dad82c94930c4a1925845"), looks := false }, kinds := [], alts := [], laidByText := true, laidKinds := [.data], laidTests := true, laidLooks := .later }
def KernOwnCardSaid : Prop := Claim7.holds Tryz.pinned (.plain (OpenSpec.ofChange kernOwnSpec)) kernOwnCard

/-- THE TIED CARD OF 'taffraillaw21.KernQuiet'. -/
def kernQuietCard : Claim7 := { stood := { row := kernQuietRow, standIns := [], harness := (true, "fec85798b4d6e9e2ba3fb0d6aab7a10188736ba39e4dad82c94930c4a1925845"), looks := false }, kinds := [], alts := [], laidByText := true, laidKinds := [.data], laidTests := true, laidLooks := .later }
def KernQuietCardSaid : Prop := Claim7.holds Tryz.pinned (.plain (OpenSpec.ofChange kernQuietSpec)) kernQuietCard

/-- THE TIED CARD OF 'taffraillaw21.KernStops'. -/
def kernStopsCard : Claim7 := { stood := { row := kernStopsRow, standIns := [], harness := (true, "fec85798b4d6e9e2ba3fb0d6aab7a10188736ba39e4dad82c94930c4a1925845"), looks := false }, kinds := [], alts := [], laidByText := true, laidKinds := [.data], laidTests := true, laidLooks := .later }
def KernStopsCardSaid : Prop := Claim7.holds Tryz.pinned (.plain (OpenSpec.ofChange kernStopsSpec)) kernStopsCard

/-- THE TIED CARD OF 'taffraillaw21.KernParts'. -/
def kernPartsCard : Claim7 := { stood := { row := kernPartsRow, standIns := [], harness := (true, "fec85798b4d6e9e2ba3fb0d6aab7a10188736ba39e4dad82c94930c4a1925845"), looks := false }, kinds := [], alts := [], laidByText := true, laidKinds := [.data], laidTests := true, laidLooks := .later }
def KernPartsCardSaid : Prop := Claim7.holds Tryz.pinned (.plain (OpenSpec.ofChange kernPartsSpec)) kernPartsCard

/-- THE TIED CARD OF 'taffraillaw21.KernNil'. -/
def kernNilCard : Claim7 := { stood := { row := kernNilRow, standIns := [], harness := (true, "fec85798b4d6e9e2ba3fb0d6aab7a10188736ba39e4dad82c94930c4a1925845"), looks := false }, kinds := [], alts := [], laidByText := true, laidKinds := [.data], laidTests := true, laidLooks := .later }
def KernNilCardSaid : Prop := Claim7.holds Tryz.pinned (.plain (OpenSpec.ofChange kernNilSpec)) kernNilCard

/-- THE TIED CARD OF 'taffraillaw21.KernEvents'. -/
def kernEventsCard : Claim7 := { stood := { row := kernEventsRow, standIns := [], harness := (true, "fec85798b4d6e9e2ba3fb0d6aab7a10188736ba39e4dad82c94930c4a1925845"), looks := false }, kinds := [], alts := [], laidByText := true, laidKinds := [.data], laidTests := true, laidLooks := .later }
def KernEventsCardSaid : Prop := Claim7.holds Tryz.pinned (.plain (OpenSpec.ofChange kernEventsSpec)) kernEventsCard

/-- THE SECOND FORM's CARD OF 'taffraillaw21.KernSteps'. -/
def kernStepsUptoCard : Claim7 := { stood := { row := kernStepsUptoRow, standIns := [], harness := (true, "fec85798b4d6e9e2ba3fb0d6aab7a10188736ba39e4dad82c94930c4a1925845"), looks := false }, kinds := [], alts := [], laidByText := true, laidKinds := [.data], laidTests := true, laidLooks := .later }
def KernStepsUptoCardSaid : Prop := Claim7.holds Tryz.pinned (.plain (OpenSpec.upto kernStepsSpec)) kernStepsUptoCard

/-- THE SECOND FORM's CARD OF 'taffraillaw21.KernTakes'. -/
def kernTakesUptoCard : Claim7 := { stood := { row := kernTakesUptoRow, standIns := [], harness := (true, "fec85798b4d6e9e2ba3fb0d6aab7a10188736ba39e4dad82c94930c4a1925845"), looks := false }, kinds := [], alts := [], laidByText := true, laidKinds := [.data], laidTests := true, laidLooks := .later }
def KernTakesUptoCardSaid : Prop := Claim7.holds Tryz.pinned (.plain (OpenSpec.upto kernTakesSpec)) kernTakesUptoCard

/-- THE SECOND FORM's CARD OF 'taffraillaw21.KernOwn'. -/
def kernOwnUptoCard : Claim7 := { stood := { row := kernOwnUptoRow, standIns := [], harness := (true, "fec85798b4d6e9e2ba3fb0d6aab7a10188736ba39e4dad82c94930c4a1925845"), looks := false }, kinds := [], alts := [], laidByText := true, laidKinds := [.data], laidTests := true, laidLooks := .later }
def KernOwnUptoCardSaid : Prop := Claim7.holds Tryz.pinned (.plain (OpenSpec.upto kernOwnSpec)) kernOwnUptoCard

/-- THE SECOND FORM's CARD OF 'taffraillaw21.KernQuiet'. -/
def kernQuietUptoCard : Claim7 := { stood := { row := kernQuietUptoRow, standIns := [], harness := (true, "fec85798b4d6e9e2ba3fb0d6aab7a10188736ba39e4dad82c94930c4a1925845"), looks := false }, kinds := [], alts := [], laidByText := true, laidKinds := [.data], laidTests := true, laidLooks := .later }
def KernQuietUptoCardSaid : Prop := Claim7.holds Tryz.pinned (.plain (OpenSpec.upto kernQuietSpec)) kernQuietUptoCard

/-- THE SECOND FORM's CARD OF 'taffraillaw21.KernStops'. -/
def kernStopsUptoCard : Claim7 := { stood := { row := kernStopsUptoRow, standIns := [], harness := (true, "fec85798b4d6e9e2ba3fb0d6aab7a10188736ba39e4dad82c94930c4a1925845"), looks := false }, kinds := [], alts := [], laidByText := true, laidKinds := [.data], laidTests := true, laidLooks := .later }
def KernStopsUptoCardSaid : Prop := Claim7.holds Tryz.pinned (.plain (OpenSpec.upto kernStopsSpec)) kernStopsUptoCard

/-- THE SECOND FORM's CARD OF 'taffraillaw21.KernParts'. -/
def kernPartsUptoCard : Claim7 := { stood := { row := kernPartsUptoRow, standIns := [], harness := (true, "fec85798b4d6e9e2ba3fb0d6aab7a10188736ba39e4dad82c94930c4a1925845"), looks := false }, kinds := [], alts := [], laidByText := true, laidKinds := [.data], laidTests := true, laidLooks := .later }
def KernPartsUptoCardSaid : Prop := Claim7.holds Tryz.pinned (.plain (OpenSpec.upto kernPartsSpec)) kernPartsUptoCard

/-- THE SECOND FORM's CARD OF 'taffraillaw21.KernNil'. -/
def kernNilUptoCard : Claim7 := { stood := { row := kernNilUptoRow, standIns := [], harness := (true, "fec85798b4d6e9e2ba3fb0d6aab7a10188736ba39e4dad82c94930c4a1925845"), looks := false }, kinds := [], alts := [], laidByText := true, laidKinds := [.data], laidTests := true, laidLooks := .later }
def KernNilUptoCardSaid : Prop := Claim7.holds Tryz.pinned (.plain (OpenSpec.upto kernNilSpec)) kernNilUptoCard

/-- THE SECOND FORM's CARD OF 'taffraillaw21.KernEvents'. -/
def kernEventsUptoCard : Claim7 := { stood := { row := kernEventsUptoRow, standIns := [], harness := (true, "fec85798b4d6e9e2ba3fb0d6aab7a10188736ba39e4dad82c94930c4a1925845"), looks := false }, kinds := [], alts := [], laidByText := true, laidKinds := [.data], laidTests := true, laidLooks := .later }
def KernEventsUptoCardSaid : Prop := Claim7.holds Tryz.pinned (.plain (OpenSpec.upto kernEventsSpec)) kernEventsUptoCard
end Rows
end Go.Proofs.YthcfimbidmogkaaGreatDoor
