/-
  NARROWER THAN 'FOR EVERY INPUT', by the rows' own cells (each row's printed sentence says how): KernSteps: laid · KernTakes: laid · KernOwn: laid · KernQuiet: laid · KernStops: laid · KernParts: laid · KernNil: laid · KernEvents: laid.
  DERIVED. THE GIVEN ROWS OF THIS SEAT. 8 by the template 'for every input the law returns true; each argument reads behind the call as it read before'; 0 by the template 'total and deterministic' (their statements: YthcfimbidmogkaaGreatDoorTotals.lean).
  GIVEN WITH THE SEED: the statements are not yours to turn. If you find one false, say at which input.
  Laid BY PROGRAM, IN A SANDBOX (cutbox-rows.mjs): the forced cells as the released guide's own fill.sh prints them over the translation 67b926e8c206a9d2… (all of the seat's roots in one cut). By AI agents, Wed Nov 11 2026. No macro, syntax, notation, axiom, sorry.
-/
import Derived.Test.YthcfimbidmogkaaGreatDoorChecked
import GoSem.Claim
import GoSem.ClaimJoined
import GoSem.ClaimMapViews
import Derived.JoinedTies
import Derived.KernelRfl
namespace Go.Proofs.YthcfimbidmogkaaGreatDoor
/- THE CELL 'sum', in the pinned program and in every row, IS THE sha256 OF THE DUMP (.gsa) THAT YthcfimbidmogkaaGreatDoorProg.lean LOADS. Nothing in Lean hashes anything: it is a label: what it is worth is what the hold of that sum in a sandbox is worth. -/
noncomputable def Tryz.pinned : Pinned := { name := "ythcfimbidmogkaagreatdoor", sum := "67b926e8c206a9d2428b6f06a27694aa586b6135b76c217bd50736ca68534f68", checked := Tryz.checked }
namespace Rows
def none {H : Type} : Left H := { results := [], args := [] }

/- WHAT THE LISTED PACKAGE-LEVEL VARIABLES READ AS WHEN THE CALL BEGINS. Each datum BY PROGRAM (the guide's laid-datum.mjs) off the statement by which the dump's own 'gosem.cut.vars' lays the variable. In a bare row this is a premise. The card (YthcfimbidmogkaaGreatDoorCards.lean) ties it to the program's text. -/
def laid_math_bits_deBruijn32tab {H : Type} : DataW H := .agg [.lit (.int .u8 0), .lit (.int .u8 1), .lit (.int .u8 28), .lit (.int .u8 2), .lit (.int .u8 29), .lit (.int .u8 14), .lit (.int .u8 24), .lit (.int .u8 3), .lit (.int .u8 30), .lit (.int .u8 22), .lit (.int .u8 20), .lit (.int .u8 15), .lit (.int .u8 25), .lit (.int .u8 17), .lit (.int .u8 4), .lit (.int .u8 8), .lit (.int .u8 31), .lit (.int .u8 27), .lit (.int .u8 13), .lit (.int .u8 23), .lit (.int .u8 21), .lit (.int .u8 19), .lit (.int .u8 16), .lit (.int .u8 7), .lit (.int .u8 26), .lit (.int .u8 12), .lit (.int .u8 18), .lit (.int .u8 6), .lit (.int .u8 11), .lit (.int .u8 5), .lit (.int .u8 10), .lit (.int .u8 9)]

/-- 'taffraillaw21.KernSteps': WHATEVER THE INPUT: true; the input reads as it did. -/
def kernStepsSpec : ChangeSpec := { name := "kernSteps", fn := fun _ => fun
  | [d1, d2] => { results := [.lit (.bool true)], args := [d1, d2] }
  | _ => none }
def kernStepsRow : OpenClaim := { program := "ythcfimbidmogkaagreatdoor", sum := "67b926e8c206a9d2428b6f06a27694aa586b6135b76c217bd50736ca68534f68", func := "taffrail/taffraillaw21.KernSteps", spec := "kernSteps", inPlace := ["slices.overlaps[taffrail/delta.clock]"], unfollowed := true, recurses := true, named := ["math/bits.deBruijn32tab"], apart := false, laid := [("math/bits.deBruijn32tab", laid_math_bits_deBruijn32tab)] }
def KernStepsSaid : Prop := kernStepsRow.holds Tryz.pinned (OpenSpec.ofChange kernStepsSpec)

/-- ITS FALSE NEIGHBOUR: 'it returns false'. Refute it at one input. -/
def kernStepsWrong : ChangeSpec := { name := "kernSteps", fn := fun _ => fun
  | [d1, d2] => { results := [.lit (.bool false)], args := [d1, d2] }
  | _ => none }
def KernStepsWrongFalsely : Prop := kernStepsRow.holds Tryz.pinned (OpenSpec.ofChange kernStepsWrong)

/-- 'taffraillaw21.KernTakes': WHATEVER THE INPUT: true; the input reads as it did. -/
def kernTakesSpec : ChangeSpec := { name := "kernTakes", fn := fun _ => fun
  | [d1, d2] => { results := [.lit (.bool true)], args := [d1, d2] }
  | _ => none }
def kernTakesRow : OpenClaim := { program := "ythcfimbidmogkaagreatdoor", sum := "67b926e8c206a9d2428b6f06a27694aa586b6135b76c217bd50736ca68534f68", func := "taffrail/taffraillaw21.KernTakes", spec := "kernTakes", inPlace := ["slices.overlaps[taffrail/delta.clock]"], unfollowed := true, recurses := true, named := ["math/bits.deBruijn32tab"], apart := false, laid := [("math/bits.deBruijn32tab", laid_math_bits_deBruijn32tab)] }
def KernTakesSaid : Prop := kernTakesRow.holds Tryz.pinned (OpenSpec.ofChange kernTakesSpec)

/-- ITS FALSE NEIGHBOUR: 'it returns false'. Refute it at one input. -/
def kernTakesWrong : ChangeSpec := { name := "kernTakes", fn := fun _ => fun
  | [d1, d2] => { results := [.lit (.bool false)], args := [d1, d2] }
  | _ => none }
def KernTakesWrongFalsely : Prop := kernTakesRow.holds Tryz.pinned (OpenSpec.ofChange kernTakesWrong)

/-- 'taffraillaw21.KernOwn': WHATEVER THE INPUT: true; the input reads as it did. -/
def kernOwnSpec : ChangeSpec := { name := "kernOwn", fn := fun _ => fun
  | [d1, d2] => { results := [.lit (.bool true)], args := [d1, d2] }
  | _ => none }
def kernOwnRow : OpenClaim := { program := "ythcfimbidmogkaagreatdoor", sum := "67b926e8c206a9d2428b6f06a27694aa586b6135b76c217bd50736ca68534f68", func := "taffrail/taffraillaw21.KernOwn", spec := "kernOwn", inPlace := ["slices.overlaps[taffrail/delta.clock]"], unfollowed := true, recurses := true, named := ["math/bits.deBruijn32tab"], apart := false, laid := [("math/bits.deBruijn32tab", laid_math_bits_deBruijn32tab)] }
def KernOwnSaid : Prop := kernOwnRow.holds Tryz.pinned (OpenSpec.ofChange kernOwnSpec)

/-- ITS FALSE NEIGHBOUR: 'it returns false'. Refute it at one input. -/
def kernOwnWrong : ChangeSpec := { name := "kernOwn", fn := fun _ => fun
  | [d1, d2] => { results := [.lit (.bool false)], args := [d1, d2] }
  | _ => none }
def KernOwnWrongFalsely : Prop := kernOwnRow.holds Tryz.pinned (OpenSpec.ofChange kernOwnWrong)

/-- 'taffraillaw21.KernQuiet': WHATEVER THE INPUT: true; the input reads as it did. -/
def kernQuietSpec : ChangeSpec := { name := "kernQuiet", fn := fun _ => fun
  | [d1, d2, d3] => { results := [.lit (.bool true)], args := [d1, d2, d3] }
  | _ => none }
def kernQuietRow : OpenClaim := { program := "ythcfimbidmogkaagreatdoor", sum := "67b926e8c206a9d2428b6f06a27694aa586b6135b76c217bd50736ca68534f68", func := "taffrail/taffraillaw21.KernQuiet", spec := "kernQuiet", inPlace := ["slices.overlaps[taffrail/delta.clock]"], unfollowed := true, recurses := true, named := ["math/bits.deBruijn32tab"], apart := false, laid := [("math/bits.deBruijn32tab", laid_math_bits_deBruijn32tab)] }
def KernQuietSaid : Prop := kernQuietRow.holds Tryz.pinned (OpenSpec.ofChange kernQuietSpec)

/-- ITS FALSE NEIGHBOUR: 'it returns false'. Refute it at one input. -/
def kernQuietWrong : ChangeSpec := { name := "kernQuiet", fn := fun _ => fun
  | [d1, d2, d3] => { results := [.lit (.bool false)], args := [d1, d2, d3] }
  | _ => none }
def KernQuietWrongFalsely : Prop := kernQuietRow.holds Tryz.pinned (OpenSpec.ofChange kernQuietWrong)

/-- 'taffraillaw21.KernStops': WHATEVER THE INPUT: true; the input reads as it did. -/
def kernStopsSpec : ChangeSpec := { name := "kernStops", fn := fun _ => fun
  | [d1, d2, d3] => { results := [.lit (.bool true)], args := [d1, d2, d3] }
  | _ => none }
def kernStopsRow : OpenClaim := { program := "ythcfimbidmogkaagreatdoor", sum := "67b926e8c206a9d2428b6f06a27694aa586b6135b76c217bd50736ca68534f68", func := "taffrail/taffraillaw21.KernStops", spec := "kernStops", inPlace := ["slices.overlaps[taffrail/delta.clock]"], unfollowed := true, recurses := true, named := ["math/bits.deBruijn32tab"], apart := false, laid := [("math/bits.deBruijn32tab", laid_math_bits_deBruijn32tab)] }
def KernStopsSaid : Prop := kernStopsRow.holds Tryz.pinned (OpenSpec.ofChange kernStopsSpec)

/-- ITS FALSE NEIGHBOUR: 'it returns false'. Refute it at one input. -/
def kernStopsWrong : ChangeSpec := { name := "kernStops", fn := fun _ => fun
  | [d1, d2, d3] => { results := [.lit (.bool false)], args := [d1, d2, d3] }
  | _ => none }
def KernStopsWrongFalsely : Prop := kernStopsRow.holds Tryz.pinned (OpenSpec.ofChange kernStopsWrong)

/-- 'taffraillaw21.KernParts': WHATEVER THE INPUT: true; the input reads as it did. -/
def kernPartsSpec : ChangeSpec := { name := "kernParts", fn := fun _ => fun
  | [d1, d2, d3] => { results := [.lit (.bool true)], args := [d1, d2, d3] }
  | _ => none }
def kernPartsRow : OpenClaim := { program := "ythcfimbidmogkaagreatdoor", sum := "67b926e8c206a9d2428b6f06a27694aa586b6135b76c217bd50736ca68534f68", func := "taffrail/taffraillaw21.KernParts", spec := "kernParts", inPlace := ["slices.overlaps[taffrail/delta.clock]"], unfollowed := true, recurses := true, named := ["math/bits.deBruijn32tab"], apart := false, laid := [("math/bits.deBruijn32tab", laid_math_bits_deBruijn32tab)] }
def KernPartsSaid : Prop := kernPartsRow.holds Tryz.pinned (OpenSpec.ofChange kernPartsSpec)

/-- ITS FALSE NEIGHBOUR: 'it returns false'. Refute it at one input. -/
def kernPartsWrong : ChangeSpec := { name := "kernParts", fn := fun _ => fun
  | [d1, d2, d3] => { results := [.lit (.bool false)], args := [d1, d2, d3] }
  | _ => none }
def KernPartsWrongFalsely : Prop := kernPartsRow.holds Tryz.pinned (OpenSpec.ofChange kernPartsWrong)

/-- 'taffraillaw21.KernNil': WHATEVER THE INPUT: true; the input reads as it did. -/
def kernNilSpec : ChangeSpec := { name := "kernNil", fn := fun _ => fun
  | [d1, d2] => { results := [.lit (.bool true)], args := [d1, d2] }
  | _ => none }
def kernNilRow : OpenClaim := { program := "ythcfimbidmogkaagreatdoor", sum := "67b926e8c206a9d2428b6f06a27694aa586b6135b76c217bd50736ca68534f68", func := "taffrail/taffraillaw21.KernNil", spec := "kernNil", inPlace := ["slices.overlaps[taffrail/delta.clock]"], unfollowed := true, recurses := true, named := ["math/bits.deBruijn32tab"], apart := false, laid := [("math/bits.deBruijn32tab", laid_math_bits_deBruijn32tab)] }
def KernNilSaid : Prop := kernNilRow.holds Tryz.pinned (OpenSpec.ofChange kernNilSpec)

/-- ITS FALSE NEIGHBOUR: 'it returns false'. Refute it at one input. -/
def kernNilWrong : ChangeSpec := { name := "kernNil", fn := fun _ => fun
  | [d1, d2] => { results := [.lit (.bool false)], args := [d1, d2] }
  | _ => none }
def KernNilWrongFalsely : Prop := kernNilRow.holds Tryz.pinned (OpenSpec.ofChange kernNilWrong)

/-- 'taffraillaw21.KernEvents': WHATEVER THE INPUT: true; the input reads as it did. -/
def kernEventsSpec : ChangeSpec := { name := "kernEvents", fn := fun _ => fun
  | [d1, d2] => { results := [.lit (.bool true)], args := [d1, d2] }
  | _ => none }
def kernEventsRow : OpenClaim := { program := "ythcfimbidmogkaagreatdoor", sum := "67b926e8c206a9d2428b6f06a27694aa586b6135b76c217bd50736ca68534f68", func := "taffrail/taffraillaw21.KernEvents", spec := "kernEvents", inPlace := ["slices.overlaps[taffrail/delta.clock]"], unfollowed := true, recurses := true, named := ["math/bits.deBruijn32tab"], apart := false, laid := [("math/bits.deBruijn32tab", laid_math_bits_deBruijn32tab)] }
def KernEventsSaid : Prop := kernEventsRow.holds Tryz.pinned (OpenSpec.ofChange kernEventsSpec)

/-- ITS FALSE NEIGHBOUR: 'it returns false'. Refute it at one input. -/
def kernEventsWrong : ChangeSpec := { name := "kernEvents", fn := fun _ => fun
  | [d1, d2] => { results := [.lit (.bool false)], args := [d1, d2] }
  | _ => none }
def KernEventsWrongFalsely : Prop := kernEventsRow.holds Tryz.pinned (OpenSpec.ofChange kernEventsWrong)

/- THE SECOND FORM. 'bulk': how many values and letters a reading holds, each counted each time it is reached (what is shared counts as often as it is met; a slice's spare places count too). A statement '..UptoSaid' is the law's where the arguments, and the package variables that the reading takes, are together of bulk at most 1048576: NARROWER than '..Said'. Prove '..Said' where nothing that the law and all that it calls make is longer than what came in: it says more and counts as full. Else prove '..UptoSaid'. A law counts once. -/
mutual
def uptoBulk {H : Type} : DataW H → Nat
  | .lit (.string bytes) => bytes.length + 1
  | .lit _ => 1
  | .nil => 1
  | .ptr d => uptoBulk d + 1
  | .slice elems spare => uptoBulkAll elems + uptoBulkAll spare + 1
  | .agg parts => uptoBulkAll parts + 1
  | .iface _ d => uptoBulk d + 1
  | .map entries => uptoBulkEntries entries + 1
  | .held _ => 1
def uptoBulkAll {H : Type} : List (DataW H) → Nat
  | [] => 0
  | d :: r => uptoBulk d + uptoBulkAll r
def uptoBulkEntries {H : Type} : List (Lit × DataW H) → Nat
  | [] => 0
  | x :: r => uptoBulkEntry x + uptoBulkEntries r
def uptoBulkEntry {H : Type} : Lit × DataW H → Nat
  | (.string bytes, d) => bytes.length + uptoBulk d + 1
  | (_, d) => uptoBulk d + 1
 end
def uptoSmall : (H : Type) → List (DataW H) → Bool := fun _ ds => decide (uptoBulkAll ds ≤ 1048576)
def OpenSpec.upto (s : _root_.Go.ChangeSpec) : _root_.Go.OpenSpec := { _root_.Go.OpenSpec.ofChange s with cond := some uptoSmall }

/-- 'taffraillaw21.KernSteps', WHERE WHAT IT READS IS OF BULK AT MOST 1048576: true; the input reads as it did. -/
def kernStepsUptoRow : OpenClaim := { program := "ythcfimbidmogkaagreatdoor", sum := "67b926e8c206a9d2428b6f06a27694aa586b6135b76c217bd50736ca68534f68", func := "taffrail/taffraillaw21.KernSteps", spec := "kernSteps", inPlace := ["slices.overlaps[taffrail/delta.clock]"], unfollowed := true, recurses := true, named := ["math/bits.deBruijn32tab"], apart := false, laid := [("math/bits.deBruijn32tab", laid_math_bits_deBruijn32tab)], narrowed := true }
def KernStepsUptoSaid : Prop := kernStepsUptoRow.holds Tryz.pinned (OpenSpec.upto kernStepsSpec)

/-- 'taffraillaw21.KernTakes', WHERE WHAT IT READS IS OF BULK AT MOST 1048576: true; the input reads as it did. -/
def kernTakesUptoRow : OpenClaim := { program := "ythcfimbidmogkaagreatdoor", sum := "67b926e8c206a9d2428b6f06a27694aa586b6135b76c217bd50736ca68534f68", func := "taffrail/taffraillaw21.KernTakes", spec := "kernTakes", inPlace := ["slices.overlaps[taffrail/delta.clock]"], unfollowed := true, recurses := true, named := ["math/bits.deBruijn32tab"], apart := false, laid := [("math/bits.deBruijn32tab", laid_math_bits_deBruijn32tab)], narrowed := true }
def KernTakesUptoSaid : Prop := kernTakesUptoRow.holds Tryz.pinned (OpenSpec.upto kernTakesSpec)

/-- 'taffraillaw21.KernOwn', WHERE WHAT IT READS IS OF BULK AT MOST 1048576: true; the input reads as it did. -/
def kernOwnUptoRow : OpenClaim := { program := "ythcfimbidmogkaagreatdoor", sum := "67b926e8c206a9d2428b6f06a27694aa586b6135b76c217bd50736ca68534f68", func := "taffrail/taffraillaw21.KernOwn", spec := "kernOwn", inPlace := ["slices.overlaps[taffrail/delta.clock]"], unfollowed := true, recurses := true, named := ["math/bits.deBruijn32tab"], apart := false, laid := [("math/bits.deBruijn32tab", laid_math_bits_deBruijn32tab)], narrowed := true }
def KernOwnUptoSaid : Prop := kernOwnUptoRow.holds Tryz.pinned (OpenSpec.upto kernOwnSpec)

/-- 'taffraillaw21.KernQuiet', WHERE WHAT IT READS IS OF BULK AT MOST 1048576: true; the input reads as it did. -/
def kernQuietUptoRow : OpenClaim := { program := "ythcfimbidmogkaagreatdoor", sum := "67b926e8c206a9d2428b6f06a27694aa586b6135b76c217bd50736ca68534f68", func := "taffrail/taffraillaw21.KernQuiet", spec := "kernQuiet", inPlace := ["slices.overlaps[taffrail/delta.clock]"], unfollowed := true, recurses := true, named := ["math/bits.deBruijn32tab"], apart := false, laid := [("math/bits.deBruijn32tab", laid_math_bits_deBruijn32tab)], narrowed := true }
def KernQuietUptoSaid : Prop := kernQuietUptoRow.holds Tryz.pinned (OpenSpec.upto kernQuietSpec)

/-- 'taffraillaw21.KernStops', WHERE WHAT IT READS IS OF BULK AT MOST 1048576: true; the input reads as it did. -/
def kernStopsUptoRow : OpenClaim := { program := "ythcfimbidmogkaagreatdoor", sum := "67b926e8c206a9d2428b6f06a27694aa586b6135b76c217bd50736ca68534f68", func := "taffrail/taffraillaw21.KernStops", spec := "kernStops", inPlace := ["slices.overlaps[taffrail/delta.clock]"], unfollowed := true, recurses := true, named := ["math/bits.deBruijn32tab"], apart := false, laid := [("math/bits.deBruijn32tab", laid_math_bits_deBruijn32tab)], narrowed := true }
def KernStopsUptoSaid : Prop := kernStopsUptoRow.holds Tryz.pinned (OpenSpec.upto kernStopsSpec)

/-- 'taffraillaw21.KernParts', WHERE WHAT IT READS IS OF BULK AT MOST 1048576: true; the input reads as it did. -/
def kernPartsUptoRow : OpenClaim := { program := "ythcfimbidmogkaagreatdoor", sum := "67b926e8c206a9d2428b6f06a27694aa586b6135b76c217bd50736ca68534f68", func := "taffrail/taffraillaw21.KernParts", spec := "kernParts", inPlace := ["slices.overlaps[taffrail/delta.clock]"], unfollowed := true, recurses := true, named := ["math/bits.deBruijn32tab"], apart := false, laid := [("math/bits.deBruijn32tab", laid_math_bits_deBruijn32tab)], narrowed := true }
def KernPartsUptoSaid : Prop := kernPartsUptoRow.holds Tryz.pinned (OpenSpec.upto kernPartsSpec)

/-- 'taffraillaw21.KernNil', WHERE WHAT IT READS IS OF BULK AT MOST 1048576: true; the input reads as it did. -/
def kernNilUptoRow : OpenClaim := { program := "ythcfimbidmogkaagreatdoor", sum := "67b926e8c206a9d2428b6f06a27694aa586b6135b76c217bd50736ca68534f68", func := "taffrail/taffraillaw21.KernNil", spec := "kernNil", inPlace := ["slices.overlaps[taffrail/delta.clock]"], unfollowed := true, recurses := true, named := ["math/bits.deBruijn32tab"], apart := false, laid := [("math/bits.deBruijn32tab", laid_math_bits_deBruijn32tab)], narrowed := true }
def KernNilUptoSaid : Prop := kernNilUptoRow.holds Tryz.pinned (OpenSpec.upto kernNilSpec)

/-- 'taffraillaw21.KernEvents', WHERE WHAT IT READS IS OF BULK AT MOST 1048576: true; the input reads as it did. -/
def kernEventsUptoRow : OpenClaim := { program := "ythcfimbidmogkaagreatdoor", sum := "67b926e8c206a9d2428b6f06a27694aa586b6135b76c217bd50736ca68534f68", func := "taffrail/taffraillaw21.KernEvents", spec := "kernEvents", inPlace := ["slices.overlaps[taffrail/delta.clock]"], unfollowed := true, recurses := true, named := ["math/bits.deBruijn32tab"], apart := false, laid := [("math/bits.deBruijn32tab", laid_math_bits_deBruijn32tab)], narrowed := true }
def KernEventsUptoSaid : Prop := kernEventsUptoRow.holds Tryz.pinned (OpenSpec.upto kernEventsSpec)

end Rows
end Go.Proofs.YthcfimbidmogkaaGreatDoor
