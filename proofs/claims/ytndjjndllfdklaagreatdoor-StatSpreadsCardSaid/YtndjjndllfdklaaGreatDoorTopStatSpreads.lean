/-
  StatSpreads: for every input the law returns true, and each argument reads afterwards as before; its one listed variable tied to the program's text.
-/
import Derived.Test.YtndjjndllfdklaaGreatDoorTopStatSpreadsO
import Derived.Test.YtndjjndllfdklaaGreatDoorCards
import Derived.Test.YtndjjndllfdklaaGreatDoorTie
import Derived.SevenTiedAt
namespace Go.Proofs.YtndjjndllfdklaaGreatDoor.statSpreads
open Go.ChangeShapes Go.WideShapes Go.ChangeAt Go.RowKit Go.Sx
open Go.ChangeMaps (open_string shut_string)
set_option linter.unusedVariables false

set_option maxHeartbeats 0 in
theorem carded : Claim7.holds Tryz.pinned (.plain (OpenSpec.ofChange Rows.statSpreadsSpec)) Rows.statSpreadsCard :=
  Claim7.holds_tied_plain_at .later [] [.data] true _ false
    over (fun _ h => by cases h) (by as_aux_lemma => kernel_rfl) (fun _ h => by cases h) statSpreads_row_tie rfl ⟨rfl, rfl⟩ (by as_aux_lemma => kernel_rfl) rfl
    (fun f fn hf hfn => by
      obtain rfl : f = 12 := Option.some.inj ((show Tryz.prog.funcNamed "taffrail/taffraillaw28.StatSpreads" = some 12 by as_aux_lemma => kernel_rfl).symm.trans hf) |>.symm
      obtain rfl : fn = Tryz.f12 := (Option.some.inj (Tryz.func12.symm.trans hfn)).symm
      exact ⟨by as_aux_lemma => kernel_rfl, fun j t ht => by
        rw [Tryz.params12] at ht
        have hm : t ∈ [98, 3, 103] := by simpa using Array.mem_of_getElem? ht
        have hall : ([98, 3, 103].all fun u => !Tryz.prog.wantsStandIn u) = true := by as_aux_lemma => kernel_rfl
        exact (show Tryz.prog.wantsStandIn t = false by simpa using List.all_eq_true.1 hall t hm)⟩)
    (by as_aux_lemma => kernel_rfl)
end Go.Proofs.YtndjjndllfdklaaGreatDoor.statSpreads
namespace Go.Proofs.YtndjjndllfdklaaGreatDoor
/-- The statement. -/
theorem statSpreads_holds : Rows.StatSpreadsCardSaid := statSpreads.carded
#print axioms statSpreads_holds
end Go.Proofs.YtndjjndllfdklaaGreatDoor
