/-
  StatJobs: for every input the law returns true, and each argument reads afterwards as before; its one listed variable tied to the program's text.
-/
import Derived.Test.YtkeommmigopnkaaGreatDoorTopStatJobsO
import Derived.Test.YtkeommmigopnkaaGreatDoorCards
import Derived.Test.YtkeommmigopnkaaGreatDoorTie
import Derived.SevenTiedAt
namespace Go.Proofs.YtkeommmigopnkaaGreatDoor.statJobs
open Go.ChangeShapes Go.WideShapes Go.ChangeAt Go.RowKit Go.Sx
open Go.ChangeMaps (open_string shut_string)
set_option linter.unusedVariables false

set_option maxHeartbeats 0 in
theorem carded : Claim7.holds Tryz.pinned (.plain (OpenSpec.ofChange Rows.statJobsSpec)) Rows.statJobsCard :=
  Claim7.holds_tied_plain_at .later [] [.data] true _ false
    over (fun _ h => by cases h) (by as_aux_lemma => kernel_rfl) (fun _ h => by cases h) statJobs_row_tie rfl ⟨rfl, rfl⟩ (by as_aux_lemma => kernel_rfl) rfl
    (fun f fn hf hfn => by
      obtain rfl : f = 3 := Option.some.inj ((show Tryz.prog.funcNamed "taffrail/taffraillaw28.StatJobs" = some 3 by as_aux_lemma => kernel_rfl).symm.trans hf) |>.symm
      obtain rfl : fn = Tryz.f3 := (Option.some.inj (Tryz.func3.symm.trans hfn)).symm
      exact ⟨by as_aux_lemma => kernel_rfl, fun j t ht => by
        rw [Tryz.params3] at ht
        have hm : t ∈ [28, 29] := by simpa using Array.mem_of_getElem? ht
        have hall : ([28, 29].all fun u => !Tryz.prog.wantsStandIn u) = true := by as_aux_lemma => kernel_rfl
        exact (show Tryz.prog.wantsStandIn t = false by simpa using List.all_eq_true.1 hall t hm)⟩)
    (by as_aux_lemma => kernel_rfl)
end Go.Proofs.YtkeommmigopnkaaGreatDoor.statJobs
namespace Go.Proofs.YtkeommmigopnkaaGreatDoor
/-- The statement. -/
theorem statJobs_holds : Rows.StatJobsCardSaid := statJobs.carded
#print axioms statJobs_holds
end Go.Proofs.YtkeommmigopnkaaGreatDoor
