/-
  StatJobs: for every input the law returns true, and each argument reads afterwards as before; its one listed variable tied to the program's text.
-/
import Derived.Test.YtkeommmigopnkaaGreatDoorTopStatJobsLM
import Derived.Test.YtkeommmigopnkaaGreatDoorTopStatJobsF
import Derived.Test.YtkeommmigopnkaaGreatDoorCards
import Derived.Test.YtkeommmigopnkaaGreatDoorTie
import Derived.SevenTiedAt
namespace Go.Proofs.YtkeommmigopnkaaGreatDoor.statJobs
open Go.ChangeShapes Go.WideShapes Go.ChangeAt Go.RowKit Go.Sx
open Go.ChangeMaps (open_string shut_string)
set_option linter.unusedVariables false

set_option maxHeartbeats 0 in
theorem over : Rows.statJobsRow.holds Tryz.pinned (OpenSpec.ofChange Rows.statJobsSpec) :=
  OpenClaim.holds_of_wide 3 Tryz.f3 rfl rfl rfl rfl rfl rfl rfl ⟨rfl, rfl, rfl, rfl, rfl⟩ rfl rfl rfl rfl rfl (by as_aux_lemma => kernel_rfl) Tryz.func3 closed
    (of_decide_eq_true (by as_aux_lemma => kernel_rfl)) (by unfold Func.isWrapper; first | (rw [if_pos (by decide +kernel)]; kernel_rfl) | (rw [if_neg (by decide +kernel)]; exact ⟨rfl, rfl⟩))
    (fun os started H enc _ => lifted os started H enc)
end Go.Proofs.YtkeommmigopnkaaGreatDoor.statJobs
