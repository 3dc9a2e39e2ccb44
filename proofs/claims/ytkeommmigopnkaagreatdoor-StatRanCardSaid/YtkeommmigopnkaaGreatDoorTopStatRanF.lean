/-
  StatRan: for every input the law returns true, and each argument reads afterwards as before; its one listed variable tied to the program's text.
-/
import Derived.Test.YtkeommmigopnkaaGreatDoorCards
import Derived.Test.YtkeommmigopnkaaGreatDoorTie
import Derived.SevenTiedAt
namespace Go.Proofs.YtkeommmigopnkaaGreatDoor.statRan
set_option linter.unusedVariables false

theorem j_and {a b : Bool} (ha : a = true) (hb : b = true) : (a && b) = true := by rw [ha, hb]; rfl
set_option maxHeartbeats 0 in
set_option maxRecDepth 100000 in
theorem closed : joinedFacts Tryz.pinned.checked.prog 5 Tryz.f5 Rows.statRanSpec Rows.statRanRow = true := by
  unfold joinedFacts
  repeat' (refine j_and ?_ ?_)
  all_goals (as_aux_lemma => kernel_rfl)
end Go.Proofs.YtkeommmigopnkaaGreatDoor.statRan
