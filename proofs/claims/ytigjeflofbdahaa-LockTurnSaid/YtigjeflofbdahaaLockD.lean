/-
  Locks that are none.
-/
import Derived.Test.YtigjeflofbdahaaLockC
namespace Go.Proofs.Ytigjeflofbdahaa
open Go.RowKit Go.Sx Go.Lk
set_option linter.unusedSimpArgs false
set_option linter.unusedVariables false

theorem lkLock_nil (t m : Int) (w : World) : Calls Try.prog 12 #[.pointer none, .int .i64 t, .int .i64 m] w fun en w' => en = .returned (.tuple #[.bool false, .int .i64 16]) ∧ w = w' := by
  go_enter Try.func12, Try.ntmps12
  go_wp2_with fail
  go_ret2
  exact ⟨rfl, rfl⟩
theorem lkUnlock_nil (t m : Int) (w : World) : Calls Try.prog 9 #[.pointer none, .int .i64 t, .int .i64 m] w fun en w' => en = .returned (.tuple #[.int .i64 255, .int .i64 16]) ∧ w = w' := by
  go_enter Try.func9, Try.ntmps9
  go_wp2_with fail
  go_ret2
  exact ⟨rfl, rfl⟩
theorem lkOwner_nil (m : Int) (w : World) : Calls Try.prog 8 #[.pointer none, .int .i64 m] w fun en w' => en = .returned (.int .i64 255) ∧ w = w' := by
  go_enter Try.func8, Try.ntmps8
  go_wp2_with fail
  go_ret
  exact ⟨rfl, rfl⟩
theorem lkWaits_nil (m : Int) (w : World) : Calls Try.prog 10 #[.pointer none, .int .i64 m] w fun en w' => en = .returned (.int .i64 (-1)) ∧ w = w' := by
  go_enter Try.func10, Try.ntmps10
  go_wp2_with fail
  go_ret
  exact ⟨rfl, rfl⟩
theorem lkWaiting_nil (m : Int) (w : World) : Calls Try.prog 6 #[.pointer none, .int .i64 m] w fun en w' => en = .returned (.slice none 0 0) ∧ w = w' := by
  go_enter Try.func6, Try.ntmps6
  go_wp2_with fail
  go_ret
  exact ⟨rfl, rfl⟩
theorem lkLevels_nil (w : World) : Calls Try.prog 7 #[.pointer none] w fun en w' => en = .returned (.slice none 0 0) ∧ w = w' := by
  go_enter Try.func7, Try.ntmps7
  go_wp2_with fail
  go_ret
  exact ⟨rfl, rfl⟩
end Go.Proofs.Ytigjeflofbdahaa
