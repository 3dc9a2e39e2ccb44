/-
  Locks that are none.
-/
import Derived.Test.YtfphgcplpokigaaLockC
namespace Go.Proofs.Ytfphgcplpokigaa
open Go.RowKit Go.Sx Go.Lk
set_option linter.unusedSimpArgs false
set_option linter.unusedVariables false

theorem lkLock_nil (t m : Int) (w : World) : Calls Try.prog 37 #[.pointer none, .int .i64 t, .int .i64 m] w fun en w' => en = .returned (.tuple #[.bool false, .int .i64 16]) ∧ w = w' := by
  go_enter Try.func37, Try.ntmps37
  go_wp2_with fail
  go_ret2
  exact ⟨rfl, rfl⟩
theorem lkUnlock_nil (t m : Int) (w : World) : Calls Try.prog 32 #[.pointer none, .int .i64 t, .int .i64 m] w fun en w' => en = .returned (.tuple #[.int .i64 255, .int .i64 16]) ∧ w = w' := by
  go_enter Try.func32, Try.ntmps32
  go_wp2_with fail
  go_ret2
  exact ⟨rfl, rfl⟩
theorem lkOwner_nil (m : Int) (w : World) : Calls Try.prog 27 #[.pointer none, .int .i64 m] w fun en w' => en = .returned (.int .i64 255) ∧ w = w' := by
  go_enter Try.func27, Try.ntmps27
  go_wp2_with fail
  go_ret
  exact ⟨rfl, rfl⟩
theorem lkWaits_nil (m : Int) (w : World) : Calls Try.prog 26 #[.pointer none, .int .i64 m] w fun en w' => en = .returned (.int .i64 (-1)) ∧ w = w' := by
  go_enter Try.func26, Try.ntmps26
  go_wp2_with fail
  go_ret
  exact ⟨rfl, rfl⟩
theorem lkWaiting_nil (m : Int) (w : World) : Calls Try.prog 31 #[.pointer none, .int .i64 m] w fun en w' => en = .returned (.slice none 0 0) ∧ w = w' := by
  go_enter Try.func31, Try.ntmps31
  go_wp2_with fail
  go_ret
  exact ⟨rfl, rfl⟩
theorem lkHeld_nil (m : Int) (w : World) : Calls Try.prog 41 #[.pointer none, .int .i64 m] w fun en w' => en = .returned (.slice none 0 0) ∧ w = w' := by
  go_enter Try.func41, Try.ntmps41
  go_wp2_with fail
  go_ret
  exact ⟨rfl, rfl⟩
theorem lkLevels_nil (w : World) : Calls Try.prog 25 #[.pointer none] w fun en w' => en = .returned (.slice none 0 0) ∧ w = w' := by
  go_enter Try.func25, Try.ntmps25
  go_wp2_with fail
  go_ret
  exact ⟨rfl, rfl⟩
end Go.Proofs.Ytfphgcplpokigaa
