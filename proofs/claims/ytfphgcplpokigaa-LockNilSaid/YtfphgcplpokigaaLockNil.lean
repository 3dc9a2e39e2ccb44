/-
  LockNil: the walk.
-/
import Derived.Test.YtfphgcplpokigaaLockO
namespace Go.Proofs.Ytfphgcplpokigaa
open Go.RowKit Go.Sx Go.Lk

set_option maxRecDepth 100000 in
set_option maxHeartbeats 4000000 in
theorem lockNil_walk (t m : Int) (w0 : World) (_z0 : (Lit.int .i64 t).wf = true) (_z1 : (Lit.int .i64 m).wf = true) :
    Calls Try.prog 11 #[.int .i64 t, .int .i64 m] w0 (RetV w0 (.bool true) emp) := by
  have hs := Sat.start w0
  go_enter Try.func11, Try.ntmps11
  go_wp2_with fail
  refine (lkLock_nil t m _).mono ?_
  rintro e w1 ⟨rfl, rfl⟩
  go_wp2_with fail
  refine (lkUnlock_nil t m _).mono ?_
  rintro e w1 ⟨rfl, rfl⟩
  go_wp2_with fail
  refine (lkAwake w0 _ _ hs).mono ?_
  rintro e w1 ⟨rfl, hs1⟩
  go_wp2_with fail
  refine (lkOwner_nil m _).mono ?_
  rintro e w2 ⟨rfl, rfl⟩
  go_wp2_with fail
  refine (lkWaiting_nil m _).mono ?_
  rintro e w2 ⟨rfl, rfl⟩
  go_wp2_with fail
  refine (lkWaits_nil t _).mono ?_
  rintro e w2 ⟨rfl, rfl⟩
  go_wp2_with fail
  refine (lkHeld_nil t _).mono ?_
  rintro e w2 ⟨rfl, rfl⟩
  go_wp2_with fail
  refine (lkLevels_nil _).mono ?_
  rintro e w2 ⟨rfl, rfl⟩
  go_wp2_with fail
  go_ret
  exact ⟨rfl, hs1⟩
end Go.Proofs.Ytfphgcplpokigaa
