/-
  AuditNil: the walk.
-/
import Derived.Test.YtfphgcplpokigaaAuditO
namespace Go.Proofs.Ytfphgcplpokigaa
open Go.RowKit Go.Sx Go.Au
set_option linter.unusedSimpArgs false
set_option linter.unusedVariables false

set_option maxRecDepth 100000 in
theorem auditNil_walk (e : Ev) (w0 : World) :
    Calls Try.prog 19 #[evV e] w0 (RetV w0 (.bool true) emp) := by
  have hs := Sat.start w0
  obtain ⟨k, cy, co, a, b, v⟩ := e
  unfold evV
  dsimp only
  go_enter Try.func19, Try.ntmps19
  go_wp2_with fail
  refine (auAwake w0 _ _ own_it).mono ?_
  rintro e w1 ⟨rfl, hs1⟩
  go_wp2_with fail
  refine (auNext_nil ⟨k, cy, co, a, b, v⟩ w0 _ _ hs1).mono ?_
  rintro e w2 ⟨rfl, hs2⟩
  go_wp2_with fail
  refine (auSeen_nil _).mono ?_
  rintro e w3 ⟨rfl, rfl⟩
  go_wp2_with fail
  refine (auBroken_nil _).mono ?_
  rintro e w4 ⟨rfl, rfl⟩
  go_wp2_with fail
  go_ret
  exact ⟨rfl, own_left⟩
end Go.Proofs.Ytfphgcplpokigaa
