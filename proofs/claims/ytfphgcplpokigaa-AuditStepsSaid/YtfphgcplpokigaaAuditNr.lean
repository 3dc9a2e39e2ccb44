/-
  Audit: the contract of the reference's Next.
-/
import Derived.Test.YtfphgcplpokigaaAuditW
import Derived.Test.YtfphgcplpokigaaAuditT
import Derived.Test.YtfphgcplpokigaaAuditL
namespace Go.Proofs.Ytfphgcplpokigaa
open Go.RowKit Go.Sx Go.Au
set_option linter.unusedSimpArgs false
set_option linter.unusedVariables false

/-- What the reference's Next comes to. -/
def Nr (w0 : World) (pb : Nat) (A : Au) (e : Ev) (F : HP) (en : Ending) (w' : World) : Prop :=
  en = .returned (.bool (keepsR A e)) ∧ (keepsR A e = true → Sat w0 w' (rfP pb (stepA A e) * F)) ∧ (keepsR A e = false → Sat w0 w' (pts pb 63 [.int .i64 A.seen, .bool true] * (F * any)))
section
variable {w0 w' : World} {pb : Nat} {A : Au} {e : Ev} {F : HP}
theorem nr_no (hr : keepsR A e = false) (hs : Sat w0 w' (pts pb 63 [.int .i64 A.seen, .bool true] * (F * any))) : Nr w0 pb A e F (.returned (.bool false)) w' :=
  ⟨by rw [hr], fun h => (by rw [hr] at h; cases h), fun _ => hs⟩
theorem nr_yes (hr : keepsR A e = true) (hs : Sat w0 w' (rfP pb (stepA A e) * F)) : Nr w0 pb A e F (.returned (.bool true)) w' :=
  ⟨by rw [hr], fun _ => hs, fun h => (by rw [hr] at h; cases h)⟩
end
end Go.Proofs.Ytfphgcplpokigaa
