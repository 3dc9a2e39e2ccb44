/-
  Audit: the contract of the reference's Next.
-/
import Derived.Test.YtfphgcplpokigaaAuditX1
import Derived.Test.YtfphgcplpokigaaAuditX2
import Derived.Test.YtfphgcplpokigaaAuditX3
import Derived.Test.YtfphgcplpokigaaAuditX4
import Derived.Test.YtfphgcplpokigaaAuditY
import Derived.Test.YtfphgcplpokigaaAuditZ1
import Derived.Test.YtfphgcplpokigaaAuditZ2
namespace Go.Proofs.Ytfphgcplpokigaa
open Go.RowKit Go.Sx Go.Au
set_option linter.unusedSimpArgs false
set_option linter.unusedVariables false


theorem rfNext (pb : Nat) (A : Au) (e : Ev) (w0 w : World) (F : HP) (hs : Sat w0 w (rfP pb A * F)) (hA : AOk A) (he : EvOk e) (hseen : 0 ≤ A.seen ∧ A.seen < 1000000000) :
    Calls Try.prog 54 #[.pointer (some ⟨pb, 0, none⟩), evV e] w (Nr w0 pb A e F) := by
  obtain ⟨k, cy, co, a, b, v⟩ := e
  by_cases h0 : okE ⟨k, cy, co, a, b, v⟩ = true
  · have h0' := h0
    unfold okE at h0'
    simp only [Bool.and_eq_true, decide_eq_true_eq] at h0'
    obtain ⟨hkk, hok⟩ := h0'
    by_cases h1 : A.last.k = 24
    · exact rfNext_close pb A k cy co a b v w0 w F hs hA A.due.k A.due.a A.due.b rfl h0 h1
    · by_cases h2 : A.last.co ≤ co
      · by_cases h3 : A.last.cy ≤ cy
        · obtain ⟨n, rfl⟩ := Int.eq_ofNat_of_zero_le (show 0 ≤ k by omega)
          have hok : okN n a b v = true := hok
          have hkk : 1 ≤ n ∧ n ≤ 24 := by omega
          by_cases h4 : A.due.k = 0
          · have h6 := hA.dz h4
            exact rfNext_free pb A n cy co a b v w0 w F hs hA A.due.k A.due.a A.due.b rfl hseen hkk hok he.v h0 h1 h2 h3 (by rw [h6]; exact ⟨rfl, rfl, rfl⟩)
          · by_cases h5 : A.due.k = n ∧ A.due.a = a ∧ A.due.b = b
            · exact rfNext_had pb A n cy co a b v w0 w F hs hA A.due.k A.due.a A.due.b rfl hseen hkk hok he.v h0 h1 h2 h3 h5
            · exact rfNext_due pb A n cy co a b v w0 w F hs hA A.due.k A.due.a A.due.b rfl h0 h1 h2 h3 h4 h5
        · exact rfNext_cy pb A k cy co a b v w0 w F hs hA A.due.k A.due.a A.due.b rfl h0 h1 h2 h3
      · exact rfNext_co pb A k cy co a b v w0 w F hs hA A.due.k A.due.a A.due.b rfl h0 h1 h2
  · exact rfNext_ev pb A k cy co a b v w0 w F hs hA A.due.k A.due.a A.due.b rfl (by simpa using h0)
end Go.Proofs.Ytfphgcplpokigaa
