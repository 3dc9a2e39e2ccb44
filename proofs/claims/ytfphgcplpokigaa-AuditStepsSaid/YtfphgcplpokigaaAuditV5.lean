/-
  Audit: which events the reference lets be.
-/
import Derived.Test.YtfphgcplpokigaaAuditU
namespace Go.Proofs.Ytfphgcplpokigaa
open Go.RowKit Go.Sx Go.Au
set_option linter.unusedSimpArgs false
set_option linter.unusedVariables false

set_option maxRecDepth 100000 in
set_option maxHeartbeats 2000000 in
theorem rfSecond5 (a b v : Nat) (cy co : Int) (w0 w : World) (P : HP) [hs : Sat w0 w P] : Calls Try.prog 99 #[evA 5 a b v cy co] w (RetV w0 (.bool (win b (shp 5).2.1 && !(decide (5 = 5) && decide (a = b)))) P) := by
  have hq5 : (win b (shp 5).2.1 && !(decide (5 = 5) && decide (a = b))) = (win b 8 && !decide (a = b)) := by simp [shp]
  rw [hq5]
  have Hq : Hid (win b 8 = decide (b < 64 ∨ b = 255)) := rfl
  by_cases ha : a = b
  · subst ha
    rw [show decide (a = a) = true by simp]
    by_cases h1 : a < 64
    · have h2 : decide (0 ≤ a ∧ a ≤ 63) = true := by simp; omega
      go_enter Try.func99, Try.ntmps99
      go_wp2_with fail
      refine (rfInX a 0 63 _ h2 _).mono ?_
      rintro e w' ⟨rfl, rfl⟩
      go_wp2_with fail
      go_ret
      exact ⟨retB (by simp), own_left⟩
    · have h2 : decide (0 ≤ a ∧ a ≤ 63) = false := by simp; omega
      by_cases h3 : a = 255
      · have h4 : ((a : Int) == 255) = true := by simp [h3]
        have H3 := hid h3
        clear h3
        go_enter Try.func99, Try.ntmps99
        go_wp2_with fail
        refine (rfInX a 0 63 _ h2 _).mono ?_
        rintro e w' ⟨rfl, rfl⟩
        go_wp2_with fail
        go_ret
        exact ⟨retB (by simp), own_left⟩
      · have h4 : ((a : Int) == 255) = false := by simp; omega
        go_enter Try.func99, Try.ntmps99
        go_wp2_with fail
        refine (rfInX a 0 63 _ h2 _).mono ?_
        rintro e w' ⟨rfl, rfl⟩
        go_wp2_with fail
        go_ret
        exact ⟨retB (by simp), own_left⟩
  · have hne : ((b : Int) != (a : Int)) = true := by simp; omega
    rw [show decide (a = b) = false by simp [ha]]
    by_cases h1 : b < 64
    · have h2 : decide (0 ≤ b ∧ b ≤ 63) = true := by simp; omega
      go_enter Try.func99, Try.ntmps99
      go_wp2_with fail
      refine (rfInX b 0 63 _ h2 _).mono ?_
      rintro e w' ⟨rfl, rfl⟩
      go_wp2_with fail
      go_ret
      exact ⟨retB (by rw [Hq.out]; simp [h1]), own_left⟩
    · have h2 : decide (0 ≤ b ∧ b ≤ 63) = false := by simp; omega
      by_cases h3 : b = 255
      · have h4 : ((b : Int) == 255) = true := by simp [h3]
        have H3 := hid h3
        clear h3
        go_enter Try.func99, Try.ntmps99
        go_wp2_with fail
        refine (rfInX b 0 63 _ h2 _).mono ?_
        rintro e w' ⟨rfl, rfl⟩
        go_wp2_with fail
        go_ret
        exact ⟨retB (by rw [Hq.out]; simp [H3.out]), own_left⟩
      · have h4 : ((b : Int) == 255) = false := by simp; omega
        go_enter Try.func99, Try.ntmps99
        go_wp2_with fail
        refine (rfInX b 0 63 _ h2 _).mono ?_
        rintro e w' ⟨rfl, rfl⟩
        go_wp2_with fail
        go_ret
        exact ⟨retB (by rw [Hq.out]; simp [h1, h3]), own_left⟩
end Go.Proofs.Ytfphgcplpokigaa
