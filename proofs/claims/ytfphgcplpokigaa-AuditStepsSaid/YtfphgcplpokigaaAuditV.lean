/-
  Audit: which events the reference lets be.
-/
import Derived.Test.YtfphgcplpokigaaAuditV5
namespace Go.Proofs.Ytfphgcplpokigaa
open Go.RowKit Go.Sx Go.Au
set_option linter.unusedSimpArgs false
set_option linter.unusedVariables false

set_option maxRecDepth 100000 in
set_option maxHeartbeats 4000000 in
theorem rfSecond1 (a b v : Nat) (cy co : Int) (w0 w : World) (P : HP) [hs : Sat w0 w P] : Calls Try.prog 99 #[evA 1 a b v cy co] w (RetV w0 (.bool (win b (shp 1).2.1 && !(decide (1 = 5) && decide (a = b)))) P) := by
  go_enter Try.func99, Try.ntmps99
  go_wp2_with fail
  refine (rfInX b 0 1 _ rfl _).mono ?_
  rintro e w' ⟨rfl, rfl⟩
  go_wp2_with fail
  go_ret
  exact ⟨retB (by rw [Bool.eq_iff_iff]; simp [win, shp]), own_left⟩
set_option maxRecDepth 100000 in
set_option maxHeartbeats 4000000 in
theorem rfSecond2 (a b v : Nat) (cy co : Int) (w0 w : World) (P : HP) [hs : Sat w0 w P] : Calls Try.prog 99 #[evA 2 a b v cy co] w (RetV w0 (.bool (win b (shp 2).2.1 && !(decide (2 = 5) && decide (a = b)))) P) := by
  go_enter Try.func99, Try.ntmps99
  go_wp2_with fail
  refine (rfInX b 0 79 _ rfl _).mono ?_
  rintro e w' ⟨rfl, rfl⟩
  go_wp2_with fail
  go_ret
  exact ⟨retB (by rw [Bool.eq_iff_iff]; simp [win, shp]), own_left⟩
set_option maxRecDepth 100000 in
set_option maxHeartbeats 4000000 in
theorem rfSecond3 (a b v : Nat) (cy co : Int) (w0 w : World) (P : HP) [hs : Sat w0 w P] : Calls Try.prog 99 #[evA 3 a b v cy co] w (RetV w0 (.bool (win b (shp 3).2.1 && !(decide (3 = 5) && decide (a = b)))) P) := by
  go_enter Try.func99, Try.ntmps99
  go_wp2_with fail
  go_ret
  exact ⟨retB (by rw [Bool.eq_iff_iff]; simp [win, shp]), own_left⟩
set_option maxRecDepth 100000 in
set_option maxHeartbeats 4000000 in
theorem rfSecond4 (a b v : Nat) (cy co : Int) (w0 w : World) (P : HP) [hs : Sat w0 w P] : Calls Try.prog 99 #[evA 4 a b v cy co] w (RetV w0 (.bool (win b (shp 4).2.1 && !(decide (4 = 5) && decide (a = b)))) P) := by
  go_enter Try.func99, Try.ntmps99
  go_wp2_with fail
  go_ret
  exact ⟨retB (by rw [Bool.eq_iff_iff]; simp [win, shp]), own_left⟩
set_option maxRecDepth 100000 in
set_option maxHeartbeats 4000000 in
theorem rfSecond6 (a b v : Nat) (cy co : Int) (w0 w : World) (P : HP) [hs : Sat w0 w P] : Calls Try.prog 99 #[evA 6 a b v cy co] w (RetV w0 (.bool (win b (shp 6).2.1 && !(decide (6 = 5) && decide (a = b)))) P) := by
  go_enter Try.func99, Try.ntmps99
  go_wp2_with fail
  go_ret
  exact ⟨retB (by rw [Bool.eq_iff_iff]; simp [win, shp]), own_left⟩
set_option maxRecDepth 100000 in
set_option maxHeartbeats 4000000 in
theorem rfSecond7 (a b v : Nat) (cy co : Int) (w0 w : World) (P : HP) [hs : Sat w0 w P] : Calls Try.prog 99 #[evA 7 a b v cy co] w (RetV w0 (.bool (win b (shp 7).2.1 && !(decide (7 = 5) && decide (a = b)))) P) := by
  go_enter Try.func99, Try.ntmps99
  go_wp2_with fail
  go_ret
  exact ⟨retB (by rw [Bool.eq_iff_iff]; simp [win, shp]), own_left⟩
set_option maxRecDepth 100000 in
set_option maxHeartbeats 4000000 in
theorem rfSecond8 (a b v : Nat) (cy co : Int) (w0 w : World) (P : HP) [hs : Sat w0 w P] : Calls Try.prog 99 #[evA 8 a b v cy co] w (RetV w0 (.bool (win b (shp 8).2.1 && !(decide (8 = 5) && decide (a = b)))) P) := by
  go_enter Try.func99, Try.ntmps99
  go_wp2_with fail
  go_ret
  exact ⟨retB (by rw [Bool.eq_iff_iff]; simp [win, shp]), own_left⟩
set_option maxRecDepth 100000 in
set_option maxHeartbeats 4000000 in
theorem rfSecond9 (a b v : Nat) (cy co : Int) (w0 w : World) (P : HP) [hs : Sat w0 w P] : Calls Try.prog 99 #[evA 9 a b v cy co] w (RetV w0 (.bool (win b (shp 9).2.1 && !(decide (9 = 5) && decide (a = b)))) P) := by
  by_cases hq : b = 0
  · have e0 : ((b : Int) == 0) = true := by simp [hq]
    go_enter Try.func99, Try.ntmps99
    go_wp2_with fail
    go_ret
    exact ⟨retB (by rw [Bool.eq_iff_iff]; simp [win, shp, hq]), own_left⟩
  · have e0 : ((b : Int) == 0) = false := by simp; omega
    go_enter Try.func99, Try.ntmps99
    go_wp2_with fail
    refine (rfInX b 32 159 _ rfl _).mono ?_
    rintro e w' ⟨rfl, rfl⟩
    go_wp2_with fail
    go_ret
    exact ⟨retB (by rw [Bool.eq_iff_iff]; simp [win, shp, hq]; omega), own_left⟩
set_option maxRecDepth 100000 in
set_option maxHeartbeats 4000000 in
theorem rfSecond10 (a b v : Nat) (cy co : Int) (w0 w : World) (P : HP) [hs : Sat w0 w P] : Calls Try.prog 99 #[evA 10 a b v cy co] w (RetV w0 (.bool (win b (shp 10).2.1 && !(decide (10 = 5) && decide (a = b)))) P) := by
  go_enter Try.func99, Try.ntmps99
  go_wp2_with fail
  refine (rfInX b 0 1 _ rfl _).mono ?_
  rintro e w' ⟨rfl, rfl⟩
  go_wp2_with fail
  go_ret
  exact ⟨retB (by rw [Bool.eq_iff_iff]; simp [win, shp]), own_left⟩
set_option maxRecDepth 100000 in
set_option maxHeartbeats 4000000 in
theorem rfSecond11 (a b v : Nat) (cy co : Int) (w0 w : World) (P : HP) [hs : Sat w0 w P] : Calls Try.prog 99 #[evA 11 a b v cy co] w (RetV w0 (.bool (win b (shp 11).2.1 && !(decide (11 = 5) && decide (a = b)))) P) := by
  go_enter Try.func99, Try.ntmps99
  go_wp2_with fail
  refine (rfInX b 0 31 _ rfl _).mono ?_
  rintro e w' ⟨rfl, rfl⟩
  go_wp2_with fail
  go_ret
  exact ⟨retB (by rw [Bool.eq_iff_iff]; simp [win, shp]), own_left⟩
set_option maxRecDepth 100000 in
set_option maxHeartbeats 4000000 in
theorem rfSecond12 (a b v : Nat) (cy co : Int) (w0 w : World) (P : HP) [hs : Sat w0 w P] : Calls Try.prog 99 #[evA 12 a b v cy co] w (RetV w0 (.bool (win b (shp 12).2.1 && !(decide (12 = 5) && decide (a = b)))) P) := by
  go_enter Try.func99, Try.ntmps99
  go_wp2_with fail
  refine (rfInX b 0 31 _ rfl _).mono ?_
  rintro e w' ⟨rfl, rfl⟩
  go_wp2_with fail
  go_ret
  exact ⟨retB (by rw [Bool.eq_iff_iff]; simp [win, shp]), own_left⟩
set_option maxRecDepth 100000 in
set_option maxHeartbeats 4000000 in
theorem rfSecond13 (a b v : Nat) (cy co : Int) (w0 w : World) (P : HP) [hs : Sat w0 w P] : Calls Try.prog 99 #[evA 13 a b v cy co] w (RetV w0 (.bool (win b (shp 13).2.1 && !(decide (13 = 5) && decide (a = b)))) P) := by
  go_enter Try.func99, Try.ntmps99
  go_wp2_with fail
  refine (rfInX b 0 31 _ rfl _).mono ?_
  rintro e w' ⟨rfl, rfl⟩
  go_wp2_with fail
  go_ret
  exact ⟨retB (by rw [Bool.eq_iff_iff]; simp [win, shp]), own_left⟩
set_option maxRecDepth 100000 in
set_option maxHeartbeats 4000000 in
theorem rfSecond14 (a b v : Nat) (cy co : Int) (w0 w : World) (P : HP) [hs : Sat w0 w P] : Calls Try.prog 99 #[evA 14 a b v cy co] w (RetV w0 (.bool (win b (shp 14).2.1 && !(decide (14 = 5) && decide (a = b)))) P) := by
  go_enter Try.func99, Try.ntmps99
  go_wp2_with fail
  refine (rfInX b 0 31 _ rfl _).mono ?_
  rintro e w' ⟨rfl, rfl⟩
  go_wp2_with fail
  go_ret
  exact ⟨retB (by rw [Bool.eq_iff_iff]; simp [win, shp]), own_left⟩
set_option maxRecDepth 100000 in
set_option maxHeartbeats 4000000 in
theorem rfSecond15 (a b v : Nat) (cy co : Int) (w0 w : World) (P : HP) [hs : Sat w0 w P] : Calls Try.prog 99 #[evA 15 a b v cy co] w (RetV w0 (.bool (win b (shp 15).2.1 && !(decide (15 = 5) && decide (a = b)))) P) := by
  go_enter Try.func99, Try.ntmps99
  go_wp2_with fail
  refine (rfInX b 0 31 _ rfl _).mono ?_
  rintro e w' ⟨rfl, rfl⟩
  go_wp2_with fail
  go_ret
  exact ⟨retB (by rw [Bool.eq_iff_iff]; simp [win, shp]), own_left⟩
set_option maxRecDepth 100000 in
set_option maxHeartbeats 4000000 in
theorem rfSecond16 (a b v : Nat) (cy co : Int) (w0 w : World) (P : HP) [hs : Sat w0 w P] : Calls Try.prog 99 #[evA 16 a b v cy co] w (RetV w0 (.bool (win b (shp 16).2.1 && !(decide (16 = 5) && decide (a = b)))) P) := by
  go_enter Try.func99, Try.ntmps99
  go_wp2_with fail
  refine (rfInX b 0 31 _ rfl _).mono ?_
  rintro e w' ⟨rfl, rfl⟩
  go_wp2_with fail
  go_ret
  exact ⟨retB (by rw [Bool.eq_iff_iff]; simp [win, shp]), own_left⟩
set_option maxRecDepth 100000 in
set_option maxHeartbeats 4000000 in
theorem rfSecond17 (a b v : Nat) (cy co : Int) (w0 w : World) (P : HP) [hs : Sat w0 w P] : Calls Try.prog 99 #[evA 17 a b v cy co] w (RetV w0 (.bool (win b (shp 17).2.1 && !(decide (17 = 5) && decide (a = b)))) P) := by
  go_enter Try.func99, Try.ntmps99
  go_wp2_with fail
  refine (rfInX b 0 31 _ rfl _).mono ?_
  rintro e w' ⟨rfl, rfl⟩
  go_wp2_with fail
  go_ret
  exact ⟨retB (by rw [Bool.eq_iff_iff]; simp [win, shp]), own_left⟩
set_option maxRecDepth 100000 in
set_option maxHeartbeats 4000000 in
theorem rfSecond18 (a b v : Nat) (cy co : Int) (w0 w : World) (P : HP) [hs : Sat w0 w P] : Calls Try.prog 99 #[evA 18 a b v cy co] w (RetV w0 (.bool (win b (shp 18).2.1 && !(decide (18 = 5) && decide (a = b)))) P) := by
  go_enter Try.func99, Try.ntmps99
  go_wp2_with fail
  go_ret
  exact ⟨retB (by rw [Bool.eq_iff_iff]; simp [win, shp]), own_left⟩
set_option maxRecDepth 100000 in
set_option maxHeartbeats 4000000 in
theorem rfSecond19 (a b v : Nat) (cy co : Int) (w0 w : World) (P : HP) [hs : Sat w0 w P] : Calls Try.prog 99 #[evA 19 a b v cy co] w (RetV w0 (.bool (win b (shp 19).2.1 && !(decide (19 = 5) && decide (a = b)))) P) := by
  go_enter Try.func99, Try.ntmps99
  go_wp2_with fail
  refine (rfInX b 0 31 _ rfl _).mono ?_
  rintro e w' ⟨rfl, rfl⟩
  go_wp2_with fail
  go_ret
  exact ⟨retB (by rw [Bool.eq_iff_iff]; simp [win, shp]), own_left⟩
set_option maxRecDepth 100000 in
set_option maxHeartbeats 4000000 in
theorem rfSecond20 (a b v : Nat) (cy co : Int) (w0 w : World) (P : HP) [hs : Sat w0 w P] : Calls Try.prog 99 #[evA 20 a b v cy co] w (RetV w0 (.bool (win b (shp 20).2.1 && !(decide (20 = 5) && decide (a = b)))) P) := by
  go_enter Try.func99, Try.ntmps99
  go_wp2_with fail
  refine (rfInX b 0 79 _ rfl _).mono ?_
  rintro e w' ⟨rfl, rfl⟩
  go_wp2_with fail
  go_ret
  exact ⟨retB (by rw [Bool.eq_iff_iff]; simp [win, shp]), own_left⟩
set_option maxRecDepth 100000 in
set_option maxHeartbeats 4000000 in
theorem rfSecond21 (a b v : Nat) (cy co : Int) (w0 w : World) (P : HP) [hs : Sat w0 w P] : Calls Try.prog 99 #[evA 21 a b v cy co] w (RetV w0 (.bool (win b (shp 21).2.1 && !(decide (21 = 5) && decide (a = b)))) P) := by
  go_enter Try.func99, Try.ntmps99
  go_wp2_with fail
  refine (rfInX b 0 16 _ rfl _).mono ?_
  rintro e w' ⟨rfl, rfl⟩
  go_wp2_with fail
  go_ret
  exact ⟨retB (by rw [Bool.eq_iff_iff]; simp [win, shp]), own_left⟩
set_option maxRecDepth 100000 in
set_option maxHeartbeats 4000000 in
theorem rfSecond22 (a b v : Nat) (cy co : Int) (w0 w : World) (P : HP) [hs : Sat w0 w P] : Calls Try.prog 99 #[evA 22 a b v cy co] w (RetV w0 (.bool (win b (shp 22).2.1 && !(decide (22 = 5) && decide (a = b)))) P) := by
  go_enter Try.func99, Try.ntmps99
  go_wp2_with fail
  go_ret
  exact ⟨retB (by rw [Bool.eq_iff_iff]; simp [win, shp]), own_left⟩
set_option maxRecDepth 100000 in
set_option maxHeartbeats 4000000 in
theorem rfSecond23 (a b v : Nat) (cy co : Int) (w0 w : World) (P : HP) [hs : Sat w0 w P] : Calls Try.prog 99 #[evA 23 a b v cy co] w (RetV w0 (.bool (win b (shp 23).2.1 && !(decide (23 = 5) && decide (a = b)))) P) := by
  go_enter Try.func99, Try.ntmps99
  go_wp2_with fail
  refine (rfInX b 0 16 _ rfl _).mono ?_
  rintro e w' ⟨rfl, rfl⟩
  go_wp2_with fail
  go_ret
  exact ⟨retB (by rw [Bool.eq_iff_iff]; simp [win, shp]), own_left⟩
set_option maxRecDepth 100000 in
set_option maxHeartbeats 4000000 in
theorem rfSecond24 (a b v : Nat) (cy co : Int) (w0 w : World) (P : HP) [hs : Sat w0 w P] : Calls Try.prog 99 #[evA 24 a b v cy co] w (RetV w0 (.bool (win b (shp 24).2.1 && !(decide (24 = 5) && decide (a = b)))) P) := by
  go_enter Try.func99, Try.ntmps99
  go_wp2_with fail
  go_ret
  exact ⟨retB (by rw [Bool.eq_iff_iff]; simp [win, shp]), own_left⟩
theorem rfSecond (k a b v : Nat) (hk : 1 ≤ k ∧ k ≤ 24) (cy co : Int) (w0 w : World) (P : HP) [hs : Sat w0 w P] : Calls Try.prog 99 #[evA k a b v cy co] w (RetV w0 (.bool (win b (shp k).2.1 && !(decide (k = 5) && decide (a = b)))) P) := by
  have h : k = 1 ∨ k = 2 ∨ k = 3 ∨ k = 4 ∨ k = 5 ∨ k = 6 ∨ k = 7 ∨ k = 8 ∨ k = 9 ∨ k = 10 ∨ k = 11 ∨ k = 12 ∨ k = 13 ∨ k = 14 ∨ k = 15 ∨ k = 16 ∨ k = 17 ∨ k = 18 ∨ k = 19 ∨ k = 20 ∨ k = 21 ∨ k = 22 ∨ k = 23 ∨ k = 24 := by omega
  rcases h with rfl | rfl | rfl | rfl | rfl | rfl | rfl | rfl | rfl | rfl | rfl | rfl | rfl | rfl | rfl | rfl | rfl | rfl | rfl | rfl | rfl | rfl | rfl | rfl
  · exact rfSecond1 a b v cy co w0 w P
  · exact rfSecond2 a b v cy co w0 w P
  · exact rfSecond3 a b v cy co w0 w P
  · exact rfSecond4 a b v cy co w0 w P
  · exact rfSecond5 a b v cy co w0 w P
  · exact rfSecond6 a b v cy co w0 w P
  · exact rfSecond7 a b v cy co w0 w P
  · exact rfSecond8 a b v cy co w0 w P
  · exact rfSecond9 a b v cy co w0 w P
  · exact rfSecond10 a b v cy co w0 w P
  · exact rfSecond11 a b v cy co w0 w P
  · exact rfSecond12 a b v cy co w0 w P
  · exact rfSecond13 a b v cy co w0 w P
  · exact rfSecond14 a b v cy co w0 w P
  · exact rfSecond15 a b v cy co w0 w P
  · exact rfSecond16 a b v cy co w0 w P
  · exact rfSecond17 a b v cy co w0 w P
  · exact rfSecond18 a b v cy co w0 w P
  · exact rfSecond19 a b v cy co w0 w P
  · exact rfSecond20 a b v cy co w0 w P
  · exact rfSecond21 a b v cy co w0 w P
  · exact rfSecond22 a b v cy co w0 w P
  · exact rfSecond23 a b v cy co w0 w P
  · exact rfSecond24 a b v cy co w0 w P
end Go.Proofs.Ytfphgcplpokigaa
