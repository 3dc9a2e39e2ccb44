/-
  Audit: which events the reference lets be.
-/
import Derived.Test.YtfphgcplpokigaaAuditQ
import Derived.Test.YtfphgcplpokigaaAuditD
namespace Go.Proofs.Ytfphgcplpokigaa
open Go.RowKit Go.Sx Go.Au
set_option linter.unusedSimpArgs false
set_option linter.unusedVariables false

theorem rfIn (n lo hi : Nat) (w : World) : Calls Try.prog 107 #[.int .u32 n, .int .u32 lo, .int .u32 hi] w fun e w' => e = .returned (.bool (decide (lo ≤ n ∧ n ≤ hi))) ∧ w = w' := by
  by_cases h : lo ≤ n
  · have d : decide ((lo : Int) ≤ (n : Int)) = true := by simp; omega
    go_enter Try.func107, Try.ntmps107
    go_wp2
    go_ret
    exact ⟨retB (by rw [Bool.eq_iff_iff]; simp [h]), rfl⟩
  · have d : decide ((lo : Int) ≤ (n : Int)) = false := by simp; omega
    go_enter Try.func107, Try.ntmps107
    go_wp2
    go_ret
    exact ⟨retB (by rw [Bool.eq_iff_iff]; simp [h]), rfl⟩
theorem rfInX (n lo hi : Nat) (x : Bool) (hx : decide (lo ≤ n ∧ n ≤ hi) = x) (w : World) : Calls Try.prog 107 #[.int .u32 n, .int .u32 lo, .int .u32 hi] w fun e w' => e = .returned (.bool x) ∧ w = w' := by
  subst hx; exact rfIn n lo hi w
set_option maxRecDepth 100000 in
set_option maxHeartbeats 4000000 in
theorem rfFirst1 (a b v : Nat) (cy co : Int) (w0 w : World) (P : HP) [hs : Sat w0 w P] : Calls Try.prog 98 #[evA 1 a b v cy co] w (RetV w0 (.bool (win a (shp 1).1)) P) := by
  go_enter Try.func98, Try.ntmps98
  go_wp2_with fail
  refine (rfInX a 0 15 _ rfl _).mono ?_
  rintro e w' ⟨rfl, rfl⟩
  go_wp2_with fail
  go_ret
  exact ⟨retB (by rw [Bool.eq_iff_iff]; simp [win, shp]), own_left⟩
set_option maxRecDepth 100000 in
set_option maxHeartbeats 4000000 in
theorem rfFirst2 (a b v : Nat) (cy co : Int) (w0 w : World) (P : HP) [hs : Sat w0 w P] : Calls Try.prog 98 #[evA 2 a b v cy co] w (RetV w0 (.bool (win a (shp 2).1)) P) := by
  go_enter Try.func98, Try.ntmps98
  go_wp2_with fail
  refine (rfInX a 0 15 _ rfl _).mono ?_
  rintro e w' ⟨rfl, rfl⟩
  go_wp2_with fail
  go_ret
  exact ⟨retB (by rw [Bool.eq_iff_iff]; simp [win, shp]), own_left⟩
set_option maxRecDepth 100000 in
set_option maxHeartbeats 4000000 in
theorem rfFirst3 (a b v : Nat) (cy co : Int) (w0 w : World) (P : HP) [hs : Sat w0 w P] : Calls Try.prog 98 #[evA 3 a b v cy co] w (RetV w0 (.bool (win a (shp 3).1)) P) := by
  go_enter Try.func98, Try.ntmps98
  go_wp2_with fail
  refine (rfInX a 0 15 _ rfl _).mono ?_
  rintro e w' ⟨rfl, rfl⟩
  go_wp2_with fail
  go_ret
  exact ⟨retB (by rw [Bool.eq_iff_iff]; simp [win, shp]), own_left⟩
set_option maxRecDepth 100000 in
set_option maxHeartbeats 4000000 in
theorem rfFirst4 (a b v : Nat) (cy co : Int) (w0 w : World) (P : HP) [hs : Sat w0 w P] : Calls Try.prog 98 #[evA 4 a b v cy co] w (RetV w0 (.bool (win a (shp 4).1)) P) := by
  go_enter Try.func98, Try.ntmps98
  go_wp2_with fail
  refine (rfInX a 0 15 _ rfl _).mono ?_
  rintro e w' ⟨rfl, rfl⟩
  go_wp2_with fail
  go_ret
  exact ⟨retB (by rw [Bool.eq_iff_iff]; simp [win, shp]), own_left⟩
set_option maxRecDepth 100000 in
set_option maxHeartbeats 4000000 in
theorem rfFirst5 (a b v : Nat) (cy co : Int) (w0 w : World) (P : HP) [hs : Sat w0 w P] : Calls Try.prog 98 #[evA 5 a b v cy co] w (RetV w0 (.bool (win a (shp 5).1)) P) := by
  generalize hy : decide (0 ≤ a ∧ a ≤ 63) = y
  have Hy := hid hy
  clear hy
  cases y
  all_goals
    go_enter Try.func98, Try.ntmps98
    go_wp2_with fail
    refine (rfInX a 0 63 _ Hy.out _).mono ?_
    rintro e w' ⟨rfl, rfl⟩
    go_wp2_with fail
    go_ret
    refine ⟨retB ?_, own_left⟩
    have h1 := Hy.out
    first
      | (have h2 := of_decide_eq_true h1; rw [Bool.eq_iff_iff]; simp [win, shp]; omega)
      | (have h2 := of_decide_eq_false h1; rw [Bool.eq_iff_iff]; simp [win, shp]; omega)
set_option maxRecDepth 100000 in
set_option maxHeartbeats 4000000 in
theorem rfFirst6 (a b v : Nat) (cy co : Int) (w0 w : World) (P : HP) [hs : Sat w0 w P] : Calls Try.prog 98 #[evA 6 a b v cy co] w (RetV w0 (.bool (win a (shp 6).1)) P) := by
  go_enter Try.func98, Try.ntmps98
  go_wp2_with fail
  refine (rfInX a 0 63 _ rfl _).mono ?_
  rintro e w' ⟨rfl, rfl⟩
  go_wp2_with fail
  go_ret
  exact ⟨retB (by rw [Bool.eq_iff_iff]; simp [win, shp]), own_left⟩
set_option maxRecDepth 100000 in
set_option maxHeartbeats 4000000 in
theorem rfFirst7 (a b v : Nat) (cy co : Int) (w0 w : World) (P : HP) [hs : Sat w0 w P] : Calls Try.prog 98 #[evA 7 a b v cy co] w (RetV w0 (.bool (win a (shp 7).1)) P) := by
  go_enter Try.func98, Try.ntmps98
  go_wp2_with fail
  refine (rfInX a 0 63 _ rfl _).mono ?_
  rintro e w' ⟨rfl, rfl⟩
  go_wp2_with fail
  go_ret
  exact ⟨retB (by rw [Bool.eq_iff_iff]; simp [win, shp]), own_left⟩
set_option maxRecDepth 100000 in
set_option maxHeartbeats 4000000 in
theorem rfFirst8 (a b v : Nat) (cy co : Int) (w0 w : World) (P : HP) [hs : Sat w0 w P] : Calls Try.prog 98 #[evA 8 a b v cy co] w (RetV w0 (.bool (win a (shp 8).1)) P) := by
  go_enter Try.func98, Try.ntmps98
  go_wp2_with fail
  refine (rfInX a 0 63 _ rfl _).mono ?_
  rintro e w' ⟨rfl, rfl⟩
  go_wp2_with fail
  go_ret
  exact ⟨retB (by rw [Bool.eq_iff_iff]; simp [win, shp]), own_left⟩
set_option maxRecDepth 100000 in
set_option maxHeartbeats 4000000 in
theorem rfFirst9 (a b v : Nat) (cy co : Int) (w0 w : World) (P : HP) [hs : Sat w0 w P] : Calls Try.prog 98 #[evA 9 a b v cy co] w (RetV w0 (.bool (win a (shp 9).1)) P) := by
  go_enter Try.func98, Try.ntmps98
  go_wp2_with fail
  refine (rfInX a 0 63 _ rfl _).mono ?_
  rintro e w' ⟨rfl, rfl⟩
  go_wp2_with fail
  go_ret
  exact ⟨retB (by rw [Bool.eq_iff_iff]; simp [win, shp]), own_left⟩
set_option maxRecDepth 100000 in
set_option maxHeartbeats 4000000 in
theorem rfFirst10 (a b v : Nat) (cy co : Int) (w0 w : World) (P : HP) [hs : Sat w0 w P] : Calls Try.prog 98 #[evA 10 a b v cy co] w (RetV w0 (.bool (win a (shp 10).1)) P) := by
  go_enter Try.func98, Try.ntmps98
  go_wp2_with fail
  refine (rfInX a 0 63 _ rfl _).mono ?_
  rintro e w' ⟨rfl, rfl⟩
  go_wp2_with fail
  go_ret
  exact ⟨retB (by rw [Bool.eq_iff_iff]; simp [win, shp]), own_left⟩
set_option maxRecDepth 100000 in
set_option maxHeartbeats 4000000 in
theorem rfFirst11 (a b v : Nat) (cy co : Int) (w0 w : World) (P : HP) [hs : Sat w0 w P] : Calls Try.prog 98 #[evA 11 a b v cy co] w (RetV w0 (.bool (win a (shp 11).1)) P) := by
  go_enter Try.func98, Try.ntmps98
  go_wp2_with fail
  refine (rfInX a 0 63 _ rfl _).mono ?_
  rintro e w' ⟨rfl, rfl⟩
  go_wp2_with fail
  go_ret
  exact ⟨retB (by rw [Bool.eq_iff_iff]; simp [win, shp]), own_left⟩
set_option maxRecDepth 100000 in
set_option maxHeartbeats 4000000 in
theorem rfFirst12 (a b v : Nat) (cy co : Int) (w0 w : World) (P : HP) [hs : Sat w0 w P] : Calls Try.prog 98 #[evA 12 a b v cy co] w (RetV w0 (.bool (win a (shp 12).1)) P) := by
  go_enter Try.func98, Try.ntmps98
  go_wp2_with fail
  refine (rfInX a 0 63 _ rfl _).mono ?_
  rintro e w' ⟨rfl, rfl⟩
  go_wp2_with fail
  go_ret
  exact ⟨retB (by rw [Bool.eq_iff_iff]; simp [win, shp]), own_left⟩
set_option maxRecDepth 100000 in
set_option maxHeartbeats 4000000 in
theorem rfFirst13 (a b v : Nat) (cy co : Int) (w0 w : World) (P : HP) [hs : Sat w0 w P] : Calls Try.prog 98 #[evA 13 a b v cy co] w (RetV w0 (.bool (win a (shp 13).1)) P) := by
  go_enter Try.func98, Try.ntmps98
  go_wp2_with fail
  refine (rfInX a 0 63 _ rfl _).mono ?_
  rintro e w' ⟨rfl, rfl⟩
  go_wp2_with fail
  go_ret
  exact ⟨retB (by rw [Bool.eq_iff_iff]; simp [win, shp]), own_left⟩
set_option maxRecDepth 100000 in
set_option maxHeartbeats 4000000 in
theorem rfFirst14 (a b v : Nat) (cy co : Int) (w0 w : World) (P : HP) [hs : Sat w0 w P] : Calls Try.prog 98 #[evA 14 a b v cy co] w (RetV w0 (.bool (win a (shp 14).1)) P) := by
  go_enter Try.func98, Try.ntmps98
  go_wp2_with fail
  refine (rfInX a 0 80 _ rfl _).mono ?_
  rintro e w' ⟨rfl, rfl⟩
  go_wp2_with fail
  go_ret
  exact ⟨retB (by rw [Bool.eq_iff_iff]; simp [win, shp]), own_left⟩
set_option maxRecDepth 100000 in
set_option maxHeartbeats 4000000 in
theorem rfFirst15 (a b v : Nat) (cy co : Int) (w0 w : World) (P : HP) [hs : Sat w0 w P] : Calls Try.prog 98 #[evA 15 a b v cy co] w (RetV w0 (.bool (win a (shp 15).1)) P) := by
  go_enter Try.func98, Try.ntmps98
  go_wp2_with fail
  refine (rfInX a 0 63 _ rfl _).mono ?_
  rintro e w' ⟨rfl, rfl⟩
  go_wp2_with fail
  go_ret
  exact ⟨retB (by rw [Bool.eq_iff_iff]; simp [win, shp]), own_left⟩
set_option maxRecDepth 100000 in
set_option maxHeartbeats 4000000 in
theorem rfFirst16 (a b v : Nat) (cy co : Int) (w0 w : World) (P : HP) [hs : Sat w0 w P] : Calls Try.prog 98 #[evA 16 a b v cy co] w (RetV w0 (.bool (win a (shp 16).1)) P) := by
  go_enter Try.func98, Try.ntmps98
  go_wp2_with fail
  refine (rfInX a 0 79 _ rfl _).mono ?_
  rintro e w' ⟨rfl, rfl⟩
  go_wp2_with fail
  go_ret
  exact ⟨retB (by rw [Bool.eq_iff_iff]; simp [win, shp]), own_left⟩
set_option maxRecDepth 100000 in
set_option maxHeartbeats 4000000 in
theorem rfFirst17 (a b v : Nat) (cy co : Int) (w0 w : World) (P : HP) [hs : Sat w0 w P] : Calls Try.prog 98 #[evA 17 a b v cy co] w (RetV w0 (.bool (win a (shp 17).1)) P) := by
  go_enter Try.func98, Try.ntmps98
  go_wp2_with fail
  refine (rfInX a 0 79 _ rfl _).mono ?_
  rintro e w' ⟨rfl, rfl⟩
  go_wp2_with fail
  go_ret
  exact ⟨retB (by rw [Bool.eq_iff_iff]; simp [win, shp]), own_left⟩
set_option maxRecDepth 100000 in
set_option maxHeartbeats 4000000 in
theorem rfFirst18 (a b v : Nat) (cy co : Int) (w0 w : World) (P : HP) [hs : Sat w0 w P] : Calls Try.prog 98 #[evA 18 a b v cy co] w (RetV w0 (.bool (win a (shp 18).1)) P) := by
  go_enter Try.func98, Try.ntmps98
  go_wp2_with fail
  refine (rfInX a 0 31 _ rfl _).mono ?_
  rintro e w' ⟨rfl, rfl⟩
  go_wp2_with fail
  go_ret
  exact ⟨retB (by rw [Bool.eq_iff_iff]; simp [win, shp]), own_left⟩
set_option maxRecDepth 100000 in
set_option maxHeartbeats 4000000 in
theorem rfFirst19 (a b v : Nat) (cy co : Int) (w0 w : World) (P : HP) [hs : Sat w0 w P] : Calls Try.prog 98 #[evA 19 a b v cy co] w (RetV w0 (.bool (win a (shp 19).1)) P) := by
  go_enter Try.func98, Try.ntmps98
  go_wp2_with fail
  refine (rfInX a 0 79 _ rfl _).mono ?_
  rintro e w' ⟨rfl, rfl⟩
  go_wp2_with fail
  go_ret
  exact ⟨retB (by rw [Bool.eq_iff_iff]; simp [win, shp]), own_left⟩
set_option maxRecDepth 100000 in
set_option maxHeartbeats 4000000 in
theorem rfFirst20 (a b v : Nat) (cy co : Int) (w0 w : World) (P : HP) [hs : Sat w0 w P] : Calls Try.prog 98 #[evA 20 a b v cy co] w (RetV w0 (.bool (win a (shp 20).1)) P) := by
  go_enter Try.func98, Try.ntmps98
  go_wp2_with fail
  refine (rfInX a 0 15 _ rfl _).mono ?_
  rintro e w' ⟨rfl, rfl⟩
  go_wp2_with fail
  go_ret
  exact ⟨retB (by rw [Bool.eq_iff_iff]; simp [win, shp]), own_left⟩
set_option maxRecDepth 100000 in
set_option maxHeartbeats 4000000 in
theorem rfFirst21 (a b v : Nat) (cy co : Int) (w0 w : World) (P : HP) [hs : Sat w0 w P] : Calls Try.prog 98 #[evA 21 a b v cy co] w (RetV w0 (.bool (win a (shp 21).1)) P) := by
  go_enter Try.func98, Try.ntmps98
  go_wp2_with fail
  refine (rfInX a 0 79 _ rfl _).mono ?_
  rintro e w' ⟨rfl, rfl⟩
  go_wp2_with fail
  go_ret
  exact ⟨retB (by rw [Bool.eq_iff_iff]; simp [win, shp]), own_left⟩
set_option maxRecDepth 100000 in
set_option maxHeartbeats 4000000 in
theorem rfFirst22 (a b v : Nat) (cy co : Int) (w0 w : World) (P : HP) [hs : Sat w0 w P] : Calls Try.prog 98 #[evA 22 a b v cy co] w (RetV w0 (.bool (win a (shp 22).1)) P) := by
  go_enter Try.func98, Try.ntmps98
  go_wp2_with fail
  refine (rfInX a 0 63 _ rfl _).mono ?_
  rintro e w' ⟨rfl, rfl⟩
  go_wp2_with fail
  go_ret
  exact ⟨retB (by rw [Bool.eq_iff_iff]; simp [win, shp]), own_left⟩
set_option maxRecDepth 100000 in
set_option maxHeartbeats 4000000 in
theorem rfFirst23 (a b v : Nat) (cy co : Int) (w0 w : World) (P : HP) [hs : Sat w0 w P] : Calls Try.prog 98 #[evA 23 a b v cy co] w (RetV w0 (.bool (win a (shp 23).1)) P) := by
  go_enter Try.func98, Try.ntmps98
  go_wp2_with fail
  refine (rfInX a 0 80 _ rfl _).mono ?_
  rintro e w' ⟨rfl, rfl⟩
  go_wp2_with fail
  go_ret
  exact ⟨retB (by rw [Bool.eq_iff_iff]; simp [win, shp]), own_left⟩
set_option maxRecDepth 100000 in
set_option maxHeartbeats 4000000 in
theorem rfFirst24 (a b v : Nat) (cy co : Int) (w0 w : World) (P : HP) [hs : Sat w0 w P] : Calls Try.prog 98 #[evA 24 a b v cy co] w (RetV w0 (.bool (win a (shp 24).1)) P) := by
  go_enter Try.func98, Try.ntmps98
  go_wp2_with fail
  go_ret
  exact ⟨retB (by rw [Bool.eq_iff_iff]; simp [win, shp]), own_left⟩
theorem rfFirst (k a b v : Nat) (hk : 1 ≤ k ∧ k ≤ 24) (cy co : Int) (w0 w : World) (P : HP) [hs : Sat w0 w P] : Calls Try.prog 98 #[evA k a b v cy co] w (RetV w0 (.bool (win a (shp k).1)) P) := by
  have h : k = 1 ∨ k = 2 ∨ k = 3 ∨ k = 4 ∨ k = 5 ∨ k = 6 ∨ k = 7 ∨ k = 8 ∨ k = 9 ∨ k = 10 ∨ k = 11 ∨ k = 12 ∨ k = 13 ∨ k = 14 ∨ k = 15 ∨ k = 16 ∨ k = 17 ∨ k = 18 ∨ k = 19 ∨ k = 20 ∨ k = 21 ∨ k = 22 ∨ k = 23 ∨ k = 24 := by omega
  rcases h with rfl | rfl | rfl | rfl | rfl | rfl | rfl | rfl | rfl | rfl | rfl | rfl | rfl | rfl | rfl | rfl | rfl | rfl | rfl | rfl | rfl | rfl | rfl | rfl
  · exact rfFirst1 a b v cy co w0 w P
  · exact rfFirst2 a b v cy co w0 w P
  · exact rfFirst3 a b v cy co w0 w P
  · exact rfFirst4 a b v cy co w0 w P
  · exact rfFirst5 a b v cy co w0 w P
  · exact rfFirst6 a b v cy co w0 w P
  · exact rfFirst7 a b v cy co w0 w P
  · exact rfFirst8 a b v cy co w0 w P
  · exact rfFirst9 a b v cy co w0 w P
  · exact rfFirst10 a b v cy co w0 w P
  · exact rfFirst11 a b v cy co w0 w P
  · exact rfFirst12 a b v cy co w0 w P
  · exact rfFirst13 a b v cy co w0 w P
  · exact rfFirst14 a b v cy co w0 w P
  · exact rfFirst15 a b v cy co w0 w P
  · exact rfFirst16 a b v cy co w0 w P
  · exact rfFirst17 a b v cy co w0 w P
  · exact rfFirst18 a b v cy co w0 w P
  · exact rfFirst19 a b v cy co w0 w P
  · exact rfFirst20 a b v cy co w0 w P
  · exact rfFirst21 a b v cy co w0 w P
  · exact rfFirst22 a b v cy co w0 w P
  · exact rfFirst23 a b v cy co w0 w P
  · exact rfFirst24 a b v cy co w0 w P
set_option maxRecDepth 100000 in
set_option maxHeartbeats 4000000 in
theorem rfThird1 (a b v : Nat) (cy co : Int) (w0 w : World) (P : HP) [hs : Sat w0 w P] : Calls Try.prog 100 #[evA 1 a b v cy co] w (RetV w0 (.bool (win v (shp 1).2.2)) P) := by
  go_enter Try.func100, Try.ntmps100
  go_wp2_with fail
  go_ret
  exact ⟨retB (by rw [Bool.eq_iff_iff]; simp [win, shp]), own_left⟩
set_option maxRecDepth 100000 in
set_option maxHeartbeats 4000000 in
theorem rfThird2 (a b v : Nat) (cy co : Int) (w0 w : World) (P : HP) [hs : Sat w0 w P] : Calls Try.prog 100 #[evA 2 a b v cy co] w (RetV w0 (.bool (win v (shp 2).2.2)) P) := by
  go_enter Try.func100, Try.ntmps100
  go_wp2_with fail
  go_ret
  exact ⟨rfl, own_left⟩
set_option maxRecDepth 100000 in
set_option maxHeartbeats 4000000 in
theorem rfThird3 (a b v : Nat) (cy co : Int) (w0 w : World) (P : HP) [hs : Sat w0 w P] : Calls Try.prog 100 #[evA 3 a b v cy co] w (RetV w0 (.bool (win v (shp 3).2.2)) P) := by
  go_enter Try.func100, Try.ntmps100
  go_wp2_with fail
  go_ret
  exact ⟨retB (by rw [Bool.eq_iff_iff]; simp [win, shp]), own_left⟩
set_option maxRecDepth 100000 in
set_option maxHeartbeats 4000000 in
theorem rfThird4 (a b v : Nat) (cy co : Int) (w0 w : World) (P : HP) [hs : Sat w0 w P] : Calls Try.prog 100 #[evA 4 a b v cy co] w (RetV w0 (.bool (win v (shp 4).2.2)) P) := by
  go_enter Try.func100, Try.ntmps100
  go_wp2_with fail
  go_ret
  exact ⟨retB (by rw [Bool.eq_iff_iff]; simp [win, shp]), own_left⟩
set_option maxRecDepth 100000 in
set_option maxHeartbeats 4000000 in
theorem rfThird5 (a b v : Nat) (cy co : Int) (w0 w : World) (P : HP) [hs : Sat w0 w P] : Calls Try.prog 100 #[evA 5 a b v cy co] w (RetV w0 (.bool (win v (shp 5).2.2)) P) := by
  go_enter Try.func100, Try.ntmps100
  go_wp2_with fail
  go_ret
  exact ⟨retB (by rw [Bool.eq_iff_iff]; simp [win, shp]), own_left⟩
set_option maxRecDepth 100000 in
set_option maxHeartbeats 4000000 in
theorem rfThird6 (a b v : Nat) (cy co : Int) (w0 w : World) (P : HP) [hs : Sat w0 w P] : Calls Try.prog 100 #[evA 6 a b v cy co] w (RetV w0 (.bool (win v (shp 6).2.2)) P) := by
  go_enter Try.func100, Try.ntmps100
  go_wp2_with fail
  go_ret
  exact ⟨rfl, own_left⟩
set_option maxRecDepth 100000 in
set_option maxHeartbeats 4000000 in
theorem rfThird7 (a b v : Nat) (cy co : Int) (w0 w : World) (P : HP) [hs : Sat w0 w P] : Calls Try.prog 100 #[evA 7 a b v cy co] w (RetV w0 (.bool (win v (shp 7).2.2)) P) := by
  go_enter Try.func100, Try.ntmps100
  go_wp2_with fail
  refine (rfInX v 1 255 _ rfl _).mono ?_
  rintro e w' ⟨rfl, rfl⟩
  go_wp2_with fail
  go_ret
  exact ⟨retB (by rw [Bool.eq_iff_iff]; simp [win, shp]), own_left⟩
set_option maxRecDepth 100000 in
set_option maxHeartbeats 4000000 in
theorem rfThird8 (a b v : Nat) (cy co : Int) (w0 w : World) (P : HP) [hs : Sat w0 w P] : Calls Try.prog 100 #[evA 8 a b v cy co] w (RetV w0 (.bool (win v (shp 8).2.2)) P) := by
  go_enter Try.func100, Try.ntmps100
  go_wp2_with fail
  go_ret
  exact ⟨rfl, own_left⟩
set_option maxRecDepth 100000 in
set_option maxHeartbeats 4000000 in
theorem rfThird9 (a b v : Nat) (cy co : Int) (w0 w : World) (P : HP) [hs : Sat w0 w P] : Calls Try.prog 100 #[evA 9 a b v cy co] w (RetV w0 (.bool (win v (shp 9).2.2)) P) := by
  go_enter Try.func100, Try.ntmps100
  go_wp2_with fail
  go_ret
  exact ⟨retB (by rw [Bool.eq_iff_iff]; simp [win, shp]), own_left⟩
set_option maxRecDepth 100000 in
set_option maxHeartbeats 4000000 in
theorem rfThird10 (a b v : Nat) (cy co : Int) (w0 w : World) (P : HP) [hs : Sat w0 w P] : Calls Try.prog 100 #[evA 10 a b v cy co] w (RetV w0 (.bool (win v (shp 10).2.2)) P) := by
  go_enter Try.func100, Try.ntmps100
  go_wp2_with fail
  go_ret
  exact ⟨retB (by rw [Bool.eq_iff_iff]; simp [win, shp]), own_left⟩
set_option maxRecDepth 100000 in
set_option maxHeartbeats 4000000 in
theorem rfThird11 (a b v : Nat) (cy co : Int) (w0 w : World) (P : HP) [hs : Sat w0 w P] : Calls Try.prog 100 #[evA 11 a b v cy co] w (RetV w0 (.bool (win v (shp 11).2.2)) P) := by
  go_enter Try.func100, Try.ntmps100
  go_wp2_with fail
  go_ret
  exact ⟨retB (by rw [Bool.eq_iff_iff]; simp [win, shp]), own_left⟩
set_option maxRecDepth 100000 in
set_option maxHeartbeats 4000000 in
theorem rfThird12 (a b v : Nat) (cy co : Int) (w0 w : World) (P : HP) [hs : Sat w0 w P] : Calls Try.prog 100 #[evA 12 a b v cy co] w (RetV w0 (.bool (win v (shp 12).2.2)) P) := by
  go_enter Try.func100, Try.ntmps100
  go_wp2_with fail
  go_ret
  exact ⟨retB (by rw [Bool.eq_iff_iff]; simp [win, shp]), own_left⟩
set_option maxRecDepth 100000 in
set_option maxHeartbeats 4000000 in
theorem rfThird13 (a b v : Nat) (cy co : Int) (w0 w : World) (P : HP) [hs : Sat w0 w P] : Calls Try.prog 100 #[evA 13 a b v cy co] w (RetV w0 (.bool (win v (shp 13).2.2)) P) := by
  go_enter Try.func100, Try.ntmps100
  go_wp2_with fail
  go_ret
  exact ⟨retB (by rw [Bool.eq_iff_iff]; simp [win, shp]), own_left⟩
set_option maxRecDepth 100000 in
set_option maxHeartbeats 4000000 in
theorem rfThird14 (a b v : Nat) (cy co : Int) (w0 w : World) (P : HP) [hs : Sat w0 w P] : Calls Try.prog 100 #[evA 14 a b v cy co] w (RetV w0 (.bool (win v (shp 14).2.2)) P) := by
  go_enter Try.func100, Try.ntmps100
  go_wp2_with fail
  refine (rfInX v 0 255 _ rfl _).mono ?_
  rintro e w' ⟨rfl, rfl⟩
  go_wp2_with fail
  go_ret
  exact ⟨retB (by rw [Bool.eq_iff_iff]; simp [win, shp]), own_left⟩
set_option maxRecDepth 100000 in
set_option maxHeartbeats 4000000 in
theorem rfThird15 (a b v : Nat) (cy co : Int) (w0 w : World) (P : HP) [hs : Sat w0 w P] : Calls Try.prog 100 #[evA 15 a b v cy co] w (RetV w0 (.bool (win v (shp 15).2.2)) P) := by
  go_enter Try.func100, Try.ntmps100
  go_wp2_with fail
  refine (rfInX v 0 255 _ rfl _).mono ?_
  rintro e w' ⟨rfl, rfl⟩
  go_wp2_with fail
  go_ret
  exact ⟨retB (by rw [Bool.eq_iff_iff]; simp [win, shp]), own_left⟩
set_option maxRecDepth 100000 in
set_option maxHeartbeats 4000000 in
theorem rfThird16 (a b v : Nat) (cy co : Int) (w0 w : World) (P : HP) [hs : Sat w0 w P] : Calls Try.prog 100 #[evA 16 a b v cy co] w (RetV w0 (.bool (win v (shp 16).2.2)) P) := by
  go_enter Try.func100, Try.ntmps100
  go_wp2_with fail
  go_ret
  exact ⟨rfl, own_left⟩
set_option maxRecDepth 100000 in
set_option maxHeartbeats 4000000 in
theorem rfThird17 (a b v : Nat) (cy co : Int) (w0 w : World) (P : HP) [hs : Sat w0 w P] : Calls Try.prog 100 #[evA 17 a b v cy co] w (RetV w0 (.bool (win v (shp 17).2.2)) P) := by
  go_enter Try.func100, Try.ntmps100
  go_wp2_with fail
  go_ret
  exact ⟨rfl, own_left⟩
set_option maxRecDepth 100000 in
set_option maxHeartbeats 4000000 in
theorem rfThird18 (a b v : Nat) (cy co : Int) (w0 w : World) (P : HP) [hs : Sat w0 w P] : Calls Try.prog 100 #[evA 18 a b v cy co] w (RetV w0 (.bool (win v (shp 18).2.2)) P) := by
  go_enter Try.func100, Try.ntmps100
  go_wp2_with fail
  go_ret
  exact ⟨retB (by rw [Bool.eq_iff_iff]; simp [win, shp]), own_left⟩
set_option maxRecDepth 100000 in
set_option maxHeartbeats 4000000 in
theorem rfThird19 (a b v : Nat) (cy co : Int) (w0 w : World) (P : HP) [hs : Sat w0 w P] : Calls Try.prog 100 #[evA 19 a b v cy co] w (RetV w0 (.bool (win v (shp 19).2.2)) P) := by
  go_enter Try.func100, Try.ntmps100
  go_wp2_with fail
  go_ret
  exact ⟨rfl, own_left⟩
set_option maxRecDepth 100000 in
set_option maxHeartbeats 4000000 in
theorem rfThird20 (a b v : Nat) (cy co : Int) (w0 w : World) (P : HP) [hs : Sat w0 w P] : Calls Try.prog 100 #[evA 20 a b v cy co] w (RetV w0 (.bool (win v (shp 20).2.2)) P) := by
  go_enter Try.func100, Try.ntmps100
  go_wp2_with fail
  go_ret
  exact ⟨rfl, own_left⟩
set_option maxRecDepth 100000 in
set_option maxHeartbeats 4000000 in
theorem rfThird21 (a b v : Nat) (cy co : Int) (w0 w : World) (P : HP) [hs : Sat w0 w P] : Calls Try.prog 100 #[evA 21 a b v cy co] w (RetV w0 (.bool (win v (shp 21).2.2)) P) := by
  go_enter Try.func100, Try.ntmps100
  go_wp2_with fail
  go_ret
  exact ⟨retB (by rw [Bool.eq_iff_iff]; simp [win, shp]), own_left⟩
set_option maxRecDepth 100000 in
set_option maxHeartbeats 4000000 in
theorem rfThird22 (a b v : Nat) (cy co : Int) (w0 w : World) (P : HP) [hs : Sat w0 w P] : Calls Try.prog 100 #[evA 22 a b v cy co] w (RetV w0 (.bool (win v (shp 22).2.2)) P) := by
  go_enter Try.func100, Try.ntmps100
  go_wp2_with fail
  go_ret
  exact ⟨retB (by rw [Bool.eq_iff_iff]; simp [win, shp]), own_left⟩
set_option maxRecDepth 100000 in
set_option maxHeartbeats 4000000 in
theorem rfThird23 (a b v : Nat) (cy co : Int) (w0 w : World) (P : HP) [hs : Sat w0 w P] : Calls Try.prog 100 #[evA 23 a b v cy co] w (RetV w0 (.bool (win v (shp 23).2.2)) P) := by
  go_enter Try.func100, Try.ntmps100
  go_wp2_with fail
  refine (rfInX v 0 38 _ rfl _).mono ?_
  rintro e w' ⟨rfl, rfl⟩
  go_wp2_with fail
  go_ret
  exact ⟨retB (by rw [Bool.eq_iff_iff]; simp [win, shp]), own_left⟩
set_option maxRecDepth 100000 in
set_option maxHeartbeats 4000000 in
theorem rfThird24 (a b v : Nat) (cy co : Int) (w0 w : World) (P : HP) [hs : Sat w0 w P] : Calls Try.prog 100 #[evA 24 a b v cy co] w (RetV w0 (.bool (win v (shp 24).2.2)) P) := by
  go_enter Try.func100, Try.ntmps100
  go_wp2_with fail
  go_ret
  exact ⟨retB (by rw [Bool.eq_iff_iff]; simp [win, shp]), own_left⟩
theorem rfThird (k a b v : Nat) (hk : 1 ≤ k ∧ k ≤ 24) (cy co : Int) (w0 w : World) (P : HP) [hs : Sat w0 w P] : Calls Try.prog 100 #[evA k a b v cy co] w (RetV w0 (.bool (win v (shp k).2.2)) P) := by
  have h : k = 1 ∨ k = 2 ∨ k = 3 ∨ k = 4 ∨ k = 5 ∨ k = 6 ∨ k = 7 ∨ k = 8 ∨ k = 9 ∨ k = 10 ∨ k = 11 ∨ k = 12 ∨ k = 13 ∨ k = 14 ∨ k = 15 ∨ k = 16 ∨ k = 17 ∨ k = 18 ∨ k = 19 ∨ k = 20 ∨ k = 21 ∨ k = 22 ∨ k = 23 ∨ k = 24 := by omega
  rcases h with rfl | rfl | rfl | rfl | rfl | rfl | rfl | rfl | rfl | rfl | rfl | rfl | rfl | rfl | rfl | rfl | rfl | rfl | rfl | rfl | rfl | rfl | rfl | rfl
  · exact rfThird1 a b v cy co w0 w P
  · exact rfThird2 a b v cy co w0 w P
  · exact rfThird3 a b v cy co w0 w P
  · exact rfThird4 a b v cy co w0 w P
  · exact rfThird5 a b v cy co w0 w P
  · exact rfThird6 a b v cy co w0 w P
  · exact rfThird7 a b v cy co w0 w P
  · exact rfThird8 a b v cy co w0 w P
  · exact rfThird9 a b v cy co w0 w P
  · exact rfThird10 a b v cy co w0 w P
  · exact rfThird11 a b v cy co w0 w P
  · exact rfThird12 a b v cy co w0 w P
  · exact rfThird13 a b v cy co w0 w P
  · exact rfThird14 a b v cy co w0 w P
  · exact rfThird15 a b v cy co w0 w P
  · exact rfThird16 a b v cy co w0 w P
  · exact rfThird17 a b v cy co w0 w P
  · exact rfThird18 a b v cy co w0 w P
  · exact rfThird19 a b v cy co w0 w P
  · exact rfThird20 a b v cy co w0 w P
  · exact rfThird21 a b v cy co w0 w P
  · exact rfThird22 a b v cy co w0 w P
  · exact rfThird23 a b v cy co w0 w P
  · exact rfThird24 a b v cy co w0 w P
end Go.Proofs.Ytfphgcplpokigaa
