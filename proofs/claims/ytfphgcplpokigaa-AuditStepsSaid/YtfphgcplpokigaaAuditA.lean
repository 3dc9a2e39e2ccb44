/-
  Audit: the contracts of package event that it needs (is, shape, other, within, Check).
-/
import Derived.Test.YtfphgcplpokigaaAuditP
import Derived.Test.YtfphgcplpokigaaRec
import Derived.Test.YtfphgcplpokigaaWait
import Derived.Handy
namespace Go.Proofs.Ytfphgcplpokigaa
open Go.RowKit Go.Sx Go.Au
set_option linter.unusedSimpArgs false
set_option linter.unusedVariables false

theorem retB {x y : Bool} (h : x = y) : Ending.returned (.bool x) = Ending.returned (.bool y) := by rw [h]
theorem evIs (k : Int) (w : World) : Calls Try.prog 88 #[.int .i64 k] w fun e w' => e = .returned (.bool (decide (1 ≤ k ∧ k ≤ 24))) ∧ w = w' := by
  by_cases h1 : 1 ≤ k
  · have d1 : decide (1 ≤ k) = true := by simp [h1]
    go_enter Try.func88, Try.ntmps88
    go_wp2
    go_ret
    exact ⟨by simp [h1], rfl⟩
  · have d1 : decide (1 ≤ k) = false := by simp [h1]
    go_enter Try.func88, Try.ntmps88
    go_wp2
    go_ret
    exact ⟨by simp [h1], rfl⟩

set_option maxHeartbeats 4000000 in
theorem evWithin (n r : Nat) (hr : r ≤ 14) (w : World) : Calls Try.prog 90 #[.int .u32 n, .int .i64 r] w fun e w' => e = .returned (.bool (win n r)) ∧ w = w' := by
  match r, hr with
  | 0, _ | 1, _ | 2, _ | 3, _ | 4, _ | 5, _ | 6, _ | 7, _ | 10, _ | 11, _ | 13, _ | 14, _ =>
    go_enter Try.func90, Try.ntmps90
    go_wp2
    go_ret
    refine ⟨?_, rfl⟩
    simp only [win]
    try congr 3
    try first | rfl | (congr 1; simp; try omega)
  | 8, _ =>
    by_cases h : n < 64
    all_goals
      first | have hd : decide ((n : Int) < 64) = true := by simp; omega
            | have hd : decide ((n : Int) < 64) = false := by simp; omega
      go_enter Try.func90, Try.ntmps90
      go_wp2
      go_ret
      exact ⟨retB (by rw [Bool.eq_iff_iff]; simp [win, h]; try omega), rfl⟩
  | 9, _ =>
    by_cases h : n = 0
    · subst h
      go_enter Try.func90, Try.ntmps90
      go_wp2
      go_ret
      exact ⟨rfl, rfl⟩
    · have h0 : ((n : Int) == 0) = false := by simp [h]
      by_cases h3 : 32 ≤ n
      all_goals
        first | have hd : decide ((32 : Int) ≤ (n : Int)) = true := by simp; omega
              | have hd : decide ((32 : Int) ≤ (n : Int)) = false := by simp; omega
        go_enter Try.func90, Try.ntmps90
        go_wp2
        go_ret
        exact ⟨retB (by rw [Bool.eq_iff_iff]; simp [win, h, h3]; try omega), rfl⟩
  | 12, _ =>
    by_cases h : 1 ≤ n
    all_goals
      first | have hd : decide ((1 : Int) ≤ (n : Int)) = true := by simp; omega
            | have hd : decide ((1 : Int) ≤ (n : Int)) = false := by simp; omega
      go_enter Try.func90, Try.ntmps90
      go_wp2
      go_ret
      exact ⟨retB (by rw [Bool.eq_iff_iff]; simp [win, h]; try omega), rfl⟩

def shV (k : Nat) : Value := .agg #[.int .i64 (shp k).1, .int .i64 (shp k).2.1, .int .i64 (shp k).2.2]
set_option maxHeartbeats 4000000 in
theorem evOther (k : Nat) (hk : 14 ≤ k ∧ k ≤ 24 ∧ k ≠ 20) (w0 w : World) (P : HP) [hs : Sat w0 w P] : Calls Try.prog 105 #[.int .i64 k] w (RetV w0 (shV k) P) := by
  have h : k = 14 ∨ k = 15 ∨ k = 16 ∨ k = 17 ∨ k = 18 ∨ k = 19 ∨ k = 21 ∨ k = 22 ∨ k = 23 ∨ k = 24 := by omega
  rcases h with rfl | rfl | rfl | rfl | rfl | rfl | rfl | rfl | rfl | rfl
  all_goals
    go_enter Try.func105, Try.ntmps105
    go_wp2
    go_returns
    exact ⟨rfl, own_left⟩
set_option maxHeartbeats 8000000 in
theorem evShape (k : Nat) (hk : 1 ≤ k ∧ k ≤ 24) (w0 w : World) (P : HP) [hs : Sat w0 w P] : Calls Try.prog 89 #[.int .i64 k] w (RetV w0 (shV k) P) := by
  have h : k = 1 ∨ k = 2 ∨ k = 3 ∨ k = 4 ∨ k = 5 ∨ k = 6 ∨ k = 7 ∨ k = 8 ∨ k = 9 ∨ k = 10 ∨ k = 11 ∨ k = 12 ∨ k = 13 ∨ k = 20 ∨ (14 ≤ k ∧ k ≤ 24 ∧ k ≠ 20) := by omega
  rcases h with rfl | rfl | rfl | rfl | rfl | rfl | rfl | rfl | rfl | rfl | rfl | rfl | rfl | rfl | h
  iterate 14
    focus
      go_enter Try.func89, Try.ntmps89
      go_wp2
      go_returns
      exact ⟨rfl, own_left⟩
  have h1 : k = 14 ∨ k = 15 ∨ k = 16 ∨ k = 17 ∨ k = 18 ∨ k = 19 ∨ k = 21 ∨ k = 22 ∨ k = 23 ∨ k = 24 := by omega
  rcases h1 with rfl | rfl | rfl | rfl | rfl | rfl | rfl | rfl | rfl | rfl
  all_goals
    go_enter Try.func89, Try.ntmps89
    go_wp2_with fail
    refine (evOther _ (by decide) w0 _ _).mono ?_
    rintro e w' ⟨rfl, hs1⟩
    dsimp only [shV, shp]
    go_wp2
    go_returns
    exact ⟨rfl, own_left⟩
end Go.Proofs.Ytfphgcplpokigaa
