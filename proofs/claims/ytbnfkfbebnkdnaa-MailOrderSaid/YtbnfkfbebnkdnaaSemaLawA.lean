/-
  What the semaphore's laws share; the walk of SemaNil.
-/
import Derived.Test.YtbnfkfbebnkdnaaSema
namespace Go.Proofs.Ytbnfkfbebnkdnaa
open Go.RowKit Go.Sx

theorem rdN_nil (κ : IntKind) (w : World) : RdN κ w (.slice none 0 0) [] :=
  ⟨none, 0, 0, 0, rfl, Nat.le_refl _, by decide, fun h => absurd rfl h, fun j hj => absurd hj (by simp)⟩
theorem semOk_new {u : Int} (h : 0 ≤ u ∧ u ≤ 255) : SemOk u [] := ⟨h.1, h.2, rowOk_nil, fun _ => rfl⟩

set_option linter.unusedSimpArgs false in
set_option maxHeartbeats 4000000 in
theorem semaAwake (w0 w : World) (F : HP) (hs : Sat w0 w F) :
    Calls Try.prog 29 #[] w (RetV w0 (.bool true) F) := by
  have ok1 : SemOk 1 [] := semOk_new (by decide)
  have ok0 : SemOk 0 [] := semOk_new (by decide)
  have ok3 : SemOk 0 [3] := semOk_await ok0 3
  have ok32 : SemOk 0 [3, 2] := semOk_await ok3 2
  go_enter Try.func29, Try.ntmps29
  go_wp2_with fail
  refine (semNew_yes 1 w0 _ _ hs (by decide)).mono ?_
  rintro e w1 ⟨rfl, hs1⟩
  clear hs
  go_wp2_with fail
  refine (semTake_c _ _ _ _ _ _ hs1 ok1).mono ?_
  rintro e w2 ⟨rfl, hs2⟩
  rw [show takeU 1 = 0 by decide] at hs2
  rw [show takeE 1 = 0 by decide]
  clear hs1
  go_wp2_with fail
  refine (semTake_c _ _ _ _ _ _ hs2 ok0).mono ?_
  rintro e w3 ⟨rfl, hs3⟩
  rw [show takeU 0 = 0 by decide] at hs3
  rw [show takeE 0 = 8 by decide]
  clear hs2
  go_wp2_with fail
  refine (semAwait_c _ _ _ 3 _ _ _ hs3 ok0).mono ?_
  rintro e w4 ⟨rfl, hs4⟩
  rw [show awaitL 0 [] 3 = [3] by decide] at hs4
  rw [show awaitE 0 [] 3 = 0 by decide]
  clear hs3
  go_wp2_with fail
  refine (semAwait_c _ _ _ 2 _ _ _ hs4 ok3).mono ?_
  rintro e w5 ⟨rfl, hs5⟩
  rw [show awaitL 0 [3] 2 = [3, 2] by decide] at hs5
  rw [show awaitE 0 [3] 2 = 0 by decide]
  clear hs4
  have hs6 := (hs5.alloc #[.int .i64 0, .int .i64 0, .int .i64 4, .int .i64 4] 3).drop
  have hr6 := rdN_lit .i64 [0, 0, 4, 4] w5 3 (by decide)
  go_wp2_with fail
  refine (semPost_c _ _ _ _ [0, 0, 4, 4] _ _ _ hs6 hr6 ok32).mono ?_
  rintro e w6 ⟨rfl, hs7⟩
  rw [show postU 0 [3, 2] = 0 by decide, show postL [0, 0, 4, 4] [3, 2] = [2] by decide] at hs7
  rw [show postE 0 [3, 2] = 0 by decide, show postT [0, 0, 4, 4] [3, 2] = 3 by decide]
  clear hs6 hr6 hs5
  go_wp2_with fail
  refine (semNew_no 256 _ (by decide)).mono ?_
  rintro e w7 ⟨rfl, rfl⟩
  go_wp2_with fail
  refine (semUnits_c _ _ _ _ _ _ hs7).mono ?_
  rintro e w7 ⟨rfl, rfl⟩
  go_wp2_with fail
  go_ret
  exact ⟨rfl, hs7.drop⟩

set_option maxHeartbeats 4000000 in
theorem semaNil_walk (t : Int) (v1 : Value) (l1 : List Int) (w0 : World) (_z0 : (Lit.int .i64 t).wf = true) (h1 : RdN .i64 w0 v1 l1) (_z1 : ∀ n ∈ l1, (Lit.int .i64 n).wf = true) :
    Calls Try.prog 12 #[.int .i64 t, v1] w0 (RetV w0 (.bool true) emp) := by
  have hs := Sat.start w0
  obtain ⟨la, lcap, lb, loff, rfl, _, _, _, _⟩ := h1
  go_enter Try.func12, Try.ntmps12
  go_wp2_with fail
  refine (semPost_nil _ _).mono ?_
  rintro e w1 ⟨rfl, rfl⟩
  go_wp2_with fail
  refine (semaAwake w0 _ emp hs).mono ?_
  rintro e w1 ⟨rfl, hs1⟩
  clear hs
  go_wp2_with fail
  refine (semTake_nil _).mono ?_
  rintro e w2 ⟨rfl, rfl⟩
  go_wp2_with fail
  refine (semAwait_nil _ _).mono ?_
  rintro e w2 ⟨rfl, rfl⟩
  go_wp2_with fail
  refine (semCancel_nil _ _).mono ?_
  rintro e w2 ⟨rfl, rfl⟩
  go_wp2_with fail
  refine (semUnits_nil _).mono ?_
  rintro e w2 ⟨rfl, rfl⟩
  go_wp2_with fail
  refine (semWaiting_nil w0 _ _ hs1).mono ?_
  rintro e w2 ⟨v, rfl, hs2⟩
  obtain ⟨a, cap, rfl⟩ := hs2.slice_form
  go_wp2_with fail
  go_ret
  exact ⟨rfl, hs2.drop⟩
end Go.Proofs.Ytbnfkfbebnkdnaa
