/-
  LockTurn: for every input the law returns true, and each argument reads afterwards as before.
-/
import Derived.Test.YtigjeflofbdahaaLockTurn
import Derived.Test.YtigjeflofbdahaaOpen
namespace Go.Proofs.Ytigjeflofbdahaa.lockTurn
open Go.ChangeShapes Go.WideShapes Go.ChangeAt Go.RowKit Go.Sx
open Go.ChangeMaps (open_string shut_string)
set_option linter.unusedVariables false

set_option maxRecDepth 100000 in
theorem lifted (os : Os) (started : os.Started) (H : Type) (enc : TypeId × Value → H) :
    ReturnsInHanded {} Try.checked os 3 .any (Rows.lockTurnSpec.pre6 enc Try.prog Try.f3 Rows.lockTurnRow.domain false) (Rows.lockTurnSpec.post enc Try.prog Try.f3 false true false false) := by
  refine returnsInHanded_of_change (C := Try.checked) own started (by kernel_rfl) Try.func3
    (ChangeSpec.witness6 (enc := enc) (C := Try.checked) false ⟨#[], #[.slice none 0 0, .slice none 0 0, .int .i64 0], []⟩ 8 (by kernel_rfl) (by kernel_rfl) (by kernel_rfl) (by kernel_rfl)) ?_
  intro W base args ds gs before hval0 hW hcnd _
  have hval : ∀ (j : Nat) t v, Try.f3.params[j]? = some t → args[j]? = some v → Value.okWide Try.prog W .any base t v := hval0
  have hW' := hW
  obtain ⟨p, q, hA0, hV, rfl, hfz, hnd⟩ := hW
  have hA : DataW.TrodAll enc Try.prog W 0 (fun _ => true) true Try.f3.params.toList args.toList ds p := hA0
  rw [Try.params3] at hA hval
  obtain ⟨v0, vs0, d0, ds0, p0, q0, hargs, rfl, rfl, h0, r0⟩ := trodAll_cons hA
  obtain ⟨v1, vs1, d1, ds1, p1, q1, rfl, rfl, rfl, h1, r1⟩ := trodAll_cons r0
  obtain ⟨v2, vs2, d2, ds2, p2, q2, rfl, rfl, rfl, h2, r2⟩ := trodAll_cons r1
  obtain ⟨rfl, rfl, rfl⟩ := trodAll_nil r2
  obtain rfl : args = #[v0, v1, v2] := by cases args; simp_all
  obtain ⟨rfl, rfl⟩ := trodVars_none hV
  obtain ⟨l0, w0, z0, s0⟩ := opened_nums (κ := .i64) Try.underlying22 Try.underlying3 (by kernel_rfl) (hval 0 22 v0 rfl rfl) h0
  obtain ⟨n1, f1, w1, s1⟩ := opened_structs (κs := [.i64, .i64, .i64]) Try.underlying23 Try.underlying37 (fun c κ hc => by
    match c, hc with
    | 0, hc => cases hc; exact ⟨_, rfl, rfl, by kernel_rfl, by kernel_rfl⟩
    | 1, hc => cases hc; exact ⟨_, rfl, rfl, by kernel_rfl, by kernel_rfl⟩
    | 2, hc => cases hc; exact ⟨_, rfl, rfl, by kernel_rfl, by kernel_rfl⟩
    | c + 3, hc => exact absurd hc (by simp)) (by kernel_rfl) (by decide) (hval 1 23 v1 rfl rfl) h1
  obtain ⟨a2, rfl, rfl, rfl, z2⟩ := open_int Try.underlying3 (hval 2 3 v2 rfl rfl) h2
  clear hA0 hval0
  refine (lockTurn_walk v0 l0 v1 n1 f1 a2 W w0 z0 w1 z2).mono fun e W' ⟨he, hsat⟩ => ?_
  have bel := hsat.below
  subst he
  exact ⟨_, rfl, _, _, _, [], _, [], hW', trodAll_mk1 (shut_bool Try.underlying4 _), (trodAll_cons_mk (Below.trod laidOut (by kernel_rfl) (of_decide_eq_true (by kernel_rfl)) h0 bel (trod_places h0)) (trodAll_cons_mk (Below.trod laidOut (by kernel_rfl) (of_decide_eq_true (by kernel_rfl)) h1 bel (trod_places h1)) (trodAll_cons_mk (shut_int Try.underlying3 z2) trodAll_mk0))), rfl, bel.frame _, fun h => by cases h⟩

theorem over : Rows.lockTurnRow.holds Try.pinned (OpenSpec.ofChange Rows.lockTurnSpec) :=
  OpenClaim.holds_of_wide 3 Try.f3 rfl rfl rfl rfl rfl rfl rfl ⟨rfl, rfl, rfl, rfl, rfl⟩ rfl rfl rfl rfl rfl (by kernel_rfl) Try.func3 (by kernel_rfl)
    (of_decide_eq_true (by kernel_rfl)) (by unfold Func.isWrapper; first | (rw [if_pos (by decide +kernel)]; kernel_rfl) | (rw [if_neg (by decide +kernel)]; exact ⟨rfl, rfl⟩))
    (fun os started H enc _ => lifted os started H enc)
end Go.Proofs.Ytigjeflofbdahaa.lockTurn
namespace Go.Proofs.Ytigjeflofbdahaa
/-- The statement. -/
theorem lockTurn_holds : Rows.LockTurnSaid := lockTurn.over
#print axioms lockTurn_holds
end Go.Proofs.Ytigjeflofbdahaa
