/-
  AuditSteps: for every input the law returns true, and each argument reads afterwards as before.
-/
import Derived.Test.YtfphgcplpokigaaAuditSteps
import Derived.Test.YtfphgcplpokigaaOpen
import Derived.Test.YtfphgcplpokigaaAuditOpen
namespace Go.Proofs.Ytfphgcplpokigaa.auditSteps
open Go.ChangeShapes Go.WideShapes Go.ChangeAt Go.RowKit Go.Sx
open Go.ChangeMaps (open_string shut_string)
set_option linter.unusedVariables false

set_option maxRecDepth 100000 in
theorem lifted (os : Os) (started : os.Started) (H : Type) (enc : TypeId × Value → H) :
    ReturnsInHanded {} Try.checked os 15 .any (Rows.auditStepsSpec.pre6 enc Try.prog Try.f15 Rows.auditStepsRow.domain false) (Rows.auditStepsSpec.post enc Try.prog Try.f15 false true false false) := by
  refine returnsInHanded_of_change (C := Try.checked) own started (by kernel_rfl) Try.func15
    (ChangeSpec.witness6 (enc := enc) (C := Try.checked) false ⟨#[], #[.slice none 0 0], []⟩ 8 (by kernel_rfl) (by kernel_rfl) (by kernel_rfl) (by kernel_rfl)) ?_
  intro W base args ds gs before hval0 hW hcnd _
  have hval : ∀ (j : Nat) t v, Try.f15.params[j]? = some t → args[j]? = some v → Value.okWide Try.prog W .any base t v := hval0
  have hW' := hW
  obtain ⟨p, q, hA0, hV, rfl, hfz, hnd⟩ := hW
  have hA : DataW.TrodAll enc Try.prog W 0 (fun _ => true) true Try.f15.params.toList args.toList ds p := hA0
  rw [Try.params15] at hA hval
  obtain ⟨v0, vs0, d0, ds0, p0, q0, hargs, rfl, rfl, h0, r0⟩ := trodAll_cons hA
  obtain ⟨rfl, rfl, rfl⟩ := trodAll_nil r0
  obtain rfl : args = #[v0] := by cases args; simp_all
  obtain ⟨rfl, rfl⟩ := trodVars_none hV
  obtain ⟨n0, f0, w0, s0⟩ := opened_structs (κs := kEv) Try.underlying73 Try.underlying79 (fun c κ hc => by
    match c, hc with
    | 0, hc => cases hc; exact ⟨_, rfl, rfl, by kernel_rfl, by kernel_rfl⟩
    | 1, hc => cases hc; exact ⟨_, rfl, rfl, by kernel_rfl, by kernel_rfl⟩
    | 2, hc => cases hc; exact ⟨_, rfl, rfl, by kernel_rfl, by kernel_rfl⟩
    | 3, hc => cases hc; exact ⟨_, rfl, rfl, by kernel_rfl, by kernel_rfl⟩
    | 4, hc => cases hc; exact ⟨_, rfl, rfl, by kernel_rfl, by kernel_rfl⟩
    | 5, hc => cases hc; exact ⟨_, rfl, rfl, by kernel_rfl, by kernel_rfl⟩
    | c + 6, hc => exact absurd hc (by simp)) (by kernel_rfl) (by decide) (hval 0 73 v0 rfl rfl) h0
  obtain ⟨l0, hl0, rd0, ok0⟩ := evs_of_RdK w0
  clear hA0 hval0
  refine (auditSteps_walk v0 l0 W rd0 ok0).mono fun e W' ⟨he, hsat⟩ => ?_
  have bel := hsat.below
  subst he
  exact ⟨_, rfl, _, _, _, [], _, [], hW', trodAll_mk1 (shut_bool Try.underlying4 _), (trodAll_cons_mk (Below.trod laidOut (by kernel_rfl) (of_decide_eq_true (by kernel_rfl)) h0 bel (trod_places h0)) trodAll_mk0), rfl, bel.frame _, fun h => by cases h⟩

theorem over : Rows.auditStepsRow.holds Try.pinned (OpenSpec.ofChange Rows.auditStepsSpec) :=
  OpenClaim.holds_of_wide 15 Try.f15 rfl rfl rfl rfl rfl rfl rfl ⟨rfl, rfl, rfl, rfl, rfl⟩ rfl rfl rfl rfl rfl (by kernel_rfl) Try.func15 (by kernel_rfl)
    (of_decide_eq_true (by kernel_rfl)) (by unfold Func.isWrapper; first | (rw [if_pos (by decide +kernel)]; kernel_rfl) | (rw [if_neg (by decide +kernel)]; exact ⟨rfl, rfl⟩))
    (fun os started H enc _ => lifted os started H enc)
end Go.Proofs.Ytfphgcplpokigaa.auditSteps
namespace Go.Proofs.Ytfphgcplpokigaa
/-- The statement. -/
theorem auditSteps_holds : Rows.AuditStepsSaid := auditSteps.over
#print axioms auditSteps_holds
end Go.Proofs.Ytfphgcplpokigaa
