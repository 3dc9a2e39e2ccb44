/-
  AuditNil: for every input the law returns true, and each argument reads afterwards as before.
-/
import Derived.Test.YtfphgcplpokigaaAuditNil
import Derived.Test.YtfphgcplpokigaaOpenB
import Derived.Test.YtfphgcplpokigaaAuditOpen
namespace Go.Proofs.Ytfphgcplpokigaa.auditNil
open Go.ChangeShapes Go.WideShapes Go.ChangeAt Go.RowKit Go.Sx
open Go.ChangeMaps (open_string shut_string)
set_option linter.unusedVariables false

set_option maxRecDepth 100000 in
theorem lifted (os : Os) (started : os.Started) (H : Type) (enc : TypeId × Value → H) :
    ReturnsInHanded {} Try.checked os 19 .any (Rows.auditNilSpec.pre6 enc Try.prog Try.f19 Rows.auditNilRow.domain false) (Rows.auditNilSpec.post enc Try.prog Try.f19 false true false false) := by
  refine returnsInHanded_of_change (C := Try.checked) own started (by kernel_rfl) Try.func19
    (ChangeSpec.witness6 (enc := enc) (C := Try.checked) false ⟨#[], #[.agg #[.int .i64 0, .int .u64 0, .int .u64 0, .int .u32 0, .int .u32 0, .int .u32 0]], []⟩ 8 (by kernel_rfl) (by kernel_rfl) (by kernel_rfl) (by kernel_rfl)) ?_
  intro W base args ds gs before hval0 hW hcnd _
  have hval : ∀ (j : Nat) t v, Try.f19.params[j]? = some t → args[j]? = some v → Value.okWide Try.prog W .any base t v := hval0
  have hW' := hW
  obtain ⟨p, q, hA0, hV, rfl, hfz, hnd⟩ := hW
  have hA : DataW.TrodAll enc Try.prog W 0 (fun _ => true) true Try.f19.params.toList args.toList ds p := hA0
  rw [Try.params19] at hA hval
  obtain ⟨v0, vs0, d0, ds0, p0, q0, hargs, rfl, rfl, h0, r0⟩ := trodAll_cons hA
  obtain ⟨rfl, rfl, rfl⟩ := trodAll_nil r0
  obtain rfl : args = #[v0] := by cases args; simp_all
  obtain ⟨rfl, rfl⟩ := trodVars_none hV
  obtain ⟨f0, e0, y0⟩ := opened_rec (κs := kEv) Try.underlying79 (fun c κ hc => by
    match c, hc with
    | 0, hc => cases hc; exact ⟨_, rfl, rfl, by kernel_rfl, by kernel_rfl⟩
    | 1, hc => cases hc; exact ⟨_, rfl, rfl, by kernel_rfl, by kernel_rfl⟩
    | 2, hc => cases hc; exact ⟨_, rfl, rfl, by kernel_rfl, by kernel_rfl⟩
    | 3, hc => cases hc; exact ⟨_, rfl, rfl, by kernel_rfl, by kernel_rfl⟩
    | 4, hc => cases hc; exact ⟨_, rfl, rfl, by kernel_rfl, by kernel_rfl⟩
    | 5, hc => cases hc; exact ⟨_, rfl, rfl, by kernel_rfl, by kernel_rfl⟩
    | c + 6, hc => exact absurd hc (by simp)) (by kernel_rfl) (hval 0 79 v0 rfl rfl) h0
  clear hA0 hval0
  rw [ev_of_rec y0] at e0
  subst e0
  refine (auditNil_walk (evOf f0) W).mono fun e W' ⟨he, hsat⟩ => ?_
  have bel := hsat.below
  subst he
  exact ⟨_, rfl, _, _, _, [], _, [], hW', trodAll_mk1 (shut_bool Try.underlying4 _), (trodAll_cons_mk (Below.trod laidOut (by kernel_rfl) (of_decide_eq_true (by kernel_rfl)) h0 bel (trod_places h0)) trodAll_mk0), rfl, bel.frame _, fun h => by cases h⟩

theorem over : Rows.auditNilRow.holds Try.pinned (OpenSpec.ofChange Rows.auditNilSpec) :=
  OpenClaim.holds_of_wide 19 Try.f19 rfl rfl rfl rfl rfl rfl rfl ⟨rfl, rfl, rfl, rfl, rfl⟩ rfl rfl rfl rfl rfl (by kernel_rfl) Try.func19 (by kernel_rfl)
    (of_decide_eq_true (by kernel_rfl)) (by unfold Func.isWrapper; first | (rw [if_pos (by decide +kernel)]; kernel_rfl) | (rw [if_neg (by decide +kernel)]; exact ⟨rfl, rfl⟩))
    (fun os started H enc _ => lifted os started H enc)
end Go.Proofs.Ytfphgcplpokigaa.auditNil
namespace Go.Proofs.Ytfphgcplpokigaa
/-- The statement. -/
theorem auditNil_holds : Rows.AuditNilSaid := auditNil.over
#print axioms auditNil_holds
end Go.Proofs.Ytfphgcplpokigaa
