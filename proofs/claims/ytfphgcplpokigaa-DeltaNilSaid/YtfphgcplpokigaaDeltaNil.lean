/-
  DeltaNil: the walk.
-/
import Derived.Test.YtfphgcplpokigaaDeltaH
namespace Go.Proofs.Ytfphgcplpokigaa
open Go.RowKit Go.Sx Go.Dl

set_option maxRecDepth 100000 in
theorem delPut_nil (id t : Int) (w0 w : World) (F : HP) (hs : Sat w0 w F) :
    Calls Try.prog 21 #[.pointer none, .int .i64 id, .int .i64 t] w (RetV w0 (.int .i64 16) F) := by
  go_enter Try.func21, Try.ntmps21
  go_wp2_with fail
  go_ret
  exact ⟨rfl, hs⟩

set_option maxRecDepth 100000 in
theorem deltaNil_walk (id t : Int) (w0 : World) (_z0 : (Lit.int .i64 id).wf = true) (_z1 : (Lit.int .i64 t).wf = true) :
    Calls Try.prog 13 #[.int .i64 id, .int .i64 t] w0 (RetV w0 (.bool true) emp) := by
  have hs := Sat.start w0
  go_enter Try.func13, Try.ntmps13
  go_wp2_with fail
  refine (delAwake w0 _ _ hs).mono ?_
  rintro e w1 ⟨rfl, hs1⟩
  go_wp2_with fail
  refine (delPut_nil id t w0 _ _ hs1).mono ?_
  rintro e w2 ⟨rfl, hs2⟩
  go_wp2_with fail
  refine (delCancel_nil id w0 _ _ hs2).mono ?_
  rintro e w3 ⟨rfl, hs3⟩
  go_wp2_with fail
  refine (delTick_nil w0 _ _ hs3).mono ?_
  rintro e w4 ⟨v4, rfl, hs4⟩
  obtain ⟨a4, c4, rfl⟩ := hs4.slice_form
  have hs4 := hs4.drop
  go_wp2_with fail
  refine (delLeft_nil id w0 _ _ hs4).mono ?_
  rintro e w5 ⟨rfl, hs5⟩
  go_wp2_with fail
  refine (delDues_nil w0 _ _ hs5).mono ?_
  rintro e w6 ⟨v6, rfl, hs6⟩
  obtain ⟨a6, c6, rfl⟩ := hs6.recs_form
  have hs6 := hs6.drop
  go_wp2_with fail
  refine (delFrom_nil id w0 _ _ hs6).mono ?_
  rintro e w7 ⟨rfl, hs7⟩
  go_wp2_with fail
  go_ret
  exact ⟨rfl, hs7⟩
end Go.Proofs.Ytfphgcplpokigaa
