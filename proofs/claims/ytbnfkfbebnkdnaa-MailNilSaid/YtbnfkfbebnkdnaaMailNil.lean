/-
  The walk of MailNil.
-/
import Derived.Test.YtbnfkfbebnkdnaaMailLawA
namespace Go.Proofs.Ytbnfkfbebnkdnaa
open Go.RowKit Go.Sx

set_option maxHeartbeats 4000000 in
theorem mailNil_walk (t v : Int) (v1 : Value) (l1 : List Int) (w0 : World) (_z0 : (Lit.int .i64 t).wf = true) (_z1 : (Lit.int .u32 v).wf = true) (h1 : RdN .i64 w0 v1 l1) (_z2 : ∀ n ∈ l1, (Lit.int .i64 n).wf = true) :
    Calls Try.prog 17 #[.int .i64 t, .int .u32 v, v1] w0 (RetV w0 (.bool true) emp) := by
  have hs := Sat.start w0
  obtain ⟨la, lcap, lb, loff, rfl, _, _, _, _⟩ := h1
  go_enter Try.func17, Try.ntmps17
  go_wp2_with fail
  refine (mailSend_nil _ _ _).mono ?_
  rintro e w2 ⟨rfl, rfl⟩
  go_wp2_with fail
  refine (mailRecv_nil _ _).mono ?_
  rintro e w2 ⟨rfl, rfl⟩
  go_wp2_with fail
  refine (mailAwake w0 _ emp hs).mono ?_
  rintro e w2 ⟨rfl, hs1⟩
  clear hs
  go_wp2_with fail
  refine (mailHold_nil _ _ _).mono ?_
  rintro e w2 ⟨rfl, rfl⟩
  go_wp2_with fail
  refine (mailAwait_nil _ _).mono ?_
  rintro e w2 ⟨rfl, rfl⟩
  go_wp2_with fail
  refine (mailCancel_nil _ _).mono ?_
  rintro e w2 ⟨rfl, rfl⟩
  go_wp2_with fail
  refine (mailList_nil w0 _ _ hs1).mono ?_
  rintro e w3 ⟨u0, rfl, hx0⟩
  obtain ⟨a0, cap0, rfl⟩ := hx0.slice_form
  go_wp2_with fail
  refine (mailSenders_nil w0 _ _ hx0).mono ?_
  rintro e w4 ⟨u1, rfl, hx1⟩
  obtain ⟨a1, cap1, rfl⟩ := hx1.slice_form
  go_wp2_with fail
  refine (mailReceivers_nil w0 _ _ hx1).mono ?_
  rintro e w5 ⟨u2, rfl, hx2⟩
  obtain ⟨a2, cap2, rfl⟩ := hx2.slice_form
  go_wp2_with fail
  go_ret
  exact ⟨rfl, hx2.drop.drop.drop⟩
end Go.Proofs.Ytbnfkfbebnkdnaa
