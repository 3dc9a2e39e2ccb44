/-
  Audit: the reference's Check; appending events.
-/
import Derived.Test.YtfphgcplpokigaaAuditZ
import Derived.Test.YtfphgcplpokigaaAuditNew
import Derived.Test.YtfphgcplpokigaaAuditAlone
namespace Go.Proofs.Ytfphgcplpokigaa
open Go.RowKit Go.Sx Go.Au
set_option linter.unusedSimpArgs false
set_option linter.unusedVariables false

set_option maxRecDepth 100000 in
set_option maxHeartbeats 8000000 in
theorem rfCheckL (v : Value) (l : List Ev) (hl : l.length < 1000000) (hev : ∀ e ∈ l, EvOk e) (w0 w : World) (F : HP) (hs : Sat w0 w F) (hst : StaysE w0 F v l) :
    Calls Try.prog 51 #[v] w (RetV w0 (.int .i64 (chkI l)) F) := by
  have hst' := hid hst
  obtain ⟨a, cap, b, off, rfl, hcap, hbig, ha, hc⟩ := hst w hs
  have Ha := hid ha
  have Hev := hid hev
  clear hc ha hst hev
  unfold maxLen at hbig
  go_enter Try.func51, Try.ntmps51
  go_wp2_with fail
  refine (rfNew w0 _ F hs).mono ?_
  rintro en wx ⟨pb, rfl, hsx⟩
  clear hs
  go_wp2_with fail
  go_loopw [4] (fun i wr => ∃ (k : Nat) (A : Au), k ≤ l.length ∧ i = .int .i64 k ∧ AOk A ∧ A.seen = k ∧ Run l k A ∧ Sat w0 wr (rfP pb A * (F * any))) (fun i _ => l.length - (intOf i).toNat)
  case atStart => exact ⟨0, au0, by omega, rfl, aok0, rfl, run0 l, own_left⟩
  case round =>
    obtain ⟨k, A, hk, rfl, hA, hse, hrun, hs2⟩ := hrel
    have Hrun := hid hrun
    have Hse := hid hse
    clear hrun hse hsx
    by_cases hlt : k < l.length
    · have hin : l[k] ∈ l := List.getElem_mem hlt
      have hek := Hev.out _ hin
      obtain ⟨g, off2, rfl, q0, q1, q2, q3, q4, q5⟩ := ev_at (hst'.out wr own_left) hlt
      clear hin
      generalize hle : l[k] = e at *
      have Hle := hid hle
      clear hle
      obtain ⟨ek, ecy, eco, ea, eb, ev⟩ := e
      dsimp only at q0 q1 q2 q3 q4 q5
      have hI : (k : Int) < (l.length : Int) := by omega
      go_wp2_with fail
      refine (rfNext pb A ⟨ek, ecy, eco, ea, eb, ev⟩ w0 _ (F * any) own_left hA hek ⟨by have := Hse.out; omega, by have := Hse.out; omega⟩).mono ?_
      rintro en w2 ⟨rfl, hy, hn⟩
      clear hs2
      generalize hr : keepsR A ⟨ek, ecy, eco, ea, eb, ev⟩ = r at hy hn ⊢
      have Hr := hid hr
      clear hr
      cases r
      · have hs3 := hn rfl
        clear hn hy
        go_wp2_with fail
        go_ret
        refine ⟨?_, own_left⟩
        have := run_break hlt Hrun.out Hle.out Hr.out
        unfold chkI
        rw [this]
        rfl
      · have hs3 := hy rfl
        clear hn hy
        go_wp2_with fail
        go_roundw
        case rel => exact ⟨k + 1, stepA A ⟨ek, ecy, eco, ea, eb, ev⟩, by omega, by go_num, aok_step hA hek Hr.out, by rw [step_seen, Hse.out]; omega, run_next hlt Hrun.out Hle.out Hr.out, own_left⟩
        case measure => simp [intOf]; omega
    · have hke : k = l.length := by omega
      subst hke
      go_wp2_with fail
      go_ret
      refine ⟨?_, own_left⟩
      unfold chkI
      rw [run_end Hrun.out]
      rfl

set_option maxRecDepth 100000 in
set_option maxHeartbeats 8000000 in
theorem auditChecks_walk (v0 : Value) (l : List Ev) (w0 : World) (h0 : RdR w0 v0 l) (e0 : ∀ e ∈ l, EvOk e) :
    Calls Try.prog 14 #[v0] w0 (RetV w0 (.bool true) emp) := by
  have hs := Sat.start w0
  haveI : OldRec w0 encEv v0 l := ⟨h0⟩
  obtain ⟨a0, c0, b0, o0, rfl, k1, k2, _, _⟩ := h0
  unfold maxLen at k2
  have E0 := hid e0
  clear e0
  by_cases g0 : 2000 < l.length
  · have d0 : decide ((2000 : Int) < (l.length : Int)) = true := by simp; omega
    go_enter Try.func14, Try.ntmps14
    go_wp2_with fail
    refine (auAwake w0 _ _ own_it).mono ?_
    rintro e w1 ⟨rfl, hs1⟩
    go_wp2_with fail
    refine (auAwake w0 _ _ hs1).mono ?_
    rintro e w2 ⟨rfl, hs2⟩
    go_wp2_with fail
    go_ret
    exact ⟨rfl, own_left⟩
  · have d0 : decide ((2000 : Int) < (l.length : Int)) = false := by simp; omega
    go_enter Try.func14, Try.ntmps14
    go_wp2_with fail
    refine (auAwake w0 _ _ own_it).mono ?_
    rintro e w1 ⟨rfl, hs1⟩
    go_wp2_with (first | (at_builtin; refine wpList_append_recs rfl rfl rfl rfl (by omega) ?_; intro ap ac aL aw ahL ah1 ah2 ahs _) | (refine wpList_sliceR_from rfl rfl rfl rfl (by omega) (by omega) ?_; intro px pc pL php phL ph1 ph2) | (refine wpList_sliceR_to rfl rfl rfl rfl (by omega) (by omega) ?_; intro px pc pL php phL ph1 ph2))
    have HL : Hid (aL = l) := by
      have := ahL.out
      unfold Hid
      rw [this]; rfl
    have HE : Hid (∀ e ∈ aL, EvOk e) := by
      unfold Hid
      rw [HL.out]
      exact E0.out
    refine (auCheck _ aL (by omega) HE.out w0 _ _ ahs staysE_own).mono ?_
    rintro e w2 ⟨rfl, hs2⟩
    rw [HL.out]
    clear hs1
    go_wp2_with fail
    refine (rfCheckL _ l (by omega) E0.out w0 _ _ hs2 (staysE_old rdr)).mono ?_
    rintro e w3 ⟨rfl, hs3⟩
    generalize chkI l = c
    go_wp2_with fail
    go_ret
    exact ⟨retB (by simp), own_left⟩
end Go.Proofs.Ytfphgcplpokigaa
