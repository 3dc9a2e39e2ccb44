/-
  AuditFront: the plain law and the walk.
-/
import Derived.Test.YtfphgcplpokigaaAuditO
namespace Go.Au
theorem chk_take : ∀ (l : List Ev) (A : Au) (n : Nat), chk A (l.take n) = (match chk A l with | some k => if k < n then some k else none | none => none)
  | [], A, n => by simp [chk]
  | e :: l, A, 0 => by
    rw [List.take_zero]
    cases chk A (e :: l) <;> simp [chk]
  | e :: l, A, n + 1 => by
    rw [List.take_succ_cons]
    unfold chk
    cases nxt A e with
    | none => simp
    | some B =>
      simp only
      rw [chk_take l B n]
      cases chk B l with
      | none => simp
      | some k => by_cases h : k < n <;> simp [h]
theorem chk_lt : ∀ (l : List Ev) (A : Au) (k : Nat), chk A l = some k → k < l.length
  | [], A, k, h => by simp [chk] at h
  | e :: l, A, k, h => by
    unfold chk at h
    cases hn : nxt A e with
    | none => rw [hn] at h; simp at h; subst h; simp
    | some B =>
      rw [hn] at h
      simp only [Option.map_eq_some_iff] at h
      obtain ⟨j, hj, rfl⟩ := h
      have := chk_lt l B j hj
      simp; omega
theorem chkI_range (l : List Ev) : -1 ≤ chkI l ∧ chkI l < l.length ∨ chkI l = -1 := by
  unfold chkI
  cases h : chk au0 l with
  | none => right; rfl
  | some k => left; have := chk_lt l au0 k h; simp only; omega
theorem chkI_take (l : List Ev) (n : Nat) : chkI (l.take n) = if 0 ≤ chkI l ∧ chkI l < n then chkI l else -1 := by
  unfold chkI
  rw [chk_take]
  cases h : chk au0 l with
  | none => simp
  | some k =>
    simp only
    by_cases hk : k < n
    · rw [if_pos hk, if_pos (by omega)]
    · rw [if_neg hk, if_neg (by omega)]
end Go.Au
namespace Go.Proofs.Ytfphgcplpokigaa
open Go.RowKit Go.Sx Go.Au
set_option linter.unusedSimpArgs false
set_option linter.unusedVariables false

theorem staysE_own {w0 : World} {P F : HP} {v : Value} {l : List Ev} [p : PullR P encEv v l F] : StaysE w0 P v l := fun _ hs => (hs.perm p.eq).rdR
theorem staysE_part {w0 : World} {P F : HP} {v u : Value} {l L : List Ev} [p : PartR encEv v u l L] [q : PullR P encEv u l F] : StaysE w0 P v L := fun w hs => p.part w (hs.perm q.eq).rdR

set_option maxRecDepth 100000 in
set_option maxHeartbeats 8000000 in
theorem auditFront_walk (v0 v1 : Value) (n : Int) (l0 l1 : List Ev) (w0 : World) (h0 : RdR w0 v0 l0) (h1 : RdR w0 v1 l1) (e0 : ∀ e ∈ l0, EvOk e) (e1 : ∀ e ∈ l1, EvOk e) (_z : (Lit.int .i64 n).wf = true) :
    Calls Try.prog 16 #[v0, v1, .int .i64 n] w0 (RetV w0 (.bool true) emp) := by
  have hs := Sat.start w0
  haveI : OldRec w0 encEv v0 l0 := ⟨h0⟩
  haveI : OldRec w0 encEv v1 l1 := ⟨h1⟩
  obtain ⟨a0, c0, b0, o0, rfl, k1, k2, _, _⟩ := h0
  obtain ⟨a1, c1, b1, o1, rfl, k3, k4, _, _⟩ := h1
  unfold maxLen at k2 k4
  have E0 := hid e0
  have E1 := hid e1
  clear e0 e1
  by_cases g0 : 500 < l0.length
  · have d0 : decide ((500 : Int) < (l0.length : Int)) = true := by simp; omega
    go_enter Try.func16, Try.ntmps16
    go_wp2_with fail
    refine (auAwake w0 _ _ own_it).mono ?_
    rintro e w1 ⟨rfl, hs1⟩
    go_wp2_with fail
    refine (auAwake w0 _ _ hs1).mono ?_
    rintro e w2 ⟨rfl, hs2⟩
    go_wp2_with fail
    go_ret
    exact ⟨rfl, own_left⟩
  · have d0 : decide ((500 : Int) < (l0.length : Int)) = false := by simp; omega
    by_cases g1 : 500 < l1.length
    · have d1 : decide ((500 : Int) < (l1.length : Int)) = true := by simp; omega
      go_enter Try.func16, Try.ntmps16
      go_wp2_with fail
      refine (auAwake w0 _ _ own_it).mono ?_
      rintro e w1 ⟨rfl, hs1⟩
      go_wp2_with fail
      refine (auAwake w0 _ _ hs1).mono ?_
      rintro e w2 ⟨rfl, hs2⟩
      go_wp2_with fail
      go_ret
      exact ⟨rfl, own_left⟩
    · have d1 : decide ((500 : Int) < (l1.length : Int)) = false := by simp; omega
      go_enter Try.func16, Try.ntmps16
      go_wp2_with fail
      refine (auAwake w0 _ _ own_it).mono ?_
      rintro e w1 ⟨rfl, hs1⟩
      go_wp2_with (first | (at_builtin; refine wpList_append_recs rfl rfl rfl rfl (by omega) ?_; intro ap ac aL aw ahL ah1 ah2 ahs _) | (refine wpList_sliceR_from rfl rfl rfl rfl (by omega) (by omega) ?_; intro px pc pL php phL ph1 ph2) | (refine wpList_sliceR_to rfl rfl rfl rfl (by omega) (by omega) ?_; intro px pc pL php phL ph1 ph2))
      have HL : Hid (aL = l0 ++ l1) := by
        unfold Hid at *
        subst_vars
        simp
      have HE : Hid (∀ e ∈ aL, EvOk e) := by
        unfold Hid
        rw [HL.out]
        intro e he
        rcases List.mem_append.1 he with h | h
        · exact E0.out e h
        · exact E1.out e h
      have hlen : aL.length ≤ 1000 := by rw [HL.out, List.length_append]; omega
      clear ahL
      refine (auCheck _ aL (by omega) HE.out w0 _ _ ahs staysE_own).mono ?_
      rintro e w2 ⟨rfl, hs2⟩
      have hrg := chkI_range aL
      have Ht := hid (chkI_take aL n.toNat)
      generalize chkI aL = at_ at *
      have hr1 : -1 ≤ at_ ∧ (at_ < aL.length ∨ at_ = -1) := by omega
      have r0 : decide (-1 ≤ at_) = true := by simp; omega
      clear hrg
      by_cases q1 : n < 0
      · have r1 : decide (n < 0) = true := by simp; omega
        by_cases q0 : aL.length = 0
        · have r2 : (aL.length : Int) < 1 := by omega
          go_wp2_with fail
          go_ret
          exact ⟨retB (by simp; omega), own_left⟩
        · have r2 : ¬ (aL.length : Int) < 1 := by omega
          go_wp2_with fail
          go_ret
          exact ⟨retB (by simp; omega), own_left⟩
      · have r1 : decide (n < 0) = false := by simp; omega
        by_cases q2 : (aL.length : Int) < n
        · have r3 : decide ((aL.length : Int) < n) = true := by simp; omega
          by_cases q0 : aL.length = 0
          · have r2 : (aL.length : Int) < 1 := by omega
            go_wp2_with fail
            go_ret
            exact ⟨retB (by simp; omega), own_left⟩
          · have r2 : ¬ (aL.length : Int) < 1 := by omega
            go_wp2_with fail
            go_ret
            exact ⟨retB (by simp; omega), own_left⟩
        · have r3 : decide ((aL.length : Int) < n) = false := by simp; omega
          go_wp2_with (first | (at_builtin; refine wpList_append_recs rfl rfl rfl rfl (by omega) ?_; intro ap ac aL aw ahL ah1 ah2 ahs _) | (refine wpList_sliceR_from rfl rfl rfl rfl (by omega) (by omega) ?_; intro px pc pL php phL ph1 ph2) | (refine wpList_sliceR_to rfl rfl rfl rfl (by omega) (by omega) ?_; intro px pc pL php phL ph1 ph2))
          have HP : Hid (∀ e ∈ pL, EvOk e) := by
            unfold Hid
            rw [phL.out]
            exact fun e he => HE.out e (List.mem_of_mem_take he)
          have hlp : pL.length ≤ 1000 := by omega
          refine (auCheck _ pL (by omega) HP.out w0 _ _ hs2 staysE_part).mono ?_
          rintro e w3 ⟨rfl, hs3⟩
          rw [phL.out, Ht.out]
          by_cases q3 : 0 ≤ at_
          · have r4 : decide (0 ≤ at_) = true := by simp; omega
            by_cases q4 : at_ < n
            · have r5 : decide (at_ < n) = true := by simp; omega
              rw [if_pos ⟨q3, by omega⟩]
              go_wp2_with fail
              go_ret
              exact ⟨retB (by simp), own_left⟩
            · have r5 : decide (at_ < n) = false := by simp; omega
              rw [if_neg (by omega)]
              go_wp2_with fail
              go_ret
              exact ⟨rfl, own_left⟩
          · have r4 : decide (0 ≤ at_) = false := by simp; omega
            rw [if_neg (by omega)]
            go_wp2_with fail
            go_ret
            exact ⟨rfl, own_left⟩
end Go.Proofs.Ytfphgcplpokigaa
