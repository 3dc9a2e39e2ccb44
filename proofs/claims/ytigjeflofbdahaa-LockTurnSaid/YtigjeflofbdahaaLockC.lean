/-
  Locks: the contracts of task, has, Owner, Waits, Waiting, Levels.
-/
import Derived.Test.YtigjeflofbdahaaLockB
namespace Go.Proofs.Ytigjeflofbdahaa
open Go.RowKit Go.Sx Go.Lk
set_option linter.unusedSimpArgs false
set_option linter.unusedVariables false

theorem retB {x y : Bool} (h : x = y) : Ending.returned (.bool x) = Ending.returned (.bool y) := by rw [h]
set_option maxRecDepth 100000 in
set_option maxHeartbeats 4000000 in
theorem lkTask (b : Nat) (L : Lk) (t : Int) (w0 w : World) (F : HP) (hs : Sat w0 w (lkP b L * F)) (hL : Fit L) :
    Calls Try.prog 17 #[.pointer (some ⟨b, 0, none⟩), .int .i64 t] w fun en w' => en = .returned (.bool (decide (0 ≤ t ∧ t < L.own.length))) ∧ Sat w0 w' (lkP b L * F) := by
  obtain ⟨a0, c0, a1, c1, a2, c2, g, off, cap, hp, hs⟩ := lkP_out hs hL
  have hn64 := hL.n
  by_cases h : 0 ≤ t
  all_goals
    first | have d : decide (0 ≤ t) = true := by simp [h]
          | have d : decide (0 ≤ t) = false := by simp; omega
    go_enter Try.func17, Try.ntmps17
    go_wp2_with fail
    go_ret
    refine ⟨retB ?_, lkP_of (v0 := .slice a0 L.own.length c0) (v1 := .slice a1 L.own.length c1) (v2 := .slice a2 L.own.length c2) (g := g) (off := off) (cap := cap) own_left⟩
    first | done | (refine Bool.eq_iff_iff.2 ?_; simp; done) | (refine Bool.eq_iff_iff.2 ?_; simp; omega)
set_option maxRecDepth 100000 in
set_option maxHeartbeats 4000000 in
theorem lkHas (b : Nat) (L : Lk) (t : Int) (w0 w : World) (F : HP) (hs : Sat w0 w (lkP b L * F)) (hL : Fit L) :
    Calls Try.prog 14 #[.pointer (some ⟨b, 0, none⟩), .int .i64 t] w fun en w' => en = .returned (.bool (decide (0 ≤ t ∧ t < L.ow.length))) ∧ Sat w0 w' (lkP b L * F) := by
  obtain ⟨a0, c0, a1, c1, a2, c2, g, off, cap, hp, hs⟩ := lkP_out hs hL
  have hn64 := hL.m
  by_cases h : 0 ≤ t
  all_goals
    first | have d : decide (0 ≤ t) = true := by simp [h]
          | have d : decide (0 ≤ t) = false := by simp; omega
    go_enter Try.func14, Try.ntmps14
    go_wp2_with fail
    go_ret
    refine ⟨retB ?_, lkP_of (v0 := .slice a0 L.own.length c0) (v1 := .slice a1 L.own.length c1) (v2 := .slice a2 L.own.length c2) (g := g) (off := off) (cap := cap) own_left⟩
    first | done | (refine Bool.eq_iff_iff.2 ?_; simp; done) | (refine Bool.eq_iff_iff.2 ?_; simp; omega)
theorem lkTaskX (b : Nat) (L : Lk) (t : Int) (x : Bool) (hx : decide (0 ≤ t ∧ t < L.own.length) = x) (w0 w : World) (F : HP) (hs : Sat w0 w (lkP b L * F)) (hL : Fit L) :
    Calls Try.prog 17 #[.pointer (some ⟨b, 0, none⟩), .int .i64 t] w (RetV w0 (.bool x) (lkP b L * F)) := by
  subst hx; exact lkTask b L t w0 w F hs hL
theorem lkHasX (b : Nat) (L : Lk) (t : Int) (x : Bool) (hx : decide (0 ≤ t ∧ t < L.ow.length) = x) (w0 w : World) (F : HP) (hs : Sat w0 w (lkP b L * F)) (hL : Fit L) :
    Calls Try.prog 14 #[.pointer (some ⟨b, 0, none⟩), .int .i64 t] w (RetV w0 (.bool x) (lkP b L * F)) := by
  subst hx; exact lkHas b L t w0 w F hs hL

def ownerOf (L : Lk) (m : Int) : Int := if 0 ≤ m ∧ m < L.ow.length then lg L.ow m.toNat else 255
def waitsOf (L : Lk) (t : Int) : Int := if 0 ≤ t ∧ t < L.own.length then lg L.on t.toNat else -1
set_option maxRecDepth 100000 in
set_option maxHeartbeats 4000000 in
theorem lkOwner (b : Nat) (L : Lk) (m : Int) (w0 w : World) (F : HP) (hs : Sat w0 w (lkP b L * F)) (hL : Fit L) :
    Calls Try.prog 8 #[.pointer (some ⟨b, 0, none⟩), .int .i64 m] w (RetV w0 (.int .i64 (ownerOf L m)) (lkP b L * F)) := by
  by_cases h : 0 ≤ m ∧ m < L.ow.length
  · have e : ownerOf L m = lg L.ow m.toNat := if_pos h
    rw [e]
    obtain ⟨k, rfl⟩ := Int.eq_ofNat_of_zero_le h.1
    have hk : k < L.ow.length := by omega
    have j1 : (k : Int) < (L.ow.length : Int) := by omega
    have j2 : decide (k < L.ow.length) = true := by simp; omega
    haveI : Lt k L.ow.length := ⟨hk⟩
    haveI : SameLen L.ow L.rows := ⟨hL.lr⟩
    have hn64 := hL.m
    go_enter Try.func8, Try.ntmps8
    go_wp2_with fail
    refine (lkHasX b L k true (decide_eq_true h) w0 _ F hs hL).mono ?_
    rintro en w1 ⟨rfl, hs1⟩
    obtain ⟨a0, c0, a1, c1, a2, c2, g, off, cap, hp, hs1⟩ := lkP_out hs1 hL
    clear hs h
    go_wp2_with fail
    go_ret
    exact ⟨rfl, lkP_of (v0 := .slice a0 L.own.length c0) (v1 := .slice a1 L.own.length c1) (v2 := .slice a2 L.own.length c2) (g := g) (off := off) (cap := cap) own_left⟩
  · have e : ownerOf L m = 255 := if_neg h
    rw [e]
    go_enter Try.func8, Try.ntmps8
    go_wp2_with fail
    refine (lkHasX b L m false (decide_eq_false h) w0 _ F hs hL).mono ?_
    rintro en w1 ⟨rfl, hs1⟩
    go_wp2_with fail
    go_ret
    exact ⟨rfl, hs1⟩
set_option maxRecDepth 100000 in
set_option maxHeartbeats 4000000 in
theorem lkWaits (b : Nat) (L : Lk) (t : Int) (w0 w : World) (F : HP) (hs : Sat w0 w (lkP b L * F)) (hL : Fit L) :
    Calls Try.prog 10 #[.pointer (some ⟨b, 0, none⟩), .int .i64 t] w (RetV w0 (.int .i64 (waitsOf L t)) (lkP b L * F)) := by
  by_cases h : 0 ≤ t ∧ t < L.own.length
  · have e : waitsOf L t = lg L.on t.toNat := if_pos h
    rw [e]
    obtain ⟨k, rfl⟩ := Int.eq_ofNat_of_zero_le h.1
    have hk : k < L.own.length := by omega
    have j1 : (k : Int) < (L.own.length : Int) := by omega
    have j2 : decide (k < L.own.length) = true := by simp; omega
    haveI : Lt k L.on.length := ⟨by rw [hL.lo]; exact hk⟩
    have hn64 := hL.n
    go_enter Try.func10, Try.ntmps10
    go_wp2_with fail
    refine (lkTaskX b L k true (decide_eq_true h) w0 _ F hs hL).mono ?_
    rintro en w1 ⟨rfl, hs1⟩
    obtain ⟨a0, c0, a1, c1, a2, c2, g, off, cap, hp, hs1⟩ := lkP_out hs1 hL
    obtain ⟨⟨g0, o0, rfl⟩, ⟨g1, o1, rfl⟩, ⟨g2, o2, rfl⟩⟩ := hp (by omega)
    clear hs h hp
    go_wp2_with fail
    go_ret
    exact ⟨rfl, lkP_of (v0 := .slice (some ⟨g0, o0, none⟩) L.own.length c0) (v1 := .slice (some ⟨g1, o1, none⟩) L.own.length c1) (v2 := .slice (some ⟨g2, o2, none⟩) L.own.length c2) (g := g) (off := off) (cap := cap) own_left⟩
  · have e : waitsOf L t = -1 := if_neg h
    rw [e]
    go_enter Try.func10, Try.ntmps10
    go_wp2_with fail
    refine (lkTaskX b L t false (decide_eq_false h) w0 _ F hs hL).mono ?_
    rintro en w1 ⟨rfl, hs1⟩
    go_wp2_with fail
    go_ret
    exact ⟨rfl, hs1⟩
set_option maxRecDepth 100000 in
set_option maxHeartbeats 4000000 in
theorem lkLevels (b : Nat) (L : Lk) (w0 w : World) (F : HP) (hs : Sat w0 w (lkP b L * F)) (hL : Fit L) :
    Calls Try.prog 7 #[.pointer (some ⟨b, 0, none⟩)] w (Ret w0 fun v => numsP .i64 v L.now * (lkP b L * F)) := by
  obtain ⟨a0, c0, a1, c1, a2, c2, g, off, cap, hp, hs⟩ := lkP_out hs hL
  have hn64 := hL.n
  have hln := hL.ln
  have Hln := hid hln
  clear hln
  go_enter Try.func7, Try.ntmps7
  go_wp2_with fail
  refine (slicesClone _ L.now w0 _ _ hs rd (by have := Hln.out; omega)).mono ?_
  rintro en w1 ⟨v, rfl, hs1⟩
  obtain ⟨av, cv, rfl⟩ := hs1.slice_form
  go_wp2_with fail
  go_ret
  refine ⟨_, rfl, ?_⟩
  have h2 : Sat w0 w1 (lkP b L * (numsP .i64 (.slice av L.now.length cv) L.now * F)) := lkP_of (v0 := .slice a0 L.own.length c0) (v1 := .slice a1 L.own.length c1) (v2 := .slice a2 L.own.length c2) (g := g) (off := off) (cap := cap) own_left
  exact h2.perm (by ac_rfl)
end Go.Proofs.Ytigjeflofbdahaa
