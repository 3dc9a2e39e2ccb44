/-
  Locks: the contract of Unlock: what is refused.
-/
import Derived.Test.YtigjeflofbdahaaLockG
import Derived.Test.YtigjeflofbdahaaLockH
import Derived.Test.YtigjeflofbdahaaLockI
namespace Go.Proofs.Ytigjeflofbdahaa
open Go.RowKit Go.Sx Go.Lk
set_option linter.unusedSimpArgs false
set_option linter.unusedVariables false

theorem lkUnlock_task (b : Nat) (L : Lk) (t m : Int) (w0 w : World) (F : HP) (hs : Sat w0 w (lkP b L * F)) (hL : Fit L) (ht : ¬ (0 ≤ t ∧ t < L.own.length)) :
    Calls Try.prog 9 #[.pointer (some ⟨b, 0, none⟩), .int .i64 t, .int .i64 m] w (RetV w0 (.tuple #[.int .i64 255, .int .i64 1]) (lkP b L * F)) := by
  go_enter Try.func9, Try.ntmps9
  go_wp2_with fail
  refine (lkTaskX b L t false (decide_eq_false ht) w0 _ F hs hL).mono ?_
  rintro en w1 ⟨rfl, hs1⟩
  go_wp2_with fail
  go_ret2
  exact ⟨rfl, hs1⟩
theorem lkUnlock_none (b : Nat) (L : Lk) (t m : Int) (w0 w : World) (F : HP) (hs : Sat w0 w (lkP b L * F)) (hL : Fit L) (ht : 0 ≤ t ∧ t < L.own.length) (hm : ¬ (0 ≤ m ∧ m < L.ow.length)) :
    Calls Try.prog 9 #[.pointer (some ⟨b, 0, none⟩), .int .i64 t, .int .i64 m] w (RetV w0 (.tuple #[.int .i64 255, .int .i64 15]) (lkP b L * F)) := by
  go_enter Try.func9, Try.ntmps9
  go_wp2_with fail
  refine (lkTaskX b L t true (decide_eq_true ht) w0 _ F hs hL).mono ?_
  rintro en w1 ⟨rfl, hs1⟩
  go_wp2_with fail
  refine (lkHasX b L m false (decide_eq_false hm) w0 _ F hs1 hL).mono ?_
  rintro en w2 ⟨rfl, hs2⟩
  go_wp2_with fail
  go_ret2
  exact ⟨rfl, hs2⟩
set_option maxRecDepth 100000 in
set_option maxHeartbeats 4000000 in
theorem lkUnlock_other (b : Nat) (L : Lk) (t : Int) (m : Nat) (w0 w : World) (F : HP) (hs : Sat w0 w (lkP b L * F)) (hL : Fit L) (ht : 0 ≤ t ∧ t < L.own.length) (hm : m < L.ow.length) (hown : lg L.ow m ≠ t) :
    Calls Try.prog 9 #[.pointer (some ⟨b, 0, none⟩), .int .i64 t, .int .i64 m] w (RetV w0 (.tuple #[.int .i64 255, .int .i64 10]) (lkP b L * F)) := by
  have j3 : (m : Int) < (L.ow.length : Int) := by omega
  have j4 : decide (m < L.ow.length) = true := by simp; omega
  haveI : Lt m L.ow.length := ⟨hm⟩
  haveI : SameLen L.ow L.rows := ⟨hL.lr⟩
  have hm32 := hL.m
  have e2 : (lg L.ow m != t) = true := by simp [hown]
  clear hown
  go_enter Try.func9, Try.ntmps9
  go_wp2_with fail
  refine (lkTaskX b L t true (decide_eq_true ht) w0 _ F hs hL).mono ?_
  rintro en w1 ⟨rfl, hs1⟩
  clear hs
  go_wp2_with fail
  refine (lkHasX b L m true (decide_eq_true ⟨by omega, j3⟩) w0 _ F hs1 hL).mono ?_
  rintro en w2 ⟨rfl, hs2⟩
  clear hs1
  have H2 := hid hs2
  obtain ⟨a0, c0, a1, c1, a2, c2, g, off, cap, hp, hs3⟩ := lkP_out hs2 hL
  clear hp hs2
  go_wp2_with fail
  go_ret2
  exact ⟨rfl, H2.out⟩
end Go.Proofs.Ytigjeflofbdahaa
