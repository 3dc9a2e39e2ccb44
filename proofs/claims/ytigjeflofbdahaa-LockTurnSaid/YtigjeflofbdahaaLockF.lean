/-
  Locks: the contract of Lock, by cases: what is refused; a free mutex.
-/
import Derived.Test.YtigjeflofbdahaaLockC
import Derived.Test.YtigjeflofbdahaaLockE
namespace Go.Proofs.Ytigjeflofbdahaa
open Go.RowKit Go.Sx Go.Lk
set_option linter.unusedSimpArgs false
set_option linter.unusedVariables false

theorem lkLock_task (b : Nat) (L : Lk) (t m : Int) (w0 w : World) (F : HP) (hs : Sat w0 w (lkP b L * F)) (hL : Fit L) (ht : ¬ (0 ≤ t ∧ t < L.own.length)) :
    Calls Try.prog 12 #[.pointer (some ⟨b, 0, none⟩), .int .i64 t, .int .i64 m] w (RetV w0 (.tuple #[.bool false, .int .i64 1]) (lkP b L * F)) := by
  go_enter Try.func12, Try.ntmps12
  go_wp2_with fail
  refine (lkTaskX b L t false (decide_eq_false ht) w0 _ F hs hL).mono ?_
  rintro en w1 ⟨rfl, hs1⟩
  go_wp2_with fail
  go_ret2
  exact ⟨rfl, hs1⟩
set_option maxRecDepth 100000 in
set_option maxHeartbeats 4000000 in
theorem lkLock_waits (b : Nat) (L : Lk) (t : Nat) (m : Int) (w0 w : World) (F : HP) (hs : Sat w0 w (lkP b L * F)) (hL : Fit L) (ht : t < L.own.length) (ho : 0 ≤ lg L.on t) :
    Calls Try.prog 12 #[.pointer (some ⟨b, 0, none⟩), .int .i64 t, .int .i64 m] w (RetV w0 (.tuple #[.bool false, .int .i64 1]) (lkP b L * F)) := by
  have j1 : (t : Int) < (L.own.length : Int) := by omega
  have j2 : decide (t < L.own.length) = true := by simp; omega
  haveI : Lt t L.on.length := ⟨by rw [hL.lo]; exact ht⟩
  have hn64 := hL.n
  have e1 : decide (0 ≤ lg L.on t) = true := by simp [ho]
  clear ho
  go_enter Try.func12, Try.ntmps12
  go_wp2_with fail
  refine (lkTaskX b L t true (decide_eq_true ⟨by omega, j1⟩) w0 _ F hs hL).mono ?_
  rintro en w1 ⟨rfl, hs1⟩
  obtain ⟨a0, c0, a1, c1, a2, c2, g, off, cap, hp, hs1⟩ := lkP_out hs1 hL
  obtain ⟨⟨g0, o0, rfl⟩, ⟨g1, o1, rfl⟩, ⟨g2, o2, rfl⟩⟩ := hp (by omega)
  clear hs hp
  go_wp2_with fail
  go_ret2
  exact ⟨rfl, lkP_of (v0 := .slice (some ⟨g0, o0, none⟩) L.own.length c0) (v1 := .slice (some ⟨g1, o1, none⟩) L.own.length c1) (v2 := .slice (some ⟨g2, o2, none⟩) L.own.length c2) (g := g) (off := off) (cap := cap) own_left⟩
set_option maxRecDepth 100000 in
set_option maxHeartbeats 4000000 in
theorem lkLock_take (b : Nat) (L : Lk) (t m : Nat) (w0 w : World) (F : HP) (hs : Sat w0 w (lkP b L * F)) (hL : Fit L) (ht : t < L.own.length) (ho : lg L.on t = -1) (hm : m < L.ow.length) (hfree : lg L.ow m = 255) :
    Calls Try.prog 12 #[.pointer (some ⟨b, 0, none⟩), .int .i64 t, .int .i64 m] w (RetV w0 (.tuple #[.bool true, .int .i64 0]) (lkP b (takeL L m t) * F)) := by
  have j1 : (t : Int) < (L.own.length : Int) := by omega
  have j2 : decide (t < L.own.length) = true := by simp; omega
  have j3 : (m : Int) < (L.ow.length : Int) := by omega
  have j4 : decide (m < L.ow.length) = true := by simp; omega
  haveI : Lt t L.on.length := ⟨by rw [hL.lo]; exact ht⟩
  haveI : Lt m L.ow.length := ⟨hm⟩
  haveI : SameLen L.ow L.rows := ⟨hL.lr⟩
  have hn64 := hL.n
  have hm32 := hL.m
  have e1 : decide (0 ≤ lg L.on t) = false := by simp; omega
  have e2 : (lg L.ow m == (t : Int)) = false := by simp; omega
  have e3 : (lg L.ow m == 255) = true := by simp [hfree]
  clear ho hfree
  go_enter Try.func12, Try.ntmps12
  go_wp2_with fail
  refine (lkTaskX b L t true (decide_eq_true ⟨by omega, j1⟩) w0 _ F hs hL).mono ?_
  rintro en w1 ⟨rfl, hs1⟩
  have hs1' := hs1
  obtain ⟨a0, c0, a1, c1, a2, c2, g, off, cap, hp, hs2⟩ := lkP_out hs1 hL
  obtain ⟨⟨g0, o0, rfl⟩, ⟨g1, o1, rfl⟩, ⟨g2, o2, rfl⟩⟩ := hp (by omega)
  have H1 := hid hs1'
  clear hs hs1 hs1' hp
  go_wp2_with fail
  refine (lkHasX b L m true (decide_eq_true ⟨by omega, j3⟩) w0 _ F H1.out hL).mono ?_
  rintro en w2 ⟨rfl, hs3⟩
  clear hs2 H1
  obtain ⟨a0, c0, a1, c1, a2, c2, g, off, cap, hp, hs3⟩ := lkP_out hs3 hL
  obtain ⟨⟨g0, o0, rfl⟩, ⟨g1, o1, rfl⟩, ⟨g2, o2, rfl⟩⟩ := hp (by omega)
  clear hp
  go_wp2_with fail
  go_ret2
  refine ⟨rfl, lkP_of (L := takeL L m t) (v0 := .slice (some ⟨g0, o0, none⟩) L.own.length c0) (v1 := .slice (some ⟨g1, o1, none⟩) L.own.length c1) (v2 := .slice (some ⟨g2, o2, none⟩) L.own.length c2) (g := g) (off := off) (cap := cap) ?_⟩
  dsimp only [takeL]
  rw [List.length_set]
  exact own_left
end Go.Proofs.Ytigjeflofbdahaa
