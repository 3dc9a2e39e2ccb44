/-
  Locks: the contract of Lock: no such mutex, its own, a circle.
-/
import Derived.Test.YtigjeflofbdahaaLockF
namespace Go.Proofs.Ytigjeflofbdahaa
open Go.RowKit Go.Sx Go.Lk
set_option linter.unusedSimpArgs false
set_option linter.unusedVariables false

set_option maxRecDepth 100000 in
set_option maxHeartbeats 4000000 in
theorem lkLock_none (b : Nat) (L : Lk) (t : Nat) (m : Int) (w0 w : World) (F : HP) (hs : Sat w0 w (lkP b L * F)) (hL : Fit L) (ht : t < L.own.length) (ho : lg L.on t = -1) (hm : ¬ (0 ≤ m ∧ m < L.ow.length)) :
    Calls Try.prog 12 #[.pointer (some ⟨b, 0, none⟩), .int .i64 t, .int .i64 m] w (RetV w0 (.tuple #[.bool false, .int .i64 15]) (lkP b L * F)) := by
  have j1 : (t : Int) < (L.own.length : Int) := by omega
  have j2 : decide (t < L.own.length) = true := by simp; omega
  haveI : Lt t L.on.length := ⟨by rw [hL.lo]; exact ht⟩
  have hn64 := hL.n
  have e1 : decide (0 ≤ lg L.on t) = false := by simp; omega
  have Hm := hid hm
  clear ho hm
  go_enter Try.func12, Try.ntmps12
  go_wp2_with fail
  refine (lkTaskX b L t true (decide_eq_true ⟨by omega, j1⟩) w0 _ F hs hL).mono ?_
  rintro en w1 ⟨rfl, hs1⟩
  have H1 := hid hs1
  obtain ⟨a0, c0, a1, c1, a2, c2, g, off, cap, hp, hs2⟩ := lkP_out hs1 hL
  obtain ⟨⟨g0, o0, rfl⟩, ⟨g1, o1, rfl⟩, ⟨g2, o2, rfl⟩⟩ := hp (by omega)
  clear hs hs1 hp
  go_wp2_with fail
  refine (lkHasX b L m false (decide_eq_false Hm.out) w0 _ F H1.out hL).mono ?_
  rintro en w2 ⟨rfl, hs3⟩
  clear hs2 H1
  go_wp2_with fail
  go_ret2
  exact ⟨rfl, hs3⟩
set_option maxRecDepth 100000 in
set_option maxHeartbeats 4000000 in
theorem lkLock_own (b : Nat) (L : Lk) (t m : Nat) (w0 w : World) (F : HP) (hs : Sat w0 w (lkP b L * F)) (hL : Fit L) (ht : t < L.own.length) (ho : lg L.on t = -1) (hm : m < L.ow.length) (hown : lg L.ow m = t) :
    Calls Try.prog 12 #[.pointer (some ⟨b, 0, none⟩), .int .i64 t, .int .i64 m] w (RetV w0 (.tuple #[.bool false, .int .i64 10]) (lkP b L * F)) := by
  have j1 : (t : Int) < (L.own.length : Int) := by omega
  have j2 : decide (t < L.own.length) = true := by simp; omega
  have j3 : (m : Int) < (L.ow.length : Int) := by omega
  have j4 : decide (m < L.ow.length) = true := by simp; omega
  haveI : Lt t L.on.length := ⟨by rw [hL.lo]; exact ht⟩
  haveI : Lt m L.ow.length := ⟨hm⟩
  haveI : SameLen L.ow L.rows := ⟨hL.lr⟩
  have hn64 := hL.n
  have hm32 := hL.m
  have e1 : decide (0 ≤ lg L.on t) = false := by simp; omega
  have e2 : (lg L.ow m == (t : Int)) = true := by simp [hown]
  clear ho hown
  go_enter Try.func12, Try.ntmps12
  go_wp2_with fail
  refine (lkTaskX b L t true (decide_eq_true ⟨by omega, j1⟩) w0 _ F hs hL).mono ?_
  rintro en w1 ⟨rfl, hs1⟩
  have H1 := hid hs1
  obtain ⟨a0, c0, a1, c1, a2, c2, g, off, cap, hp, hs2⟩ := lkP_out hs1 hL
  obtain ⟨⟨g0, o0, rfl⟩, ⟨g1, o1, rfl⟩, ⟨g2, o2, rfl⟩⟩ := hp (by omega)
  clear hs hs1 hp
  go_wp2_with fail
  refine (lkHasX b L m true (decide_eq_true ⟨by omega, j3⟩) w0 _ F H1.out hL).mono ?_
  rintro en w2 ⟨rfl, hs3⟩
  clear hs2 H1
  have H3 := hid hs3
  obtain ⟨a0, c0, a1, c1, a2, c2, g, off, cap, hp, hs3⟩ := lkP_out hs3 hL
  clear hp
  go_wp2_with fail
  go_ret2
  exact ⟨rfl, H3.out⟩
set_option maxRecDepth 100000 in
set_option maxHeartbeats 8000000 in
theorem lkLock_circle (b : Nat) (L : Lk) (t m : Nat) (w0 w : World) (F : HP) (hs : Sat w0 w (lkP b L * F)) (hL : Fit L) (ht : t < L.own.length) (ho : lg L.on t = -1) (hm : m < L.ow.length) (hown : lg L.ow m ≠ 255) (hnt : lg L.ow m ≠ t) (hc : Go.Lk.Reach L (lg L.ow m).toNat t) :
    Calls Try.prog 12 #[.pointer (some ⟨b, 0, none⟩), .int .i64 t, .int .i64 m] w (RetV w0 (.tuple #[.bool false, .int .i64 11]) (lkP b L * F)) := by
  have j1 : (t : Int) < (L.own.length : Int) := by omega
  have j2 : decide (t < L.own.length) = true := by simp; omega
  have j3 : (m : Int) < (L.ow.length : Int) := by omega
  have j4 : decide (m < L.ow.length) = true := by simp; omega
  haveI : Lt t L.on.length := ⟨by rw [hL.lo]; exact ht⟩
  haveI : Lt m L.ow.length := ⟨hm⟩
  haveI : SameLen L.ow L.rows := ⟨hL.lr⟩
  have hn64 := hL.n
  have hm32 := hL.m
  have h0 : 0 ≤ lg L.ow m ∧ lg L.ow m < L.own.length := (hL.owr m hm).resolve_left hown
  obtain ⟨y, hy⟩ := Int.eq_ofNat_of_zero_le h0.1
  have hyl : y < L.own.length := by omega
  have Hc : Hid (Go.Lk.Reach L y t) := by unfold Hid; rw [hy] at hc; exact hc
  have e1 : decide (0 ≤ lg L.on t) = false := by simp; omega
  have e2b : ((y : Int) == (t : Int)) = false := by simp; omega
  have e3 : ((y : Int) == 255) = false := by simp; omega
  have HL := hid hL
  clear ho hown hnt hc h0 hL
  go_enter Try.func12, Try.ntmps12
  go_wp2_with fail
  refine (lkTaskX b L t true (decide_eq_true ⟨by omega, j1⟩) w0 _ F hs HL.out).mono ?_
  rintro en w1 ⟨rfl, hs1⟩
  have H1 := hid hs1
  obtain ⟨a0, c0, a1, c1, a2, c2, g, off, cap, hp, hs2⟩ := lkP_out hs1 HL.out
  obtain ⟨⟨g0, o0, rfl⟩, ⟨g1, o1, rfl⟩, ⟨g2, o2, rfl⟩⟩ := hp (by omega)
  clear hs hs1 hp
  go_wp2_with fail
  refine (lkHasX b L m true (decide_eq_true ⟨by omega, j3⟩) w0 _ F H1.out HL.out).mono ?_
  rintro en w2 ⟨rfl, hs3⟩
  clear hs2 H1
  obtain ⟨a0, c0, a1, c1, a2, c2, g, off, cap, hp, hs4⟩ := lkP_out hs3 HL.out
  obtain ⟨⟨g0, o0, rfl⟩, ⟨g1, o1, rfl⟩, ⟨g2, o2, rfl⟩⟩ := hp (by omega)
  clear hp hs3
  go_wp2_with fail
  refine (lkClosesV b L t y g0 o0 c0 g1 o1 c1 g2 o2 c2 g off cap w0 _ F own_left HL.out ht hyl).mono ?_
  rintro en w3 ⟨x, rfl, hx, hs5⟩
  obtain rfl : x = true := hx.2 Hc.out
  clear hs4 hx
  go_wp2_with fail
  go_ret2
  exact ⟨rfl, lkP_of (v0 := .slice (some ⟨g0, o0, none⟩) L.own.length c0) (v1 := .slice (some ⟨g1, o1, none⟩) L.own.length c1) (v2 := .slice (some ⟨g2, o2, none⟩) L.own.length c2) (g := g) (off := off) (cap := cap) hs5⟩
end Go.Proofs.Ytigjeflofbdahaa
