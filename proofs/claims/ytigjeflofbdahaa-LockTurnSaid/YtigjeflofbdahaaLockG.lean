/-
  Locks: the contract of Lock: a task waits.
-/
import Derived.Test.YtigjeflofbdahaaLockF
namespace Go.Proofs.Ytigjeflofbdahaa
open Go.RowKit Go.Sx Go.Lk
set_option linter.unusedSimpArgs false
set_option linter.unusedVariables false

theorem mutR_row (g o i : Nat) (xs : List Int) (rs : List (List Int)) (hi : i < xs.length) (hl : rs.length = xs.length) (r : List Int) :
    mutR g o xs (rs.set i r) = pts g (o + i * 2) [.int .i64 (lg xs i)] * (rowP g (o + i * 2 + 1) r * mutX g o i xs rs) := by
  rw [mutR_at g o i xs (rs.set i r) hi (by rw [List.length_set]; exact hl), rg_set (by omega), if_pos rfl]
  have := mutX_set g o i xs rs (lg xs i) r
  rw [show xs.set i (lg xs i) = xs from set_same xs i 0] at this
  rw [this]
set_option maxRecDepth 100000 in
set_option maxHeartbeats 8000000 in
theorem lkLock_wait (b : Nat) (L : Lk) (t m : Nat) (w0 w : World) (F : HP) (hs : Sat w0 w (lkP b L * F)) (hL : Fit L) (hv : Lev L) (ht : t < L.own.length) (ho : lg L.on t = -1) (hm : m < L.ow.length) (hown : lg L.ow m ≠ 255) (hnt : lg L.ow m ≠ t) (hno : ¬ Go.Lk.Reach L (lg L.ow m).toNat t) :
    Calls Try.prog 12 #[.pointer (some ⟨b, 0, none⟩), .int .i64 t, .int .i64 m] w fun en w' => en = .returned (.tuple #[.bool false, .int .i64 0]) ∧ ∃ now', Fit { waitL L m t with now := now' } ∧ Lev { waitL L m t with now := now' } ∧ Sat w0 w' (lkP b { waitL L m t with now := now' } * F) := by
  have j1 : (t : Int) < (L.own.length : Int) := by omega
  have j2 : decide (t < L.own.length) = true := by simp; omega
  have j3 : (m : Int) < (L.ow.length : Int) := by omega
  have j4 : decide (m < L.ow.length) = true := by simp; omega
  haveI : Lt t L.on.length := ⟨by rw [hL.lo]; exact ht⟩
  haveI : Lt m L.ow.length := ⟨hm⟩
  haveI : SameLen L.ow L.rows := ⟨hL.lr⟩
  have hn64 := hL.n
  have hm32 := hL.m
  have h0 : 0 ≤ lg L.ow m ∧ lg L.ow m < L.own.length := (hL.owr m hm).resolve_left hown
  have hfw := hid (fit_wait hL hm ht ho h0 hno)
  have hnw := hid (near_wait (m := m) hL hv ht ho)
  have hrow := hL.row m hm
  have hadd : Hid (addOk (rg L.rows m) t) := by
    refine ⟨by omega, by omega, fun h => ?_⟩
    have := ((hrow.2 t).1 h).2.2
    rw [show ((t : Int)).toNat = t by omega] at this
    have h' : lg L.on t = m := this
    omega
  have hrl : Hid ((rg L.rows m).length ≤ 1000000) := by
    have : RowOk (rg L.rows m) := ⟨hrow.1, fun z hz => by have := (hrow.2 z).1 hz; omega⟩
    have := rowOk_len this
    unfold Hid; omega
  obtain ⟨y, hy⟩ := Int.eq_ofNat_of_zero_le h0.1
  have hyl : y < L.own.length := by omega
  have Hno : Hid (¬ Go.Lk.Reach L y t) := by unfold Hid; rw [hy] at hno; exact hno
  have e1 : decide (0 ≤ lg L.on t) = false := by simp; omega
  have e2 : (y == t) = false := by simp; omega
  have e2b : ((y : Int) == (t : Int)) = false := by simp; omega
  have e3 : ((y : Int) == 255) = false := by simp; omega
  have HL := hid hL
  clear ho hown hnt hno hrow h0 hv hL
  go_enter Try.func12, Try.ntmps12
  go_wp2_with fail
  refine (lkTaskX b L t true (decide_eq_true ⟨by omega, j1⟩) w0 _ F hs HL.out).mono ?_
  rintro en w1 ⟨rfl, hs1⟩
  have H1 := hid hs1
  obtain ⟨a0, c0, a1, c1, a2, c2, g, off, cap, hp, hs2⟩ := lkP_out hs1 HL.out
  obtain ⟨⟨g0, o0, rfl⟩, ⟨g1, o1, rfl⟩, ⟨g2, o2, rfl⟩⟩ := hp (by omega)
  clear hs hs1 hp
  go_wp2_with fail
  refine (lkHasX b L m true (decide_eq_true ⟨by omega, j3⟩) w0 _ F H1.out HL.out).mono ?_
  rintro en w2 ⟨rfl, hs3⟩
  clear hs2 H1
  have H3 := hid hs3
  obtain ⟨a0, c0, a1, c1, a2, c2, g, off, cap, hp, hs4⟩ := lkP_out hs3 HL.out
  obtain ⟨⟨g0, o0, rfl⟩, ⟨g1, o1, rfl⟩, ⟨g2, o2, rfl⟩⟩ := hp (by omega)
  clear hp hs3
  go_wp2_with fail
  refine (lkClosesV b L t y g0 o0 c0 g1 o1 c1 g2 o2 c2 g off cap w0 _ F own_left HL.out ht hyl).mono ?_
  rintro en w3 ⟨x, rfl, hx, hs5⟩
  obtain rfl : x = false := by
    cases x
    · rfl
    · exact absurd (hx.1 rfl) Hno.out
  clear hs4 H3 hx
  have Hmr : Hid (∀ r, mutR g off L.ow (L.rows.set m r) = pts g (off + m * 2) [.int .i64 (lg L.ow m)] * (rowP g (off + m * 2 + 1) r * mutX g off m L.ow L.rows)) := fun r => mutR_row g off m L.ow L.rows hm HL.out.lr r
  have hs6 := hs5
  rw [mutR_at g off m L.ow L.rows hm HL.out.lr] at hs6
  clear hs5
  go_wp2_with fail
  refine (rowAdd_yes g (off + m * 2 + 1) (rg L.rows m) t w0 _ _ own hadd.out hrl.out).mono ?_
  rintro en w4 ⟨rfl, hs7⟩
  clear hs6
  go_wp2_with fail
  refine (lkRaise b (waitL L m t) L.own.length t w0 _ F ?_ hfw.out ht hnw.out).mono ?_
  · refine lkP_of (L := waitL L m t) (v0 := .slice (some ⟨g0, o0, none⟩) L.own.length c0) (v1 := .slice (some ⟨g1, o1, none⟩) L.own.length c1) (v2 := .slice (some ⟨g2, o2, none⟩) L.own.length c2) (g := g) (off := off) (cap := cap) ?_
    dsimp only [waitL]
    rw [Hmr.out]
    refine Sat.perm (P := pts b 0 [.slice (some ⟨g0, o0, none⟩) L.own.length c0, .slice (some ⟨g1, o1, none⟩) L.own.length c1, .slice (some ⟨g2, o2, none⟩) L.own.length c2, .slice (some ⟨g, off, none⟩) L.ow.length cap] * (numsP .i64 (.slice (some ⟨g0, o0, none⟩) L.own.length c0) L.own * (numsP .i64 (.slice (some ⟨g1, o1, none⟩) L.own.length c1) L.now * (numsP .i64 (.slice (some ⟨g2, o2, none⟩) L.own.length c2) (L.on.set t m) * (pts g (off + m * 2) [.int .i64 (lg L.ow m)] * (rowP g (off + m * 2 + 1) (rg L.rows m ++ [(t : Int)]) * (mutX g off m L.ow L.rows * F))))))) own_left (by ac_rfl)
  · rintro en w5 ⟨rfl, now', h1, h2, h3⟩
    go_wp2_with fail
    go_ret2
    exact ⟨rfl, now', h1, h2.lev (Nat.le_refl _), h3⟩
end Go.Proofs.Ytigjeflofbdahaa
