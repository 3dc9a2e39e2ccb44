/-
  Locks: the contract of Unlock: the mutex is free, or handed on.
-/
import Derived.Test.YtigjeflofbdahaaLockK
import Derived.Test.YtigjeflofbdahaaWaitE
import Derived.BigQuiet
namespace Go.Proofs.Ytigjeflofbdahaa
open Go.RowKit Go.Sx Go.Lk
set_option linter.unusedSimpArgs false
set_option linter.unusedVariables false

theorem mutR_put (g o i : Nat) (xs : List Int) (rs : List (List Int)) (hi : i < xs.length) (hl : rs.length = xs.length) (x : Int) (r : List Int) :
    mutR g o (xs.set i x) (rs.set i r) = pts g (o + i * 2) [.int .i64 x] * (rowP g (o + i * 2 + 1) r * mutX g o i xs rs) := by
  rw [mutR_at g o i (xs.set i x) (rs.set i r) (by rw [List.length_set]; exact hi) (by rw [List.length_set, List.length_set]; exact hl), rg_set (by omega), if_pos rfl, lg_set hi, if_pos rfl, mutX_set]
theorem mutR_own (g o i : Nat) (xs : List Int) (rs : List (List Int)) (hi : i < xs.length) (hl : rs.length = xs.length) (x : Int) :
    mutR g o (xs.set i x) rs = pts g (o + i * 2) [.int .i64 x] * (rowP g (o + i * 2 + 1) (rg rs i) * mutX g o i xs rs) := by
  have := mutR_put g o i xs rs hi hl x (rg rs i)
  rwa [show rs.set i (rg rs i) = rs from set_same rs i []] at this
theorem row_ok {L : Lk} (hL : Fit L) {m : Nat} (hm : m < L.ow.length) : RowOk (rg L.rows m) :=
  ⟨(hL.row m hm).1, fun z hz => by have := ((hL.row m hm).2 z).1 hz; have := hL.n; omega⟩
theorem rowBestX (b o : Nat) (l : List Int) (lv : Value) (levels : List Int) (x : Int) (y : Bool) (hx : bestOf levels l = x) (hy : decide (l ≠ []) = y) (w0 w : World) (F : HP) (hs : Sat w0 w (rowP b o l * F)) (hlv : RdN .i64 w lv levels) (hl : RowOk l) :
    Calls Try.prog 18 #[.pointer (some ⟨b, o, none⟩), lv] w (Drawn (.tuple #[.int .i64 x, .bool y]) w) := by
  subst hx hy; exact rowBest b o l lv levels w0 w F hs hlv hl
set_option maxRecDepth 100000 in
set_option maxHeartbeats 8000000 in
theorem lkUnlock_free (b : Nat) (L : Lk) (t m : Nat) (w0 w : World) (F : HP) (hs : Sat w0 w (lkP b L * F)) (hL : Fit L) (ht : t < L.own.length) (hm : m < L.ow.length) (hown : lg L.ow m = t) (hrow : rg L.rows m = []) :
    Calls Try.prog 9 #[.pointer (some ⟨b, 0, none⟩), .int .i64 t, .int .i64 m] w fun en w' => en = .returned (.tuple #[.int .i64 255, .int .i64 0]) ∧ ∃ now', Fit { freeL L m with now := now' } ∧ Lev { freeL L m with now := now' } ∧ Sat w0 w' (lkP b { freeL L m with now := now' } * F) := by
  have j1 : (t : Int) < (L.own.length : Int) := by omega
  have j3 : (m : Int) < (L.ow.length : Int) := by omega
  have j4 : decide (m < L.ow.length) = true := by simp; omega
  have hm32 := hL.m
  have hn64 := hL.n
  have e2 : (lg L.ow m != (t : Int)) = false := by simp [hown]
  have Hff := hid (fit_free hL hm hrow)
  have Hok := hid (row_ok hL hm)
  have Hrow := hid hrow
  have HL := hid hL
  clear hown hrow hL
  go_enter Try.func9, Try.ntmps9
  go_wp2_with fail
  refine (lkTaskX b L t true (decide_eq_true ⟨by omega, j1⟩) w0 _ F hs HL.out).mono ?_
  rintro en w1 ⟨rfl, hs1⟩
  clear hs
  go_wp2_with fail
  refine (lkHasX b L m true (decide_eq_true ⟨by omega, j3⟩) w0 _ F hs1 HL.out).mono ?_
  rintro en w2 ⟨rfl, hs2⟩
  clear hs1
  obtain ⟨g, off, cap, hs3⟩ := lkP_G hs2
  obtain ⟨a0, c0, a1, c1, a2, c2, hp, hs4⟩ := lkG_out hs3 HL.out
  obtain ⟨⟨g0, o0, rfl⟩, ⟨g1, o1, rfl⟩, ⟨g2, o2, rfl⟩⟩ := hp (by omega)
  have Hmr := hid (fun x => mutR_own g off m L.ow L.rows hm HL.out.lr x)
  clear hs2 hs3 hp
  rw [mutR_at g off m L.ow L.rows hm HL.out.lr] at hs4
  go_wp2_with fail
  refine wp_gen (w0 := w0) ?_
  intro w5 hs5
  clear hs4
  go_quiet ((go_at_call 18; exact quiet_drew (rowBestX g (off + m * 2 + 1) (rg L.rows m) _ L.now 0 false (by rw [Hrow.out]; rfl) (decide_eq_false (by simp [Hrow.out])) w0 _ _ own rd Hok.out)))
  go_wp2_with fail
  refine (lkRenewG b g off cap (freeL L m) w0 _ F ?_ Hff.out (by show 0 < L.own.length; omega)).mono ?_
  · refine lkG_of (L := freeL L m) (v0 := .slice (some ⟨g0, o0, none⟩) L.own.length c0) (v1 := .slice (some ⟨g1, o1, none⟩) L.own.length c1) (v2 := .slice (some ⟨g2, o2, none⟩) L.own.length c2) ?_
    dsimp only [freeL]
    rw [List.length_set, Hmr.out]
    refine Sat.perm (P := pts b 0 [.slice (some ⟨g0, o0, none⟩) L.own.length c0, .slice (some ⟨g1, o1, none⟩) L.own.length c1, .slice (some ⟨g2, o2, none⟩) L.own.length c2, .slice (some ⟨g, off, none⟩) L.ow.length cap] * (numsP .i64 (.slice (some ⟨g0, o0, none⟩) L.own.length c0) L.own * (numsP .i64 (.slice (some ⟨g1, o1, none⟩) L.own.length c1) L.now * (numsP .i64 (.slice (some ⟨g2, o2, none⟩) L.own.length c2) L.on * (pts g (off + m * 2) [.int .i64 255] * (rowP g (off + m * 2 + 1) (rg L.rows m) * (mutX g off m L.ow L.rows * F))))))) own_left (by ac_rfl)
  · rintro en w6 ⟨rfl, now', h1, h2, h3⟩
    clear hs5
    have H1 := hid h1
    have H2 := hid h2
    have H3 := hid h3
    obtain ⟨a0, c0, a1, c1, a2, c2, hp, hs7⟩ := lkG_out h3 h1
    clear h1 h2 h3 hp
    dsimp only [freeL] at hs7
    rw [Hmr.out] at hs7
    go_wp2_with fail
    go_ret2
    exact ⟨rfl, now', H1.out, H2.out, lkP_in H3.out⟩
set_option maxRecDepth 100000 in
set_option maxHeartbeats 8000000 in
theorem lkUnlock_give (b : Nat) (L : Lk) (t m : Nat) (w0 w : World) (F : HP) (hs : Sat w0 w (lkP b L * F)) (hL : Fit L) (ht : t < L.own.length) (hm : m < L.ow.length) (hown : lg L.ow m = t) (hrow : rg L.rows m ≠ []) :
    Calls Try.prog 9 #[.pointer (some ⟨b, 0, none⟩), .int .i64 t, .int .i64 m] w fun en w' => ∃ x : Nat, bestOf L.now (rg L.rows m) = x ∧ en = .returned (.tuple #[.int .i64 x, .int .i64 0]) ∧ ∃ now', Fit { giveL L m x with now := now' } ∧ Lev { giveL L m x with now := now' } ∧ Sat w0 w' (lkP b { giveL L m x with now := now' } * F) := by
  have j1 : (t : Int) < (L.own.length : Int) := by omega
  have j3 : (m : Int) < (L.ow.length : Int) := by omega
  have j4 : decide (m < L.ow.length) = true := by simp; omega
  have hm32 := hL.m
  have hn64 := hL.n
  have e2 : (lg L.ow m != (t : Int)) = false := by simp [hown]
  have hbin := best_in L.now (rg L.rows m) hrow
  have hbr := ((hL.row m hm).2 _).1 hbin
  obtain ⟨x, hx⟩ := Int.eq_ofNat_of_zero_le hbr.1
  rw [hx] at hbin hbr
  have hxl : x < L.own.length := by omega
  have j5 : (x : Int) < (L.own.length : Int) := by omega
  have j6 : decide (x < L.own.length) = true := by simp; omega
  haveI : Lt x L.on.length := ⟨by rw [hL.lo]; exact hxl⟩
  have Hx := hid hx
  have Hff := hid (fit_give hL hm hbin)
  have Hok := hid (row_ok hL hm)
  have Hrow := hid hrow
  have Hbin : Hid ((x : Int) ∈ rg L.rows m) := hbin
  have HL := hid hL
  clear hown hrow hL hbin hbr hx
  go_enter Try.func9, Try.ntmps9
  go_wp2_with fail
  refine (lkTaskX b L t true (decide_eq_true ⟨by omega, j1⟩) w0 _ F hs HL.out).mono ?_
  rintro en w1 ⟨rfl, hs1⟩
  clear hs
  go_wp2_with fail
  refine (lkHasX b L m true (decide_eq_true ⟨by omega, j3⟩) w0 _ F hs1 HL.out).mono ?_
  rintro en w2 ⟨rfl, hs2⟩
  clear hs1
  obtain ⟨g, off, cap, hs3⟩ := lkP_G hs2
  obtain ⟨a0, c0, a1, c1, a2, c2, hp, hs4⟩ := lkG_out hs3 HL.out
  obtain ⟨⟨g0, o0, rfl⟩, ⟨g1, o1, rfl⟩, ⟨g2, o2, rfl⟩⟩ := hp (by omega)
  have Hmr := hid (fun x r => mutR_put g off m L.ow L.rows hm HL.out.lr x r)
  clear hs2 hs3 hp
  rw [mutR_at g off m L.ow L.rows hm HL.out.lr] at hs4
  go_wp2_with fail
  refine wp_gen (w0 := w0) ?_
  intro w5 hs5
  clear hs4
  go_quiet ((go_at_call 18; exact quiet_drew (rowBestX g (off + m * 2 + 1) (rg L.rows m) _ L.now x true Hx.out (decide_eq_true Hrow.out) w0 _ _ own rd Hok.out)))
  go_wp2_with fail
  refine (rowRemove g (off + m * 2 + 1) (rg L.rows m) x w0 _ _ own Hok.out).mono ?_
  rintro en w6 ⟨rfl, hs6⟩
  clear hs5
  go_wp2_with fail
  refine (lkRenewG b g off cap (giveL L m x) w0 _ F ?_ Hff.out (by show 0 < L.own.length; omega)).mono ?_
  · refine lkG_of (L := giveL L m x) (v0 := .slice (some ⟨g0, o0, none⟩) L.own.length c0) (v1 := .slice (some ⟨g1, o1, none⟩) L.own.length c1) (v2 := .slice (some ⟨g2, o2, none⟩) L.own.length c2) ?_
    dsimp only [giveL]
    rw [List.length_set, Hmr.out]
    refine Sat.perm (P := pts b 0 [.slice (some ⟨g0, o0, none⟩) L.own.length c0, .slice (some ⟨g1, o1, none⟩) L.own.length c1, .slice (some ⟨g2, o2, none⟩) L.own.length c2, .slice (some ⟨g, off, none⟩) L.ow.length cap] * (numsP .i64 (.slice (some ⟨g0, o0, none⟩) L.own.length c0) L.own * (numsP .i64 (.slice (some ⟨g1, o1, none⟩) L.own.length c1) L.now * (numsP .i64 (.slice (some ⟨g2, o2, none⟩) L.own.length c2) (L.on.set x (-1)) * (pts g (off + m * 2) [.int .i64 x] * (rowP g (off + m * 2 + 1) ((rg L.rows m).erase x) * (mutX g off m L.ow L.rows * F))))))) own_left (by ac_rfl)
  · rintro en w7 ⟨rfl, now', h1, h2, h3⟩
    clear hs6
    have H1 := hid h1
    have H2 := hid h2
    have H3 := hid h3
    obtain ⟨a0, c0, a1, c1, a2, c2, hp, hs7⟩ := lkG_out h3 h1
    clear h1 h2 h3 hp
    dsimp only [giveL] at hs7
    rw [Hmr.out] at hs7
    go_wp2_with fail
    go_ret2
    exact ⟨x, Hx.out, rfl, now', H1.out, H2.out, lkP_in H3.out⟩
end Go.Proofs.Ytigjeflofbdahaa
