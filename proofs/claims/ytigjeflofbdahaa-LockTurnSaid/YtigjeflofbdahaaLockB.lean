/-
  Locks: the contracts of raise and closes.
-/
import Derived.Test.YtigjeflofbdahaaLockA
import Derived.WalkMore
namespace Go.Proofs.Ytigjeflofbdahaa
open Go.RowKit Go.Sx Go.Lk
set_option linter.unusedSimpArgs false
set_option linter.unusedVariables false

def natOf (v : Value) : Nat := (intOf v).toNat
set_option maxRecDepth 100000 in
set_option maxHeartbeats 8000000 in
theorem lkRaiseG (b g off cap : Nat) (L : Lk) (K t : Nat) (w0 w : World) (F : HP) (hs : Sat w0 w (lkG b g off cap L * F)) (hL : Fit L) (ht : t < L.own.length) (hn : Near L K t) :
    Calls Try.prog 23 #[.pointer (some ⟨b, 0, none⟩), .int .i64 t] w fun en w' => en = .returned (.tuple #[]) ∧ ∃ now', Fit { L with now := now' } ∧ LevK { L with now := now' } K ∧ Sat w0 w' (lkG b g off cap { L with now := now' } * F) := by
  obtain ⟨a0, c0, a1, c1, a2, c2, hp, hs⟩ := lkG_out hs hL
  obtain ⟨⟨g0, o0, rfl⟩, ⟨g1, o1, rfl⟩, ⟨g2, o2, rfl⟩⟩ := hp (by omega)
  obtain ⟨rk, hrk⟩ := hL.rank
  have Hrk := hid hrk
  have HL := hid hL
  have Hn := hid hn
  have hn64 := hL.n
  clear hn hrk hL hp
  haveI : SameLen L.ow L.rows := ⟨HL.out.lr⟩
  go_enter Try.func23, Try.ntmps23
  go_wp2_with fail
  go_loopw [1] (fun i wr => ∃ (x : Nat) (now' : List Int), x < L.own.length ∧ i = .int .i64 x ∧ Fit { L with now := now' } ∧ Near { L with now := now' } K x ∧
      Sat w0 wr (pts b 0 [.slice (some ⟨g0, o0, none⟩) L.own.length c0, .slice (some ⟨g1, o1, none⟩) L.own.length c1, .slice (some ⟨g2, o2, none⟩) L.own.length c2, .slice (some ⟨g, off, none⟩) L.ow.length cap] * (numsP .i64 (.slice (some ⟨g0, o0, none⟩) L.own.length c0) L.own * (numsP .i64 (.slice (some ⟨g1, o1, none⟩) L.own.length c1) now' * (numsP .i64 (.slice (some ⟨g2, o2, none⟩) L.own.length c2) L.on * (mutR g off L.ow L.rows * F)))))) (fun i _ => rk (natOf i))
  case atStart => exact ⟨t, L.now, ht, rfl, HL.out, Hn.out, own_left⟩
  case round =>
    obtain ⟨x, now', hx, rfl, hfit, hnear, hs2⟩ := hrel
    clear hs
    have Hfit := hid hfit
    have Hnear := hid hnear
    have i1 : (x : Int) < (L.own.length : Int) := by omega
    have i2 : decide (x < L.own.length) = true := by simp; omega
    haveI : Lt x L.on.length := ⟨by rw [HL.out.lo]; exact hx⟩
    haveI : Lt x now'.length := ⟨by have := Hfit.out.ln; dsimp only at this; rw [this]; exact hx⟩
    clear hfit hnear
    by_cases ho : 0 ≤ lg L.on x
    · have e1 : decide (0 ≤ lg L.on x) = true := by simp [ho]
      have hon := Hfit.out.onr x hx
      have ho2 : 0 ≤ onAt { L with now := now' } x := ho
      have hnl := nx_lt Hfit.out hx ho2
      have hnn := nx_ne Hfit.out hx ho2
      have Hrx := hid (Hrk.out x hx ho)
      obtain ⟨m, hm⟩ := Int.eq_ofNat_of_zero_le ho
      have hm2 : m < L.ow.length := by
        rcases hon with h | ⟨_, h, _, _⟩
        · have h' : lg L.on x = -1 := h; omega
        · have h' : lg L.on x < L.ow.length := h; omega
      have hy0 : 0 ≤ lg L.ow m ∧ lg L.ow m < L.own.length := by
        rcases hon with h | ⟨_, _, h3, h4⟩
        · have h' : lg L.on x = -1 := h; omega
        · have h5 : 0 ≤ lg L.ow (lg L.on x).toNat := h3
          have h6 : lg L.ow (lg L.on x).toNat < L.own.length := h4
          rw [hm] at h5 h6
          exact ⟨h5, h6⟩
      obtain ⟨y, hy⟩ := Int.eq_ofNat_of_zero_le hy0.1
      have hyl : y < L.own.length := by omega
      have Hnx : Hid (nx { L with now := now' } x = y) := by
        unfold Hid nx
        show (lg L.ow (lg L.on x).toNat).toNat = y
        rw [hm]; show (lg L.ow m).toNat = y; rw [hy]; rfl
      have Hnx2 : Hid (nx L x = y) := Hnx
      rw [Hnx.out] at hnl hnn
      have Hnn := hid hnn
      have Ho2 := hid ho2
      have j1 : (m : Int) < (L.ow.length : Int) := by omega
      have j2 : decide (m < L.ow.length) = true := by simp; omega
      have j3 : (y : Int) < (L.own.length : Int) := by omega
      have j4 : decide (y < L.own.length) = true := by simp; omega
      haveI : Lt m L.ow.length := ⟨hm2⟩
      haveI : Lt y now'.length := ⟨by have := Hfit.out.ln; dsimp only at this; rw [this]; exact hyl⟩
      clear hon hy0 hnl hnn ho ho2
      by_cases hle : lg now' y ≤ lg now' x
      · have e2 : decide (lg now' y ≤ lg now' x) = true := by simp [hle]
        have Hle := hid hle
        clear hle
        go_wp2_with fail
        go_quiet (fail); go_wp2_with fail; refine wp_gen (w0 := w0) ?_; intro wq hsq
        go_quiet (fail)
        go_wp2_with fail
        go_returns
        refine ⟨rfl, now', Hfit.out, near_stop Hnear.out fun _ => ?_, lkG_of (v0 := .slice (some ⟨g0, o0, none⟩) L.own.length c0) (v1 := .slice (some ⟨g1, o1, none⟩) L.own.length c1) (v2 := .slice (some ⟨g2, o2, none⟩) L.own.length c2) (g := g) (off := off) (cap := cap) own_left⟩
        rw [Hnx.out]; exact Hle.out
      · have e2 : decide (lg now' y ≤ lg now' x) = false := by simp [hle]
        have Hle := hid hle
        clear hle
        go_wp2_with fail
        go_quiet (fail); go_wp2_with fail; refine wp_gen (w0 := w0) ?_; intro wq hsq
        go_quiet (fail)
        go_wp2_with fail
        refine wp_gen (w0 := w0) ?_
        intro wz hsz
        go_still_tail 13, (by kernel_rfl)
        change wpList _ _ _ _ _ wz.drew
        go_wp2_with fail
        go_roundw
        case rel =>
          have h7 := near_next Hfit.out hx Hnear.out Ho2.out (by rw [Hnx.out]; show lg now' x < lg now' y; have := Hle.out; omega) (by rw [Hnx.out]; exact Hnn.out)
          rw [Hnx.out] at h7
          refine ⟨y, now'.set y (lg now' x), hyl, rfl, ?_, h7, own_left⟩
          exact fit_setNow Hfit.out hyl (Hfit.out.nowr x hx)
        case measure =>
          have := Hrx.out
          rw [Hnx2.out] at this
          exact this
    · have e1 : decide (0 ≤ lg L.on x) = false := by simp; omega
      have Ho := hid ho
      clear ho
      go_wp2_with fail
      go_returns
      exact ⟨rfl, now', Hfit.out, near_stop Hnear.out (fun h => by have h1 := Ho.out; have h2 : 0 ≤ lg L.on x := h; omega), lkG_of (v0 := .slice (some ⟨g0, o0, none⟩) L.own.length c0) (v1 := .slice (some ⟨g1, o1, none⟩) L.own.length c1) (v2 := .slice (some ⟨g2, o2, none⟩) L.own.length c2) (g := g) (off := off) (cap := cap) own_left⟩

theorem lkRaise (b : Nat) (L : Lk) (K t : Nat) (w0 w : World) (F : HP) (hs : Sat w0 w (lkP b L * F)) (hL : Fit L) (ht : t < L.own.length) (hn : Near L K t) :
    Calls Try.prog 23 #[.pointer (some ⟨b, 0, none⟩), .int .i64 t] w fun en w' => en = .returned (.tuple #[]) ∧ ∃ now', Fit { L with now := now' } ∧ LevK { L with now := now' } K ∧ Sat w0 w' (lkP b { L with now := now' } * F) := by
  obtain ⟨g, off, cap, hs⟩ := lkP_G hs
  exact (lkRaiseG b g off cap L K t w0 w F hs hL ht hn).mono fun en w' ⟨h1, n, h2, h3, h4⟩ => ⟨h1, n, h2, h3, lkP_in h4⟩

/-- Would a circle be closed? -/
theorem reach_cons {L : Lk} {s t : Nat} (ho : 0 ≤ onAt L s) (h : Go.Lk.Reach L (nx L s) t) : Go.Lk.Reach L s t := by
  induction h with
  | refl => exact .step .refl ho
  | step _ ho' ih => exact .step ih ho'
theorem reach_inv {L : Lk} {s t : Nat} (h : Go.Lk.Reach L s t) (hne : s ≠ t) : 0 ≤ onAt L s ∧ Go.Lk.Reach L (nx L s) t := by
  induction h with
  | refl => exact absurd rfl hne
  | @step u hr ho ih =>
    by_cases e : s = u
    · subst e; exact ⟨ho, .refl⟩
    · obtain ⟨h1, h2⟩ := ih e
      exact ⟨h1, .step h2 ho⟩
set_option maxRecDepth 100000 in
set_option maxHeartbeats 8000000 in
theorem lkClosesV (b : Nat) (L : Lk) (t s : Nat) (g0 o0 c0 g1 o1 c1 g2 o2 c2 g off cap : Nat) (w0 w : World) (F : HP) (hs : Sat w0 w (pts b 0 [.slice (some ⟨g0, o0, none⟩) L.own.length c0, .slice (some ⟨g1, o1, none⟩) L.own.length c1, .slice (some ⟨g2, o2, none⟩) L.own.length c2, .slice (some ⟨g, off, none⟩) L.ow.length cap] * (numsP .i64 (.slice (some ⟨g0, o0, none⟩) L.own.length c0) L.own * (numsP .i64 (.slice (some ⟨g1, o1, none⟩) L.own.length c1) L.now * (numsP .i64 (.slice (some ⟨g2, o2, none⟩) L.own.length c2) L.on * (mutR g off L.ow L.rows * F)))))) (hL : Fit L) (ht : t < L.own.length) (hsl : s < L.own.length) :
    Calls Try.prog 21 #[.pointer (some ⟨b, 0, none⟩), .int .i64 t, .int .i64 s] w fun en w' => ∃ x : Bool, en = .returned (.bool x) ∧ (x = true ↔ Go.Lk.Reach L s t) ∧ Sat w0 w' (pts b 0 [.slice (some ⟨g0, o0, none⟩) L.own.length c0, .slice (some ⟨g1, o1, none⟩) L.own.length c1, .slice (some ⟨g2, o2, none⟩) L.own.length c2, .slice (some ⟨g, off, none⟩) L.ow.length cap] * (numsP .i64 (.slice (some ⟨g0, o0, none⟩) L.own.length c0) L.own * (numsP .i64 (.slice (some ⟨g1, o1, none⟩) L.own.length c1) L.now * (numsP .i64 (.slice (some ⟨g2, o2, none⟩) L.own.length c2) L.on * (mutR g off L.ow L.rows * F))))) := by
  obtain ⟨rk, hrk⟩ := hL.rank
  have Hrk := hid hrk
  have HL := hid hL
  have hn64 := hL.n
  clear hrk hL
  haveI : SameLen L.ow L.rows := ⟨HL.out.lr⟩
  go_enter Try.func21, Try.ntmps21
  go_wp2_with fail
  go_step3
  go_wp2_with fail
  go_step3
  go_wp2_with fail
  go_loopw [2] (fun i wr => ∃ x : Nat, x < L.own.length ∧ i = .int .i64 x ∧ (Go.Lk.Reach L s t ↔ Go.Lk.Reach L x t) ∧
      Sat w0 wr (pts b 0 [.slice (some ⟨g0, o0, none⟩) L.own.length c0, .slice (some ⟨g1, o1, none⟩) L.own.length c1, .slice (some ⟨g2, o2, none⟩) L.own.length c2, .slice (some ⟨g, off, none⟩) L.ow.length cap] * (numsP .i64 (.slice (some ⟨g0, o0, none⟩) L.own.length c0) L.own * (numsP .i64 (.slice (some ⟨g1, o1, none⟩) L.own.length c1) L.now * (numsP .i64 (.slice (some ⟨g2, o2, none⟩) L.own.length c2) L.on * (mutR g off L.ow L.rows * F)))))) (fun i _ => rk (natOf i))
  case atStart => exact ⟨s, hsl, rfl, Iff.rfl, own_left⟩
  case round =>
    obtain ⟨x, hx, rfl, hiff, hs2⟩ := hrel
    have Hiff := hid hiff
    clear hs hiff
    have i1 : (x : Int) < (L.own.length : Int) := by omega
    have i2 : decide (x < L.own.length) = true := by simp; omega
    haveI : Lt x L.on.length := ⟨by rw [HL.out.lo]; exact hx⟩
    by_cases hxt : x = t
    · have e0 : ((x : Int) == (t : Int)) = true := by simp [hxt]
      have Hxt := hid hxt
      clear hxt
      go_wp2_with fail
      rw [Exit.noGoto_ret]
      go_returns
      exact ⟨true, rfl, ⟨fun _ => Hiff.out.2 (by rw [Hxt.out]; exact .refl), fun _ => rfl⟩, own_left⟩
    · have e0 : ((x : Int) == (t : Int)) = false := by simp; omega
      have Hxt := hid hxt
      clear hxt
      by_cases ho : 0 ≤ lg L.on x
      · have e1 : decide (lg L.on x < 0) = false := by simp; omega
        have hon := HL.out.onr x hx
        have ho2 : 0 ≤ onAt L x := ho
        have hnl := nx_lt HL.out hx ho2
        have Hrx := hid (Hrk.out x hx ho)
        obtain ⟨m, hm⟩ := Int.eq_ofNat_of_zero_le ho
        have hm2 : m < L.ow.length := by
          rcases hon with h | ⟨_, h, _, _⟩
          · have h' : lg L.on x = -1 := h; omega
          · have h' : lg L.on x < L.ow.length := h; omega
        have hy0 : 0 ≤ lg L.ow m ∧ lg L.ow m < L.own.length := by
          rcases hon with h | ⟨_, _, h3, h4⟩
          · have h' : lg L.on x = -1 := h; omega
          · have h5 : 0 ≤ lg L.ow (lg L.on x).toNat := h3
            have h6 : lg L.ow (lg L.on x).toNat < L.own.length := h4
            rw [hm] at h5 h6
            exact ⟨h5, h6⟩
        obtain ⟨y, hy⟩ := Int.eq_ofNat_of_zero_le hy0.1
        have hyl : y < L.own.length := by omega
        have Hnx : Hid (nx L x = y) := by
          unfold Hid nx
          show (lg L.ow (lg L.on x).toNat).toNat = y
          rw [hm]; show (lg L.ow m).toNat = y; rw [hy]; rfl
        have Ho2 := hid ho2
        have j1 : (m : Int) < (L.ow.length : Int) := by omega
        have j2 : decide (m < L.ow.length) = true := by simp; omega
        haveI : Lt m L.ow.length := ⟨hm2⟩
        clear hon hy0 hnl ho ho2
        go_wp2_with fail
        go_quiet (fail)
        go_wp2_with fail
        go_roundw
        case rel =>
          refine ⟨y, hyl, rfl, ?_, own_left⟩
          rw [Hiff.out, ← Hnx.out]
          exact ⟨fun h => (reach_inv h Hxt.out).2, fun h => reach_cons Ho2.out h⟩
        case measure =>
          have := Hrx.out
          rw [Hnx.out] at this
          exact this
      · have e1 : decide (lg L.on x < 0) = true := by simp; omega
        have Ho : Hid (¬ 0 ≤ onAt L x) := ho
        clear ho
        go_wp2_with fail
        go_returns
        exact ⟨false, rfl, ⟨fun h => (by cases h), fun h => absurd (reach_inv (Hiff.out.1 h) Hxt.out).1 (by have := Ho.out; omega)⟩, own_left⟩
end Go.Proofs.Ytigjeflofbdahaa
