/-
  Locks: the contract of renew.
-/
import Derived.Test.YtigjeflofbdahaaLockC
import Derived.Test.YtigjeflofbdahaaCopy
namespace Go.Proofs.Ytigjeflofbdahaa
open Go.RowKit Go.Sx Go.Lk
set_option linter.unusedSimpArgs false
set_option linter.unusedVariables false

def freshL (L : Lk) : Lk := { L with now := L.own }
theorem fit_fresh {L : Lk} (h : Fit L) : Fit (freshL L) := ⟨h.n, rfl, h.lo, h.m, h.lr, h.ownr, h.ownr, h.onr, h.owr, h.row, h.rank⟩
theorem lev_fresh (L : Lk) : LevK (freshL L) 0 := ⟨fun t _ => Int.le_refl _, fun t _ h => absurd h (by omega), fun t ht => ⟨t, ht, .refl, rfl⟩⟩
set_option maxRecDepth 100000 in
set_option maxHeartbeats 8000000 in
theorem lkRenewG (b g off cap : Nat) (L : Lk) (w0 w : World) (F : HP) (hs : Sat w0 w (lkG b g off cap L * F)) (hL : Fit L) (hpos : 0 < L.own.length) :
    Calls Try.prog 20 #[.pointer (some ⟨b, 0, none⟩)] w fun en w' => en = .returned (.tuple #[]) ∧ ∃ now', Fit { L with now := now' } ∧ Lev { L with now := now' } ∧ Sat w0 w' (lkG b g off cap { L with now := now' } * F) := by
  obtain ⟨a0, c0, a1, c1, a2, c2, hp, hs⟩ := lkG_out hs hL
  obtain ⟨⟨g0, o0, rfl⟩, ⟨g1, o1, rfl⟩, ⟨g2, o2, rfl⟩⟩ := hp hpos
  have hn64 := hL.n
  have HL := hid hL
  have Hln := hid hL.ln
  have h1 := hs.pull (Q := numsP .i64 (.slice (some ⟨g1, o1, none⟩) L.own.length c1) L.now)
  rcases h1.slice_out with ⟨e, _⟩ | ⟨g', off', cap', sp, e, h2, h3, hx, hsp, h4⟩
  · cases e
  · simp only [Value.slice.injEq, Option.some.injEq, Addr.mk.injEq] at e
    obtain ⟨⟨rfl, rfl, _⟩, he, rfl⟩ := e
    clear he
    have Hsp := hid hsp
    have H2 := hid h2
    have H3 := hid h3
    clear hs h1 hp hL hx hsp h2 h3
    go_enter Try.func20, Try.ntmps20
    go_wp2_with fail
    refine wp_gen (w0 := w0) ?_
    intro wx hsx
    clear h4
    go_still_tail 8, (by kernel_rfl)
    change wpList _ _ _ _ _ wx.drew
    have hsrc : Hid (∀ j u, (L.own.map (Value.int .i64))[j]? = some u → wx.drew.cell? ((⟨g0, o0, none⟩ : Addr).add j) = some u) := by
      have h5 : RdN .i64 wx.drew (.slice (some ⟨g0, o0, none⟩) L.own.length c0) L.own := rd
      exact h5.news.2.2 _ rfl
    have hcs : (L.own.map (Value.int .i64)).length = L.own.length := List.length_map ..
    have hys : (L.now.map (Value.int .i64) ++ sp).length = L.own.length + sp.length := by rw [List.length_append, List.length_map, Hln.out]
    have hmin : Hid ((L.own.map (Value.int .i64)).length = Nat.min L.own.length L.own.length * 1) := by unfold Hid; rw [hcs]; simp
    have hle : Hid ((L.own.map (Value.int .i64)).length ≤ (L.now.map (Value.int .i64) ++ sp).length) := by unfold Hid; rw [hcs, hys]; omega
    clear hcs hys
    have hown : Sat w0 wx.drew (pts g1 o1 (L.now.map (Value.int .i64) ++ sp) * (pts b 0 [.slice (some ⟨g0, o0, none⟩) L.own.length c0, .slice (some ⟨g1, o1, none⟩) L.own.length c1, .slice (some ⟨g2, o2, none⟩) L.own.length c2, .slice (some ⟨g, off, none⟩) L.ow.length cap] * (numsP .i64 (.slice (some ⟨g0, o0, none⟩) L.own.length c0) L.own * (numsP .i64 (.slice (some ⟨g2, o2, none⟩) L.own.length c2) L.on * (mutR g off L.ow L.rows * F))))) := own_left
    refine wpList_copy_cells (w0 := w0) (o0 := o1) (xs := []) (ys := L.now.map (Value.int .i64) ++ sp) rfl rfl elemI rfl rfl hmin.out hsrc.out (oneCell_ints _) hown rfl hle.out ?_
    intro w2 hs3 hz
    clear hsx hown
    have hdrop : (L.now.map (Value.int .i64) ++ sp).drop (L.own.map (Value.int .i64)).length = sp := by
      rw [List.length_map, ← Hln.out, show L.now.length = (L.now.map (Value.int .i64)).length by simp, List.drop_left]
    rw [hdrop, List.nil_append] at hs3
    have hs4 := Sat.slice_in (k := 1) (n := L.own.length) hs3 (by have := H2.out; rw [Hln.out] at this; exact this) H3.out (by simp) (by rw [Hsp.out, Hln.out])
    have hs5 : Sat w0 w2 (lkG b g off cap (freshL L) * F) := lkG_of (L := freshL L) (v0 := .slice (some ⟨g0, o0, none⟩) L.own.length c0) (v1 := .slice (some ⟨g1, o1, none⟩) L.own.length c1) (v2 := .slice (some ⟨g2, o2, none⟩) L.own.length c2) (g := g) (off := off) (cap := cap) (hs4.perm (by show _ = pts b 0 _ * (numsP .i64 _ L.own * (numsP .i64 (.slice (some ⟨g1, o1, none⟩) L.own.length c1) L.own * (numsP .i64 _ L.on * (mutR g off L.ow L.rows * F)))); unfold numsP; ac_rfl))
    clear hs3 hs4
    obtain ⟨a0, d0, a1, d1, a2, d2, hp, hs6⟩ := lkG_out hs5 (fit_fresh HL.out)
    obtain ⟨⟨g0, o0, rfl⟩, ⟨g1, o1, rfl⟩, ⟨g2, o2, rfl⟩⟩ := hp hpos
    have H5 := hid hs5
    clear hs5 hp
    have hlf : (freshL L).own.length = L.own.length := rfl
    go_wp2_with fail
    clear hs6
    go_loopw [17] (fun i wr => ∃ (k : Nat) (now' : List Int), k ≤ L.own.length ∧ i = .int .i64 k ∧ Fit { L with now := now' } ∧ LevK { L with now := now' } k ∧ Sat w0 wr (lkG b g off cap { L with now := now' } * F)) (fun i _ => L.own.length - natOf i)
    case atStart => exact ⟨0, L.own, Nat.zero_le _, rfl, fit_fresh HL.out, lev_fresh L, H5.out⟩
    case round =>
      obtain ⟨k, now', hk, rfl, hfit, hlev, hs7⟩ := hrel
      have Hfit := hid hfit
      have Hlev := hid hlev
      clear hfit hlev H5
      by_cases hlt : k < L.own.length
      · have i1 : (k : Int) < (L.own.length : Int) := by omega
        go_wp2_with fail
        refine (lkRaiseG b g off cap { L with now := now' } (k + 1) k w0 _ F hs7 Hfit.out hlt (near_start Hlev.out)).mono ?_
        rintro en w3 ⟨rfl, now2, h5, h6, hs8⟩
        have H5 := hid h5
        have H6 := hid h6
        clear h5 h6 hs7
        go_wp2_with fail
        go_roundw
        case rel => exact ⟨k + 1, now2, by omega, by go_num, H5.out, H6.out, hs8⟩
        case measure => simp [natOf, intOf]; omega
      · have i1 : ¬ (k : Int) < (L.own.length : Int) := by omega
        have hkn : L.own.length ≤ k := by omega
        go_wp2_with fail
        go_returns
        exact ⟨rfl, now', Hfit.out, Hlev.out.lev hkn, hs7⟩
theorem lkRenew (b : Nat) (L : Lk) (w0 w : World) (F : HP) (hs : Sat w0 w (lkP b L * F)) (hL : Fit L) (hpos : 0 < L.own.length) :
    Calls Try.prog 20 #[.pointer (some ⟨b, 0, none⟩)] w fun en w' => en = .returned (.tuple #[]) ∧ ∃ now', Fit { L with now := now' } ∧ Lev { L with now := now' } ∧ Sat w0 w' (lkP b { L with now := now' } * F) := by
  obtain ⟨g, off, cap, hs⟩ := lkP_G hs
  exact (lkRenewG b g off cap L w0 w F hs hL hpos).mono fun en w' ⟨h1, n, h2, h3, h4⟩ => ⟨h1, n, h2, h3, lkP_in h4⟩
end Go.Proofs.Ytigjeflofbdahaa
