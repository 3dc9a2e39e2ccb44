/-
  The reference's locks: the contract of Unlock.
-/
import Derived.Test.YtfphgcplpokigaaLockW
namespace Go.Proofs.Ytfphgcplpokigaa
open Go.RowKit Go.Sx Go.Lk
set_option linter.unusedSimpArgs false
set_option linter.unusedVariables false

theorem rBestSome (lv : List Int) {l : List Int} (h : RowOk l) (hn : l ≠ []) : rBest lv l = bestOf lv l := by
  match l, hn with
  | t :: r, _ => exact best_agree lv t r (h.2 t (by simp)).1 fun x hx => (h.2 x (by simp [hx])).1
theorem unlockR_task {L : Lk} {t m : Int} (h : ¬ (0 ≤ t ∧ t < L.own.length)) : unlockR L t m = (255, 1, L) := by unfold unlockR; rw [if_pos h]
theorem unlockR_none {L : Lk} {t m : Int} (h : 0 ≤ t ∧ t < L.own.length) (h3 : ¬ (0 ≤ m ∧ m < L.ow.length)) : unlockR L t m = (255, 15, L) := by unfold unlockR; rw [if_neg (Classical.not_not.2 h), if_pos h3]
theorem unlockR_other {L : Lk} {t : Int} {m : Nat} (h : 0 ≤ t ∧ t < L.own.length) (h3 : m < L.ow.length) (h4 : lg L.ow m ≠ t) : unlockR L t m = (255, 10, L) := by
  unfold unlockR; rw [if_neg (Classical.not_not.2 h), if_neg (Classical.not_not.2 ⟨by omega, by omega⟩), show Int.toNat (m : Int) = m by omega, if_pos h4]
theorem unlockR_free {L : Lk} {t : Int} {m : Nat} (h : 0 ≤ t ∧ t < L.own.length) (h3 : m < L.ow.length) (h4 : lg L.ow m = t) (h5 : rg L.rows m = []) : unlockR L t m = (255, 0, freeL L m) := by
  unfold unlockR; rw [if_neg (Classical.not_not.2 h), if_neg (Classical.not_not.2 ⟨by omega, by omega⟩), show Int.toNat (m : Int) = m by omega, if_neg (Classical.not_not.2 h4), if_pos h5]
theorem unlockR_give {L : Lk} {t : Int} {m : Nat} (h : 0 ≤ t ∧ t < L.own.length) (h3 : m < L.ow.length) (h4 : lg L.ow m = t) (h5 : rg L.rows m ≠ []) {x : Nat} (hx : bestOf L.now (rg L.rows m) = x) : unlockR L t m = ((x : Int), 0, giveL L m x) := by
  unfold unlockR; rw [if_neg (Classical.not_not.2 h), if_neg (Classical.not_not.2 ⟨by omega, by omega⟩), show Int.toNat (m : Int) = m by omega, if_neg (Classical.not_not.2 h4), if_neg h5, hx, show Int.toNat (x : Int) = x by omega]
set_option maxRecDepth 100000 in
set_option maxHeartbeats 8000000 in
theorem lrUnlock (b : Nat) (L : Lk) (t m : Int) (w0 w : World) (F : HP) (hs : Sat w0 w (lrP b L * F)) (hg : Good L) :
    Calls Try.prog 39 #[.pointer (some ⟨b, 0, none⟩), .int .i64 t, .int .i64 m] w (RetV w0 (.tuple #[.int .i64 (unlockR L t m).1, .int .i64 (unlockR L t m).2.1]) (lrP b (unlockR L t m).2.2 * F)) := by
  have Hrd := hid (lrP_rd hs)
  have hL := hg.fit
  have HL := hid hL
  have hn64 := hL.n
  have hm32 := hL.m
  have Hs := hid hs
  have Hnow := hid (good_now hg)
  obtain ⟨a0, c0, a1, c1, a2, c2, hs1⟩ := lrP_out hs
  by_cases h1 : 0 ≤ t ∧ t < L.own.length
  · obtain ⟨t, rfl⟩ := Int.eq_ofNat_of_zero_le h1.1
    have ht : t < L.own.length := by omega
    have i1 : (t : Int) < (L.own.length : Int) := by omega
    have i2 : decide (t < L.own.length) = true := by simp; omega
    have i3 : decide (L.own.length ≤ t) = false := by simp; omega
    by_cases h3 : 0 ≤ m ∧ m < L.ow.length
    · obtain ⟨m, rfl⟩ := Int.eq_ofNat_of_zero_le h3.1
      have hm : m < L.ow.length := by omega
      have j1 : (m : Int) < (L.ow.length : Int) := by omega
      have j2 : decide (m < L.ow.length) = true := by simp; omega
      have j3 : decide (L.ow.length ≤ m) = false := by simp; omega
      haveI : Lt m L.ow.length := ⟨hm⟩
      obtain ⟨g1, o1, rfl⟩ := Sat.someA (hs1.perm (by ac_rfl : _ = numsP .i64 (.slice a1 L.ow.length c1) L.ow * (pts b 0 [.slice a0 L.own.length c0, .slice a1 L.ow.length c1, .slice a2 L.rows.length c2] * (numsP .i64 (.slice a0 L.own.length c0) L.own * (rowsP (.slice a2 L.rows.length c2) L.rows * F))))) a1 (by omega)
      by_cases h4 : lg L.ow m = t
      · have d2 : (lg L.ow m != (t : Int)) = false := by simp [h4]
        have hmr : m < L.rows.length := by rw [hL.lr]; exact hm
        have j4 : (m : Int) < (L.rows.length : Int) := by omega
        have j5 : decide (m < L.rows.length) = true := by simp; omega
        have hok := row_ok hL hm
        have hrl := rowOk_len hok
        have Hok := hid hok
        have hs2 := hs1.perm (by ac_rfl : _ = rowsP (.slice a2 L.rows.length c2) L.rows * (pts b 0 [.slice a0 L.own.length c0, .slice (some ⟨g1, o1, none⟩) L.ow.length c1, .slice a2 L.rows.length c2] * (numsP .i64 (.slice a0 L.own.length c0) L.own * (numsP .i64 (.slice (some ⟨g1, o1, none⟩) L.ow.length c1) L.ow * F))))
        obtain ⟨g2, o2, c2', x, ev, R, hs3, hback⟩ := rowsP_at hs2 hmr
        cases ev
        obtain ⟨xa, xc, rfl⟩ := (Sat.pull hs3 (Q := numsP .i64 x (rg L.rows m))).slice_form
        have Hback : Hid (∀ {w1 w2 : World} {G : HP} (y : Value) (r : List Int), Sat w1 w2 (pts g2 (o2 + m) [y] * (numsP .i64 y r * (R * G))) → Sat w1 w2 (rowsP (.slice (some ⟨g2, o2, none⟩) L.rows.length c2) (L.rows.set m r) * G)) := hback
        clear hs hs2 hs1 hback
        by_cases h5 : rg L.rows m = []
        · have e := hid (unlockR_free h1 hm h4 h5)
          have hrows : Hid (L.rows.set m (rg L.rows m) = L.rows) := set_same L.rows m []
          have Hb2 : Hid (∀ {w1 w2 : World} {G : HP}, Sat w1 w2 (pts g2 (o2 + m) [.slice xa (rg L.rows m).length xc] * (numsP .i64 (.slice xa (rg L.rows m).length xc) (rg L.rows m) * (R * G))) → Sat w1 w2 (rowsP (.slice (some ⟨g2, o2, none⟩) L.rows.length c2) L.rows * G)) := fun h => by
            have h9 := Hback.out _ _ h
            rwa [hrows.out] at h9
          have Hb : Hid (rBest (refLv L.own L.ow L.rows) (rg L.rows m) = -1) := by unfold Hid; rw [h5]; rfl
          clear hL h1 h3 h4 h5 hg
          rw [e.out]
          go_enter Try.func39, Try.ntmps39
          go_wp2_with fail
          refine wp_region_early (fun w' => Sat w0 w' (pts b 0 [.slice a0 L.own.length c0, .slice (some ⟨g1, o1, none⟩) L.ow.length c1, .slice (some ⟨g2, o2, none⟩) L.rows.length c2] * (pts g2 (o2 + m) [.slice xa (rg L.rows m).length xc] * any))) [(0, true), (1, true), (2, true), (3, true), (4, true), (5, true), (6, true), (7, true), (8, false), (9, false), (10, true)] (by kernel_rfl) (by kernel_rfl) (fun _ _ _ _ h => h) own_any2 ?_
          iterate 8 (refine early_read (fun K hK => ?_); simp only [List.getElem?_cons_succ, List.getElem?_cons_zero]; (first | (rw [if_pos (by rfl)]; apply Exists.intro; refine ⟨fun w hSw => ?_, hK _ ?_⟩; (focus ((try dsimp only at hSw); go_simp; try with_reducible rfl))) | (rw [if_neg (ne_true_of_eq_false (by rfl))]; refine hK _ ?_)); clear hK K; simp only [Act.put, List.setIfInBounds_toArray, List.set_cons_zero, List.set_cons_succ])
          refine early_run (fun K hK => ?_); simp only [List.getElem?_cons_succ, List.getElem?_cons_zero]; rw [if_pos (by rfl)]
          go_wp2_with fail
          refine (lrLevels b L w0 _ _ own_it ?_ HL.out).mono ?_
          · exact Hrd.out
          rintro en w5 ⟨v5, rfl, hs5⟩
          obtain ⟨a5, c5, rfl⟩ := hs5.slice_form
          clear hs3
          go_wp2_with fail
          refine ⟨own_any2, ?_⟩
          refine early_run (fun K hK => ?_); simp only [List.getElem?_cons_succ, List.getElem?_cons_zero]; rw [if_pos (by rfl)]
          go_wp2_with fail
          refine (refBest _ _ (rg L.rows m) _ _ rd rd (fun z hz => (Hok.out.2 z hz).1) (by omega)).mono ?_
          rintro en w6 ⟨rfl, n6, rfl⟩
          rw [Hb.out]
          go_wp2_with fail
          refine ⟨own_any2, ?_⟩
          iterate 1 (refine early_read (fun K hK => ?_); simp only [List.getElem?_cons_succ, List.getElem?_cons_zero]; (first | (rw [if_pos (by rfl)]; apply Exists.intro; refine ⟨fun w hSw => ?_, hK _ ?_⟩; (focus ((try dsimp only at hSw); go_simp; try with_reducible rfl))) | (rw [if_neg (ne_true_of_eq_false (by rfl))]; refine hK _ ?_)); clear hK K; simp only [Act.put, List.setIfInBounds_toArray, List.set_cons_zero, List.set_cons_succ])
          refine early_done ?_
          go_wp2_with fail
          go_ret2
          refine ⟨rfl, lrP_in (L := freeL L m) (v0 := .slice a0 L.own.length c0) (v1 := .slice (some ⟨g1, o1, none⟩) L.ow.length c1) (v2 := .slice (some ⟨g2, o2, none⟩) L.rows.length c2) ?_⟩
          dsimp only [freeL]
          refine Sat.perm (Hb2.out (G := pts b 0 [.slice a0 L.own.length c0, .slice (some ⟨g1, o1, none⟩) L.ow.length c1, .slice (some ⟨g2, o2, none⟩) L.rows.length c2] * (numsP .i64 (.slice a0 L.own.length c0) L.own * (numsP .i64 (.slice (some ⟨g1, o1, none⟩) L.ow.length c1) (L.ow.set m 255) * F))) ?_) (by ac_rfl)
          exact own_left
        · have hbin := best_in L.now (rg L.rows m) h5
          have hbr := ((hL.row m hm).2 _).1 hbin
          obtain ⟨x, hx⟩ := Int.eq_ofNat_of_zero_le hbr.1
          have e := hid (unlockR_give h1 hm h4 h5 hx)
          have Hb : Hid (rBest (refLv L.own L.ow L.rows) (rg L.rows m) = x) := by
            unfold Hid; rw [rBestSome _ Hok.out h5, ← Hnow.out]; exact hx
          have Hf : Hid ((rg L.rows m).filter (· != (x : Int)) = (rg L.rows m).erase x) := by
            unfold Hid; rw [hok.1.erase_eq_filter]
          clear hL h1 h3 h4 h5 hg hbin hbr hx hok
          rw [e.out]
          go_enter Try.func39, Try.ntmps39
          go_wp2_with fail
          refine wp_region_early (fun w' => Sat w0 w' (pts b 0 [.slice a0 L.own.length c0, .slice (some ⟨g1, o1, none⟩) L.ow.length c1, .slice (some ⟨g2, o2, none⟩) L.rows.length c2] * (pts g2 (o2 + m) [.slice xa (rg L.rows m).length xc] * any))) [(0, true), (1, true), (2, true), (3, true), (4, true), (5, true), (6, true), (7, true), (8, false), (9, false), (10, true)] (by kernel_rfl) (by kernel_rfl) (fun _ _ _ _ h => h) own_any2 ?_
          iterate 8 (refine early_read (fun K hK => ?_); simp only [List.getElem?_cons_succ, List.getElem?_cons_zero]; (first | (rw [if_pos (by rfl)]; apply Exists.intro; refine ⟨fun w hSw => ?_, hK _ ?_⟩; (focus ((try dsimp only at hSw); go_simp; try with_reducible rfl))) | (rw [if_neg (ne_true_of_eq_false (by rfl))]; refine hK _ ?_)); clear hK K; simp only [Act.put, List.setIfInBounds_toArray, List.set_cons_zero, List.set_cons_succ])
          refine early_run (fun K hK => ?_); simp only [List.getElem?_cons_succ, List.getElem?_cons_zero]; rw [if_pos (by rfl)]
          go_wp2_with fail
          refine (lrLevels b L w0 _ _ own_it ?_ HL.out).mono ?_
          · exact Hrd.out
          rintro en w5 ⟨v5, rfl, hs5⟩
          obtain ⟨a5, c5, rfl⟩ := hs5.slice_form
          clear hs3
          go_wp2_with fail
          refine ⟨own_any2, ?_⟩
          refine early_run (fun K hK => ?_); simp only [List.getElem?_cons_succ, List.getElem?_cons_zero]; rw [if_pos (by rfl)]
          go_wp2_with fail
          refine (refBest _ _ (rg L.rows m) _ _ rd rd (fun z hz => (Hok.out.2 z hz).1) (by omega)).mono ?_
          rintro en w6 ⟨rfl, n6, rfl⟩
          rw [Hb.out]
          go_wp2_with fail
          refine ⟨own_any2, ?_⟩
          iterate 1 (refine early_read (fun K hK => ?_); simp only [List.getElem?_cons_succ, List.getElem?_cons_zero]; (first | (rw [if_pos (by rfl)]; apply Exists.intro; refine ⟨fun w hSw => ?_, hK _ ?_⟩; (focus ((try dsimp only at hSw); go_simp; try with_reducible rfl))) | (rw [if_neg (ne_true_of_eq_false (by rfl))]; refine hK _ ?_)); clear hK K; simp only [Act.put, List.setIfInBounds_toArray, List.set_cons_zero, List.set_cons_succ])
          refine early_done ?_
          go_wp2_with fail
          refine wp_region_till (fun w' => Sat w0 w' (pts b 0 [.slice a0 L.own.length c0, .slice (some ⟨g1, o1, none⟩) L.ow.length c1, .slice (some ⟨g2, o2, none⟩) L.rows.length c2] * (pts g2 (o2 + m) [.slice xa (rg L.rows m).length xc] * any))) 15 [(0, 0), (1, 0), (2, 0), (3, 1), (4, 0), (5, 0), (6, 0), (7, 0), (8, 1), (9, 0), (10, 0), (11, 1), (12, 0), (13, 2), (14, 0), (15, 2)] (by kernel_rfl) (by kernel_rfl) (fun _ _ _ _ h => h) own_any2 ?_
          iterate 13 (first | (refine plan_pure (fun K hK => ?_); simp only [List.getElem?_cons_succ, List.getElem?_cons_zero]; (first | (rw [if_pos (by rfl)]; apply Exists.intro; refine ⟨fun w hSw => ?_, hK _ ?_⟩; (focus (clear hSw; go_simp; try with_reducible rfl))) | (rw [if_neg (ne_true_of_eq_false (by rfl))]; refine hK _ ?_)); clear hK K; simp only [Act.put, List.setIfInBounds_toArray, List.set_cons_zero, List.set_cons_succ]) | (refine plan_read (fun K hK => ?_); simp only [List.getElem?_cons_succ, List.getElem?_cons_zero]; (first | (rw [if_pos (by rfl)]; apply Exists.intro; refine ⟨fun w hSw => ?_, hK _ ?_⟩; (focus ((try dsimp only at hSw); go_simp; try with_reducible rfl))) | (rw [if_neg (ne_true_of_eq_false (by rfl))]; refine hK _ ?_)); clear hK K; simp only [Act.put, List.setIfInBounds_toArray, List.set_cons_zero, List.set_cons_succ]))
          refine plan_run (fun K hK => ?_); simp only [List.getElem?_cons_succ, List.getElem?_cons_zero]; rw [if_pos (by rfl)]
          go_wp2_with fail
          refine (refWithout _ (rg L.rows m) x w0 _ _ own_it stays_in (by omega)).mono ?_
          rintro en w8 ⟨v8, rfl, hs8⟩
          rw [Hf.out] at hs8
          obtain ⟨a8, c8, rfl⟩ := hs8.slice_form
          clear hs5
          go_wp2_with fail
          refine ⟨fun _ => own_any2, ?_⟩
          iterate 1 (first | (refine plan_pure (fun K hK => ?_); simp only [List.getElem?_cons_succ, List.getElem?_cons_zero]; (first | (rw [if_pos (by rfl)]; apply Exists.intro; refine ⟨fun w hSw => ?_, hK _ ?_⟩; (focus (clear hSw; go_simp; try with_reducible rfl))) | (rw [if_neg (ne_true_of_eq_false (by rfl))]; refine hK _ ?_)); clear hK K; simp only [Act.put, List.setIfInBounds_toArray, List.set_cons_zero, List.set_cons_succ]) | (refine plan_read (fun K hK => ?_); simp only [List.getElem?_cons_succ, List.getElem?_cons_zero]; (first | (rw [if_pos (by rfl)]; apply Exists.intro; refine ⟨fun w hSw => ?_, hK _ ?_⟩; (focus ((try dsimp only at hSw); go_simp; try with_reducible rfl))) | (rw [if_neg (ne_true_of_eq_false (by rfl))]; refine hK _ ?_)); clear hK K; simp only [Act.put, List.setIfInBounds_toArray, List.set_cons_zero, List.set_cons_succ]))
          refine plan_run (fun K hK => ?_); simp only [List.getElem?_cons_succ, List.getElem?_cons_zero]; rw [if_pos (by rfl)]
          go_wp2_with fail
          refine ⟨fun h => absurd rfl h, ?_⟩
          refine plan_done ?_
          go_wp2_with fail
          go_ret2
          refine ⟨rfl, lrP_in (L := giveL L m x) (v0 := .slice a0 L.own.length c0) (v1 := .slice (some ⟨g1, o1, none⟩) L.ow.length c1) (v2 := .slice (some ⟨g2, o2, none⟩) L.rows.length c2) ?_⟩
          dsimp only [giveL]
          refine Sat.perm (Hback.out (.slice a8 ((rg L.rows m).erase x).length c8) ((rg L.rows m).erase x) (G := pts b 0 [.slice a0 L.own.length c0, .slice (some ⟨g1, o1, none⟩) L.ow.length c1, .slice (some ⟨g2, o2, none⟩) L.rows.length c2] * (numsP .i64 (.slice a0 L.own.length c0) L.own * (numsP .i64 (.slice (some ⟨g1, o1, none⟩) L.ow.length c1) (L.ow.set m x) * F))) ?_) (by ac_rfl)
          exact own_left
      · have d2 : (lg L.ow m != (t : Int)) = true := by simp [h4]
        have e := hid (unlockR_other h1 hm h4)
        clear hs hL h1 h3 h4 hg
        rw [e.out]
        go_enter Try.func39, Try.ntmps39
        go_wp2_with fail
        go_ret2
        exact ⟨rfl, Hs.out⟩
    · have e := hid (unlockR_none (m := m) h1 h3)
      clear hs hL h1 hg
      rw [e.out]
      by_cases hz : m < 0
      · have z1 : decide (m < 0) = true := decide_eq_true hz
        clear hz h3
        go_enter Try.func39, Try.ntmps39
        go_wp2_with fail
        go_ret2
        exact ⟨rfl, Hs.out⟩
      · have z1 : decide (m < 0) = false := decide_eq_false hz
        have z2 : decide ((L.ow.length : Int) ≤ m) = true := decide_eq_true (by omega)
        clear hz h3
        go_enter Try.func39, Try.ntmps39
        go_wp2_with fail
        go_ret2
        exact ⟨rfl, Hs.out⟩
  · have e := hid (unlockR_task (m := m) h1)
    clear hs hL hg
    rw [e.out]
    by_cases hz : t < 0
    · have z1 : decide (t < 0) = true := decide_eq_true hz
      clear hz h1
      go_enter Try.func39, Try.ntmps39
      go_wp2_with fail
      go_ret2
      exact ⟨rfl, Hs.out⟩
    · have z1 : decide (t < 0) = false := decide_eq_false hz
      have z2 : decide ((L.own.length : Int) ≤ t) = true := decide_eq_true (by omega)
      clear hz h1
      go_enter Try.func39, Try.ntmps39
      go_wp2_with fail
      go_ret2
      exact ⟨rfl, Hs.out⟩
end Go.Proofs.Ytfphgcplpokigaa
