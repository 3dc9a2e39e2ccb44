/-
  The reference's locks: the contracts of Lock, Unlock.
-/
import Derived.Test.YtfphgcplpokigaaLockV
import Derived.Test.YtfphgcplpokigaaRegionE
namespace Go.Proofs.Ytfphgcplpokigaa
open Go.RowKit Go.Sx Go.Lk
set_option linter.unusedSimpArgs false
set_option linter.unusedVariables false

set_option maxRecDepth 100000 in
set_option maxHeartbeats 8000000 in
theorem lrLock (b : Nat) (L : Lk) (t m : Int) (w0 w : World) (F : HP) (hs : Sat w0 w (lrP b L * F)) (hL : Fit L) :
    Calls Try.prog 38 #[.pointer (some ⟨b, 0, none⟩), .int .i64 t, .int .i64 m] w (RetV w0 (.tuple #[.bool (lockR L t m).1, .int .i64 (lockR L t m).2.1]) (lrP b (lockR L t m).2.2 * F)) := by
  have Hrd := hid (lrP_rd hs)
  have HL := hid hL
  have hn64 := hL.n
  have hm32 := hL.m
  have Hs := hid hs
  obtain ⟨a0, c0, a1, c1, a2, c2, hs1⟩ := lrP_out hs
  by_cases h1 : 0 ≤ t ∧ t < L.own.length
  · obtain ⟨t, rfl⟩ := Int.eq_ofNat_of_zero_le h1.1
    have ht : t < L.own.length := by omega
    have i1 : (t : Int) < (L.own.length : Int) := by omega
    have i2 : decide (t < L.own.length) = true := by simp; omega
    have i3 : decide (L.own.length ≤ t) = false := by simp; omega
    have hwt : Hid (waitsOf L t = lg L.on t) := by
      show (if 0 ≤ (t : Int) ∧ (t : Int) < (L.own.length : Int) then lg L.on (t : Int).toNat else -1) = _
      rw [if_pos ⟨by omega, by omega⟩]; rfl
    by_cases h2 : 0 ≤ lg L.on t
    · have e : Hid (lockR L t m = (false, 1, L)) := by unfold Hid lockR; rw [if_neg (Classical.not_not.2 h1), show Int.toNat (t : Int) = t by omega, if_pos h2]
      have d1 : decide (0 ≤ lg L.on t) = true := decide_eq_true h2
      clear hs hL h1 h2
      rw [e.out]
      go_enter Try.func38, Try.ntmps38
      go_wp2_with fail
      refine (lrWaits b L t _ Hrd.out HL.out).mono ?_
      rintro en w2 ⟨rfl, rfl⟩
      rw [hwt.out]
      go_wp2_with fail
      go_ret2
      exact ⟨rfl, Hs.out⟩
    · have d1 : decide (0 ≤ lg L.on t) = false := decide_eq_false h2
      by_cases h3 : 0 ≤ m ∧ m < L.ow.length
      · obtain ⟨m, rfl⟩ := Int.eq_ofNat_of_zero_le h3.1
        have hm : m < L.ow.length := by omega
        have j1 : (m : Int) < (L.ow.length : Int) := by omega
        have j2 : decide (m < L.ow.length) = true := by simp; omega
        have j3 : decide (L.ow.length ≤ m) = false := by simp; omega
        haveI : Lt m L.ow.length := ⟨hm⟩
        obtain ⟨g1, o1, rfl⟩ := Sat.someA (hs1.perm (by ac_rfl : _ = numsP .i64 (.slice a1 L.ow.length c1) L.ow * (pts b 0 [.slice a0 L.own.length c0, .slice a1 L.ow.length c1, .slice a2 L.rows.length c2] * (numsP .i64 (.slice a0 L.own.length c0) L.own * (rowsP (.slice a2 L.rows.length c2) L.rows * F))))) a1 (by omega)
        by_cases h4 : lg L.ow m = t
        · have e : Hid (lockR L t m = (false, 10, L)) := by
            unfold Hid lockR; rw [if_neg (Classical.not_not.2 h1), show Int.toNat (t : Int) = t by omega, if_neg h2, if_neg (Classical.not_not.2 h3), show Int.toNat (m : Int) = m by omega, if_pos h4]
          have d2 : (lg L.ow m == (t : Int)) = true := by simp [h4]
          clear hs hL h1 h2 h3 h4
          rw [e.out]
          go_enter Try.func38, Try.ntmps38
          go_wp2_with fail
          refine (lrWaits b L t _ Hrd.out HL.out).mono ?_
          rintro en w2 ⟨rfl, rfl⟩
          rw [hwt.out]
          go_wp2_with fail
          go_ret2
          exact ⟨rfl, Hs.out⟩
        · have d2 : (lg L.ow m == (t : Int)) = false := by simp [h4]
          by_cases h5 : lg L.ow m = 255
          · have e : Hid (lockR L t m = (true, 0, takeL L m t)) := by
              unfold Hid lockR; rw [if_neg (Classical.not_not.2 h1), show Int.toNat (t : Int) = t by omega, if_neg h2, if_neg (Classical.not_not.2 h3), show Int.toNat (m : Int) = m by omega, if_neg h4, if_pos h5]
            have d3 : (lg L.ow m == 255) = true := by simp [h5]
            clear hs hL h1 h2 h3 h4 h5
            rw [e.out]
            go_enter Try.func38, Try.ntmps38
            go_wp2_with fail
            refine (lrWaits b L t _ Hrd.out HL.out).mono ?_
            rintro en w2 ⟨rfl, rfl⟩
            rw [hwt.out]
            go_wp2_with fail
            go_ret2
            refine ⟨rfl, lrP_in (L := takeL L m t) (v0 := .slice a0 L.own.length c0) (v1 := .slice (some ⟨g1, o1, none⟩) L.ow.length c1) (v2 := .slice a2 L.rows.length c2) ?_⟩
            dsimp only [takeL]
            exact own_left
          · have d3 : (lg L.ow m == 255) = false := by simp [h5]
            obtain ⟨o, ho⟩ := Int.eq_ofNat_of_zero_le (show 0 ≤ lg L.ow m from by
              rcases hL.owr m hm with e | e
              · exact absurd e h5
              · exact e.1)
            have hol : o < L.own.length := by
              rcases hL.owr m hm with e | e
              · exact absurd e h5
              · have : lg L.ow m < L.own.length := e.2
                omega
            have Ho := hid ho
            have Hd : Hid (Go.Lk.Reach L o t ↔ Go.Lk.Reach L (lg L.ow m).toNat t) := by unfold Hid; rw [ho]; exact Iff.rfl
            by_cases h6 : Go.Lk.Reach L (lg L.ow m).toNat t
            · have e : Hid (lockR L t m = (false, 11, L)) := by
                unfold Hid lockR; rw [if_neg (Classical.not_not.2 h1), show Int.toNat (t : Int) = t by omega, if_neg h2, if_neg (Classical.not_not.2 h3), show Int.toNat (m : Int) = m by omega, if_neg h4, if_neg h5, if_pos h6]
              have H6 := hid h6
              clear hs hL h1 h2 h3 h4 h5 h6 ho
              rw [e.out]
              go_enter Try.func38, Try.ntmps38
              go_wp2_with fail
              refine (lrWaits b L t _ Hrd.out HL.out).mono ?_
              rintro en w2 ⟨rfl, rfl⟩
              rw [hwt.out]
              go_wp2_with fail
              rw [Ho.out]
              refine (lrCloses b L t o _ Hrd.out HL.out hol).mono ?_
              rintro en w3 ⟨rfl, rfl⟩
              rw [@decide_eq_true _ (Classical.propDecidable _) (Hd.out.2 H6.out)]
              go_wp2_with fail
              go_ret2
              exact ⟨rfl, Hs.out⟩
            · have e : Hid (lockR L t m = (false, 0, waitL L m t)) := by
                unfold Hid lockR; rw [if_neg (Classical.not_not.2 h1), show Int.toNat (t : Int) = t by omega, if_neg h2, if_neg (Classical.not_not.2 h3), show Int.toNat (m : Int) = m by omega, if_neg h4, if_neg h5, if_neg h6]
              have H6 := hid h6
              have hmr : m < L.rows.length := by rw [hL.lr]; exact hm
              have j4 : (m : Int) < (L.rows.length : Int) := by omega
              have j5 : decide (m < L.rows.length) = true := by simp; omega
              have hrl := rowOk_len (row_ok hL hm)
              clear hs hL h1 h2 h3 h4 h5 h6 ho
              rw [e.out]
              go_enter Try.func38, Try.ntmps38
              go_wp2_with fail
              refine (lrWaits b L t _ Hrd.out HL.out).mono ?_
              rintro en w2 ⟨rfl, rfl⟩
              rw [hwt.out]
              go_wp2_with fail
              rw [Ho.out]
              refine (lrCloses b L t o _ Hrd.out HL.out hol).mono ?_
              rintro en w3 ⟨rfl, rfl⟩
              rw [@decide_eq_false _ (Classical.propDecidable _) (fun h => H6.out (Hd.out.1 h))]
              have hs2 := hs1.perm (by ac_rfl : _ = rowsP (.slice a2 L.rows.length c2) L.rows * (pts b 0 [.slice a0 L.own.length c0, .slice (some ⟨g1, o1, none⟩) L.ow.length c1, .slice a2 L.rows.length c2] * (numsP .i64 (.slice a0 L.own.length c0) L.own * (numsP .i64 (.slice (some ⟨g1, o1, none⟩) L.ow.length c1) L.ow * F))))
              obtain ⟨g2, o2, c2', x, ev, R, hs3, hback⟩ := rowsP_at hs2 hmr
              cases ev
              obtain ⟨xa, xc, rfl⟩ := (Sat.pull hs3 (Q := numsP .i64 x (rg L.rows m))).slice_form
              have Hback : Hid (∀ {w1 w2 : World} {G : HP} (y : Value) (r : List Int), Sat w1 w2 (pts g2 (o2 + m) [y] * (numsP .i64 y r * (R * G))) → Sat w1 w2 (rowsP (.slice (some ⟨g2, o2, none⟩) L.rows.length c2) (L.rows.set m r) * G)) := hback
              clear hback hs2 hs1
              go_wp2_with fail
              refine wp_gen (w0 := w0) ?_
              intro w5 hs5
              clear hs3
              refine wp_region_wood (fun w' => Sat w0 w' (pts b 0 [.slice a0 L.own.length c0, .slice (some ⟨g1, o1, none⟩) L.ow.length c1, .slice (some ⟨g2, o2, none⟩) L.rows.length c2] * (pts g2 (o2 + m) [.slice xa (rg L.rows m).length xc] * any))) 18 ((.pure 0 (.pure 1 (.pure 2 (.load 3 (.pure 4 (.pure 6 (.pure 7 (.pure 8 (.load 9 (.pure 10 (.pure 11 (.load 12 (.pure 14 (.alt 5 (.alt 13 (.run 15 (.run 16 (.pure 17 (.run 18 .done)))) 15 (.run 13 (.run 16 (.pure 17 (.run 18 .done))))) 15 (.run 5 (.run 13 (.run 16 (.pure 17 (.run 18 .done)))))))))))))))))))) (by kernel_rfl) (by kernel_rfl) (fun _ _ _ _ h => h) own_any2 ?_
              iterate 13 (first | (refine wood_pure (fun K hK => ?_); simp only [List.getElem?_cons_succ, List.getElem?_cons_zero]; (first | (rw [if_pos (by rfl)]; apply Exists.intro; refine ⟨fun w hSw => ?_, hK _ ?_⟩; (focus (clear hSw; go_simp; try with_reducible rfl))) | (rw [if_neg (ne_true_of_eq_false (by rfl))]; refine hK _ ?_)); clear hK K; simp only [Act.put, List.setIfInBounds_toArray, List.set_cons_zero, List.set_cons_succ]) | (refine wood_load (fun K hK => ?_); simp only [List.getElem?_cons_succ, List.getElem?_cons_zero]; (first | (rw [if_pos (by rfl)]; apply Exists.intro; refine ⟨fun w hSw => ?_, hK _ ?_⟩; (focus ((try dsimp only at hSw); go_simp; try with_reducible rfl))) | (rw [if_neg (ne_true_of_eq_false (by rfl))]; refine hK _ ?_)); clear hK K; simp only [Act.put, List.setIfInBounds_toArray, List.set_cons_zero, List.set_cons_succ]))
              have fin : ∀ (bp : Option Addr) (bc : Nat) (wz : World), Sat w0 wz (pts g2 (o2 + m) [.slice bp ((rg L.rows m) ++ [(t : Int)]).length bc] * (numsP .i64 (.slice bp ((rg L.rows m) ++ [(t : Int)]).length bc) (rg L.rows m ++ [(t : Int)]) * (R * (pts b 0 [.slice a0 L.own.length c0, .slice (some ⟨g1, o1, none⟩) L.ow.length c1, .slice (some ⟨g2, o2, none⟩) L.rows.length c2] * (numsP .i64 (.slice a0 L.own.length c0) L.own * (numsP .i64 (.slice (some ⟨g1, o1, none⟩) L.ow.length c1) L.ow * F)))))) → Sat w0 wz (lrP b (waitL L m t) * F) := fun bp bc wz h => by
                have h2 := Hback.out _ _ h
                refine lrP_in (L := waitL L m t) (v0 := .slice a0 L.own.length c0) (v1 := .slice (some ⟨g1, o1, none⟩) L.ow.length c1) (v2 := .slice (some ⟨g2, o2, none⟩) L.rows.length c2) ?_
                dsimp only [waitL]
                exact h2.perm (by ac_rfl)
              have Fin := hid fin
              clear fin Hback
              refine wood_alt ?_ ?_
              · refine wood_run (fun K hK => ?_); simp only [List.getElem?_cons_succ, List.getElem?_cons_zero]; rw [if_pos (by rfl)]
                go_wp2_with fail
                refine ⟨fun _ => own_any2, ?_⟩
                refine wood_alt ?_ ?_
                · refine wood_run (fun K hK => ?_); simp only [List.getElem?_cons_succ, List.getElem?_cons_zero]; rw [if_pos (by rfl)]
                  refine wp_append_nums rfl rfl rfl (by omega) ?_; intro ap ac aL aw ahL ah1 ah2 ahs _
                  refine hK _ _ ⟨fun _ => own_any2, ?_⟩; clear hK K; simp only [Act.put, List.setIfInBounds_toArray, List.set_cons_zero, List.set_cons_succ]
                  refine wood_run (fun K hK => ?_); simp only [List.getElem?_cons_succ, List.getElem?_cons_zero]; rw [if_pos (by rfl)]
                  go_wp2_with fail
                  refine ⟨fun _ => own_any2, ?_⟩
                  refine wood_run (fun K hK => ?_); simp only [List.getElem?_cons_succ, List.getElem?_cons_zero]; rw [if_pos (by rfl)]
                  refine wp_append_nums rfl rfl rfl (by omega) ?_; intro bp bc bL bw bhL bh1 bh2 bhs _
                  refine hK _ _ ⟨fun _ => own_any2, ?_⟩; clear hK K; simp only [Act.put, List.setIfInBounds_toArray, List.set_cons_zero, List.set_cons_succ]
                  iterate 1 (first | (refine wood_pure (fun K hK => ?_); simp only [List.getElem?_cons_succ, List.getElem?_cons_zero]; (first | (rw [if_pos (by rfl)]; apply Exists.intro; refine ⟨fun w hSw => ?_, hK _ ?_⟩; (focus (clear hSw; go_simp; try with_reducible rfl))) | (rw [if_neg (ne_true_of_eq_false (by rfl))]; refine hK _ ?_)); clear hK K; simp only [Act.put, List.setIfInBounds_toArray, List.set_cons_zero, List.set_cons_succ]) | (refine wood_load (fun K hK => ?_); simp only [List.getElem?_cons_succ, List.getElem?_cons_zero]; (first | (rw [if_pos (by rfl)]; apply Exists.intro; refine ⟨fun w hSw => ?_, hK _ ?_⟩; (focus ((try dsimp only at hSw); go_simp; try with_reducible rfl))) | (rw [if_neg (ne_true_of_eq_false (by rfl))]; refine hK _ ?_)); clear hK K; simp only [Act.put, List.setIfInBounds_toArray, List.set_cons_zero, List.set_cons_succ]))
                  refine wood_run (fun K hK => ?_); simp only [List.getElem?_cons_succ, List.getElem?_cons_zero]; rw [if_pos (by rfl)]
                  go_wp2_with fail
                  refine ⟨fun h => absurd rfl h, ?_⟩
                  refine wood_done ?_
                  go_wp2_with fail
                  go_ret2
                  unfold Hid at ahL bhL
                  subst bhL ahL
                  simp only [List.nil_append] at bhs
                  try simp only [List.nil_append]
                  exact ⟨rfl, Fin.out bp bc _ own_left⟩
                · refine wood_run (fun K hK => ?_); simp only [List.getElem?_cons_succ, List.getElem?_cons_zero]; rw [if_pos (by rfl)]
                  go_wp2_with fail
                  refine ⟨fun _ => own_any2, ?_⟩
                  refine wood_run (fun K hK => ?_); simp only [List.getElem?_cons_succ, List.getElem?_cons_zero]; rw [if_pos (by rfl)]
                  refine wp_append_nums rfl rfl rfl (by omega) ?_; intro ap ac aL aw ahL ah1 ah2 ahs _
                  refine hK _ _ ⟨fun _ => own_any2, ?_⟩; clear hK K; simp only [Act.put, List.setIfInBounds_toArray, List.set_cons_zero, List.set_cons_succ]
                  refine wood_run (fun K hK => ?_); simp only [List.getElem?_cons_succ, List.getElem?_cons_zero]; rw [if_pos (by rfl)]
                  refine wp_append_nums rfl rfl rfl (by omega) ?_; intro bp bc bL bw bhL bh1 bh2 bhs _
                  refine hK _ _ ⟨fun _ => own_any2, ?_⟩; clear hK K; simp only [Act.put, List.setIfInBounds_toArray, List.set_cons_zero, List.set_cons_succ]
                  iterate 1 (first | (refine wood_pure (fun K hK => ?_); simp only [List.getElem?_cons_succ, List.getElem?_cons_zero]; (first | (rw [if_pos (by rfl)]; apply Exists.intro; refine ⟨fun w hSw => ?_, hK _ ?_⟩; (focus (clear hSw; go_simp; try with_reducible rfl))) | (rw [if_neg (ne_true_of_eq_false (by rfl))]; refine hK _ ?_)); clear hK K; simp only [Act.put, List.setIfInBounds_toArray, List.set_cons_zero, List.set_cons_succ]) | (refine wood_load (fun K hK => ?_); simp only [List.getElem?_cons_succ, List.getElem?_cons_zero]; (first | (rw [if_pos (by rfl)]; apply Exists.intro; refine ⟨fun w hSw => ?_, hK _ ?_⟩; (focus ((try dsimp only at hSw); go_simp; try with_reducible rfl))) | (rw [if_neg (ne_true_of_eq_false (by rfl))]; refine hK _ ?_)); clear hK K; simp only [Act.put, List.setIfInBounds_toArray, List.set_cons_zero, List.set_cons_succ]))
                  refine wood_run (fun K hK => ?_); simp only [List.getElem?_cons_succ, List.getElem?_cons_zero]; rw [if_pos (by rfl)]
                  go_wp2_with fail
                  refine ⟨fun h => absurd rfl h, ?_⟩
                  refine wood_done ?_
                  go_wp2_with fail
                  go_ret2
                  unfold Hid at ahL bhL
                  subst bhL ahL
                  simp only [List.nil_append] at bhs
                  try simp only [List.nil_append]
                  exact ⟨rfl, Fin.out bp bc _ own_left⟩
              · refine wood_run (fun K hK => ?_); simp only [List.getElem?_cons_succ, List.getElem?_cons_zero]; rw [if_pos (by rfl)]
                go_wp2_with fail
                refine ⟨fun _ => own_any2, ?_⟩
                refine wood_run (fun K hK => ?_); simp only [List.getElem?_cons_succ, List.getElem?_cons_zero]; rw [if_pos (by rfl)]
                go_wp2_with fail
                refine ⟨fun _ => own_any2, ?_⟩
                refine wood_run (fun K hK => ?_); simp only [List.getElem?_cons_succ, List.getElem?_cons_zero]; rw [if_pos (by rfl)]
                refine wp_append_nums rfl rfl rfl (by omega) ?_; intro ap ac aL aw ahL ah1 ah2 ahs _
                refine hK _ _ ⟨fun _ => own_any2, ?_⟩; clear hK K; simp only [Act.put, List.setIfInBounds_toArray, List.set_cons_zero, List.set_cons_succ]
                refine wood_run (fun K hK => ?_); simp only [List.getElem?_cons_succ, List.getElem?_cons_zero]; rw [if_pos (by rfl)]
                refine wp_append_nums rfl rfl rfl (by omega) ?_; intro bp bc bL bw bhL bh1 bh2 bhs _
                refine hK _ _ ⟨fun _ => own_any2, ?_⟩; clear hK K; simp only [Act.put, List.setIfInBounds_toArray, List.set_cons_zero, List.set_cons_succ]
                iterate 1 (first | (refine wood_pure (fun K hK => ?_); simp only [List.getElem?_cons_succ, List.getElem?_cons_zero]; (first | (rw [if_pos (by rfl)]; apply Exists.intro; refine ⟨fun w hSw => ?_, hK _ ?_⟩; (focus (clear hSw; go_simp; try with_reducible rfl))) | (rw [if_neg (ne_true_of_eq_false (by rfl))]; refine hK _ ?_)); clear hK K; simp only [Act.put, List.setIfInBounds_toArray, List.set_cons_zero, List.set_cons_succ]) | (refine wood_load (fun K hK => ?_); simp only [List.getElem?_cons_succ, List.getElem?_cons_zero]; (first | (rw [if_pos (by rfl)]; apply Exists.intro; refine ⟨fun w hSw => ?_, hK _ ?_⟩; (focus ((try dsimp only at hSw); go_simp; try with_reducible rfl))) | (rw [if_neg (ne_true_of_eq_false (by rfl))]; refine hK _ ?_)); clear hK K; simp only [Act.put, List.setIfInBounds_toArray, List.set_cons_zero, List.set_cons_succ]))
                refine wood_run (fun K hK => ?_); simp only [List.getElem?_cons_succ, List.getElem?_cons_zero]; rw [if_pos (by rfl)]
                go_wp2_with fail
                refine ⟨fun h => absurd rfl h, ?_⟩
                refine wood_done ?_
                go_wp2_with fail
                go_ret2
                unfold Hid at ahL bhL
                subst bhL ahL
                simp only [List.nil_append] at bhs
                try simp only [List.nil_append]
                exact ⟨rfl, Fin.out bp bc _ own_left⟩
      · have e : Hid (lockR L t m = (false, 15, L)) := by
          unfold Hid lockR; rw [if_neg (Classical.not_not.2 h1), show Int.toNat (t : Int) = t by omega, if_neg h2, if_pos h3]
        clear hs hL h1 h2
        rw [e.out]
        by_cases hz : m < 0
        · have z1 : decide (m < 0) = true := decide_eq_true hz
          clear hz h3
          go_enter Try.func38, Try.ntmps38
          go_wp2_with fail
          refine (lrWaits b L t _ Hrd.out HL.out).mono ?_
          rintro en w2 ⟨rfl, rfl⟩
          rw [hwt.out]
          go_wp2_with fail
          go_ret2
          exact ⟨rfl, Hs.out⟩
        · have z1 : decide (m < 0) = false := decide_eq_false hz
          have z2 : decide ((L.ow.length : Int) ≤ m) = true := decide_eq_true (by omega)
          clear hz h3
          go_enter Try.func38, Try.ntmps38
          go_wp2_with fail
          refine (lrWaits b L t _ Hrd.out HL.out).mono ?_
          rintro en w2 ⟨rfl, rfl⟩
          rw [hwt.out]
          go_wp2_with fail
          go_ret2
          exact ⟨rfl, Hs.out⟩
  · have e : Hid (lockR L t m = (false, 1, L)) := by unfold Hid lockR; rw [if_pos h1]
    clear hs hL
    rw [e.out]
    by_cases hz : t < 0
    · have z1 : decide (t < 0) = true := decide_eq_true hz
      clear hz h1
      go_enter Try.func38, Try.ntmps38
      go_wp2_with fail
      go_ret2
      exact ⟨rfl, Hs.out⟩
    · have z1 : decide (t < 0) = false := decide_eq_false hz
      have z2 : decide ((L.own.length : Int) ≤ t) = true := decide_eq_true (by omega)
      clear hz h1
      go_enter Try.func38, Try.ntmps38
      go_wp2_with fail
      go_ret2
      exact ⟨rfl, Hs.out⟩
end Go.Proofs.Ytfphgcplpokigaa
