/-
  The walk of SemaPlays.
-/
import Derived.Test.YtbnfkfbebnkdnaaSemaLawA
import Derived.Test.YtbnfkfbebnkdnaaWaitLawA
import Derived.Test.YtbnfkfbebnkdnaaLawB
import Derived.Test.YtbnfkfbebnkdnaaRegion
import Derived.Deep.DeepCutAuto
import Derived.Deep.CutBlock
namespace Go.Proofs.Ytbnfkfbebnkdnaa
open Go.RowKit Go.Sx

set_option linter.unusedSimpArgs false in
set_option maxRecDepth 100000 in
set_option maxHeartbeats 8000000 in
theorem semaPlays_walk (u : Int) (v1 : Value) (l1 : List Int) (v0 : Value) (n0 : Nat) (f0 : Nat → Nat → Int) (w0 : World) (_z0 : (Lit.int .i64 u).wf = true) (h1 : RdN .i64 w0 v1 l1) (_z1 : ∀ n ∈ l1, (Lit.int .i64 n).wf = true) (h0 : RdK [.i64, .i64] w0 v0 n0 f0) :
    Calls Try.prog 10 #[.int .i64 u, v1, v0] w0 (RetV w0 (.bool true) emp) := by
  have hs := Sat.start w0
  have r1 := h1.stays emp
  obtain ⟨a, cap, b, off, rfl, hcap, hbig, ha, hc⟩ := id h0
  obtain ⟨la, lcap, lb, loff, rfl, hlcap, hlbig, hla, hlc⟩ := id h1
  unfold maxLen at hbig hlbig
  by_cases hu : 0 ≤ u ∧ u ≤ 255
  · have du : decide (0 ≤ u) = true := by simp; omega
    have du2 : decide (u ≤ 255) = true := by simp; omega
    by_cases c1 : 100 < l1.length
    · have d1 : decide ((100 : Int) < (l1.length : Int)) = true := by simp; omega
      go_enter Try.func10, Try.ntmps10
      go_wp2_with fail
      refine (semNew_yes u w0 _ _ hs hu).mono ?_
      rintro e w1 ⟨rfl, hs1⟩
      go_wp2_with fail
      refine (semaAwake w0 _ _ hs1).mono ?_
      rintro e w2 ⟨rfl, hs2⟩
      go_wp2_with fail
      go_ret
      exact ⟨rfl, hs2.drop⟩
    · have d1 : decide ((100 : Int) < (l1.length : Int)) = false := by simp; omega
      by_cases c2 : 400 < n0
      · have d2 : decide ((400 : Int) < (n0 : Int)) = true := by simp; omega
        go_enter Try.func10, Try.ntmps10
        go_wp2_with fail
        refine (semNew_yes u w0 _ _ hs hu).mono ?_
        rintro e w1 ⟨rfl, hs1⟩
        go_wp2_with fail
        refine (semaAwake w0 _ _ hs1).mono ?_
        rintro e w2 ⟨rfl, hs2⟩
        go_wp2_with fail
        go_ret
        exact ⟨rfl, hs2.drop⟩
      · have d2 : decide ((400 : Int) < (n0 : Int)) = false := by simp; omega
        go_enter Try.func10, Try.ntmps10
        go_wp2_with fail
        refine (semNew_yes u w0 _ _ hs hu).mono ?_
        rintro e w1 ⟨rfl, hs1⟩
        go_wp2_with fail
        refine (semaAwake w0 _ _ hs1).mono ?_
        rintro e w2 ⟨rfl, hs2⟩
        go_wp2_with fail
        have hs3 : Sat w0 _ (pts w2.heap.size 0 [.int .i64 u, .slice none 0 0] * (semP w0.heap.size u [] * emp)) := hs2.alloc #[.int .i64 u, .slice none 0 0] 55
        have hs3 := (hs3.slice_nil 1).perm (by ac_rfl : _ = pts w2.heap.size 0 [.int .i64 u, .slice none 0 0] * (sliceP 1 (.slice none 0 0) 0 [] * (semP w0.heap.size u [] * emp)))
        have hs3 := rsemP_in (l := []) hs3
        generalize w2.heap.size = rb at *
        go_loopw [67] (fun i wr => ∃ (k : Nat) (x : Int) (l : List Int), k ≤ n0 ∧ i = .int .i64 k ∧ SemOk x l ∧ Sat w0 wr (rsemP rb x l * (semP w0.heap.size x l * emp))) (fun i _ => n0 - (intOf i).toNat)
        case atStart => exact ⟨0, u, [], Nat.zero_le _, rfl, semOk_new hu, hs3⟩
        case round =>
          obtain ⟨k, x, l, hk, rfl, hok, hs4⟩ := hrel
          clear hs hs1 hs2 hs3
          by_cases hlt : k < n0
          · obtain rfl := ha (by omega)
            have k0 := hs4.keep (hc k 0 _ hlt rfl).1
            have k1 := hs4.keep (hc k 1 _ hlt rfl).1
            simp only [List.length_cons, List.length_nil, Nat.zero_add, Nat.add_zero, ← Nat.add_assoc] at k0 k1
            generalize f0 k 0 = kd at *
            generalize f0 k 1 = tk at *
            have hs5 : Sat w0 (wr.alloc (.cells #[.int .i64 kd, .int .i64 tk] 56)) (pts wr.heap.size 0 [.int .i64 kd, .int .i64 tk] * (rsemP rb x l * (semP w0.heap.size x l * emp))) := hs4.alloc _ _
            clear hs4
            go_upto_block 2 with fail
            go_cut [67] (fun iv wx => ∃ (x' : Int) (l' : List Int), iv = .int .i64 k ∧ SemOk x' l' ∧ Sat w0 wx (semP w0.heap.size x' l' * (rsemP rb x' l' * (pts wr.heap.size 0 [.int .i64 kd, .int .i64 tk] * emp))))
            case first =>
              have c01 := hs5.c01
              have hs6 := hs5.perm (by ac_rfl : _ = semP w0.heap.size x l * (rsemP rb x l * (pts wr.heap.size 0 [.int .i64 kd, .int .i64 tk] * emp)))
              generalize wr.heap.size = nb at *
              generalize wr.alloc (.cells #[.int .i64 kd, .int .i64 tk] 56) = wq at *
              by_cases k1 : kd = 1
              · subst k1
                have hok2 := semOk_take hok
                go_wp2_with fail
                refine (semTake_c _ _ _ _ _ _ hs6 hok).mono ?_
                rintro e w3 ⟨rfl, hs7⟩
                have hs8 := hs7.perm (by ac_rfl : _ = rsemP rb x l * (semP w0.heap.size (takeU x) l * (pts nb 0 [.int .i64 1, .int .i64 tk] * emp)))
                go_wp2_with fail
                refine (rsemTake_c _ _ _ _ _ _ hs8 hok).mono ?_
                rintro e w4 ⟨rfl, hs9⟩
                generalize takeE x = ee
                have hb : (ee != ee) = false := by simp
                go_wp2_with fail
                go_meet
                exact ⟨takeU x, l, rfl, hok2, hs9.perm (by ac_rfl)⟩
              · have b1 : (kd == 1) = false := by simp [k1]
                by_cases k2 : kd = 2
                · subst k2
                  have hok2 := semOk_await hok tk
                  go_wp2_with fail
                  refine wp_region_early (fun w' => w'.cell? ⟨nb, 1, none⟩ = some (.int .i64 tk)) [(0, true), (1, true), (2, true), (4, true), (5, true), (6, true), (3, false), (7, false), (8, true)] (by kernel_rfl) (by kernel_rfl) (fun _ _ _ _ h => h) c01 ?_
                  iterate 6 (refine early_read (fun K hK => ?_); simp only [List.getElem?_cons_succ, List.getElem?_cons_zero]; (first | (rw [if_pos (by rfl)]; apply Exists.intro; refine ⟨fun w hSw => ?_, hK _ ?_⟩; (focus ((try dsimp only at hSw); go_simp; try with_reducible rfl))) | (rw [if_neg (ne_true_of_eq_false (by rfl))]; refine hK _ ?_)); clear hK K; simp only [Act.put, List.setIfInBounds_toArray, List.set_cons_zero, List.set_cons_succ])
                  refine early_run (fun K hK => ?_)
                  simp only [List.getElem?_cons_succ, List.getElem?_cons_zero]
                  rw [if_pos (by rfl)]
                  go_wp2_with fail
                  refine (semAwait_c _ _ _ tk _ _ _ hs6.drew hok).mono ?_
                  rintro e w3 ⟨rfl, hs7⟩
                  have hs8 := hs7.perm (by ac_rfl : _ = rsemP rb x l * (semP w0.heap.size x (awaitL x l tk) * (pts nb 0 [.int .i64 2, .int .i64 tk] * emp)))
                  have cA := (hs7.perm (by ac_rfl : _ = pts nb 0 [.int .i64 2, .int .i64 tk] * (semP w0.heap.size x (awaitL x l tk) * (rsemP rb x l * emp)))).c01
                  go_wp2_with fail
                  refine ⟨cA, ?_⟩
                  refine early_run (fun K hK => ?_)
                  simp only [List.getElem?_cons_succ, List.getElem?_cons_zero]
                  rw [if_pos (by rfl)]
                  go_wp2_with fail
                  refine (rsemAwait_c _ _ _ tk _ _ _ hs8 hok).mono ?_
                  rintro e w4 ⟨rfl, hs9⟩
                  have cB := (hs9.perm (by ac_rfl : _ = pts nb 0 [.int .i64 2, .int .i64 tk] * (semP w0.heap.size x (awaitL x l tk) * (rsemP rb x (awaitL x l tk) * emp)))).c01
                  generalize awaitE x l tk = ee
                  have hb : (ee != ee) = false := by simp
                  go_wp2_with fail
                  refine ⟨cB, ?_⟩
                  iterate 1 (refine early_read (fun K hK => ?_); simp only [List.getElem?_cons_succ, List.getElem?_cons_zero]; (first | (rw [if_pos (by rfl)]; apply Exists.intro; refine ⟨fun w hSw => ?_, hK _ ?_⟩; (focus ((try dsimp only at hSw); go_simp; try with_reducible rfl))) | (rw [if_neg (ne_true_of_eq_false (by rfl))]; refine hK _ ?_)); clear hK K; simp only [Act.put, List.setIfInBounds_toArray, List.set_cons_zero, List.set_cons_succ])
                  refine early_done ?_
                  go_wp2_with fail
                  go_meet
                  exact ⟨x, awaitL x l tk, rfl, hok2, hs9.perm (by ac_rfl)⟩
                · have b2 : (kd == 2) = false := by simp [k2]
                  by_cases k3 : kd = 3
                  · subst k3
                    have hok2 := semOk_post hok l1
                    have hnw := (r1.rd (hs6.perm (by ac_rfl : _ = semP w0.heap.size x l * (rsemP rb x l * pts nb 0 [.int .i64 3, .int .i64 tk]) * emp))).news
                    go_wp2_with (at_builtin; refine wpList_append_sat (by rfl) (.tmp 95) (.tmp 96) (by rfl) elemI (by rfl) (hs6.empty_slice 1 3) la l1.length lcap (l1.map (Value.int .i64)) (by rfl) (by simp) hnw.2.1 (fun a' ha' j u hj => cell_alloc (hnw.2.2 a' ha' j u hj) _) (oneCell_ints l1) (by unfold maxLen; omega) (by omega) ?_)
                    intro v' w3 hs7 _
                    clear hnw
                    have hs8 : Sat w0 w3 (numsP .i64 v' l1 * (semP w0.heap.size x l * (rsemP rb x l * (pts nb 0 [.int .i64 3, .int .i64 tk] * emp)))) := by simpa [numsP] using hs7
                    clear hs7 hs6 hs5
                    have rv := hs8.rdN
                    have hs9 := hs8.perm (by ac_rfl : _ = semP w0.heap.size x l * (rsemP rb x l * (numsP .i64 v' l1 * (pts nb 0 [.int .i64 3, .int .i64 tk] * emp))))
                    clear c01 hs8
                    obtain ⟨a', cap', b', off', rfl, -, -, -, -⟩ := id rv
                    go_wp2_with fail
                    refine (semPost_c _ _ _ _ l1 _ _ _ hs9 rv hok).mono ?_
                    rintro e w4 ⟨rfl, hsA⟩
                    clear hs9 rv
                    have hsB := hsA.perm (by ac_rfl : _ = rsemP rb x l * (semP w0.heap.size (postU x l) (postL l1 l) * (numsP .i64 (.slice a' l1.length cap') l1 * (pts nb 0 [.int .i64 3, .int .i64 tk] * emp))))
                    have rl := r1.rd (hsA.perm (by ac_rfl : _ = semP w0.heap.size (postU x l) (postL l1 l) * (rsemP rb x l * (numsP .i64 (.slice a' l1.length cap') l1 * pts nb 0 [.int .i64 3, .int .i64 tk])) * emp))
                    go_wp2_with fail
                    refine (rsemPost_c _ _ _ _ l1 _ _ _ hsB rl hok).mono ?_
                    rintro e w5 ⟨rfl, hsC⟩
                    clear hsB hsA rl
                    generalize postT l1 l = tt
                    generalize postE x l = ee
                    have hb : (ee != ee) = false := by simp
                    have hb2 : (tt != tt) = false := by simp
                    go_wp2_with fail
                    go_meet
                    exact ⟨postU x l, postL l1 l, rfl, hok2, (hsC.perm (by ac_rfl : _ = numsP .i64 (.slice a' l1.length cap') l1 * (semP w0.heap.size (postU x l) (postL l1 l) * (rsemP rb (postU x l) (postL l1 l) * (pts nb 0 [.int .i64 3, .int .i64 tk] * emp))))).drop⟩
                  · have b3 : (kd == 3) = false := by simp [k3]
                    by_cases k4 : kd = 4
                    · subst k4
                      have hok2 := semOk_cancel hok tk
                      go_wp2_with fail
                      refine wp_region_early (fun w' => w'.cell? ⟨nb, 1, none⟩ = some (.int .i64 tk)) [(0, true), (1, true), (2, true), (4, true), (5, true), (6, true), (3, false), (7, false), (8, true)] (by kernel_rfl) (by kernel_rfl) (fun _ _ _ _ h => h) c01 ?_
                      iterate 6 (refine early_read (fun K hK => ?_); simp only [List.getElem?_cons_succ, List.getElem?_cons_zero]; (first | (rw [if_pos (by rfl)]; apply Exists.intro; refine ⟨fun w hSw => ?_, hK _ ?_⟩; (focus ((try dsimp only at hSw); go_simp; try with_reducible rfl))) | (rw [if_neg (ne_true_of_eq_false (by rfl))]; refine hK _ ?_)); clear hK K; simp only [Act.put, List.setIfInBounds_toArray, List.set_cons_zero, List.set_cons_succ])
                      refine early_run (fun K hK => ?_)
                      simp only [List.getElem?_cons_succ, List.getElem?_cons_zero]
                      rw [if_pos (by rfl)]
                      go_wp2_with fail
                      refine (semCancel_c _ _ _ tk _ _ _ hs6.drew hok).mono ?_
                      rintro e w3 ⟨rfl, hs7⟩
                      have hs8 := hs7.perm (by ac_rfl : _ = rsemP rb x l * (semP w0.heap.size x (l.erase tk) * (pts nb 0 [.int .i64 4, .int .i64 tk] * emp)))
                      have cA := (hs7.perm (by ac_rfl : _ = pts nb 0 [.int .i64 4, .int .i64 tk] * (semP w0.heap.size x (l.erase tk) * (rsemP rb x l * emp)))).c01
                      go_wp2_with fail
                      refine ⟨cA, ?_⟩
                      refine early_run (fun K hK => ?_)
                      simp only [List.getElem?_cons_succ, List.getElem?_cons_zero]
                      rw [if_pos (by rfl)]
                      go_wp2_with fail
                      refine (rsemCancel_c _ _ _ tk _ _ _ hs8 hok).mono ?_
                      rintro e w4 ⟨rfl, hs9⟩
                      have cB := (hs9.perm (by ac_rfl : _ = pts nb 0 [.int .i64 4, .int .i64 tk] * (semP w0.heap.size x (l.erase tk) * (rsemP rb x (l.erase tk) * emp)))).c01
                      generalize decide (tk ∈ l) = ee
                      have hb : (ee != ee) = false := by simp
                      go_wp2_with fail
                      refine ⟨cB, ?_⟩
                      iterate 1 (refine early_read (fun K hK => ?_); simp only [List.getElem?_cons_succ, List.getElem?_cons_zero]; (first | (rw [if_pos (by rfl)]; apply Exists.intro; refine ⟨fun w hSw => ?_, hK _ ?_⟩; (focus ((try dsimp only at hSw); go_simp; try with_reducible rfl))) | (rw [if_neg (ne_true_of_eq_false (by rfl))]; refine hK _ ?_)); clear hK K; simp only [Act.put, List.setIfInBounds_toArray, List.set_cons_zero, List.set_cons_succ])
                      refine early_done ?_
                      go_wp2_with fail
                      go_meet
                      exact ⟨x, l.erase tk, rfl, hok2, hs9.perm (by ac_rfl)⟩
                    · have b4 : (kd == 4) = false := by simp [k4]
                      go_wp2_with fail
                      go_meet
                      exact ⟨x, l, rfl, hok, hs6⟩
            case rest =>
              obtain ⟨x', l', rfl, hok', hs6⟩ := hcut
              clear hs5 k0 k1
              generalize wr.heap.size = nb at *
              obtain ⟨v', hs6⟩ := (hs6.perm (by ac_rfl : _ = rsemP rb x' l' * (semP w0.heap.size x' l' * (pts nb 0 [.int .i64 kd, .int .i64 tk] * emp)))).ex_out
              have hs7 := hs6.perm (by ac_rfl : _ = pts rb 0 [.int .i64 x', v'] * (numsP .i64 v' l' * (semP w0.heap.size x' l' * (pts nb 0 [.int .i64 kd, .int .i64 tk] * emp))))
              obtain ⟨a6, cap6, rfl⟩ := (hs6.perm (by ac_rfl : _ = numsP .i64 v' l' * (pts rb 0 [.int .i64 x', v'] * (semP w0.heap.size x' l' * (pts nb 0 [.int .i64 kd, .int .i64 tk] * emp))))).slice_form
              have hs8 := (hs7.perm (by ac_rfl : _ = semP w0.heap.size x' l' * (pts rb 0 [.int .i64 x', .slice a6 l'.length cap6] * (numsP .i64 (.slice a6 l'.length cap6) l' * (pts nb 0 [.int .i64 kd, .int .i64 tk] * emp))))).drew
              have q0 := hs7.c0
              have q1 := hs7.c01
              have hx : (x' != x') = false := by simp
              clear hs6
              go_wp2_with fail
              refine wp_region_early (fun w' => w'.cell? ⟨rb, 0, none⟩ = some (.int .i64 x') ∧ w'.cell? ⟨rb, 1, none⟩ = some (.slice a6 l'.length cap6)) [(0, true), (2, true), (3, true), (4, true), (5, true), (1, false), (6, true), (7, true), (8, true), (10, true), (11, true), (12, true), (13, true), (9, false), (14, false), (15, true), (16, true)] (by kernel_rfl) (by kernel_rfl) (fun _ _ _ _ h => h) ⟨q0, q1⟩ ?_
              iterate 5 (refine early_read (fun K hK => ?_); simp only [List.getElem?_cons_succ, List.getElem?_cons_zero]; (first | (rw [if_pos (by rfl)]; apply Exists.intro; refine ⟨fun w hSw => ?_, hK _ ?_⟩; (focus ((try dsimp only at hSw); obtain ⟨hSw, hSw2⟩ := hSw; go_simp; try with_reducible rfl))) | (rw [if_neg (ne_true_of_eq_false (by rfl))]; refine hK _ ?_)); clear hK K; simp only [Act.put, List.setIfInBounds_toArray, List.set_cons_zero, List.set_cons_succ])
              refine early_run (fun K hK => ?_)
              simp only [List.getElem?_cons_succ, List.getElem?_cons_zero]
              rw [if_pos (by rfl)]
              go_wp2_with fail
              refine (semUnits_c _ _ _ _ _ _ hs8).mono ?_
              rintro e w3 ⟨rfl, rfl⟩
              go_wp2_with fail
              refine ⟨⟨q0, q1⟩, ?_⟩
              iterate 7 (refine early_read (fun K hK => ?_); simp only [List.getElem?_cons_succ, List.getElem?_cons_zero]; (first | (rw [if_pos (by rfl)]; apply Exists.intro; refine ⟨fun w hSw => ?_, hK _ ?_⟩; (focus ((try dsimp only at hSw); obtain ⟨hSw, hSw2⟩ := hSw; go_simp; try with_reducible rfl))) | (rw [if_neg (ne_true_of_eq_false (by rfl))]; refine hK _ ?_)); clear hK K; simp only [Act.put, List.setIfInBounds_toArray, List.set_cons_zero, List.set_cons_succ])
              refine early_run (fun K hK => ?_)
              simp only [List.getElem?_cons_succ, List.getElem?_cons_zero]
              rw [if_pos (by rfl)]
              go_wp2_with fail
              refine (semWaiting_c _ _ _ _ _ _ hs8 hok').mono ?_
              rintro e w3 ⟨v3, rfl, hs9⟩
              have hsA := hs9.perm (by ac_rfl : _ = pts rb 0 [.int .i64 x', .slice a6 l'.length cap6] * (numsP .i64 (.slice a6 l'.length cap6) l' * (numsP .i64 v3 l' * (semP w0.heap.size x' l' * (pts nb 0 [.int .i64 kd, .int .i64 tk] * emp)))))
              have hsB := hsA.perm (by ac_rfl : _ = numsP .i64 (.slice a6 l'.length cap6) l' * (pts rb 0 [.int .i64 x', .slice a6 l'.length cap6] * (numsP .i64 v3 l' * (semP w0.heap.size x' l' * (pts nb 0 [.int .i64 kd, .int .i64 tk] * emp)))))
              have q0' := hsA.c0
              have q1' := hsA.c01
              go_wp2_with fail
              refine ⟨⟨q0', q1'⟩, ?_⟩
              refine early_run (fun K hK => ?_)
              simp only [List.getElem?_cons_succ, List.getElem?_cons_zero]
              rw [if_pos (by rfl)]
              go_wp2_with fail
              refine (ints _ _ l' l' _ hs9.rdN hsB.rdN).mono ?_
              rintro e w7 ⟨rfl, n7, rfl⟩
              rw [decide_eq_true (rfl : (l' : List Int) = l')]
              go_wp2_with fail
              refine ⟨⟨q0', q1'⟩, ?_⟩
              iterate 2 (refine early_read (fun K hK => ?_); simp only [List.getElem?_cons_succ, List.getElem?_cons_zero]; (first | (rw [if_pos (by rfl)]; apply Exists.intro; refine ⟨fun w hSw => ?_, hK _ ?_⟩; (focus ((try dsimp only at hSw); obtain ⟨hSw, hSw2⟩ := hSw; go_simp; try with_reducible rfl))) | (rw [if_neg (ne_true_of_eq_false (by rfl))]; refine hK _ ?_)); clear hK K; simp only [Act.put, List.setIfInBounds_toArray, List.set_cons_zero, List.set_cons_succ])
              refine early_done ?_
              go_wp2_with fail
              go_roundw
              case rel => exact ⟨k + 1, x', l', by omega, by go_num, hok', (rsemP_in (hsA.drewN n7)).perm (by ac_rfl : _ = numsP .i64 v3 l' * (pts nb 0 [.int .i64 kd, .int .i64 tk] * (rsemP rb x' l' * (semP w0.heap.size x' l' * emp)))) |>.drop.drop⟩
              case measure => simp [intOf]; omega
          · go_wp2_with fail
            go_ret
            exact ⟨rfl, hs4.drop.drop⟩
  · by_cases hu1 : 0 ≤ u
    · have du : decide (0 ≤ u) = true := by simp; omega
      have du2 : decide (u ≤ 255) = false := by simp; omega
      go_enter Try.func10, Try.ntmps10
      go_wp2_with fail
      refine (semNew_no u _ hu).mono ?_
      rintro e w1 ⟨rfl, rfl⟩
      go_wp2_with fail
      refine (semaAwake w0 _ _ hs).mono ?_
      rintro e w2 ⟨rfl, hs2⟩
      go_wp2_with fail
      go_ret
      exact ⟨rfl, hs2⟩
    · have du : decide (0 ≤ u) = false := by simp; omega
      go_enter Try.func10, Try.ntmps10
      go_wp2_with fail
      refine (semNew_no u _ hu).mono ?_
      rintro e w1 ⟨rfl, rfl⟩
      go_wp2_with fail
      refine (semaAwake w0 _ _ hs).mono ?_
      rintro e w2 ⟨rfl, hs2⟩
      go_wp2_with fail
      go_ret
      exact ⟨rfl, hs2⟩
end Go.Proofs.Ytbnfkfbebnkdnaa
