/-
  The walk of MailPlays.
-/
import Derived.Test.YtbnfkfbebnkdnaaMailLawA
import Derived.Test.YtbnfkfbebnkdnaaMailT
namespace Go.Proofs.Ytbnfkfbebnkdnaa
open Go.RowKit Go.Sx

set_option linter.unusedSimpArgs false in
set_option maxRecDepth 100000 in
set_option maxHeartbeats 16000000 in
theorem mailPlays_walk (u : Int) (v1 : Value) (l1 : List Int) (v0 : Value) (n0 : Nat) (f0 : Nat → Nat → Int) (w0 : World) (_z0 : (Lit.int .i64 u).wf = true) (h1 : RdN .i64 w0 v1 l1) (_z1 : ∀ n ∈ l1, (Lit.int .i64 n).wf = true) (h0 : RdK [.i64, .i64, .u32] w0 v0 n0 f0) :
    Calls Try.prog 15 #[.int .i64 u, v1, v0] w0 (RetV w0 (.bool true) emp) := by
  have hs := Sat.start w0
  haveI r1 : OldR w0 .i64 v1 l1 := ⟨h1⟩
  obtain ⟨a, cap, b, off, rfl, hcap, hbig, ha, hc⟩ := id h0
  obtain ⟨la, lcap, lb, loff, rfl, hlcap, hlbig, hla, hlc⟩ := id h1
  unfold maxLen at hbig hlbig
  by_cases hu : 1 ≤ u ∧ u ≤ 64
  · obtain ⟨room, rfl⟩ := Int.eq_ofNat_of_zero_le (show 0 ≤ u by omega)
    have du : decide ((1 : Int) ≤ (room : Int)) = true := by rw [decide_eq_true_iff]; omega
    have du2 : decide ((room : Int) ≤ 64) = true := by rw [decide_eq_true_iff]; omega
    by_cases c1 : 100 < l1.length
    · have d1 : decide ((100 : Int) < (l1.length : Int)) = true := by simp; omega
      go_enter Try.func15, Try.ntmps15
      go_wp2_with fail
      refine (mailNew_yes room _ rfl w0 _ _ hs hu).mono ?_
      rintro e w1 ⟨rfl, hs1⟩
      go_wp2_with fail
      refine (mailAwake w0 _ _ hs1).mono ?_
      rintro e w2 ⟨rfl, hs2⟩
      go_wp2_with fail
      go_ret
      exact ⟨rfl, hs2.left⟩
    · have d1 : decide ((100 : Int) < (l1.length : Int)) = false := by simp; omega
      by_cases c2 : 300 < n0
      · have d2 : decide ((300 : Int) < (n0 : Int)) = true := by simp; omega
        go_enter Try.func15, Try.ntmps15
        go_wp2_with fail
        refine (mailNew_yes room _ rfl w0 _ _ hs hu).mono ?_
        rintro e w1 ⟨rfl, hs1⟩
        go_wp2_with fail
        refine (mailAwake w0 _ _ hs1).mono ?_
        rintro e w2 ⟨rfl, hs2⟩
        go_wp2_with fail
        go_ret
        exact ⟨rfl, hs2.left⟩
      · have d2 : decide ((300 : Int) < (n0 : Int)) = false := by simp; omega
        have hok0 : MqOk ⟨List.replicate 64 0, 0, 0, room, [], [], List.replicate 64 0⟩ := mqOk_new (by omega)
        have hl100 : l1.length ≤ 100 := by omega
        go_enter Try.func15, Try.ntmps15
        go_wp2_with fail
        refine (mailNew_yes room _ rfl w0 _ _ hs hu).mono ?_
        rintro e w1 ⟨rfl, hs1⟩
        go_wp2_with fail
        refine (mailAwake w0 _ _ hs1).mono ?_
        rintro e w2 ⟨rfl, hs2⟩
        generalize w0.heap.size = qb at *
        go_wp2_with fail
        refine wp_gen (w0 := w0) ?_
        intro w3 hs3
        have hs3 : Sat w0 w3 (mqP qb ⟨List.replicate 64 0, 0, 0, room, [], [], List.replicate 64 0⟩ * (rqP w2.heap.size ⟨List.replicate 64 0, 0, 0, room, [], [], List.replicate 64 0⟩ * any)) := by
          have h1 : Sat w0 w3 (rqR w2.heap.size room [] [] [] [] * (mqP qb ⟨List.replicate 64 0, 0, 0, room, [], [], List.replicate 64 0⟩ * emp)) := rqR_of own_it
          have h2 : Sat w0 w3 (rqP w2.heap.size ⟨List.replicate 64 0, 0, 0, room, [], [], List.replicate 64 0⟩ * (mqP qb ⟨List.replicate 64 0, 0, 0, room, [], [], List.replicate 64 0⟩ * emp)) := h1
          exact own_any2 (hs := h2)
        generalize w2.heap.size = rb at *
        go_loopw [74] (fun i wr => ∃ (k : Nat) (q : Mq), k ≤ n0 ∧ i = .int .i64 k ∧ MqOk q ∧ Sat w0 wr (mqP qb q * (rqP rb q * any))) (fun i _ => n0 - (intOf i).toNat)
        case atStart => exact ⟨0, _, Nat.zero_le _, rfl, hok0, hs3⟩
        case round =>
          obtain ⟨k, q, hk, rfl, hok, hs4⟩ := hrel
          clear hs hs1 hs2 hs3 hok0
          by_cases hlt : k < n0
          · obtain rfl := ha (by omega)
            have k0 := (hc k 0 _ hlt rfl).1
            have k1 := (hc k 1 _ hlt rfl).1
            have k2 := (hc k 2 _ hlt rfl).1
            simp only [List.length_cons, List.length_nil, Nat.zero_add, Nat.add_zero, ← Nat.add_assoc] at k0 k1 k2
            generalize f0 k 0 = kd at *
            generalize f0 k 1 = tk at *
            generalize f0 k 2 = vv at *
            haveI o0 : Old w0 b (off + k * 3) (.int .i64 kd) := ⟨k0⟩
            haveI o1 : Old w0 b (off + k * 3 + 1) (.int .i64 tk) := ⟨k1⟩
            haveI o2 : Old w0 b (off + k * 3 + 2) (.int .u32 vv) := ⟨k2⟩
            clear k0 k1 k2 hc ha hla hlc
            go_upto_block 2 with fail
            go_cut [13] (fun sv wx => ∃ q' : Mq, sv = .bool true ∧ MqOk q' ∧ Sat w0 wx (mqP qb q' * (rqP rb q' * any)))
            case first =>
              refine wp_gen (w0 := w0) ?_
              intro wq hsq
              generalize wr.heap.size = nb at *
              clear hs4
              by_cases k1 : kd = 1
              · subst k1
                go_wp2_with fail
                refine wp_region_early (fun w' => Sat w0 w' (pts nb 0 [.int .i64 1, .int .i64 tk, .int .u32 vv] * any)) [(0, true), (1, true), (2, true), (4, true), (3, false), (5, false), (6, false), (7, true), (8, true), (9, true), (10, true), (11, true)] (by kernel_rfl) (by kernel_rfl) (fun _ _ _ _ h => h) own_any ?_
                iterate 4 (refine early_read (fun K hK => ?_); simp only [List.getElem?_cons_succ, List.getElem?_cons_zero]; (first | (rw [if_pos (by rfl)]; apply Exists.intro; refine ⟨fun w hSw => ?_, hK _ ?_⟩; (focus ((try dsimp only at hSw); go_simp; try with_reducible rfl))) | (rw [if_neg (ne_true_of_eq_false (by rfl))]; refine hK _ ?_)); clear hK K; simp only [Act.put, List.setIfInBounds_toArray, List.set_cons_zero, List.set_cons_succ])
                refine early_run (fun K hK => ?_); simp only [List.getElem?_cons_succ, List.getElem?_cons_zero]; rw [if_pos (by rfl)]
                go_wp2_with fail
                refine ⟨own_any, ?_⟩
                refine early_run (fun K hK => ?_); simp only [List.getElem?_cons_succ, List.getElem?_cons_zero]; rw [if_pos (by rfl)]
                refine wp_append_nums rfl rfl rfl (by omega) ?_; intro ap ac aL aw ahL ah1 ah2 ahs _
                obtain rfl : l1 = aL := ahL.out.symm
                refine hK _ _ ⟨own_any, ?_⟩
                clear hK K
                simp only [Act.put, List.setIfInBounds_toArray, List.set_cons_zero, List.set_cons_succ]
                refine early_run (fun K hK => ?_); simp only [List.getElem?_cons_succ, List.getElem?_cons_zero]; rw [if_pos (by rfl)]
                go_wp2_with fail
                refine (mailSend qb q vv _ l1 w0 _ _ own rd hok).mono ?_
                rintro e w3 ⟨rfl, hs7⟩
                go_wp2_with fail
                refine ⟨own_any, ?_⟩
                iterate 5 (refine early_read (fun K hK => ?_); simp only [List.getElem?_cons_succ, List.getElem?_cons_zero]; (first | (rw [if_pos (by rfl)]; apply Exists.intro; refine ⟨fun w hSw => ?_, hK _ ?_⟩; (focus ((try dsimp only at hSw); go_simp; try with_reducible rfl))) | (rw [if_neg (ne_true_of_eq_false (by rfl))]; refine hK _ ?_)); clear hK K; simp only [Act.put, List.setIfInBounds_toArray, List.set_cons_zero, List.set_cons_succ])
                refine early_done ?_
                go_wp2_with fail
                refine (rqSend rb q vv _ l1 w0 _ _ own stays_old hok).mono ?_
                rintro e w4 ⟨rfl, hs8⟩
                generalize q.sendT l1 = tt
                generalize q.sendE = ee
                go_wp2_with fail
                go_meet
                exact ⟨_, rfl, mqOk_send hok l1 vv, own_any2⟩
              · have b1 : (kd == 1) = false := by simp [k1]
                by_cases k2 : kd = 2
                · subst k2
                  go_wp2_with fail
                  refine wp_region_early (fun w' => Sat w0 w' (pts nb 0 [.int .i64 2, .int .i64 tk, .int .u32 vv] * any)) [(0, true), (1, true), (2, true), (3, true), (4, true), (6, true), (7, true), (8, true), (9, true), (10, true), (5, false), (11, false), (12, true), (13, true)] (by kernel_rfl) (by kernel_rfl) (fun _ _ _ _ h => h) own_any ?_
                  iterate 10 (refine early_read (fun K hK => ?_); simp only [List.getElem?_cons_succ, List.getElem?_cons_zero]; (first | (rw [if_pos (by rfl)]; apply Exists.intro; refine ⟨fun w hSw => ?_, hK _ ?_⟩; (focus ((try dsimp only at hSw); go_simp; try with_reducible rfl))) | (rw [if_neg (ne_true_of_eq_false (by rfl))]; refine hK _ ?_)); clear hK K; simp only [Act.put, List.setIfInBounds_toArray, List.set_cons_zero, List.set_cons_succ])
                  refine early_run (fun K hK => ?_); simp only [List.getElem?_cons_succ, List.getElem?_cons_zero]; rw [if_pos (by rfl)]
                  go_wp2_with fail
                  refine (mailHold qb q tk vv w0 _ _ own hok).mono ?_
                  rintro e w3 ⟨rfl, hs7⟩
                  go_wp2_with fail
                  refine ⟨own_any, ?_⟩
                  refine early_run (fun K hK => ?_); simp only [List.getElem?_cons_succ, List.getElem?_cons_zero]; rw [if_pos (by rfl)]
                  go_wp2_with fail
                  refine (rqHold rb q tk vv w0 _ _ own hok).mono ?_
                  rintro e w4 ⟨rfl, hs8⟩
                  generalize q.holdE tk = ee
                  go_wp2_with fail
                  refine ⟨own_any, ?_⟩
                  iterate 2 (refine early_read (fun K hK => ?_); simp only [List.getElem?_cons_succ, List.getElem?_cons_zero]; (first | (rw [if_pos (by rfl)]; apply Exists.intro; refine ⟨fun w hSw => ?_, hK _ ?_⟩; (focus ((try dsimp only at hSw); go_simp; try with_reducible rfl))) | (rw [if_neg (ne_true_of_eq_false (by rfl))]; refine hK _ ?_)); clear hK K; simp only [Act.put, List.setIfInBounds_toArray, List.set_cons_zero, List.set_cons_succ])
                  refine early_done ?_
                  go_wp2_with fail
                  go_meet
                  exact ⟨_, rfl, mqOk_hold hok tk vv, own_any2⟩
                · have b2 : (kd == 2) = false := by simp [k2]
                  by_cases k3 : kd = 3
                  · subst k3
                    go_wp2_with (at_builtin; refine wpList_append_nums rfl rfl rfl rfl (by omega) ?_; intro ap ac aL aw ahL ah1 ah2 ahs _)
                    obtain rfl : l1 = aL := ahL.out.symm
                    go_wp2_with fail
                    refine (mailRecv qb q _ l1 w0 _ _ own stays_in hok).mono ?_
                    rintro e w3 ⟨rfl, hs7⟩
                    go_wp2_with fail
                    refine (rqRecv rb q _ l1 w0 _ _ own stays_old hok).mono ?_
                    rintro e w4 ⟨rfl, hs8⟩
                    generalize q.recvV = vv'
                    generalize q.recvT l1 = tt
                    generalize q.recvE = ee
                    go_wp2_with fail
                    go_meet
                    exact ⟨_, rfl, mqOk_recv hok l1, own_any2⟩
                  · have b3 : (kd == 3) = false := by simp [k3]
                    by_cases k4 : kd = 4
                    · subst k4
                      go_wp2_with fail
                      refine wp_region_early (fun w' => Sat w0 w' (pts nb 0 [.int .i64 4, .int .i64 tk, .int .u32 vv] * any)) [(0, true), (1, true), (2, true), (4, true), (5, true), (6, true), (3, false), (7, false), (8, true), (9, true)] (by kernel_rfl) (by kernel_rfl) (fun _ _ _ _ h => h) own_any ?_
                      iterate 6 (refine early_read (fun K hK => ?_); simp only [List.getElem?_cons_succ, List.getElem?_cons_zero]; (first | (rw [if_pos (by rfl)]; apply Exists.intro; refine ⟨fun w hSw => ?_, hK _ ?_⟩; (focus ((try dsimp only at hSw); go_simp; try with_reducible rfl))) | (rw [if_neg (ne_true_of_eq_false (by rfl))]; refine hK _ ?_)); clear hK K; simp only [Act.put, List.setIfInBounds_toArray, List.set_cons_zero, List.set_cons_succ])
                      refine early_run (fun K hK => ?_); simp only [List.getElem?_cons_succ, List.getElem?_cons_zero]; rw [if_pos (by rfl)]
                      go_wp2_with fail
                      refine (mailAwait qb q tk w0 _ _ own hok).mono ?_
                      rintro e w3 ⟨rfl, hs7⟩
                      go_wp2_with fail
                      refine ⟨own_any, ?_⟩
                      refine early_run (fun K hK => ?_); simp only [List.getElem?_cons_succ, List.getElem?_cons_zero]; rw [if_pos (by rfl)]
                      go_wp2_with fail
                      refine (rqAwait rb q tk w0 _ _ own hok).mono ?_
                      rintro e w4 ⟨rfl, hs8⟩
                      generalize q.awaitE tk = ee
                      go_wp2_with fail
                      refine ⟨own_any, ?_⟩
                      iterate 2 (refine early_read (fun K hK => ?_); simp only [List.getElem?_cons_succ, List.getElem?_cons_zero]; (first | (rw [if_pos (by rfl)]; apply Exists.intro; refine ⟨fun w hSw => ?_, hK _ ?_⟩; (focus ((try dsimp only at hSw); go_simp; try with_reducible rfl))) | (rw [if_neg (ne_true_of_eq_false (by rfl))]; refine hK _ ?_)); clear hK K; simp only [Act.put, List.setIfInBounds_toArray, List.set_cons_zero, List.set_cons_succ])
                      refine early_done ?_
                      go_wp2_with fail
                      go_meet
                      exact ⟨_, rfl, mqOk_await hok tk, own_any2⟩
                    · have b4 : (kd == 4) = false := by simp [k4]
                      by_cases k5 : kd = 5
                      · subst k5
                        go_wp2_with fail
                        refine wp_region_early (fun w' => Sat w0 w' (pts nb 0 [.int .i64 5, .int .i64 tk, .int .u32 vv] * any)) [(0, true), (1, true), (2, true), (4, true), (5, true), (6, true), (3, false), (7, false), (8, true), (9, true)] (by kernel_rfl) (by kernel_rfl) (fun _ _ _ _ h => h) own_any ?_
                        iterate 6 (refine early_read (fun K hK => ?_); simp only [List.getElem?_cons_succ, List.getElem?_cons_zero]; (first | (rw [if_pos (by rfl)]; apply Exists.intro; refine ⟨fun w hSw => ?_, hK _ ?_⟩; (focus ((try dsimp only at hSw); go_simp; try with_reducible rfl))) | (rw [if_neg (ne_true_of_eq_false (by rfl))]; refine hK _ ?_)); clear hK K; simp only [Act.put, List.setIfInBounds_toArray, List.set_cons_zero, List.set_cons_succ])
                        refine early_run (fun K hK => ?_); simp only [List.getElem?_cons_succ, List.getElem?_cons_zero]; rw [if_pos (by rfl)]
                        go_wp2_with fail
                        refine (mailCancel qb q tk w0 _ _ own hok).mono ?_
                        rintro e w3 ⟨rfl, hs7⟩
                        go_wp2_with fail
                        refine ⟨own_any, ?_⟩
                        refine early_run (fun K hK => ?_); simp only [List.getElem?_cons_succ, List.getElem?_cons_zero]; rw [if_pos (by rfl)]
                        go_wp2_with fail
                        refine (rqCancel rb q tk w0 _ _ own hok (mq_apart hok tk)).mono ?_
                        rintro e w4 ⟨rfl, hs8⟩
                        generalize decide (q.waits tk) = ee
                        go_wp2_with fail
                        refine ⟨own_any, ?_⟩
                        iterate 2 (refine early_read (fun K hK => ?_); simp only [List.getElem?_cons_succ, List.getElem?_cons_zero]; (first | (rw [if_pos (by rfl)]; apply Exists.intro; refine ⟨fun w hSw => ?_, hK _ ?_⟩; (focus ((try dsimp only at hSw); go_simp; try with_reducible rfl))) | (rw [if_neg (ne_true_of_eq_false (by rfl))]; refine hK _ ?_)); clear hK K; simp only [Act.put, List.setIfInBounds_toArray, List.set_cons_zero, List.set_cons_succ])
                        refine early_done ?_
                        go_wp2_with fail
                        go_meet
                        exact ⟨_, rfl, mqOk_cancel hok tk, own_any2⟩
                      · have b5 : (kd == 5) = false := by simp [k5]
                        go_wp2_with fail
                        go_meet
                        exact ⟨q, rfl, hok, own_any2⟩
            case rest =>
              obtain ⟨q', rfl, hok', hs6⟩ := hcut
              clear hs4
              go_wp2_with fail
              refine wp_gen (w0 := w0) ?_
              intro wq hsq
              clear hs6
              obtain ⟨a1, c1, a2, c2, a3, c3, a4, c4, hsr⟩ := rqR_out (hsq.pull (Q := rqP rb q'))
              clear hsq
              have hlS := rowOk_len hok'.s
              have hlR := rowOk_len hok'.r
              refine wp_region_early (fun w' => Sat w0 w' (pts rb 0 [.int .i64 q'.room, .slice a1 (msgs q').length c1, .slice a2 q'.S.length c2, .slice a3 (heldOf q').length c3, .slice a4 q'.R.length c4] * any)) [(0, true), (1, true), (2, true), (3, true), (5, true), (6, true), (7, true), (8, true), (4, false), (9, false), (10, true), (11, true), (12, true), (13, true), (15, true), (16, true), (17, true), (18, true), (14, false), (19, false), (20, true), (21, true), (22, true), (23, true), (25, true), (26, true), (27, true), (28, true), (24, false), (29, false), (30, true), (31, true)] (by kernel_rfl) (by kernel_rfl) (fun _ _ _ _ h => h) own_any ?_
              iterate 8 (refine early_read (fun K hK => ?_); simp only [List.getElem?_cons_succ, List.getElem?_cons_zero]; (first | (rw [if_pos (by rfl)]; apply Exists.intro; refine ⟨fun w hSw => ?_, hK _ ?_⟩; (focus ((try dsimp only at hSw); go_simp; try with_reducible rfl))) | (rw [if_neg (ne_true_of_eq_false (by rfl))]; refine hK _ ?_)); clear hK K; simp only [Act.put, List.setIfInBounds_toArray, List.set_cons_zero, List.set_cons_succ])
              refine early_run (fun K hK => ?_); simp only [List.getElem?_cons_succ, List.getElem?_cons_zero]; rw [if_pos (by rfl)]
              go_wp2_with fail
              refine (mailList qb q' w0 _ _ own hok').mono ?_
              rintro e w5 ⟨v5, rfl, hs7⟩
              obtain ⟨a5, c5, rfl⟩ := hs7.slice_form
              go_wp2_with fail
              refine ⟨own_any, ?_⟩
              refine early_run (fun K hK => ?_); simp only [List.getElem?_cons_succ, List.getElem?_cons_zero]; rw [if_pos (by rfl)]
              go_wp2_with fail
              refine (same19 _ _ (msgs q') (msgs q') _ rd rd).mono ?_
              rintro e w6 ⟨rfl, n6, rfl⟩
              rw [decide_eq_true (rfl : msgs q' = msgs q')]
              go_wp2_with fail
              refine ⟨own_any, ?_⟩
              iterate 8 (refine early_read (fun K hK => ?_); simp only [List.getElem?_cons_succ, List.getElem?_cons_zero]; (first | (rw [if_pos (by rfl)]; apply Exists.intro; refine ⟨fun w hSw => ?_, hK _ ?_⟩; (focus ((try dsimp only at hSw); go_simp; try with_reducible rfl))) | (rw [if_neg (ne_true_of_eq_false (by rfl))]; refine hK _ ?_)); clear hK K; simp only [Act.put, List.setIfInBounds_toArray, List.set_cons_zero, List.set_cons_succ])
              refine early_run (fun K hK => ?_); simp only [List.getElem?_cons_succ, List.getElem?_cons_zero]; rw [if_pos (by rfl)]
              go_wp2_with fail
              refine (mailSenders qb q' w0 _ _ own hok').mono ?_
              rintro e w7 ⟨v7, rfl, hs8⟩
              obtain ⟨a7, c7, rfl⟩ := hs8.slice_form
              go_wp2_with fail
              refine ⟨own_any, ?_⟩
              refine early_run (fun K hK => ?_); simp only [List.getElem?_cons_succ, List.getElem?_cons_zero]; rw [if_pos (by rfl)]
              go_wp2_with fail
              refine (ints _ _ q'.S q'.S _ rd rd).mono ?_
              rintro e w8 ⟨rfl, n8, rfl⟩
              rw [decide_eq_true (rfl : q'.S = q'.S)]
              go_wp2_with fail
              refine ⟨own_any, ?_⟩
              iterate 8 (refine early_read (fun K hK => ?_); simp only [List.getElem?_cons_succ, List.getElem?_cons_zero]; (first | (rw [if_pos (by rfl)]; apply Exists.intro; refine ⟨fun w hSw => ?_, hK _ ?_⟩; (focus ((try dsimp only at hSw); go_simp; try with_reducible rfl))) | (rw [if_neg (ne_true_of_eq_false (by rfl))]; refine hK _ ?_)); clear hK K; simp only [Act.put, List.setIfInBounds_toArray, List.set_cons_zero, List.set_cons_succ])
              refine early_run (fun K hK => ?_); simp only [List.getElem?_cons_succ, List.getElem?_cons_zero]; rw [if_pos (by rfl)]
              go_wp2_with fail
              refine (mailReceivers qb q' w0 _ _ own hok').mono ?_
              rintro e w9 ⟨v9, rfl, hs9⟩
              obtain ⟨a9, c9, rfl⟩ := hs9.slice_form
              go_wp2_with fail
              refine ⟨own_any, ?_⟩
              refine early_run (fun K hK => ?_); simp only [List.getElem?_cons_succ, List.getElem?_cons_zero]; rw [if_pos (by rfl)]
              go_wp2_with fail
              refine (ints _ _ q'.R q'.R _ rd rd).mono ?_
              rintro e wa ⟨rfl, na, rfl⟩
              rw [decide_eq_true (rfl : q'.R = q'.R)]
              go_wp2_with fail
              refine ⟨own_any, ?_⟩
              iterate 2 (refine early_read (fun K hK => ?_); simp only [List.getElem?_cons_succ, List.getElem?_cons_zero]; (first | (rw [if_pos (by rfl)]; apply Exists.intro; refine ⟨fun w hSw => ?_, hK _ ?_⟩; (focus ((try dsimp only at hSw); go_simp; try with_reducible rfl))) | (rw [if_neg (ne_true_of_eq_false (by rfl))]; refine hK _ ?_)); clear hK K; simp only [Act.put, List.setIfInBounds_toArray, List.set_cons_zero, List.set_cons_succ])
              refine early_done ?_
              go_wp2_with fail
              go_roundw
              case rel =>
                refine ⟨k + 1, q', by omega, by go_num, hok', ?_⟩
                have hz : Sat w0 _ (rqP rb q' * (mqP qb q' * any)) := rqR_of (own_it (w := World.drewN w9 na))
                exact hz.perm (by ac_rfl)
              case measure => simp [intOf]; omega
          · go_wp2_with fail
            go_ret
            exact ⟨rfl, hs4.left⟩
  · by_cases hu1 : 1 ≤ u
    · have du : decide (1 ≤ u) = true := by rw [decide_eq_true_iff]; omega
      have du2 : decide (u ≤ 64) = false := by rw [decide_eq_false_iff_not]; omega
      go_enter Try.func15, Try.ntmps15
      go_wp2_with fail
      refine (mailNew_no u _ hu).mono ?_
      rintro e w1 ⟨rfl, rfl⟩
      go_wp2_with fail
      refine (mailAwake w0 _ _ hs).mono ?_
      rintro e w2 ⟨rfl, hs2⟩
      go_wp2_with fail
      go_ret
      exact ⟨rfl, hs2⟩
    · have du : decide (1 ≤ u) = false := by rw [decide_eq_false_iff_not]; omega
      go_enter Try.func15, Try.ntmps15
      go_wp2_with fail
      refine (mailNew_no u _ hu).mono ?_
      rintro e w1 ⟨rfl, rfl⟩
      go_wp2_with fail
      refine (mailAwake w0 _ _ hs).mono ?_
      rintro e w2 ⟨rfl, hs2⟩
      go_wp2_with fail
      go_ret
      exact ⟨rfl, hs2⟩
end Go.Proofs.Ytbnfkfbebnkdnaa
