/-
  DeltaPlays: the walk.
-/
import Derived.Test.YtfphgcplpokigaaDeltaT
import Derived.Test.YtfphgcplpokigaaRegion
namespace Go.Proofs.Ytfphgcplpokigaa
open Go.RowKit Go.Sx Go.Dl
attribute [local simp, local go_sem] zeroList zeroL_size zeroL_ne

theorem pl_nd {L : List Ck} (h : SOk (srt L)) : (L.map Prod.fst).Nodup := ((srt_perm L).map _).nodup_iff.1 h.nd
theorem pl_len {L : List Ck} (h : SOk (srt L)) : L.length ≤ 256 := by rw [← (srt_perm L).length_eq]; exact sok_len h
theorem pl_lf {L : List Ck} (h : SOk (srt L)) : ∀ x ∈ L, 1 ≤ x.2 ∧ x.2 < 4294967296 := fun x hx => h.lf x ((srt_perm L).mem_iff.2 hx)

set_option linter.unusedSimpArgs false in
set_option maxRecDepth 100000 in
set_option maxHeartbeats 16000000 in
theorem deltaPlays_walk (v0 : Value) (n0 : Nat) (f0 : Nat → Nat → Int) (w0 : World) (h0 : RdK [.i64, .i64, .i64] w0 v0 n0 f0) :
    Calls Try.prog 12 #[v0] w0 (RetV w0 (.bool true) emp) := by
  have hs := Sat.start w0
  obtain ⟨a, cap, b, off, rfl, hcap, hbig, ha, hc⟩ := (show RdK [.i64, .i64, .i64] w0 v0 n0 f0 from h0)
  unfold maxLen at hbig
  by_cases c2 : 300 < n0
  · have d2 : decide ((300 : Int) < (n0 : Int)) = true := by simp; omega
    go_enter Try.func12, Try.ntmps12
    go_wp2_with fail
    refine (delAwake w0 _ _ hs).mono ?_
    rintro e w1 ⟨rfl, hs1⟩
    go_wp2_with fail
    refine (delAwake w0 _ _ hs1).mono ?_
    rintro e w2 ⟨rfl, hs2⟩
    go_wp2_with fail
    go_ret
    exact ⟨rfl, hs2⟩
  · have d2 : decide ((300 : Int) < (n0 : Int)) = false := by simp; omega
    have hn300 : n0 ≤ 300 := by omega
    go_enter Try.func12, Try.ntmps12
    go_wp2_with fail
    refine (delAwake w0 _ _ hs).mono ?_
    rintro e w1 ⟨rfl, hs1⟩
    have hs2 := delP_new hs1 27
    have hs2 : Sat w0 (w1.alloc (.cells Try.zeroCells27 27)) (delP w1.heap.size [] * emp) := hs2
    go_wp2_with fail
    refine wp_gen (w0 := w0) ?_
    intro w3 hs3
    have hs4 : Sat w0 w3 (rlP (w1.heap.size + 1) [] * (delP w1.heap.size [] * emp)) := rlP_of own_it rfl
    generalize w1.heap.size = pb at *
    generalize pb + 1 = rb at *
    clear hs hs1 hs2 hs3
    go_loopw [21] (fun i wr => ∃ (k : Nat) (L : List Ck), k ≤ n0 ∧ i = .int .i64 k ∧ SOk (srt L) ∧ Sat w0 wr (delP pb (srt L) * (rlP rb L * any))) (fun i _ => n0 - (intOf i).toNat)
    case atStart => exact ⟨0, [], Nat.zero_le _, rfl, sok_nil, by rw [show srt [] = [] from rfl]; exact own_left⟩
    case round =>
      obtain ⟨k, L, hk, rfl, hok, hs4⟩ := hrel
      by_cases hlt : k < n0
      · obtain rfl := ha (by omega)
        have k0 := (hc k 0 _ hlt rfl).1
        have k1 := (hc k 1 _ hlt rfl).1
        have k2 := (hc k 2 _ hlt rfl).1
        simp only [List.length_cons, List.length_nil, Nat.zero_add, Nat.add_zero, ← Nat.add_assoc] at k0 k1 k2
        generalize f0 k 0 = kd at *
        generalize f0 k 1 = ii at *
        generalize f0 k 2 = tt at *
        haveI o0 : Old w0 b (off + k * 3) (.int .i64 kd) := ⟨k0⟩
        haveI o1 : Old w0 b (off + k * 3 + 1) (.int .i64 ii) := ⟨k1⟩
        haveI o2 : Old w0 b (off + k * 3 + 2) (.int .i64 tt) := ⟨k2⟩
        clear k0 k1 k2 hc ha
        go_upto_block 2 with fail
        go_cut [21] (fun iv wx => ∃ L' : List Ck, iv = .int .i64 k ∧ SOk (srt L') ∧ Sat w0 wx (pts wr.heap.size 0 [.int .i64 kd, .int .i64 ii, .int .i64 tt] * (delP pb (srt L') * (rlP rb L' * any))))
        case first =>
          refine wp_gen (w0 := w0) ?_
          intro wq hsq
          generalize wr.heap.size = nb at *
          clear hs4
          by_cases k1 : kd = 1
          · subst k1
            by_cases hp : putOk (srt L) ii tt
            all_goals
              have hE : putE (srt L) ii tt = if putOk (srt L) ii tt then 0 else 1 := rfl
              first | rw [if_pos hp] at hE | rw [if_neg hp] at hE
              have HE := hid hE
              clear hE
              go_wp2_with fail
              refine (delPut _ (srt L) ii tt w0 _ _ own hok).mono ?_
              rintro e w5 ⟨rfl, hs5⟩
              rw [HE.out]
              rw [← srt_rput] at hs5
              go_wp2_with fail
              refine (refPut _ L ii tt w0 _ _ own hok).mono ?_
              rintro e w6 ⟨rfl, hs6⟩
              first | rw [decide_eq_true hp] | rw [decide_eq_false hp]
              go_wp2_with fail
              go_meet
              exact ⟨rputS L ii tt, rfl, by rw [srt_rput]; exact sok_putS hok ii tt, own_left⟩
          · have b1 : (kd == 1) = false := by simp [k1]
            by_cases k2 : kd = 2
            · subst k2
              have hE : Hid (decide (has (srt L) ii) = decide (has L ii)) := decide_eq_decide.2 (has_perm (srt_perm L) ii)
              go_wp2_with fail
              refine wp_region_early (fun w' => Sat w0 w' (pts nb 0 [.int .i64 2, .int .i64 ii, .int .i64 tt] * any)) [(0, true), (1, true), (3, true), (4, true), (5, true), (2, false), (6, false), (7, true)] (by kernel_rfl) (by kernel_rfl) (fun _ _ _ _ h => h) own_any ?_
              iterate 5 (refine early_read (fun K hK => ?_); simp only [List.getElem?_cons_succ, List.getElem?_cons_zero]; (first | (rw [if_pos (by rfl)]; apply Exists.intro; refine ⟨fun w hSw => ?_, hK _ ?_⟩; (focus ((try dsimp only at hSw); go_simp; try with_reducible rfl))) | (rw [if_neg (ne_true_of_eq_false (by rfl))]; refine hK _ ?_)); clear hK K; simp only [Act.put, List.setIfInBounds_toArray, List.set_cons_zero, List.set_cons_succ])
              refine early_run (fun K hK => ?_); simp only [List.getElem?_cons_succ, List.getElem?_cons_zero]; rw [if_pos (by rfl)]
              go_wp2_with fail
              refine (delCancel _ (srt L) ii w0 _ _ own hok).mono ?_
              rintro e w5 ⟨rfl, hs5⟩
              rw [hE.out]
              rw [← srt_del] at hs5
              go_wp2_with fail
              refine ⟨own_any, ?_⟩
              refine early_run (fun K hK => ?_); simp only [List.getElem?_cons_succ, List.getElem?_cons_zero]; rw [if_pos (by rfl)]
              go_wp2_with fail
              refine (refCancel _ L ii w0 _ _ own (pl_len hok)).mono ?_
              rintro e w6 ⟨rfl, hs6⟩
              clear hE
              generalize decide (has L ii) = bb
              go_wp2_with fail
              refine ⟨own_any, ?_⟩
              iterate 1 (refine early_read (fun K hK => ?_); simp only [List.getElem?_cons_succ, List.getElem?_cons_zero]; (first | (rw [if_pos (by rfl)]; apply Exists.intro; refine ⟨fun w hSw => ?_, hK _ ?_⟩; (focus ((try dsimp only at hSw); go_simp; try with_reducible rfl))) | (rw [if_neg (ne_true_of_eq_false (by rfl))]; refine hK _ ?_)); clear hK K; simp only [Act.put, List.setIfInBounds_toArray, List.set_cons_zero, List.set_cons_succ])
              refine early_done ?_
              go_wp2_with fail
              go_meet
              exact ⟨delS ii L, rfl, by rw [srt_del]; exact sok_del hok ii, own_left⟩
            · have b2 : (kd == 2) = false := by simp [k2]
              by_cases k3 : kd = 3
              · subst k3
                go_wp2_with fail
                case inl h1 =>
                  go_loopw [68] (fun i wr => i = .int .i64 0 ∧ Sat w0 wr (pts nb 0 [.int .i64 3, .int .i64 ii, .int .i64 tt] * (delP pb (srt L) * (rlP rb L * any)))) (fun _ _ => 0)
                  case atStart => exact ⟨rfl, own_left⟩
                  case round =>
                    clear hsq
                    obtain ⟨rfl, hs4⟩ := hrel
                    go_wp2_with fail
                    go_meet
                    exact ⟨L, rfl, hok, own_left⟩
                case inr.inl h1 _ =>
                  go_loopw [68] (fun i wr => ∃ (j : Nat) (L : List Ck), j ≤ 20 ∧ i = .int .i64 j ∧ SOk (srt L) ∧ Sat w0 wr (pts nb 0 [.int .i64 3, .int .i64 ii, .int .i64 tt] * (delP pb (srt L) * (rlP rb L * any)))) (fun i _ => 20 - (intOf i).toNat)
                  case atStart => exact ⟨0, L, by omega, rfl, hok, own_left⟩
                  case round =>
                    clear hsq hok
                    obtain ⟨j, M, hj, rfl, hok, hs4⟩ := hrel
                    by_cases hj5 : j < 20
                    · go_wp2_with fail
                      refine (delTick _ (srt M) w0 _ _ own hok).mono ?_
                      rintro e w5 ⟨v5, rfl, hs5⟩
                      rw [srt_over, ← srt_tick] at hs5
                      obtain ⟨a5, c5, rfl⟩ := hs5.slice_form
                      go_wp2_with fail
                      refine (refTick _ M w0 _ _ own (pl_len hok) (pl_lf hok)).mono ?_
                      rintro e w6 ⟨v6, rfl, hs6⟩
                      obtain ⟨a6, c6, rfl⟩ := hs6.slice_form
                      go_wp2_with fail
                      refine (intsS _ _ (overS M) (overS M) w0 _ _ hs6 rd rd).mono ?_
                      rintro e w7 ⟨rfl, hs7⟩
                      rw [decide_eq_true (rfl : overS M = overS M)]
                      go_wp2_with fail
                      go_roundw
                      case rel => exact ⟨j + 1, tickS M, by omega, by go_num, by rw [srt_tick]; exact sok_tick hok, own_left⟩
                      case measure => simp [intOf]; omega
                    · go_wp2_with fail
                      go_meet
                      exact ⟨M, rfl, hok, own_left⟩
                case inr.inr h1 h2 =>
                  go_loopw [68] (fun i wr => ∃ (j : Nat) (L : List Ck), j ≤ 20 ∧ i = .int .i64 j ∧ SOk (srt L) ∧ Sat w0 wr (pts nb 0 [.int .i64 3, .int .i64 ii, .int .i64 tt] * (delP pb (srt L) * (rlP rb L * any)))) (fun i _ => 20 - (intOf i).toNat)
                  case atStart => exact ⟨0, L, by omega, rfl, hok, own_left⟩
                  case round =>
                    clear hsq hok
                    obtain ⟨j, M, hj, rfl, hok, hs4⟩ := hrel
                    by_cases hj5 : (j : Int) < tt
                    · go_wp2_with fail
                      refine (delTick _ (srt M) w0 _ _ own hok).mono ?_
                      rintro e w5 ⟨v5, rfl, hs5⟩
                      rw [srt_over, ← srt_tick] at hs5
                      obtain ⟨a5, c5, rfl⟩ := hs5.slice_form
                      go_wp2_with fail
                      refine (refTick _ M w0 _ _ own (pl_len hok) (pl_lf hok)).mono ?_
                      rintro e w6 ⟨v6, rfl, hs6⟩
                      obtain ⟨a6, c6, rfl⟩ := hs6.slice_form
                      go_wp2_with fail
                      refine (intsS _ _ (overS M) (overS M) w0 _ _ hs6 rd rd).mono ?_
                      rintro e w7 ⟨rfl, hs7⟩
                      rw [decide_eq_true (rfl : overS M = overS M)]
                      go_wp2_with fail
                      go_roundw
                      case rel => exact ⟨j + 1, tickS M, by omega, by go_num, by rw [srt_tick]; exact sok_tick hok, own_left⟩
                      case measure => simp [intOf]; omega
                    · go_wp2_with fail
                      go_meet
                      exact ⟨M, rfl, hok, own_left⟩
              · have b3 : (kd == 3) = false := by simp [k3]
                go_wp2_with fail
                go_meet
                exact ⟨L, rfl, hok, own_left⟩
        case rest =>
          obtain ⟨L', rfl, hok', hs6⟩ := hcut
          clear hs4 hok
          generalize wr.heap.size = nb at *
          clear L
          have hlf : Hid (Go.Dl.leftOf (srt L') ii = Go.Dl.leftOf L' ii) := left_perm (srt_perm L') hok'.nd ii
          have hfr : Hid (fromOf (srt L') ii = fromOf L' ii) := from_perm (srt_perm L') ii
          go_wp2_with fail
          refine wp_gen (w0 := w0) ?_
          intro wq hsq
          clear hs6
          refine wp_region_early (fun w' => Sat w0 w' (pts nb 0 [.int .i64 kd, .int .i64 ii, .int .i64 tt] * any)) [(1, true), (0, false), (2, false), (3, false), (4, true), (5, true), (6, true), (7, true), (9, true), (10, true), (11, true), (8, false), (12, false), (13, true), (14, true), (15, true), (16, true), (17, true), (19, true), (20, true), (21, true), (18, false), (22, false), (23, true), (24, true)] (by kernel_rfl) (by kernel_rfl) (fun _ _ _ _ h => h) own_any ?_
          iterate 1 (refine early_read (fun K hK => ?_); simp only [List.getElem?_cons_succ, List.getElem?_cons_zero]; (first | (rw [if_pos (by rfl)]; apply Exists.intro; refine ⟨fun w hSw => ?_, hK _ ?_⟩; (focus ((try dsimp only at hSw); go_simp; try with_reducible rfl))) | (rw [if_neg (ne_true_of_eq_false (by rfl))]; refine hK _ ?_)); clear hK K; simp only [Act.put, List.setIfInBounds_toArray, List.set_cons_zero, List.set_cons_succ])
          refine early_run (fun K hK => ?_); simp only [List.getElem?_cons_succ, List.getElem?_cons_zero]; rw [if_pos (by rfl)]
          go_wp2_with fail
          refine (delDues_some _ (srt L') w0 _ _ own hok').mono ?_
          rintro e w5 ⟨v5, rfl, hs5⟩
          obtain ⟨a5, c5, rfl⟩ := hs5.recs_form
          go_wp2_with fail
          refine ⟨own_any, ?_⟩
          refine early_run (fun K hK => ?_); simp only [List.getElem?_cons_succ, List.getElem?_cons_zero]; rw [if_pos (by rfl)]
          go_wp2_with fail
          refine (refDues _ L' w0 _ _ own (pl_len hok')).mono ?_
          rintro e w6 ⟨v6, rfl, hs6⟩
          obtain ⟨a6, c6, rfl⟩ := hs6.recs_form
          go_wp2_with fail
          refine ⟨own_any, ?_⟩
          refine early_run (fun K hK => ?_); simp only [List.getElem?_cons_succ, List.getElem?_cons_zero]; rw [if_pos (by rfl)]
          go_wp2_with fail
          refine (delSameS _ _ (srt L') (srt L') w0 _ _ hs6 rdr rdr).mono ?_
          rintro e w7 ⟨rfl, hs7⟩
          rw [decide_eq_true (rfl : srt L' = srt L')]
          clear hs5 hs6
          go_wp2_with fail
          refine ⟨own_any, ?_⟩
          iterate 7 (refine early_read (fun K hK => ?_); simp only [List.getElem?_cons_succ, List.getElem?_cons_zero]; (first | (rw [if_pos (by rfl)]; apply Exists.intro; refine ⟨fun w hSw => ?_, hK _ ?_⟩; (focus ((try dsimp only at hSw); go_simp; try with_reducible rfl))) | (rw [if_neg (ne_true_of_eq_false (by rfl))]; refine hK _ ?_)); clear hK K; simp only [Act.put, List.setIfInBounds_toArray, List.set_cons_zero, List.set_cons_succ])
          refine early_run (fun K hK => ?_); simp only [List.getElem?_cons_succ, List.getElem?_cons_zero]; rw [if_pos (by rfl)]
          go_wp2_with fail
          refine (delLeft_some _ (srt L') ii w0 _ _ own hok').mono ?_
          rintro e w8 ⟨rfl, hs8⟩
          rw [hlf.out]
          go_wp2_with fail
          refine ⟨own_any, ?_⟩
          refine early_run (fun K hK => ?_); simp only [List.getElem?_cons_succ, List.getElem?_cons_zero]; rw [if_pos (by rfl)]
          go_wp2_with fail
          refine (refLeft _ L' ii w0 _ _ own (pl_nd hok') (pl_len hok')).mono ?_
          rintro e w9 ⟨rfl, hs9⟩
          clear hlf
          generalize Go.Dl.leftOf L' ii = lf
          go_wp2_with fail
          refine ⟨own_any, ?_⟩
          iterate 8 (refine early_read (fun K hK => ?_); simp only [List.getElem?_cons_succ, List.getElem?_cons_zero]; (first | (rw [if_pos (by rfl)]; apply Exists.intro; refine ⟨fun w hSw => ?_, hK _ ?_⟩; (focus ((try dsimp only at hSw); go_simp; try with_reducible rfl))) | (rw [if_neg (ne_true_of_eq_false (by rfl))]; refine hK _ ?_)); clear hK K; simp only [Act.put, List.setIfInBounds_toArray, List.set_cons_zero, List.set_cons_succ])
          refine early_run (fun K hK => ?_); simp only [List.getElem?_cons_succ, List.getElem?_cons_zero]; rw [if_pos (by rfl)]
          go_wp2_with fail
          refine (delFrom_some _ (srt L') ii w0 _ _ own hok').mono ?_
          rintro e wa ⟨rfl, hsa⟩
          rw [hfr.out]
          go_wp2_with fail
          refine ⟨own_any, ?_⟩
          refine early_run (fun K hK => ?_); simp only [List.getElem?_cons_succ, List.getElem?_cons_zero]; rw [if_pos (by rfl)]
          go_wp2_with fail
          refine (refFrom _ L' ii w0 _ _ own (pl_len hok')).mono ?_
          rintro e wb ⟨rfl, hsb⟩
          clear hfr
          generalize fromOf L' ii = fr
          go_wp2_with fail
          refine ⟨own_any, ?_⟩
          iterate 2 (refine early_read (fun K hK => ?_); simp only [List.getElem?_cons_succ, List.getElem?_cons_zero]; (first | (rw [if_pos (by rfl)]; apply Exists.intro; refine ⟨fun w hSw => ?_, hK _ ?_⟩; (focus ((try dsimp only at hSw); go_simp; try with_reducible rfl))) | (rw [if_neg (ne_true_of_eq_false (by rfl))]; refine hK _ ?_)); clear hK K; simp only [Act.put, List.setIfInBounds_toArray, List.set_cons_zero, List.set_cons_succ])
          refine early_done ?_
          go_wp2_with fail
          go_roundw
          case rel => exact ⟨k + 1, L', by omega, by go_num, hok', own_left⟩
          case measure => simp [intOf]; omega
      · go_wp2_with fail
        go_ret
        exact ⟨rfl, own_left⟩
end Go.Proofs.Ytfphgcplpokigaa
