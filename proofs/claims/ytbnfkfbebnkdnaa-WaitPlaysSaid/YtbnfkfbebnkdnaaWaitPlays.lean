/-
  The walk of WaitPlays.
-/
import Derived.Test.YtbnfkfbebnkdnaaWaitLawA
import Derived.Test.YtbnfkfbebnkdnaaLawB
import Derived.Test.YtbnfkfbebnkdnaaRegion
import Derived.Deep.RegionHeld3
import Derived.Deep.DeepCutAuto
import Derived.Deep.CutBlock
namespace Go.Proofs.Ytbnfkfbebnkdnaa
open Go.RowKit Go.Sx

theorem idx_of_mem {l : List Int} {t : Int} (h : t ∈ l) : idx l t = (l.idxOf t : Int) := by unfold idx; rw [if_pos h]
set_option linter.unusedSimpArgs false in
set_option maxRecDepth 100000 in
set_option maxHeartbeats 8000000 in
theorem waitPlays_walk (v0 : Value) (n0 : Nat) (f0 : Nat → Nat → Int) (v1 : Value) (l1 : List Int) (w0 : World) (h0 : RdK [.i64, .i64] w0 v0 n0 f0) (h1 : RdN .i64 w0 v1 l1) (_z1 : ∀ n ∈ l1, (Lit.int .i64 n).wf = true) :
    Calls Try.prog 4 #[v0, v1] w0 (RetV w0 (.bool true) emp) := by
  have hs := Sat.start w0
  have r1 := h1.stays emp
  obtain ⟨a, cap, b, off, rfl, hcap, hbig, ha, hc⟩ := id h0
  obtain ⟨la, lcap, lb, loff, rfl, hlcap, hlbig, hla, hlc⟩ := id h1
  unfold maxLen at hbig hlbig
  by_cases c1 : 300 < n0
  · have d1 : decide ((300 : Int) < (n0 : Int)) = true := by simp; omega
    go_enter Try.func4, Try.ntmps4
    go_wp2_with fail
    refine (waitAwake w0 _ emp hs).mono ?_
    rintro e w1 ⟨rfl, hs1⟩
    go_wp2_with fail
    refine (waitAwake w0 _ emp hs1).mono ?_
    rintro e w2 ⟨rfl, hs2⟩
    go_wp2_with fail
    go_ret
    exact ⟨rfl, hs2⟩
  · have d1 : decide ((300 : Int) < (n0 : Int)) = false := by simp; omega
    by_cases c2 : 100 < l1.length
    · have d2 : decide ((100 : Int) < (l1.length : Int)) = true := by simp; omega
      go_enter Try.func4, Try.ntmps4
      go_wp2_with fail
      refine (waitAwake w0 _ emp hs).mono ?_
      rintro e w1 ⟨rfl, hs1⟩
      go_wp2_with fail
      refine (waitAwake w0 _ emp hs1).mono ?_
      rintro e w2 ⟨rfl, hs2⟩
      go_wp2_with fail
      go_ret
      exact ⟨rfl, hs2⟩
    · have d2 : decide ((100 : Int) < (l1.length : Int)) = false := by simp; omega
      go_enter Try.func4, Try.ntmps4
      go_wp2_with fail
      refine (waitAwake w0 _ emp hs).mono ?_
      rintro e w1 ⟨rfl, hs1⟩
      have hs2 := rowP_new hs1 25
      have hs3 := (hs2.empty_slice 1 3).perm (by ac_rfl : _ = rowP w1.heap.size 0 [] * (sliceP 1 (.slice (some ⟨(w1.alloc (.cells #[.slice none 0 0] 25)).heap.size, 0, none⟩) 0 0) 0 [] * emp))
      simp only [World.size_alloc] at hs3
      go_wp2_with fail
      go_loopw [6, 30] (fun lv i wr => ∃ (k : Nat) (L : List Int), k ≤ n0 ∧ i = .int .i64 k ∧ RowOk L ∧ Sat w0 wr (rowP w1.heap.size 0 L * (numsP .i64 lv L * emp))) (fun _ i _ => n0 - (intOf i).toNat)
      case atStart => exact ⟨0, [], Nat.zero_le _, rfl, rowOk_nil, hs3⟩
      case round =>
        obtain ⟨k, L, hk, rfl, hok, hs4⟩ := hrel
        clear hs hs1 hs2 hs3
        by_cases hlt : k < n0
        · obtain rfl := ha (by omega)
          have k0 := hs4.keep (hc k 0 _ hlt rfl).1
          have k1 := hs4.keep (hc k 1 _ hlt rfl).1
          simp only [List.length_cons, List.length_nil, Nat.zero_add, Nat.add_zero, ← Nat.add_assoc] at k0 k1
          generalize f0 k 0 = kd at *
          generalize f0 k 1 = t at *
          have hs5 : Sat w0 (wr.alloc (.cells #[.int .i64 kd, .int .i64 t] 34)) (pts wr.heap.size 0 [.int .i64 kd, .int .i64 t] * (rowP w1.heap.size 0 L * (numsP .i64 u6 L * emp))) := hs4.alloc _ _
          clear hs4
          go_upto_block 2 with fail
          go_cut [6] (fun lv wx => ∃ L' : List Int, RowOk L' ∧ Sat w0 wx (pts wr.heap.size 0 [.int .i64 kd, .int .i64 t] * (rowP w1.heap.size 0 L' * (numsP .i64 lv L' * emp))))
          case first =>
            have c01 := hs5.c01
            have hs6 := hs5.perm (by ac_rfl : _ = rowP w1.heap.size 0 L * (pts wr.heap.size 0 [.int .i64 kd, .int .i64 t] * (numsP .i64 u6 L * emp)))
            have rl := (hs5.perm (by ac_rfl : _ = numsP .i64 u6 L * (pts wr.heap.size 0 [.int .i64 kd, .int .i64 t] * (rowP w1.heap.size 0 L * emp)))).rdN
            have hlen := rowOk_len hok
            by_cases k1 : kd = 1
            · subst k1
              by_cases ho : addOk L t
              · have e1 : addOne L t = L ++ [t] := if_pos ho
                have hok2 := addOne_ok hok t
                rw [e1] at hok2
                have ho' := hid ho
                obtain ⟨a1, a2, a3⟩ := ho
                have d1 : decide (0 ≤ t) = true := by simp [a1]
                have d2 : decide (t < 64) = true := by simp [a2]
                have hx : idx L t = -1 := by unfold idx; rw [if_neg a3]
                go_wp2_with fail
                refine (refIndex _ L t _ rl).mono ?_
                rintro e w2 ⟨rfl, rfl⟩
                rw [hx]
                clear hx
                go_wp2_with fail
                refine (rowAdd _ _ L t _ _ _ hs6 hok).mono ?_
                rintro e w2 ⟨rfl, hs7⟩
                rw [if_pos ho'.out]
                rw [e1] at hs7
                clear e1 c01 rl hs6 hs5
                have c01 := (hs7.perm (by ac_rfl : _ = pts wr.heap.size 0 [.int .i64 1, .int .i64 t] * (rowP w1.heap.size 0 (L ++ [t]) * (numsP .i64 u6 L * emp)))).c01
                have hs8 := hs7.perm (by ac_rfl : _ = numsP .i64 u6 L * (pts wr.heap.size 0 [.int .i64 1, .int .i64 t] * (rowP w1.heap.size 0 (L ++ [t]) * emp)))
                go_wp2_with (at_builtin; refine wpList_append_new (by rfl) (.tmp 69) (.tmp 72) (by rfl) elemI (by rfl) hs8 (by rfl) (by rfl) (by simp [Value.oneCell']) (by unfold maxLen; omega) (by omega) ?_)
                intro v' w3 hs9 _
                clear hs8 hs7 c01
                go_wp2_with fail
                go_meet
                exact ⟨L ++ [t], hok2, (hs9.perm (by ac_rfl : _ = pts wr.heap.size 0 [.int .i64 1, .int .i64 t] * (rowP w1.heap.size 0 (L ++ [t]) * (sliceP 1 v' (L.length + 1) (L.map (Value.int .i64) ++ [Value.int .i64 t]) * emp)))).perm (by simp [numsP])⟩
              · have e1 : addOne L t = L := if_neg ho
                by_cases h1 : 0 ≤ t
                · by_cases h2 : t < 64
                  · have d1 : decide (0 ≤ t) = true := by simp [h1]
                    have d2 : decide (t < 64) = true := by simp [h2]
                    have hm : t ∈ L := Decidable.byContradiction fun h => ho ⟨h1, h2, h⟩
                    have d3 : decide (idx L t < 0) = false := by rw [idx_of_mem hm]; simp
                    go_wp2_with fail
                    refine (refIndex _ L t _ rl).mono ?_
                    rintro e w2 ⟨rfl, rfl⟩
                    go_wp2_with fail
                    refine (rowAdd _ _ L t _ _ _ hs6 hok).mono ?_
                    rintro e w2 ⟨rfl, hs7⟩
                    rw [if_neg ho]
                    rw [e1] at hs7
                    go_wp2_with fail
                    go_meet
                    exact ⟨L, hok, hs7.perm (by ac_rfl)⟩
                  · have d2 : decide (t < 64) = false := by simp; omega
                    go_wp2_with fail
                    refine (rowAdd _ _ L t _ _ _ hs6 hok).mono ?_
                    rintro e w2 ⟨rfl, hs7⟩
                    rw [if_neg ho]
                    rw [e1] at hs7
                    go_wp2_with fail
                    go_meet
                    exact ⟨L, hok, hs7.perm (by ac_rfl)⟩
                · have d1 : decide (0 ≤ t) = false := by simp; omega
                  go_wp2_with fail
                  refine (rowAdd _ _ L t _ _ _ hs6 hok).mono ?_
                  rintro e w2 ⟨rfl, hs7⟩
                  rw [if_neg ho]
                  rw [e1] at hs7
                  go_wp2_with fail
                  go_meet
                  exact ⟨L, hok, hs7.perm (by ac_rfl)⟩
            · have b1 : (kd == 1) = false := by simp [k1]
              by_cases k2 : kd = 2
              · subst k2
                have hsd := hs6.drew
                have hix : idx L t = if t ∈ L then (L.idxOf t : Int) else -1 := rfl
                have hef : L.erase t = L.filter (· != t) := hok.1.erase_eq_filter t
                have hok2 := rowOk_erase hok t
                have hge := idx_nonneg (l := L) (t := t)
                have hge := hid hge
                have hef := hid hef
                clear hix
                go_wp2_with fail
                go_region_held3 (fun w' => w'.cell? ⟨wr.heap.size, 1, none⟩ = some (.int .i64 t))
                  (first | go_keep | exact (hs7.perm (by ac_rfl : _ = pts wr.heap.size 0 [.int .i64 2, .int .i64 t] * (rowP w1.heap.size 0 (L.erase t) * (numsP .i64 u6 L * emp)))).c01)
                  (first
                    | (go_at_call 21; refine (rowRemove _ _ L t w0 _ _ hsd hok).mono ?_; rintro e w2 ⟨rfl, hs7⟩)
                    | (go_at_call 22; refine (refIndex _ L t _ (hs7.perm (by ac_rfl : _ = numsP .i64 u6 L * (rowP w1.heap.size 0 (L.erase t) * (pts wr.heap.size 0 [.int .i64 2, .int .i64 t] * emp)))).rdN).mono ?_; rintro e w3 ⟨rfl, rfl⟩))
                have hge' := hge.out
                clear hge
                have c01' := (hs7.perm (by ac_rfl : _ = pts wr.heap.size 0 [.int .i64 2, .int .i64 t] * (rowP w1.heap.size 0 (L.erase t) * (numsP .i64 u6 L * emp)))).c01
                go_wp2_with fail
                clear hge'
                refine (refWithout _ L t w0 _ _ hs7 (stays_own (by ac_rfl : _ = numsP .i64 u6 L * (rowP w1.heap.size 0 (L.erase t) * (pts wr.heap.size 0 [.int .i64 2, .int .i64 t] * emp)))) (by omega)).mono ?_
                rintro e w4 ⟨v', rfl, hs8⟩
                go_wp2_with fail
                go_meet
                refine ⟨L.erase t, hok2, ?_⟩
                rw [hef.out] at hs8 ⊢
                exact (hs8.perm (by ac_rfl : _ = numsP .i64 u6 L * (pts wr.heap.size 0 [.int .i64 2, .int .i64 t] * (rowP w1.heap.size 0 (L.filter (· != t)) * (numsP .i64 v' (L.filter (· != t)) * emp))))).drop
              · have b2 : (kd == 2) = false := by simp [k2]
                go_wp2_with fail
                go_meet
                exact ⟨L, hok, hs5⟩
          case rest =>
            obtain ⟨L', hok', hs6⟩ := hcut
            generalize wr.heap.size = nb at *
            clear hs5 k0 k1
            obtain ⟨a6, cap6, rfl⟩ := (hs6.perm (by ac_rfl : _ = numsP .i64 u6 L' * (rowP w1.heap.size 0 L' * (pts nb 0 [.int .i64 kd, .int .i64 t] * emp)))).slice_form
            have hnw := (r1.rd (hs6.perm (by ac_rfl : _ = pts nb 0 [.int .i64 kd, .int .i64 t] * (rowP w1.heap.size 0 L' * numsP .i64 (.slice a6 L'.length cap6) L') * emp))).news
            have hlen' := rowOk_len hok'
            go_wp2_with (at_builtin; refine wpList_append_sat (by rfl) (.tmp 90) (.tmp 91) (by rfl) elemI (by rfl) (hs6.empty_slice 1 3) la l1.length lcap (l1.map (Value.int .i64)) (by rfl) (by simp) hnw.2.1 (fun a' ha' j u hj => cell_alloc (hnw.2.2 a' ha' j u hj) _) (oneCell_ints l1) (by unfold maxLen; omega) (by omega) ?_)
            intro v' w2 hs7 _
            clear hnw
            have hs8 : Sat w0 w2 (numsP .i64 v' l1 * (pts nb 0 [.int .i64 kd, .int .i64 t] * (rowP w1.heap.size 0 L' * (numsP .i64 (.slice a6 L'.length cap6) L' * emp)))) := by simpa [numsP] using hs7
            clear hs7 hs6
            have rv := hs8.rdN
            have rl := (hs8.perm (by ac_rfl : _ = numsP .i64 (.slice a6 L'.length cap6) L' * (numsP .i64 v' l1 * (pts nb 0 [.int .i64 kd, .int .i64 t] * (rowP w1.heap.size 0 L' * emp))))).rdN
            have r1' := r1.rd (hs8.perm (by ac_rfl : _ = numsP .i64 v' l1 * (pts nb 0 [.int .i64 kd, .int .i64 t] * (rowP w1.heap.size 0 L' * numsP .i64 (.slice a6 L'.length cap6) L')) * emp))
            have hs9 := hs8.perm (by ac_rfl : _ = rowP w1.heap.size 0 L' * (numsP .i64 v' l1 * (pts nb 0 [.int .i64 kd, .int .i64 t] * (numsP .i64 (.slice a6 L'.length cap6) L' * emp))))
            have hnn : ∀ x ∈ L', 0 ≤ x := fun x hx => (hok'.2 x hx).1
            clear hlc hla h1 h0 hc
            by_cases hL : L' = []
            · subst hL
              go_wp2_with fail
              refine (rowBest _ _ [] _ l1 w0 _ _ hs9 rv hok').mono ?_
              rintro e w3 ⟨rfl, n3, rfl⟩
              rw [decide_eq_false (by simp : ¬ ([] : List Int) ≠ []), show bestOf l1 [] = 0 from rfl]
              go_wp2_with fail
              refine (refBest _ _ [] l1 _ (rl.drewN n3) (r1'.drewN n3) hnn (by omega)).mono ?_
              rintro e w4 ⟨rfl, n4, rfl⟩
              rw [show rBest l1 [] = -1 from rfl]
              have hsa := (hs9.drewN n3).drewN n4
              have ca := (hsa.perm (by ac_rfl : _ = pts nb 0 [.int .i64 kd, .int .i64 t] * (rowP w1.heap.size 0 [] * (numsP .i64 v' l1 * (numsP .i64 (.slice a6 ([] : List Int).length cap6) [] * emp))))).c01
              have hsb := hsa.drew
              clear hs9 rv rl r1' hs8
              generalize (w2.drewN n3).drewN n4 = w5 at *
              go_wp2_with fail
              have hl6 : ([] : List Int).length ≤ 1000000 := by first | omega | simp
              have hge : decide (0 ≤ idx [] t) = decide (t ∈ ([] : List Int)) := idx_nonneg
              have hge := hid hge
              go_wp2_with fail
              refine wp_region_early (fun w' => w'.cell? ⟨nb, 1, none⟩ = some (.int .i64 t)) [(0, true), (1, true), (2, true), (3, true), (4, true), (5, true), (6, true), (7, true), (8, true), (9, true), (10, true), (11, true), (12, true), (13, true), (14, true), (15, true), (16, true), (17, true), (18, true), (19, true), (20, true), (22, true), (21, false), (23, false), (24, true), (25, true), (26, true), (27, true), (28, true), (30, true), (31, true), (32, true), (29, false), (33, false), (34, true), (35, true), (36, true)] (by kernel_rfl) (by kernel_rfl) (fun _ _ _ _ h => h) ca ?_
              iterate 22 (refine early_read (fun K hK => ?_); simp only [List.getElem?_cons_succ, List.getElem?_cons_zero]; (first | (rw [if_pos (by rfl)]; apply Exists.intro; refine ⟨fun w hSw => ?_, hK _ ?_⟩; (focus ((try dsimp only at hSw); go_simp; try with_reducible rfl))) | (rw [if_neg (ne_true_of_eq_false (by rfl))]; refine hK _ ?_)); clear hK K; simp only [Act.put, List.setIfInBounds_toArray, List.set_cons_zero, List.set_cons_succ])
              refine early_run (fun K hK => ?_)
              simp only [List.getElem?_cons_succ, List.getElem?_cons_zero]
              rw [if_pos (by rfl)]
              go_wp2_with fail
              refine (rowAll _ _ [] w0 _ _ hsb hl6).mono ?_
              rintro e w6 ⟨va, rfl, hsA⟩
              go_wp2_with fail
              have cA := (hsA.perm (by ac_rfl : _ = pts nb 0 [.int .i64 kd, .int .i64 t] * (numsP .i64 va [] * (rowP w1.heap.size 0 [] * (numsP .i64 v' l1 * (numsP .i64 (.slice a6 ([] : List Int).length cap6) [] * emp)))))).c01
              refine ⟨cA, ?_⟩
              have rA := hsA.rdN
              have rB := (hsA.perm (by ac_rfl : _ = numsP .i64 (.slice a6 ([] : List Int).length cap6) [] * (numsP .i64 va [] * (rowP w1.heap.size 0 [] * (numsP .i64 v' l1 * (pts nb 0 [.int .i64 kd, .int .i64 t] * emp)))))).rdN
              refine early_run (fun K hK => ?_)
              simp only [List.getElem?_cons_succ, List.getElem?_cons_zero]
              rw [if_pos (by rfl)]
              go_wp2_with fail
              refine (ints _ _ [] [] _ rA rB).mono ?_
              rintro e w7 ⟨rfl, n7, rfl⟩
              rw [decide_eq_true (rfl : ([] : List Int) = [])]
              have hsB := hsA.drewN n7
              go_wp2_with fail
              refine ⟨cA, ?_⟩
              iterate 8 (refine early_read (fun K hK => ?_); simp only [List.getElem?_cons_succ, List.getElem?_cons_zero]; (first | (rw [if_pos (by rfl)]; apply Exists.intro; refine ⟨fun w hSw => ?_, hK _ ?_⟩; (focus ((try dsimp only at hSw); go_simp; try with_reducible rfl))) | (rw [if_neg (ne_true_of_eq_false (by rfl))]; refine hK _ ?_)); clear hK K; simp only [Act.put, List.setIfInBounds_toArray, List.set_cons_zero, List.set_cons_succ])
              refine early_run (fun K hK => ?_)
              simp only [List.getElem?_cons_succ, List.getElem?_cons_zero]
              rw [if_pos (by rfl)]
              go_wp2_with fail
              refine (rowHas _ _ [] t w0 _ _ (hsB.perm (by ac_rfl : _ = rowP w1.heap.size 0 [] * (numsP .i64 va [] * (numsP .i64 (.slice a6 ([] : List Int).length cap6) [] * (numsP .i64 v' l1 * (pts nb 0 [.int .i64 kd, .int .i64 t] * emp))))))).mono ?_
              rintro e w8 ⟨rfl, rfl⟩
              go_wp2_with fail
              refine ⟨cA, ?_⟩
              refine early_run (fun K hK => ?_)
              simp only [List.getElem?_cons_succ, List.getElem?_cons_zero]
              rw [if_pos (by rfl)]
              go_wp2_with fail
              refine (refIndex _ [] t _ (rB.drewN n7)).mono ?_
              rintro e w9 ⟨rfl, rfl⟩
              go_wp2_with fail
              refine ⟨cA, ?_⟩
              iterate 3 (refine early_read (fun K hK => ?_); simp only [List.getElem?_cons_succ, List.getElem?_cons_zero]; (first | (rw [if_pos (by rfl)]; apply Exists.intro; refine ⟨fun w hSw => ?_, hK _ ?_⟩; (focus ((try dsimp only at hSw); go_simp; try with_reducible rfl))) | (rw [if_neg (ne_true_of_eq_false (by rfl))]; refine hK _ ?_)); clear hK K; simp only [Act.put, List.setIfInBounds_toArray, List.set_cons_zero, List.set_cons_succ])
              refine early_done ?_
              have hge' := hge.out
              clear hge
              go_wp2_with fail
              clear hge'
              go_roundw
              case rel => exact ⟨k + 1, [], by omega, by go_num, hok', (hsB.drop.perm (by ac_rfl : _ = numsP .i64 v' l1 * (pts nb 0 [.int .i64 kd, .int .i64 t] * (rowP w1.heap.size 0 [] * (numsP .i64 (.slice a6 ([] : List Int).length cap6) [] * emp))))).drop.drop⟩
              case measure => simp [intOf]; omega
            · have hag : rBest l1 L' = bestOf l1 L' := by
                cases L' with
                | nil => exact absurd rfl hL
                | cons x r => exact best_agree l1 x r (hnn x (by simp)) (fun y hy => hnn y (by simp [hy]))
              have hb0 := hnn _ (best_in l1 L' hL)
              go_wp2_with fail
              refine (rowBest _ _ L' _ l1 w0 _ _ hs9 rv hok').mono ?_
              rintro e w3 ⟨rfl, n3, rfl⟩
              rw [decide_eq_true hL]
              go_wp2_with fail
              refine (refBest _ _ L' l1 _ (rl.drewN n3) (r1'.drewN n3) hnn (by omega)).mono ?_
              rintro e w4 ⟨rfl, n4, rfl⟩
              rw [hag]
              clear hag
              generalize bestOf l1 L' = bb at *
              have db : decide (0 ≤ bb) = true := by simp [hb0]
              have hsa := (hs9.drewN n3).drewN n4
              have ca := (hsa.perm (by ac_rfl : _ = pts nb 0 [.int .i64 kd, .int .i64 t] * (rowP w1.heap.size 0 L' * (numsP .i64 v' l1 * (numsP .i64 (.slice a6 L'.length cap6) L' * emp))))).c01
              have hsb := hsa.drew
              clear hs9 rv rl r1' hs8
              generalize (w2.drewN n3).drewN n4 = w5 at *
              go_wp2_with fail
              have hl6 : (L' : List Int).length ≤ 1000000 := by first | omega | simp
              have hge : decide (0 ≤ idx L' t) = decide (t ∈ (L' : List Int)) := idx_nonneg
              have hge := hid hge
              go_wp2_with fail
              refine wp_region_early (fun w' => w'.cell? ⟨nb, 1, none⟩ = some (.int .i64 t)) [(0, true), (1, true), (2, true), (3, true), (4, true), (5, true), (6, true), (7, true), (8, true), (9, true), (10, true), (11, true), (12, true), (13, true), (14, true), (15, true), (16, true), (17, true), (18, true), (19, true), (20, true), (22, true), (21, false), (23, false), (24, true), (25, true), (26, true), (27, true), (28, true), (30, true), (31, true), (32, true), (29, false), (33, false), (34, true), (35, true), (36, true)] (by kernel_rfl) (by kernel_rfl) (fun _ _ _ _ h => h) ca ?_
              iterate 22 (refine early_read (fun K hK => ?_); simp only [List.getElem?_cons_succ, List.getElem?_cons_zero]; (first | (rw [if_pos (by rfl)]; apply Exists.intro; refine ⟨fun w hSw => ?_, hK _ ?_⟩; (focus ((try dsimp only at hSw); go_simp; try with_reducible rfl))) | (rw [if_neg (ne_true_of_eq_false (by rfl))]; refine hK _ ?_)); clear hK K; simp only [Act.put, List.setIfInBounds_toArray, List.set_cons_zero, List.set_cons_succ])
              refine early_run (fun K hK => ?_)
              simp only [List.getElem?_cons_succ, List.getElem?_cons_zero]
              rw [if_pos (by rfl)]
              go_wp2_with fail
              refine (rowAll _ _ L' w0 _ _ hsb hl6).mono ?_
              rintro e w6 ⟨va, rfl, hsA⟩
              go_wp2_with fail
              have cA := (hsA.perm (by ac_rfl : _ = pts nb 0 [.int .i64 kd, .int .i64 t] * (numsP .i64 va L' * (rowP w1.heap.size 0 L' * (numsP .i64 v' l1 * (numsP .i64 (.slice a6 L'.length cap6) L' * emp)))))).c01
              refine ⟨cA, ?_⟩
              have rA := hsA.rdN
              have rB := (hsA.perm (by ac_rfl : _ = numsP .i64 (.slice a6 L'.length cap6) L' * (numsP .i64 va L' * (rowP w1.heap.size 0 L' * (numsP .i64 v' l1 * (pts nb 0 [.int .i64 kd, .int .i64 t] * emp)))))).rdN
              refine early_run (fun K hK => ?_)
              simp only [List.getElem?_cons_succ, List.getElem?_cons_zero]
              rw [if_pos (by rfl)]
              go_wp2_with fail
              refine (ints _ _ L' L' _ rA rB).mono ?_
              rintro e w7 ⟨rfl, n7, rfl⟩
              rw [decide_eq_true (rfl : (L' : List Int) = L')]
              have hsB := hsA.drewN n7
              go_wp2_with fail
              refine ⟨cA, ?_⟩
              iterate 8 (refine early_read (fun K hK => ?_); simp only [List.getElem?_cons_succ, List.getElem?_cons_zero]; (first | (rw [if_pos (by rfl)]; apply Exists.intro; refine ⟨fun w hSw => ?_, hK _ ?_⟩; (focus ((try dsimp only at hSw); go_simp; try with_reducible rfl))) | (rw [if_neg (ne_true_of_eq_false (by rfl))]; refine hK _ ?_)); clear hK K; simp only [Act.put, List.setIfInBounds_toArray, List.set_cons_zero, List.set_cons_succ])
              refine early_run (fun K hK => ?_)
              simp only [List.getElem?_cons_succ, List.getElem?_cons_zero]
              rw [if_pos (by rfl)]
              go_wp2_with fail
              refine (rowHas _ _ L' t w0 _ _ (hsB.perm (by ac_rfl : _ = rowP w1.heap.size 0 L' * (numsP .i64 va L' * (numsP .i64 (.slice a6 L'.length cap6) L' * (numsP .i64 v' l1 * (pts nb 0 [.int .i64 kd, .int .i64 t] * emp))))))).mono ?_
              rintro e w8 ⟨rfl, rfl⟩
              go_wp2_with fail
              refine ⟨cA, ?_⟩
              refine early_run (fun K hK => ?_)
              simp only [List.getElem?_cons_succ, List.getElem?_cons_zero]
              rw [if_pos (by rfl)]
              go_wp2_with fail
              refine (refIndex _ L' t _ (rB.drewN n7)).mono ?_
              rintro e w9 ⟨rfl, rfl⟩
              go_wp2_with fail
              refine ⟨cA, ?_⟩
              iterate 3 (refine early_read (fun K hK => ?_); simp only [List.getElem?_cons_succ, List.getElem?_cons_zero]; (first | (rw [if_pos (by rfl)]; apply Exists.intro; refine ⟨fun w hSw => ?_, hK _ ?_⟩; (focus ((try dsimp only at hSw); go_simp; try with_reducible rfl))) | (rw [if_neg (ne_true_of_eq_false (by rfl))]; refine hK _ ?_)); clear hK K; simp only [Act.put, List.setIfInBounds_toArray, List.set_cons_zero, List.set_cons_succ])
              refine early_done ?_
              have hge' := hge.out
              clear hge
              go_wp2_with fail
              clear hge'
              go_roundw
              case rel => exact ⟨k + 1, L', by omega, by go_num, hok', (hsB.drop.perm (by ac_rfl : _ = numsP .i64 v' l1 * (pts nb 0 [.int .i64 kd, .int .i64 t] * (rowP w1.heap.size 0 L' * (numsP .i64 (.slice a6 L'.length cap6) L' * emp))))).drop.drop⟩
              case measure => simp [intOf]; omega
        · go_wp2_with fail
          go_ret
          exact ⟨rfl, hs4.drop.drop⟩
end Go.Proofs.Ytbnfkfbebnkdnaa
