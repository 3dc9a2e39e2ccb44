/-
  The walk of SemaKeeps.
-/
import Derived.Test.YtbnfkfbebnkdnaaSemaLawA
import Derived.Test.YtbnfkfbebnkdnaaWaitLawA
import Derived.Test.YtbnfkfbebnkdnaaLawB
import Derived.Test.YtbnfkfbebnkdnaaRegion
import Derived.Deep.DeepCutAuto
import Derived.Deep.CutBlock
namespace Go.Proofs.Ytbnfkfbebnkdnaa
open Go.RowKit Go.Sx

set_option linter.unusedSimpArgs false in
set_option maxRecDepth 100000 in
set_option maxHeartbeats 8000000 in
theorem semaKeeps_walk (u : Int) (v1 : Value) (l1 : List Int) (v0 : Value) (n0 : Nat) (f0 : Nat → Nat → Int) (w0 : World) (_z0 : (Lit.int .i64 u).wf = true) (h1 : RdN .i64 w0 v1 l1) (_z1 : ∀ n ∈ l1, (Lit.int .i64 n).wf = true) (h0 : RdK [.i64, .i64] w0 v0 n0 f0) :
    Calls Try.prog 11 #[.int .i64 u, v1, v0] w0 (RetV w0 (.bool true) emp) := by
  have hs := Sat.start w0
  have r1 := h1.stays emp
  obtain ⟨a, cap, b, off, rfl, hcap, hbig, ha, hc⟩ := id h0
  obtain ⟨la, lcap, lb, loff, rfl, hlcap, hlbig, hla, hlc⟩ := id h1
  unfold maxLen at hbig hlbig
  by_cases hu : 0 ≤ u ∧ u ≤ 255
  · by_cases c1 : 100 < l1.length
    · have d1 : decide ((100 : Int) < (l1.length : Int)) = true := by simp; omega
      go_enter Try.func11, Try.ntmps11
      go_wp2_with fail
      refine (semNew_yes u w0 _ _ hs hu).mono ?_
      rintro e w1 ⟨rfl, hs1⟩
      go_wp2_with fail
      refine (semaAwake w0 _ _ hs1).mono ?_
      rintro e w2 ⟨rfl, hs2⟩
      go_wp2_with fail
      refine (semaAwake w0 _ _ hs2).mono ?_
      rintro e w3 ⟨rfl, hs3⟩
      go_wp2_with fail
      go_ret
      exact ⟨rfl, hs3.drop⟩
    · have d1 : decide ((100 : Int) < (l1.length : Int)) = false := by simp; omega
      by_cases c2 : 400 < n0
      · have d2 : decide ((400 : Int) < (n0 : Int)) = true := by simp; omega
        go_enter Try.func11, Try.ntmps11
        go_wp2_with fail
        refine (semNew_yes u w0 _ _ hs hu).mono ?_
        rintro e w1 ⟨rfl, hs1⟩
        go_wp2_with fail
        refine (semaAwake w0 _ _ hs1).mono ?_
        rintro e w2 ⟨rfl, hs2⟩
        go_wp2_with fail
        refine (semaAwake w0 _ _ hs2).mono ?_
        rintro e w3 ⟨rfl, hs3⟩
        go_wp2_with fail
        go_ret
        exact ⟨rfl, hs3.drop⟩
      · have d2 : decide ((400 : Int) < (n0 : Int)) = false := by simp; omega
        go_enter Try.func11, Try.ntmps11
        go_wp2_with fail
        refine (semNew_yes u w0 _ _ hs hu).mono ?_
        rintro e w1 ⟨rfl, hs1⟩
        go_wp2_with fail
        refine (semaAwake w0 _ _ hs1).mono ?_
        rintro e w2 ⟨rfl, hs2⟩
        go_wp2_with fail
        go_loopw [9, 10, 11, 44] (fun pv tv gv i wr => ∃ (k : Nat) (x p t g : Int) (l : List Int), k ≤ n0 ∧ i = .int .i64 k ∧ pv = .int .i64 p ∧ tv = .int .i64 t ∧ gv = .int .i64 g ∧ 0 ≤ p ∧ p ≤ k ∧ 0 ≤ t ∧ t ≤ k ∧ 0 ≤ g ∧ g ≤ k ∧ u + p = t + g + x ∧ SemOk x l ∧ Sat w0 wr (semP w0.heap.size x l * emp)) (fun _ _ _ i _ => n0 - (intOf i).toNat)
        case atStart => exact ⟨0, u, 0, 0, 0, [], Nat.zero_le _, rfl, rfl, rfl, rfl, by omega, by omega, by omega, by omega, by omega, by omega, by omega, semOk_new hu, hs2⟩
        case round =>
          obtain ⟨k, x, p, t, g, l, hk, rfl, rfl, rfl, rfl, hp0, hp1, ht0, ht1, hg0, hg1, hsum, hok, hs4⟩ := hrel
          clear hs hs1 hs2
          by_cases hlt : k < n0
          · obtain rfl := ha (by omega)
            have k0 := hs4.keep (hc k 0 _ hlt rfl).1
            have k1 := hs4.keep (hc k 1 _ hlt rfl).1
            simp only [List.length_cons, List.length_nil, Nat.zero_add, Nat.add_zero, ← Nat.add_assoc] at k0 k1
            generalize f0 k 0 = kd at *
            generalize f0 k 1 = tk at *
            have hs5 : Sat w0 (wr.alloc (.cells #[.int .i64 kd, .int .i64 tk] 56)) (pts wr.heap.size 0 [.int .i64 kd, .int .i64 tk] * (semP w0.heap.size x l * emp)) := hs4.alloc _ _
            clear hs4
            have hsum := hid hsum
            go_upto_block 2 with fail
            go_cut [9, 10, 11] (fun pv tv gv wx => ∃ (x' p' t' g' : Int) (l' : List Int), pv = .int .i64 p' ∧ tv = .int .i64 t' ∧ gv = .int .i64 g' ∧ 0 ≤ p' ∧ p' ≤ k + 1 ∧ 0 ≤ t' ∧ t' ≤ k + 1 ∧ 0 ≤ g' ∧ g' ≤ k + 1 ∧ u + p' = t' + g' + x' ∧ SemOk x' l' ∧ Sat w0 wx (semP w0.heap.size x' l' * (pts wr.heap.size 0 [.int .i64 kd, .int .i64 tk] * emp)))
            case first =>
              have c01 := hs5.c01
              have hs6 := hs5.perm (by ac_rfl : _ = semP w0.heap.size x l * (pts wr.heap.size 0 [.int .i64 kd, .int .i64 tk] * emp))
              have hlo := hok.lo
              have hhi := hok.hi
              by_cases k1 : kd = 1
              · subst k1
                have hok2 := semOk_take hok
                by_cases hx : x = 0
                · subst hx
                  go_wp2_with fail
                  refine (semTake_c _ _ _ _ _ _ hs6 hok).mono ?_
                  rintro e w3 ⟨rfl, hs7⟩
                  rw [show takeU 0 = 0 by decide] at hs7
                  rw [show takeE 0 = 8 by decide]
                  go_wp2_with fail
                  go_meet
                  exact ⟨0, p, t, g, l, rfl, rfl, rfl, by omega, by omega, by omega, by omega, by omega, by omega, by have := hsum.out; omega, hok, hs7⟩
                · have he : takeE x = 0 := by simp [takeE, hx]
                  have hv : takeU x = x - 1 := by simp [takeU, hx]
                  go_wp2_with fail
                  refine (semTake_c _ _ _ _ _ _ hs6 hok).mono ?_
                  rintro e w3 ⟨rfl, hs7⟩
                  rw [hv] at hs7 hok2
                  rw [he]
                  go_wp2_with fail
                  go_meet
                  exact ⟨x - 1, p, t + 1, g, l, rfl, by go_num, rfl, by omega, by omega, by omega, by omega, by omega, by omega, by have := hsum.out; omega, hok2, hs7⟩
              · have b1 : (kd == 1) = false := by simp [k1]
                by_cases k2 : kd = 2
                · subst k2
                  have hok2 := semOk_await hok tk
                  go_wp2_with fail
                  refine (semAwait_c _ _ _ tk _ _ _ hs6 hok).mono ?_
                  rintro e w3 ⟨rfl, hs7⟩
                  generalize awaitE x l tk = ee
                  go_wp2_with fail
                  go_meet
                  exact ⟨x, p, t, g, awaitL x l tk, rfl, rfl, rfl, by omega, by omega, by omega, by omega, by omega, by omega, by have := hsum.out; omega, hok2, hs7⟩
                · have b2 : (kd == 2) = false := by simp [k2]
                  by_cases k3 : kd = 3
                  · subst k3
                    have hok2 := semOk_post hok l1
                    have rl := r1.rd (hs6.perm (by ac_rfl : _ = semP w0.heap.size x l * pts wr.heap.size 0 [.int .i64 3, .int .i64 tk] * emp))
                    by_cases hl : l = []
                    · subst hl
                      by_cases hx : x = 255
                      · subst hx
                        go_wp2_with fail
                        refine (semPost_c _ _ _ _ l1 _ _ _ hs6 rl hok).mono ?_
                        rintro e w3 ⟨rfl, hs7⟩
                        rw [show postU 255 [] = 255 by decide, show postL l1 [] = [] by rfl] at hs7
                        rw [show postE 255 [] = 7 by decide, show postT l1 [] = 255 by rfl]
                        go_wp2_with fail
                        go_meet
                        exact ⟨255, p, t, g, [], rfl, rfl, rfl, by omega, by omega, by omega, by omega, by omega, by omega, by have := hsum.out; omega, hok, hs7⟩
                      · have he : postE x [] = 0 := by simp [postE, hx]
                        have hv : postU x [] = x + 1 := by simp [postU, hx]
                        go_wp2_with fail
                        refine (semPost_c _ _ _ _ l1 _ _ _ hs6 rl hok).mono ?_
                        rintro e w3 ⟨rfl, hs7⟩
                        rw [hv, show postL l1 [] = [] by rfl] at hs7 hok2
                        rw [he, show postT l1 [] = 255 by rfl]
                        go_wp2_with fail
                        go_meet
                        exact ⟨x + 1, p + 1, t, g, [], by go_num, rfl, rfl, by omega, by omega, by omega, by omega, by omega, by omega, by have := hsum.out; omega, hok2, hs7⟩
                    · have he : postE x l = 0 := by simp [postE, hl]
                      have hv : postU x l = x := by simp [postU, hl]
                      have hT : postT l1 l = bestOf l1 l := by simp [postT, hl]
                      have hin := hok.row.2 _ (best_in l1 l hl)
                      go_wp2_with fail
                      refine (semPost_c _ _ _ _ l1 _ _ _ hs6 rl hok).mono ?_
                      rintro e w3 ⟨rfl, hs7⟩
                      rw [hv] at hs7 hok2
                      rw [he, hT]
                      clear hT
                      generalize bestOf l1 l = bb at *
                      have db : decide (bb = 255) = false := by simp; omega
                      have db2 : (bb == 255) = false := by simp; omega
                      go_wp2_with fail
                      go_meet
                      exact ⟨x, p + 1, t, g + 1, postL l1 l, by go_num, rfl, by go_num, by omega, by omega, by omega, by omega, by omega, by omega, by have := hsum.out; omega, hok2, hs7⟩
                  · have b3 : (kd == 3) = false := by simp [k3]
                    by_cases k4 : kd = 4
                    · subst k4
                      have hok2 := semOk_cancel hok tk
                      go_wp2_with fail
                      refine (semCancel_c _ _ _ tk _ _ _ hs6 hok).mono ?_
                      rintro e w3 ⟨rfl, hs7⟩
                      go_wp2_with fail
                      go_meet
                      exact ⟨x, p, t, g, l.erase tk, rfl, rfl, rfl, by omega, by omega, by omega, by omega, by omega, by omega, by have := hsum.out; omega, hok2, hs7⟩
                    · have b4 : (kd == 4) = false := by simp [k4]
                      go_wp2_with fail
                      go_meet
                      exact ⟨x, p, t, g, l, rfl, rfl, rfl, by omega, by omega, by omega, by omega, by omega, by omega, by have := hsum.out; omega, hok, hs6⟩
            case rest =>
              obtain ⟨x', p', t', g', l', rfl, rfl, rfl, hp0', hp1', ht0', ht1', hg0', hg1', hsum', hok', hs6⟩ := hcut
              have hsum' := hid hsum'
              have hlo := hok'.lo
              have hhi := hok'.hi
              clear hs5 k0 k1
              by_cases hx : x' = 0
              · subst hx
                go_wp2_with fail
                refine (semUnits_c _ _ _ _ _ _ hs6).mono ?_
                rintro e w3 ⟨rfl, rfl⟩
                go_wp2_with fail
                refine (semUnits_c _ _ _ _ _ _ hs6).mono ?_
                rintro e w3 ⟨rfl, rfl⟩
                go_wp2_with fail
                refine (semUnits_c _ _ _ _ _ _ hs6).mono ?_
                rintro e w3 ⟨rfl, rfl⟩
                go_wp2_with fail
                go_roundw
                case rel => exact ⟨k + 1, 0, p', t', g', l', by omega, by go_num, rfl, rfl, rfl, by omega, by omega, by omega, by omega, by omega, by omega, hsum'.out, hok', (hs6.perm (by ac_rfl : _ = pts wr.heap.size 0 [.int .i64 kd, .int .i64 tk] * (semP w0.heap.size 0 l' * emp))).drop⟩
                case measure => simp [intOf]; omega
              · have hl' := hok'.rest (by omega)
                subst hl'
                have e1 : decide (x' < 0) = false := by simp; omega
                have e2 : decide (255 < x') = false := by simp; omega
                have e3 : decide (0 < x') = true := by simp; omega
                go_wp2_with fail
                refine (semUnits_c _ _ _ _ _ _ hs6).mono ?_
                rintro e w3 ⟨rfl, rfl⟩
                go_wp2_with fail
                refine (semUnits_c _ _ _ _ _ _ hs6).mono ?_
                rintro e w3 ⟨rfl, rfl⟩
                go_wp2_with fail
                refine (semUnits_c _ _ _ _ _ _ hs6).mono ?_
                rintro e w3 ⟨rfl, rfl⟩
                go_wp2_with fail
                refine (semWaiting_c _ _ _ _ _ _ hs6 hok').mono ?_
                rintro e w3 ⟨v, rfl, hs7⟩
                obtain ⟨a, cap, rfl⟩ := hs7.slice_form
                go_wp2_with fail
                go_roundw
                case rel => exact ⟨k + 1, x', p', t', g', [], by omega, by go_num, rfl, rfl, rfl, by omega, by omega, by omega, by omega, by omega, by omega, hsum'.out, hok', (hs7.drop.perm (by ac_rfl : _ = pts wr.heap.size 0 [.int .i64 kd, .int .i64 tk] * (semP w0.heap.size x' [] * emp))).drop⟩
                case measure => simp [intOf]; omega
          · have hlo := hok.lo
            have hhi := hok.hi
            have hfin : u + p = t + g + x := hsum
            have d9 : decide (u + p = t + g + x) = true := by simp [hfin]
            have hfin := hid hfin
            clear hsum
            go_wp2_with fail
            refine (semUnits_c _ _ _ _ _ _ hs4).mono ?_
            rintro e w3 ⟨rfl, rfl⟩
            go_wp2_with fail
            go_ret
            exact ⟨rfl, hs4.drop⟩
  · go_enter Try.func11, Try.ntmps11
    go_wp2_with fail
    refine (semNew_no u _ hu).mono ?_
    rintro e w1 ⟨rfl, rfl⟩
    go_wp2_with fail
    refine (semaAwake w0 _ _ hs).mono ?_
    rintro e w2 ⟨rfl, hs2⟩
    go_wp2_with fail
    refine (semaAwake w0 _ _ hs2).mono ?_
    rintro e w3 ⟨rfl, hs3⟩
    go_wp2_with fail
    go_ret
    exact ⟨rfl, hs3⟩
end Go.Proofs.Ytbnfkfbebnkdnaa
