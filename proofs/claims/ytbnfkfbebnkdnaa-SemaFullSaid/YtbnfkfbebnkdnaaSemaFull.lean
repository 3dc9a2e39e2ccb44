/-
  The walk of SemaFull.
-/
import Derived.Test.YtbnfkfbebnkdnaaSemaLawA
namespace Go.Proofs.Ytbnfkfbebnkdnaa
open Go.RowKit Go.Sx

set_option linter.unusedSimpArgs false in
set_option maxHeartbeats 4000000 in
theorem semaFull_walk (u m : Int) (w0 : World) (_z0 : (Lit.int .i64 u).wf = true) (_z1 : (Lit.int .i64 m).wf = true) :
    Calls Try.prog 8 #[.int .i64 u, .int .i64 m] w0 (RetV w0 (.bool true) emp) := by
  have hs := Sat.start w0
  by_cases hu : 0 ≤ u ∧ u ≤ 255
  · by_cases c1 : 0 ≤ m
    · obtain ⟨n, rfl⟩ := Int.eq_ofNat_of_zero_le c1
      by_cases c2 : 600 < n
      · have d2 : decide ((600 : Int) < (n : Int)) = true := by simp; omega
        go_enter Try.func8, Try.ntmps8
        go_wp2_with fail
        refine (semNew_yes u w0 _ _ hs hu).mono ?_
        rintro e w1 ⟨rfl, hs1⟩
        go_wp2_with fail
        refine (semaAwake w0 _ _ hs1).mono ?_
        rintro e w2 ⟨rfl, hs2⟩
        go_wp2_with fail
        refine (semaAwake w0 _ _ hs2).mono ?_
        rintro e w3 ⟨rfl, hs3⟩
        go_wp2_with fail
        go_ret
        exact ⟨rfl, hs3.drop⟩
      · have d2 : decide ((600 : Int) < (n : Int)) = false := by simp; omega
        go_enter Try.func8, Try.ntmps8
        go_wp2_with fail
        refine (semNew_yes u w0 _ _ hs hu).mono ?_
        rintro e w1 ⟨rfl, hs1⟩
        go_wp2_with fail
        refine (semaAwake w0 _ _ hs1).mono ?_
        rintro e w2 ⟨rfl, hs2⟩
        go_wp2_with fail
        go_loopw [7, 36] (fun x i wr => ∃ (k : Nat) (y : Int), k ≤ n ∧ i = .int .i64 k ∧ x = .int .i64 y ∧ SemOk y [] ∧ Sat w0 wr (semP w0.heap.size y [] * emp)) (fun _ i _ => n - (intOf i).toNat)
        case atStart => exact ⟨0, u, Nat.zero_le _, rfl, rfl, semOk_new hu, hs2⟩
        case round =>
          obtain ⟨k, y, hk, rfl, rfl, hok, hs3⟩ := hrel
          clear hs hs1 hs2
          have h0 := hok.lo
          have h255 := hok.hi
          have rn := rdN_nil .i64 wr
          by_cases hlt : k < n
          · by_cases hy : y = 255
            · subst hy
              go_wp2_with fail
              refine (semPost_c _ 255 [] _ [] _ _ _ hs3 rn hok).mono ?_
              rintro e w3 ⟨rfl, hs4⟩
              have hok2 := semOk_post hok []
              rw [show postU 255 [] = 255 by decide, show postL [] [] = [] by decide] at hs4 hok2
              rw [show postE 255 [] = 7 by decide, show postT [] [] = 255 by decide]
              go_wp2_with fail
              refine (semUnits_c _ _ _ _ _ _ hs4).mono ?_
              rintro e w4 ⟨rfl, rfl⟩
              go_wp2_with fail
              go_roundw
              case rel => exact ⟨k + 1, 255, by omega, by go_num, rfl, hok2, hs4⟩
              case measure => simp [intOf]; omega
            · have d3 : decide (y < 255) = true := by simp; omega
              have hm : min (y + 1) 255 = y + 1 := by omega
              have hp : postU y [] = y + 1 := by simp [postU, hy]
              have he : postE y [] = 0 := by simp [postE, hy]
              go_wp2_with fail
              refine (semPost_c _ y [] _ [] _ _ _ hs3 rn hok).mono ?_
              rintro e w3 ⟨rfl, hs4⟩
              have hok2 := semOk_post hok []
              rw [hp, show postL [] [] = [] by decide] at hs4 hok2
              rw [he, show postT [] [] = 255 by decide]
              go_wp2_with fail
              refine (semUnits_c _ _ _ _ _ _ hs4).mono ?_
              rintro e w4 ⟨rfl, rfl⟩
              go_wp2_with fail
              go_roundw
              case rel => exact ⟨k + 1, y + 1, by omega, by go_num, by go_num, hok2, hs4⟩
              case measure => simp [intOf]; omega
          · go_wp2_with fail
            go_ret
            exact ⟨rfl, hs3.drop⟩
    · have d1 : decide (m < 0) = true := by simp; omega
      go_enter Try.func8, Try.ntmps8
      go_wp2_with fail
      refine (semNew_yes u w0 _ _ hs hu).mono ?_
      rintro e w1 ⟨rfl, hs1⟩
      go_wp2_with fail
      refine (semaAwake w0 _ _ hs1).mono ?_
      rintro e w2 ⟨rfl, hs2⟩
      go_wp2_with fail
      refine (semaAwake w0 _ _ hs2).mono ?_
      rintro e w3 ⟨rfl, hs3⟩
      go_wp2_with fail
      go_ret
      exact ⟨rfl, hs3.drop⟩
  · go_enter Try.func8, Try.ntmps8
    go_wp2_with fail
    refine (semNew_no u _ hu).mono ?_
    rintro e w1 ⟨rfl, rfl⟩
    go_wp2_with fail
    refine (semaAwake w0 _ _ hs).mono ?_
    rintro e w2 ⟨rfl, hs2⟩
    go_wp2_with fail
    refine (semaAwake w0 _ _ hs2).mono ?_
    rintro e w3 ⟨rfl, hs3⟩
    go_wp2_with fail
    go_ret
    exact ⟨rfl, hs3⟩
end Go.Proofs.Ytbnfkfbebnkdnaa
