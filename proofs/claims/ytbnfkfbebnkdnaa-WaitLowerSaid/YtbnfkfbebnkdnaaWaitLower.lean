/-
  WaitLower: for every input the law returns true, and each argument reads afterwards as before.
-/
import Derived.Test.YtbnfkfbebnkdnaaWaitLawA
namespace Go.Proofs.Ytbnfkfbebnkdnaa
open Go.RowKit Go.Sx

theorem waitLower_walk (v0 : Value) (l0 : List Int) (v1 : Value) (l1 : List Int) (g : Int) (w0 : World) (h0 : RdN .i64 w0 v0 l0) (_z0 : ∀ n ∈ l0, (Lit.int .i64 n).wf = true) (h1 : RdN .i64 w0 v1 l1) (_z1 : ∀ n ∈ l1, (Lit.int .i64 n).wf = true) (_z2 : (Lit.int .i64 g).wf = true) :
    Calls Try.prog 3 #[v0, v1, .int .i64 g] w0 (RetV w0 (.bool true) emp) := by
  have hs := Sat.start w0
  have r0 := h0.stays emp
  have r1 := h1.stays emp
  obtain ⟨a, cap, b, off, rfl, hcap, hbig, ha, hc⟩ := id h0
  obtain ⟨la, lcap, lb, loff, rfl, hlcap, hlbig, hla, hlc⟩ := id h1
  unfold maxLen at hbig hlbig
  by_cases c1 : 100 < l0.length
  · have d1 : decide ((100 : Int) < (l0.length : Int)) = true := by simp; omega
    go_enter Try.func3, Try.ntmps3
    go_wp2_with fail
    refine (waitAwake w0 _ emp hs).mono ?_
    rintro e w1 ⟨rfl, hs1⟩
    go_wp2_with fail
    refine (waitAwake w0 _ emp hs1).mono ?_
    rintro e w2 ⟨rfl, hs2⟩
    go_wp2_with fail
    go_ret
    exact ⟨rfl, hs2⟩
  · have d1 : decide ((100 : Int) < (l0.length : Int)) = false := by simp; omega
    by_cases c2 : 100 < l1.length
    · have d2 : decide ((100 : Int) < (l1.length : Int)) = true := by simp; omega
      go_enter Try.func3, Try.ntmps3
      go_wp2_with fail
      refine (waitAwake w0 _ emp hs).mono ?_
      rintro e w1 ⟨rfl, hs1⟩
      go_wp2_with fail
      refine (waitAwake w0 _ emp hs1).mono ?_
      rintro e w2 ⟨rfl, hs2⟩
      go_wp2_with fail
      go_ret
      exact ⟨rfl, hs2⟩
    · have d2 : decide ((100 : Int) < (l1.length : Int)) = false := by simp; omega
      go_enter Try.func3, Try.ntmps3
      go_wp2_with fail
      refine (waitAwake w0 _ emp hs).mono ?_
      rintro e w1 ⟨rfl, hs1⟩
      have hs2 := rowP_new hs1 25
      go_wp2_with fail
      go_loopw [29] (fun i wr => ∃ k : Nat, k ≤ l0.length ∧ i = .int .i64 k ∧ Sat w0 wr (rowP w1.heap.size 0 ((l0.take k).foldl addOne []) * emp)) (fun i _ => l0.length - (intOf i).toNat)
      case atStart => exact ⟨0, Nat.zero_le _, rfl, hs2⟩
      case round =>
        obtain ⟨k, hk, rfl, hs3⟩ := hrel
        clear hs hs1 hs2
        have hok := addAll_ok (l0.take k)
        by_cases hlt : k < l0.length
        · obtain rfl := ha (by intro h; simp [h] at hlt)
          have hcell := hs3.keep (hc k hlt)
          have hnext := hid (addAll_next hlt)
          generalize l0.getD k 0 = x at hcell hnext
          generalize (l0.take k).foldl addOne [] = L at *
          clear hc ha hlc hla
          go_wp2_with fail
          refine (rowAdd _ _ L x _ _ _ hs3 hok).mono ?_
          rintro e w2 ⟨rfl, hs4⟩
          clear hcell hs3
          go_wp2_with fail
          go_roundw
          case rel => exact ⟨k + 1, by omega, by go_num, by rw [hnext.out]; exact hs4⟩
          case measure => simp [intOf]; omega
        · have hk' : l0.take k = l0 := List.take_of_length_le (by omega)
          rw [hk'] at hs3 hok
          generalize l0.foldl addOne [] = L at *
          clear hc hlc
          go_wp2_with fail
          refine (rowBest _ _ L _ l1 _ _ _ hs3 (r1.rd hs3) hok).mono ?_
          rintro e w2 ⟨rfl, n, rfl⟩
          have hs4 := hs3.drewN n
          by_cases hL : L = []
          · have d3 : decide (L ≠ []) = false := by simp [hL]
            rw [d3]
            have hL := hid hL
            have hg : g = bestOf l1 L ∨ ¬ g = bestOf l1 L := Decidable.em _
            generalize bestOf l1 L = bb at *
            rcases hg with hg | hg
            · have d4 : (g == bb) = true := by simp [hg]
              have hg := hid hg
              go_wp2_with fail
              go_ret
              exact ⟨rfl, hs4.drop⟩
            · have d4 : (g == bb) = false := by simp [hg]
              go_wp2_with fail
              go_ret
              exact ⟨rfl, hs4.drop⟩
          · have d3 : decide (L ≠ []) = true := by simp [hL]
            rw [d3]
            by_cases hg : g = bestOf l1 L
            · have d4 : (g == bestOf l1 L) = true := by simp [hg]
              generalize bestOf l1 L = bb at *
              have hg := hid hg
              go_wp2_with fail
              go_ret
              exact ⟨rfl, hs4.drop⟩
            · have d4 : (g == bestOf l1 L) = false := by simp [hg]
              have hbe := best_erase l1 L g hL hg
              have hoke := rowOk_erase hok g
              generalize bestOf l1 L = bb at *
              go_wp2_with fail
              refine (rowRemove _ _ L g _ _ _ hs4 hok).mono ?_
              rintro e w4 ⟨rfl, hs5⟩
              clear hs4 hs3
              go_wp2_with fail
              refine (rowBest _ _ (L.erase g) _ l1 _ _ _ hs5 (r1.rd hs5) hoke).mono ?_
              rintro e w5 ⟨rfl, n5, rfl⟩
              rw [decide_eq_true hbe.1, hbe.2]
              have hs6 := hs5.drewN n5
              go_wp2_with fail
              go_ret
              exact ⟨rfl, hs6.drop⟩
end Go.Proofs.Ytbnfkfbebnkdnaa
