/-
  The walks of WaitNil and WaitOwn.
-/
import Derived.Test.YtbnfkfbebnkdnaaWaitLawA
namespace Go.Proofs.Ytbnfkfbebnkdnaa
open Go.RowKit Go.Sx

theorem rowAdd_nil (t : Int) (w : World) :
    Calls Try.prog 19 #[.pointer none, .int .i64 t] w fun e w' => e = .returned (.int .i64 16) ∧ w = w' := by
  go_enter Try.func19, Try.ntmps19
  go_wp2
  go_ret
  exact ⟨rfl, rfl⟩

theorem waitNil_walk (t : Int) (v1 : Value) (l1 : List Int) (w0 : World) (_z0 : (Lit.int .i64 t).wf = true) (h1 : RdN .i64 w0 v1 l1) (_z1 : ∀ n ∈ l1, (Lit.int .i64 n).wf = true) :
    Calls Try.prog 7 #[.int .i64 t, v1] w0 (RetV w0 (.bool true) emp) := by
  have hs := Sat.start w0
  obtain ⟨la, lcap, lb, loff, rfl, _, _, _, _⟩ := h1
  go_enter Try.func7, Try.ntmps7
  go_wp2_with fail
  refine (rowBest_nil _ _).mono ?_
  rintro e w1 ⟨rfl, rfl⟩
  go_wp2_with fail
  refine (waitAwake w0 _ emp hs).mono ?_
  rintro e w1 ⟨rfl, hs1⟩
  clear hs
  go_wp2_with fail
  refine (rowAdd_nil _ _).mono ?_
  rintro e w2 ⟨rfl, rfl⟩
  go_wp2_with fail
  refine (rowRemove_nil _ _).mono ?_
  rintro e w2 ⟨rfl, rfl⟩
  go_wp2_with fail
  refine (rowHas_nil _ _).mono ?_
  rintro e w2 ⟨rfl, rfl⟩
  go_wp2_with fail
  refine (rowAll_nil w0 _ _ hs1).mono ?_
  rintro e w2 ⟨v, rfl, hs2⟩
  obtain ⟨a, cap, rfl⟩ := hs2.slice_form
  go_wp2_with fail
  go_ret
  exact ⟨rfl, hs2.drop⟩

theorem waitOwn_walk (v0 : Value) (l0 : List Int) (n : Int) (w0 : World) (h0 : RdN .i64 w0 v0 l0) (_z0 : ∀ n ∈ l0, (Lit.int .i64 n).wf = true) (_z1 : (Lit.int .i64 n).wf = true) :
    Calls Try.prog 6 #[v0, .int .i64 n] w0 (RetV w0 (.bool true) emp) := by
  have hs := Sat.start w0
  obtain ⟨a, cap, b, off, rfl, hcap, hbig, ha, hc⟩ := id h0
  unfold maxLen at hbig
  by_cases c1 : 100 < l0.length
  · have d1 : decide ((100 : Int) < (l0.length : Int)) = true := by simp; omega
    go_enter Try.func6, Try.ntmps6
    go_wp2_with fail
    refine (waitAwake w0 _ emp hs).mono ?_
    rintro e w1 ⟨rfl, hs1⟩
    go_wp2_with fail
    refine (waitAwake w0 _ emp hs1).mono ?_
    rintro e w2 ⟨rfl, hs2⟩
    go_wp2_with fail
    go_ret
    exact ⟨rfl, hs2⟩
  · have d1 : decide ((100 : Int) < (l0.length : Int)) = false := by simp; omega
    go_enter Try.func6, Try.ntmps6
    go_wp2_with fail
    refine (waitAwake w0 _ emp hs).mono ?_
    rintro e w1 ⟨rfl, hs1⟩
    have hs2 := rowP_new hs1 25
    go_wp2_with fail
    go_loopw [20] (fun i wr => ∃ k : Nat, k ≤ l0.length ∧ i = .int .i64 k ∧ Sat w0 wr (rowP w1.heap.size 0 ((l0.take k).foldl addOne []) * emp)) (fun i _ => l0.length - (intOf i).toNat)
    case atStart => exact ⟨0, Nat.zero_le _, rfl, hs2⟩
    case round =>
      obtain ⟨k, hk, rfl, hs3⟩ := hrel
      clear hs hs1 hs2
      have hok := addAll_ok (l0.take k)
      by_cases hlt : k < l0.length
      · obtain rfl := ha (by intro h; simp [h] at hlt)
        have hcell := hs3.keep (hc k hlt)
        have hnext := hid (addAll_next hlt)
        generalize l0.getD k 0 = x at hcell hnext
        generalize (l0.take k).foldl addOne [] = L at *
        clear hc ha
        go_wp2_with fail
        refine (rowAdd _ _ L x _ _ _ hs3 hok).mono ?_
        rintro e w2 ⟨rfl, hs4⟩
        clear hcell hs3
        go_wp2_with fail
        go_roundw
        case rel => exact ⟨k + 1, by omega, by go_num, by rw [hnext.out]; exact hs4⟩
        case measure => simp [intOf]; omega
      · have hk' : l0.take k = l0 := List.take_of_length_le (by omega)
        rw [hk'] at hs3 hok
        generalize l0.foldl addOne [] = L at *
        have hlen := rowOk_len hok
        clear hc
        go_wp2_with fail
        refine (rowAll _ _ L w0 _ _ hs3 (by omega)).mono ?_
        rintro e w2 ⟨v2, rfl, hs4⟩
        clear hs3
        go_wp2_with fail
        have hs5 := hs4.perm (by ac_rfl : _ = rowP w1.heap.size 0 L * (numsP .i64 v2 L * emp))
        refine (rowAll _ _ L w0 _ _ hs5 (by omega)).mono ?_
        rintro e w3 ⟨v3, rfl, hs6⟩
        clear hs4 hs5
        rcases hs6.slice_out with ⟨rfl, h00, _, hs7⟩ | ⟨g, goff, cap3, sp, rfl, hc3, hm3, hx3, hsp3, hs7⟩
        · have hn : ¬ (0 ≤ n ∧ n < 0) := by omega
          have hL : L = [] := List.eq_nil_of_length_eq_zero h00
          subst hL
          have fin : ∀ e w', Ret w0 (fun v => numsP .i64 v [] * (rowP w1.heap.size 0 [] * (numsP .i64 v2 [] * emp))) e w' → True := fun _ _ _ => trivial
          by_cases hn0 : 0 ≤ n
          · have hn1 : decide (n < 0) = false := by simp; omega
            go_wp2_with fail
            refine (rowAll _ _ [] w0 _ _ hs7 (by simp)).mono ?_
            rintro e w4 ⟨v4, rfl, hs8⟩
            have r4 := hs8.rdN
            have r2 := (hs8.perm (by ac_rfl : _ = numsP .i64 v2 [] * (numsP .i64 v4 [] * (rowP w1.heap.size 0 [] * emp)))).rdN
            go_wp2_with fail
            refine (ints _ _ [] [] _ r4 r2).mono ?_
            rintro e w5 ⟨rfl, n5, rfl⟩
            go_wp2_with fail
            go_ret
            exact ⟨rfl, (hs8.drewN n5).drop.drop.drop⟩
          · go_wp2_with fail
            refine (rowAll _ _ [] w0 _ _ hs7 (by simp)).mono ?_
            rintro e w4 ⟨v4, rfl, hs8⟩
            have r4 := hs8.rdN
            have r2 := (hs8.perm (by ac_rfl : _ = numsP .i64 v2 [] * (numsP .i64 v4 [] * (rowP w1.heap.size 0 [] * emp)))).rdN
            go_wp2_with fail
            refine (ints _ _ [] [] _ r4 r2).mono ?_
            rintro e w5 ⟨rfl, n5, rfl⟩
            go_wp2_with fail
            go_ret
            exact ⟨rfl, (hs8.drewN n5).drop.drop.drop⟩
        · have hs9 := hs7.drop
          by_cases hn0 : 0 ≤ n
          · obtain ⟨m, rfl⟩ := Int.eq_ofNat_of_zero_le hn0
            by_cases hm : m < L.length
            · have c5 := hs7.cell (j := m) (v := .int .i64 (L.getD m 0)) (by rw [List.getElem?_append_left (by simpa using hm)]; simp [List.getD, hm])
              have f5 := hs7.frz (j := m) (by simp; omega)
              have hs10 := (hs7.set (j := m) (by simp; omega) (.int .i64 (-1))).drop
              have hd : decide (m < L.length) = true := by simp [hm]
              clear hs7
              go_wp2_with fail
              refine (rowAll _ _ L w0 _ _ hs10 (by omega)).mono ?_
              rintro e w4 ⟨v4, rfl, hs8⟩
              have r4 := hs8.rdN
              have r2 := (hs8.perm (by ac_rfl : _ = numsP .i64 v2 L * (numsP .i64 v4 L * (rowP w1.heap.size 0 L * emp)))).rdN
              go_wp2_with fail
              refine (ints _ _ L L _ r4 r2).mono ?_
              rintro e w5 ⟨rfl, n5, rfl⟩
              rw [decide_eq_true (rfl : L = L)]
              go_wp2_with fail
              go_ret
              exact ⟨rfl, (hs8.drewN n5).drop.drop.drop⟩
            · have hd : decide (m < L.length) = false := by simp; omega
              go_wp2_with fail
              refine (rowAll _ _ L w0 _ _ hs9 (by omega)).mono ?_
              rintro e w4 ⟨v4, rfl, hs8⟩
              have r4 := hs8.rdN
              have r2 := (hs8.perm (by ac_rfl : _ = numsP .i64 v2 L * (numsP .i64 v4 L * (rowP w1.heap.size 0 L * emp)))).rdN
              go_wp2_with fail
              refine (ints _ _ L L _ r4 r2).mono ?_
              rintro e w5 ⟨rfl, n5, rfl⟩
              rw [decide_eq_true (rfl : L = L)]
              go_wp2_with fail
              go_ret
              exact ⟨rfl, (hs8.drewN n5).drop.drop.drop⟩
          · have hd : decide (0 ≤ n) = false := by simp; omega
            go_wp2_with fail
            refine (rowAll _ _ L w0 _ _ hs9 (by omega)).mono ?_
            rintro e w4 ⟨v4, rfl, hs8⟩
            have r4 := hs8.rdN
            have r2 := (hs8.perm (by ac_rfl : _ = numsP .i64 v2 L * (numsP .i64 v4 L * (rowP w1.heap.size 0 L * emp)))).rdN
            go_wp2_with fail
            refine (ints _ _ L L _ r4 r2).mono ?_
            rintro e w5 ⟨rfl, n5, rfl⟩
            rw [decide_eq_true (rfl : L = L)]
            go_wp2_with fail
            go_ret
            exact ⟨rfl, (hs8.drewN n5).drop.drop.drop⟩
end Go.Proofs.Ytbnfkfbebnkdnaa
