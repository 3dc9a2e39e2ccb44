/-
  The walk of SemaServes.
-/
import Derived.Test.YtbnfkfbebnkdnaaSemaLawA
import Derived.Test.YtbnfkfbebnkdnaaWaitLawA
import Derived.Test.YtbnfkfbebnkdnaaLawB
import Derived.Test.YtbnfkfbebnkdnaaRegion
import Derived.Deep.DeepCutAuto
import Derived.Deep.CutBlock
namespace Go.Proofs.Ytbnfkfbebnkdnaa
open Go.RowKit Go.Sx

structure Served (L R : List Int) (S : List Bool) : Prop where
  len : S.length = 64
  no : ∀ t ∈ R, S[t.toNat]? = some false
  yes : ∀ t ∈ L, t ∉ R → S[t.toNat]? = some true
theorem served_start {L : List Int} (h : RowOk L) : Served L L (List.replicate 64 false) := by
  refine ⟨by simp, fun t ht => ?_, fun t ht hn => absurd ht hn⟩
  obtain ⟨h1, h2⟩ := h.2 t ht
  rw [List.getElem?_replicate, if_pos (by omega)]
theorem served_next {L R : List Int} {S : List Bool} (hL : ∀ t ∈ L, 0 ≤ t) (h : Served L R S) (hR : RowOk R) {m : Nat} (hm : (m : Int) ∈ R) : Served L (R.erase m) (S.set m true) := by
  have hm2 := hR.2 _ hm
  refine ⟨by simp [h.len], fun t ht => ?_, fun t ht hn => ?_⟩
  · obtain ⟨h1, h2⟩ := hR.1.mem_erase_iff.1 ht
    have h3 := hR.2 _ h2
    rw [List.getElem?_set_ne (by omega)]
    exact h.no t h2
  · by_cases e : t = m
    · subst e
      rw [show ((m : Int)).toNat = m by simp, List.getElem?_set_self (by rw [h.len]; omega)]
    · have h0 := hL t ht
      rw [List.getElem?_set_ne (by omega)]
      exact h.yes t ht fun h' => hn ((List.mem_erase_of_ne e).2 h')

set_option linter.unusedSimpArgs false in
set_option maxRecDepth 100000 in
set_option maxHeartbeats 8000000 in
theorem semaServes_walk (v0 : Value) (l0 : List Int) (v1 : Value) (l1 : List Int) (w0 : World) (h0 : RdN .i64 w0 v0 l0) (_z0 : ∀ n ∈ l0, (Lit.int .i64 n).wf = true) (h1 : RdN .i64 w0 v1 l1) (_z1 : ∀ n ∈ l1, (Lit.int .i64 n).wf = true) :
    Calls Try.prog 9 #[v0, v1] w0 (RetV w0 (.bool true) emp) := by
  have hs := Sat.start w0
  have r1 := h1.stays emp
  obtain ⟨a, cap, b, off, rfl, hcap, hbig, ha, hc⟩ := id h0
  obtain ⟨la, lcap, lb, loff, rfl, hlcap, hlbig, hla, hlc⟩ := id h1
  unfold maxLen at hbig hlbig
  by_cases c1 : 100 < l0.length
  · have d1 : decide ((100 : Int) < (l0.length : Int)) = true := by simp; omega
    go_enter Try.func9, Try.ntmps9
    go_wp2_with fail
    refine (semNew_yes 0 w0 _ _ hs (by decide)).mono ?_
    rintro e w1 ⟨rfl, hs1⟩
    go_wp2_with fail
    refine (semaAwake w0 _ _ hs1).mono ?_
    rintro e w2 ⟨rfl, hs2⟩
    go_wp2_with fail
    refine (semaAwake w0 _ _ hs2).mono ?_
    rintro e w3 ⟨rfl, hs3⟩
    go_wp2_with fail
    go_ret
    exact ⟨rfl, hs3.drop⟩
  · have d1 : decide ((100 : Int) < (l0.length : Int)) = false := by simp; omega
    by_cases c2 : 100 < l1.length
    · have d2 : decide ((100 : Int) < (l1.length : Int)) = true := by simp; omega
      go_enter Try.func9, Try.ntmps9
      go_wp2_with fail
      refine (semNew_yes 0 w0 _ _ hs (by decide)).mono ?_
      rintro e w1 ⟨rfl, hs1⟩
      go_wp2_with fail
      refine (semaAwake w0 _ _ hs1).mono ?_
      rintro e w2 ⟨rfl, hs2⟩
      go_wp2_with fail
      refine (semaAwake w0 _ _ hs2).mono ?_
      rintro e w3 ⟨rfl, hs3⟩
      go_wp2_with fail
      go_ret
      exact ⟨rfl, hs3.drop⟩
    · have d2 : decide ((100 : Int) < (l1.length : Int)) = false := by simp; omega
      go_enter Try.func9, Try.ntmps9
      go_wp2_with fail
      refine (semNew_yes 0 w0 _ _ hs (by decide)).mono ?_
      rintro e w1 ⟨rfl, hs1⟩
      go_wp2_with fail
      refine (semaAwake w0 _ _ hs1).mono ?_
      rintro e w2 ⟨rfl, hs2⟩
      go_wp2_with fail
      go_loopw [42] (fun i wr => ∃ (k : Nat) (L : List Int), k ≤ l0.length ∧ i = .int .i64 k ∧ SemOk 0 L ∧ Sat w0 wr (semP w0.heap.size 0 L * emp)) (fun i _ => l0.length - (intOf i).toNat)
      case atStart => exact ⟨0, [], Nat.zero_le _, rfl, semOk_new (by decide), hs2⟩
      case round =>
        obtain ⟨k, L, hk, rfl, hok, hs3⟩ := hrel
        clear hs hs1 hs2
        by_cases hlt : k < l0.length
        · obtain rfl := ha (by intro h; simp [h] at hlt)
          have hcell := hs3.keep (hc k hlt)
          generalize l0.getD k 0 = x at hcell
          clear hc ha
          have hok2 := semOk_await hok x
          go_wp2_with fail
          refine (semAwait_c _ _ L x _ _ _ hs3 hok).mono ?_
          rintro e w3 ⟨rfl, hs4⟩
          clear hcell hs3
          generalize awaitE 0 L x = ee
          go_wp2_with fail
          go_roundw
          case rel => exact ⟨k + 1, awaitL 0 L x, by omega, by go_num, hok2, hs4⟩
          case measure => simp [intOf]; omega
        · clear hc
          have hlen := rowOk_len hok.row
          have hs4 : Sat w0 (wr.alloc (.cells #[.bool false, .bool false, .bool false, .bool false, .bool false, .bool false, .bool false, .bool false, .bool false, .bool false, .bool false, .bool false, .bool false, .bool false, .bool false, .bool false, .bool false, .bool false, .bool false, .bool false, .bool false, .bool false, .bool false, .bool false, .bool false, .bool false, .bool false, .bool false, .bool false, .bool false, .bool false, .bool false, .bool false, .bool false, .bool false, .bool false, .bool false, .bool false, .bool false, .bool false, .bool false, .bool false, .bool false, .bool false, .bool false, .bool false, .bool false, .bool false, .bool false, .bool false, .bool false, .bool false, .bool false, .bool false, .bool false, .bool false, .bool false, .bool false, .bool false, .bool false, .bool false, .bool false, .bool false, .bool false] 51)) (pts wr.heap.size 0 ((List.replicate 64 false).map Value.bool) * (semP w0.heap.size 0 L * emp)) := hs3.alloc _ _
          have hs5 := hs4.perm (by ac_rfl : _ = semP w0.heap.size 0 L * (pts wr.heap.size 0 ((List.replicate 64 false).map Value.bool) * emp))
          clear hs3 hs4
          go_wp2_with fail
          generalize wr.heap.size = nb at *
          refine (semWaiting_c _ _ _ _ _ _ hs5 hok).mono ?_
          rintro e w3 ⟨v, rfl, hs6⟩
          clear hs5
          have hs7 := hs6.perm (by ac_rfl : _ = semP w0.heap.size 0 L * (pts nb 0 ((List.replicate 64 false).map Value.bool) * (numsP .i64 v L * emp)))
          obtain ⟨a6, cap6, rfl⟩ := hs6.slice_form
          clear hs6
          have hsv := served_start hok.row
          generalize List.replicate 64 false = S0 at *
          have hL := hok.row.2
          go_wp2_with fail
          go_loopw [54] (fun i wr => ∃ (k : Nat) (R : List Int) (S : List Bool), i = .int .i64 k ∧ k + R.length = L.length ∧ SemOk 0 R ∧ Served L R S ∧ Sat w0 wr (semP w0.heap.size 0 R * (pts nb 0 (S.map Value.bool) * (numsP .i64 (.slice a6 L.length cap6) L * emp)))) (fun i _ => L.length - (intOf i).toNat)
          case atStart => exact ⟨0, L, S0, rfl, by omega, hok, hsv, hs7⟩
          case round =>
            obtain ⟨j, R, S, rfl, hj, hokR, hsv, hs8⟩ := hrel
            clear hs7
            have hj := hid hj
            by_cases hR : R = []
            · subst hR
              have hj2 : j = L.length := by have := hj.out; simpa using this
              subst hj2
              go_wp2_with fail
              go_loopw [82] (fun i wr => ∃ (k : Nat), k ≤ L.length ∧ i = .int .i64 k ∧ Sat w0 wr (semP w0.heap.size 0 [] * (pts nb 0 (S.map Value.bool) * (numsP .i64 (.slice a6 L.length cap6) L * emp)))) (fun i _ => L.length - (intOf i).toNat)
              case atStart => exact ⟨0, Nat.zero_le _, rfl, hs8⟩
              case round =>
                obtain ⟨m, hm, rfl, hs9⟩ := hrel
                clear hs8
                by_cases hlt : m < L.length
                · have hsA := hs9.perm (by ac_rfl : _ = numsP .i64 (.slice a6 L.length cap6) L * (pts nb 0 (S.map Value.bool) * (semP w0.heap.size 0 [] * emp)))
                  obtain ⟨a7, cap7, b7, off7, e7, _, _, ha7, hc7⟩ := hsA.rdN
                  obtain ⟨rfl, -, rfl⟩ : a6 = a7 ∧ L.length = L.length ∧ cap6 = cap7 := by simpa using e7
                  obtain rfl := ha7 (by intro h; simp [h] at hlt)
                  have hcell := hc7 m hlt
                  have hin : L.getD m 0 ∈ L := by simp [List.getD, hlt]
                  generalize L.getD m 0 = y at hcell hin
                  obtain ⟨y0, y1⟩ := hL y hin
                  have hy := hsv.yes y hin (by simp)
                  obtain ⟨n, rfl⟩ := Int.eq_ofNat_of_zero_le y0
                  have c5 := (hsA.perm (by ac_rfl : _ = pts nb 0 (S.map Value.bool) * (numsP .i64 (.slice (some ⟨b7, off7, none⟩) L.length cap6) L * (semP w0.heap.size 0 [] * emp)))).cell (j := n) (v := .bool true) (by simp at hy; simp [hy])
                  have n64 : n < 64 := by omega
                  have d63 : decide ((63 : Int) < (n : Int)) = false := by simp; omega
                  have d64 : decide (n < 64) = true := by simp; omega
                  rw [Nat.zero_add] at c5
                  clear hc7 hsA e7
                  go_wp2_with fail
                  go_roundw
                  case rel => exact ⟨m + 1, by omega, by go_num, hs9⟩
                  case measure => simp [intOf]; omega
                · have hokR' : SemOk 0 [] := hokR
                  go_wp2_with fail
                  refine (semWaiting_c _ _ _ _ _ _ hs9 hokR').mono ?_
                  rintro e w4 ⟨v4, rfl, hsB⟩
                  obtain ⟨a8, cap8, rfl⟩ := hsB.slice_form
                  dsimp only at hsB
                  have hsC := hsB.perm (by ac_rfl : _ = semP w0.heap.size 0 [] * (numsP .i64 (.slice a8 ([] : List Int).length cap8) [] * (pts nb 0 (S.map Value.bool) * (numsP .i64 (.slice a6 L.length cap6) L * emp))))
                  go_wp2_with fail
                  refine (semUnits_c _ _ _ _ _ _ hsC).mono ?_
                  rintro e w5 ⟨rfl, rfl⟩
                  go_wp2_with fail
                  go_ret
                  exact ⟨rfl, hsC.drop.drop.drop.drop⟩
            · have hpos : 0 < R.length := List.length_pos_iff.2 hR
              have hlt : j < L.length := by have := hj.out; omega
              have he : postE 0 R = 0 := by simp [postE, hR]
              have hv : postU 0 R = 0 := by simp [postU, hR]
              have hT : postT l1 R = bestOf l1 R := by simp [postT, hR]
              have hP : postL l1 R = R.erase (bestOf l1 R) := by simp [postL, hR]
              have hin := best_in l1 R hR
              have hok2 := semOk_post hokR l1
              have rl := r1.rd (hs8.perm (by ac_rfl : _ = semP w0.heap.size 0 R * (pts nb 0 (S.map Value.bool) * numsP .i64 (.slice a6 L.length cap6) L) * emp))
              go_wp2_with fail
              refine (semPost_c _ _ _ _ l1 _ _ _ hs8 rl hokR).mono ?_
              rintro e w4 ⟨rfl, hs9⟩
              rw [hv, hP] at hs9 hok2
              rw [he, hT]
              clear he hv hT hP rl hs8
              generalize bestOf l1 R = bb at *
              obtain ⟨y0, y1⟩ := hokR.row.2 bb hin
              obtain ⟨n, rfl⟩ := Int.eq_ofNat_of_zero_le y0
              have hy := hsv.no n hin
              have hsv2 := served_next (fun t ht => (hL t ht).1) hsv hokR.row hin
              have hlen2 := hid (List.length_erase_of_mem hin)
              have hsA := hs9.perm (by ac_rfl : _ = pts nb 0 (S.map Value.bool) * (semP w0.heap.size 0 (R.erase n) * (numsP .i64 (.slice a6 L.length cap6) L * emp)))
              have c5 := hsA.cell (j := n) (v := .bool false) (by simp at hy; simp [hy])
              have f5 := hsA.frz (j := n) (by rw [List.length_map, hsv.len]; omega)
              have hsB := hsA.set (j := n) (by rw [List.length_map, hsv.len]; omega) (.bool true)
              rw [← List.map_set] at hsB
              have n64 : n < 64 := by omega
              have d63 : decide ((63 : Int) < (n : Int)) = false := by simp; omega
              have d64 : decide (n < 64) = true := by simp; omega
              rw [Nat.zero_add] at c5 f5 hsB
              clear hsA hs9
              generalize R.erase (n : Int) = R' at *
              go_wp2_with fail
              go_roundw
              case rel => exact ⟨j + 1, R', S.set n true, by go_num, by have := hlen2.out; have := hj.out; omega, hok2, hsv2, hsB.perm (by ac_rfl)⟩
              case measure => simp [intOf]; omega
end Go.Proofs.Ytbnfkfbebnkdnaa
