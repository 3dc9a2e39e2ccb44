/-
  Contracts of delta lists: Cancel, Tick.
-/
import Derived.Test.YtfphgcplpokigaaDeltaC
namespace Go.Proofs.Ytfphgcplpokigaa
open Go.RowKit Go.Sx Go.Dl

theorem diff_fst (acc : Int) (S : List Ck) : (diff acc S).map Prod.fst = S.map Prod.fst := by
  induction S generalizing acc with
  | nil => rfl
  | cons x r ih => simp [diff, ih]
theorem has_diff {S : List Ck} {id : Int} : has (diff 0 S) id ↔ has S id := by unfold has; rw [diff_fst]
theorem at_diff (S : List Ck) (id : Int) : at_ (diff 0 S) id = at_ S id := by unfold at_; rw [diff_fst]

theorem delCancel_nil (id : Int) (w0 w : World) (F : HP) (hs : Sat w0 w F) :
    Calls Try.prog 28 #[.pointer none, .int .i64 id] w (RetV w0 (.bool false) F) := by
  go_enter Try.func28, Try.ntmps28
  go_wp2_with fail
  go_quiet (fail)
  go_wp2_with fail
  go_ret
  exact ⟨rfl, own_left⟩
theorem delCancel_no (b : Nat) (S : List Ck) (id : Int) (w0 w : World) (F : HP) (hs : Sat w0 w (delP b S * F)) (hno : ¬ has S id) :
    Calls Try.prog 28 #[.pointer (some ⟨b, 0, none⟩), .int .i64 id] w (RetV w0 (.bool false) (delP b S * F)) := by
  obtain ⟨a, c, hs⟩ := delP_out hs
  by_cases h1 : id < 0
  · have d1 : decide (id < 0) = true := by simp [h1]
    go_enter Try.func28, Try.ntmps28
    go_wp2_with fail
    go_quiet (fail)
    go_wp2_with fail
    go_ret
    exact ⟨rfl, delP_of own_it rfl rfl⟩
  · have d1 : decide (id < 0) = false := by simp [h1]
    by_cases h2 : 256 ≤ id
    · have d2 : decide (256 ≤ id) = true := by simp [h2]
      go_enter Try.func28, Try.ntmps28
      go_wp2_with fail
      go_quiet (fail)
      go_wp2_with fail
      go_ret
      exact ⟨rfl, delP_of own_it rfl rfl⟩
    · have d2 : decide (256 ≤ id) = false := by simp [h2]
      obtain ⟨m, rfl⟩ := Int.eq_ofNat_of_zero_le (show 0 ≤ id by omega)
      have hm : m < 256 := by omega
      have hmI : (m : Int) < 256 := by omega
      have d256 : decide (m < 256) = true := by simp [hm]
      haveI : Lt m (runsOf S).length := ⟨by rw [runs_len]; exact hm⟩
      haveI : Cell (pts b 1 ((runsOf S).map Value.bool)) b (1 + m) (.bool false) := by
        have := Cell.bln b 1 m (runsOf S)
        rwa [runs_at S hm, decide_eq_false hno] at this
      clear hno
      go_enter Try.func28, Try.ntmps28
      go_wp2_with fail
      go_quiet (fail)
      go_wp2_with fail
      go_ret
      exact ⟨rfl, delP_of own_it rfl rfl⟩

set_option maxRecDepth 100000 in
set_option maxHeartbeats 4000000 in
theorem delCancel_yes (b : Nat) (S : List Ck) (id : Int) (w0 w : World) (F : HP) (hs : Sat w0 w (delP b S * F)) (hok : SOk S) (hi : has S id) :
    Calls Try.prog 28 #[.pointer (some ⟨b, 0, none⟩), .int .i64 id] w (RetV w0 (.bool true) (delP b (delS id S) * F)) := by
  have hl := sok_len hok
  have hdl := diff_len 0 S
  have hib : 0 ≤ id ∧ id < 256 := by
    obtain ⟨x, hx, rfl⟩ := List.mem_map.1 hi
    exact hok.id x hx
  obtain ⟨m, rfl⟩ := Int.eq_ofNat_of_zero_le hib.1
  have hm : m < 256 := by omega
  have hmI : (m : Int) < 256 := by omega
  have d1 : decide ((m : Int) < 0) = false := by simp
  have d2 : decide (256 ≤ (m : Int)) = false := by rw [decide_eq_false_iff_not]; omega
  have d256 : decide (m < 256) = true := by simp [hm]
  obtain ⟨a, c, hs⟩ := delP_out hs
  haveI : Lt m (runsOf S).length := ⟨by rw [runs_len]; exact hm⟩
  haveI : Cell (pts b 1 ((runsOf S).map Value.bool)) b (1 + m) (.bool true) := by
    have := Cell.bln b 1 m (runsOf S)
    rwa [runs_at S hm, decide_eq_true hi] at this
  have Hruns := hid (runs_del (S := S) (m := m))
  have Hat := hid (at_diff S (m : Int))
  have Hhas := hid (has_diff.2 hi)
  have Hdel := hid (del_at hok hi)
  have hk := at_lt hi
  have Hrow := hid (fun h => del_row S (at_ S (m : Int)) h)
  have Hrowe := hid (fun h => del_row_end S (at_ S (m : Int)) hk h)
  have Hget := hid (fun k hk => diff_get S k hk)
  have Hps := hid (pre_succ S (at_ S (m : Int)))
  have hlf := hid hok.lf
  have hup := hid hok.up
  have Hnn := hid (fun k hk => pre_nonneg hok k hk)
  clear hok hi hib
  generalize at_ S (m : Int) = k at *
  generalize hD : diff 0 S = D at *
  have HD := hid hD
  have Hdl := hid hdl
  have hDl : D.length ≤ 256 := by omega
  have hkD : k < D.length := by omega
  clear hD hdl
  obtain ⟨g, off, rfl⟩ := hs.someR (E := encCk) a D.length c (show 0 < D.length by omega)
  go_enter Try.func28, Try.ntmps28
  go_wp2_with fail
  go_quiet (fail)
  go_wp2_with fail
  refine (slicesIndexFunc _ D (m : Int) _ w0 _ _ own2 Hhas.out hDl).mono ?_
  rintro e w2 ⟨rfl, hs2⟩
  rw [Hat.out]
  generalize w.heap.size = cb at *
  haveI : Lt k D.length := ⟨hkD⟩
  by_cases hlast : k + 1 < S.length
  · have hlD : k + 1 < D.length := by have := Hdl.out; omega
    haveI : Lt (k + 1) D.length := ⟨hlD⟩
    have g1 := Hget.out k hk
    have g2 := Hget.out (k + 1) hlast
    rw [Hps.out] at g2
    have hrw := Hrow.out hlast
    have f1 := hlf.out (S.getD k (0, 0)) (by simp [List.getD, hk])
    have f2 := hlf.out (S.getD (k + 1) (0, 0)) (by simp [List.getD, hlast])
    have n1 := Hnn.out k (by omega)
    have u1 : (S.getD k (0, 0)).2 ≤ (S.getD (k + 1) (0, 0)).2 := by
      have := List.pairwise_iff_getElem.1 hup.out k (k + 1) hk hlast (by omega)
      simpa [List.getD, hk, hlast] using this
    have u2 : pre S k ≤ (S.getD k (0, 0)).2 := by
      unfold pre
      split
      · omega
      · have := List.pairwise_iff_getElem.1 hup.out (k - 1) k (by omega) hk (by omega)
        simpa [List.getD, hk, show k - 1 < S.length by omega] using this
    generalize S.getD k (0, 0) = y1 at *
    generalize S.getD (k + 1) (0, 0) = y2 at *
    obtain ⟨i1, l1⟩ := y1
    obtain ⟨i2, l2⟩ := y2
    dsimp only at g1 g2 f1 f2 u1 u2 hrw
    generalize pre S k = p at *
    haveI e1 : EncAt (D.getD k (0, 0)) 1 (.int .i64 (l1 - p)) := ⟨by rw [g1]; rfl⟩
    haveI e2 : EncAt (D.getD (k + 1) (0, 0)) 1 (.int .i64 (l2 - l1)) := ⟨by rw [g2]; rfl⟩
    have G2 := hid g2
    have Hrw := hid hrw
    clear g1 g2 hrw
    obtain ⟨f1a, f1b⟩ := f1
    obtain ⟨f2a, f2b⟩ := f2
    have Hsplit := hid (set_split D (k + 1) ((D.getD (k + 1) (0, 0)).1, l2 - l1 + (l1 - p)) hlD)
    have hkd : decide (k + 1 < D.length) = true := by simp [hlD]
    have hkd' : decide (k < D.length) = true := by simp [hkD]
    have hkI : (k : Int) + 1 < (D.length : Int) := by omega
    have hkI2 : (k : Int) < (D.length : Int) := by omega
    go_wp2_with fail
    refine wp_gen (w0 := w0) ?_
    intro wx hsx
    have q1 : (0 : Int) ≤ (k : Int) + 1 := by omega
    have q4 : IntKind.i64.wrap ((k : Int) + 1) = (k : Int) + 1 := by rw [IntKind.wrap_i64]; omega
    have q5 : ((k : Int) + 1).toNat = k + 1 := by omega
    have q6 : IntKind.i64.wrap (l2 - l1 + (l1 - p)) = l2 - l1 + (l1 - p) := by rw [IntKind.wrap_i64]; omega
    go_still_tail 20, (by kernel_rfl)
    change wpList _ _ _ _ _ wx.drew
    clear q4 q5 q6
    go_wp2_with fail
    refine (slicesDeleteC _ (D.set (k + 1) ((D.getD (k + 1) (0, 0)).1, l2 - l1 + (l1 - p))) k _ rfl w0 _ _ own (by rw [List.length_set]; exact hkD) (by rw [List.length_set]; exact hDl)).mono ?_
    rintro e w3 ⟨v3, rfl, hs3⟩
    generalize hL : (D.set (k + 1) ((D.getD (k + 1) (0, 0)).1, l2 - l1 + (l1 - p))).eraseIdx k = L at hs3
    have HL := hid hL
    clear hL
    obtain ⟨a5, c5, rfl⟩ := hs3.recs_form
    go_wp2_with fail
    refine wp_gen (w0 := w0) ?_
    intro wy hsy
    go_still_tail 5, (by kernel_rfl)
    change wpList _ _ _ _ _ wy.drew
    go_wp2_with fail
    go_ret
    refine ⟨rfl, delP_of own_it ?_ Hruns.out⟩
    rw [← HL.out, Hdel.out, Hrw.out, List.eraseIdx_eq_take_drop_succ, Hsplit.out.2, G2.out, List.take_set_of_le (by omega)]
    congr 2
    show ((i2, l2 - l1 + (l1 - p)) : Ck) = (i2, l2 - p)
    congr 1
    omega
  · have hlD : ¬ k + 1 < D.length := by have := Hdl.out; omega
    have hkd : decide (k + 1 < D.length) = false := by simp; omega
    have hrw := hid (Hrowe.out (by omega))
    go_wp2_with fail
    refine (slicesDeleteC _ D k _ rfl w0 _ _ own hkD hDl).mono ?_
    rintro e w3 ⟨v3, rfl, hs3⟩
    generalize hL : D.eraseIdx k = L at hs3
    have HL := hid hL
    clear hL
    obtain ⟨a5, c5, rfl⟩ := hs3.recs_form
    go_wp2_with fail
    refine wp_gen (w0 := w0) ?_
    intro wy hsy
    go_still_tail 5, (by kernel_rfl)
    change wpList _ _ _ _ _ wy.drew
    go_wp2_with fail
    go_ret
    refine ⟨rfl, delP_of own_it ?_ Hruns.out⟩
    rw [← HL.out, Hdel.out, hrw.out, List.eraseIdx_eq_take_drop_succ, List.drop_eq_nil_of_le (by omega), List.append_nil]
end Go.Proofs.Ytfphgcplpokigaa
