/-
  Audit: the contract of Next, events that come in time.
-/
import Derived.Test.YtfphgcplpokigaaAuditK
namespace Go.Proofs.Ytfphgcplpokigaa
open Go.RowKit Go.Sx Go.Au
set_option linter.unusedSimpArgs false
set_option linter.unusedVariables false

theorem own_any3 {w0 w : World} {P A B C F1 F2 F3 : HP} [hs : Sat w0 w P] [h : Pull P A F1] [h2 : Pull F1 B F2] [h3 : Pull F2 C F3] : Sat w0 w (A * (B * (C * any))) :=
  ((hs.perm (by rw [h.eq, h2.eq, h3.eq]; ac_rfl : P = A * B * C * F3)).toAny).perm (by ac_rfl)
set_option maxRecDepth 100000 in
set_option maxHeartbeats 16000000 in
theorem auNext_had (pb : Nat) (A : Au) (k : Nat) (cy co : Int) (a b v : Nat) (w0 w : World) (F : HP) (hs : Sat w0 w (auP pb A * F)) (hA : AOk A) (hseen : 0 ≤ A.seen ∧ A.seen < 1000000000) (hkk : 1 ≤ k ∧ k ≤ 24) (hok : okN k a b v = true) (hv : v < 4294967296)
    (hno : okE ⟨k, cy, co, a, b, v⟩ = true) (h1 : A.last.k ≠ 24) (h2 : A.last.co ≤ co) (h3 : A.last.cy ≤ cy) (hd : A.due = ⟨k, a, b⟩) :
    Calls Try.prog 53 #[.pointer (some ⟨pb, 0, none⟩), evV ⟨k, cy, co, a, b, v⟩] w (Nx w0 pb A ⟨k, cy, co, a, b, v⟩ F) := by
  have hs := auP_out hs
  have hA0 : AOk { A with due := du0 } := ⟨hA.lt, hA.lo, hA.lp, hA.st, hA.late, hA.on, hA.job, hA.lev, hA.own, hA.isr, hA.run, hA.co, hA.cy, show (0 : Int) ≤ 0 ∧ (0 : Int) ≤ 24 by decide, show (0 : Nat) < 256 by decide, show (0 : Nat) < 256 by decide, fun _ => rfl⟩
  have Hk : Hid (keepsR A ⟨k, cy, co, a, b, v⟩ = rule { A with due := du0 } k a b v true) := by
    unfold Hid keepsR inTime duOf
    rw [hd]
    have e : decide ((⟨k, a, b⟩ : Du) = ⟨k, a, b⟩) = true := by
      exact decide_eq_true rfl
    rw [e]; simp [hno, h1, h2, h3]
  have Hst : Hid (stepA A ⟨k, cy, co, a, b, v⟩ = { learn { A with due := du0 } k a b v with last := ⟨k, cy, co, a, b, v⟩, seen := A.seen + 1 }) := rfl
  have Hsn := hid (learn_seen { A with due := du0 } k a b v)
  dsimp only at Hsn
  rw [hd] at hs
  unfold evV
  dsimp only
  dsimp only [duCells] at hs
  have Hno := hid hno
  have d1 : (A.last.k != 24) = true := by simp [h1]
  have d2 : decide (A.last.co ≤ co) = true := by simp; omega
  have d3 : decide (A.last.cy ≤ cy) = true := by simp; omega
  clear hno h1 h2 h3 hd
  have g0 : ¬ (k : Int) = 0 := by omega
  have g1 : ¬ (0 : Int) = (k : Int) := by omega
  generalize hr : rule { A with due := du0 } k a b v true = r at Hk
  have Hr := hid hr
  clear hr
  cases r
  all_goals
    go_enter Try.func53, Try.ntmps53
    go_wp2_with fail
    refine wp_gen (w0 := w0) ?_
    intro wx hsx
    refine wp_region_early (fun w' => Sat w0 w' (pts w.heap.size 0 [.int .i64 k, .int .u64 cy, .int .u64 co, .int .u32 a, .int .u32 b, .int .u32 v] * (pts pb 2 (evCells A.last) * any))) [(0, true), (1, false), (2, true), (3, true), (4, true), (5, true), (6, true), (7, true), (8, true), (9, true), (10, true), (11, true), (12, true), (13, true), (14, true), (15, true), (16, true), (17, true), (18, true), (19, true), (20, true), (21, true), (22, true), (23, true), (24, true), (25, true), (26, true), (27, true), (28, true), (29, true), (30, true), (31, true)] (by kernel_rfl) (by kernel_rfl) (fun _ _ _ _ h => h) own_any2 ?_
    iterate 1 (refine early_read (fun K hK => ?_); simp only [List.getElem?_cons_succ, List.getElem?_cons_zero]; (first | (rw [if_pos (by rfl)]; apply Exists.intro; refine ⟨fun w hSw => ?_, hK _ ?_⟩; (focus ((try dsimp only at hSw); go_simp; try with_reducible rfl))) | (rw [if_neg (ne_true_of_eq_false (by rfl))]; refine hK _ ?_)); clear hK K; simp only [Act.put, List.setIfInBounds_toArray, List.set_cons_zero, List.set_cons_succ])
    refine early_run (fun K hK => ?_); simp only [List.getElem?_cons_succ, List.getElem?_cons_zero]; rw [if_pos (by rfl)]
    go_wp2_with fail
    refine (evCheck k cy co a b v w0 _ _).mono ?_
    rintro en w1 ⟨n, rfl, hn, hs1⟩
    obtain rfl : n = 0 := hn.2 Hno.out
    clear hn
    go_wp2_with fail
    refine ⟨own_any2, ?_⟩
    iterate 30 (refine early_read (fun K hK => ?_); simp only [List.getElem?_cons_succ, List.getElem?_cons_zero]; (first | (rw [if_pos (by rfl)]; apply Exists.intro; refine ⟨fun w hSw => ?_, hK _ ?_⟩; (focus ((try dsimp only at hSw); go_simp; try with_reducible rfl))) | (rw [if_neg (ne_true_of_eq_false (by rfl))]; refine hK _ ?_)); clear hK K; simp only [Act.put, List.setIfInBounds_toArray, List.set_cons_zero, List.set_cons_succ])
    refine early_done ?_
    clear hs hsx
    go_wp2_with fail
    refine wp_region_early (fun w' => Sat w0 w' (pts w.heap.size 0 [.int .i64 k, .int .u64 cy, .int .u64 co, .int .u32 a, .int .u32 b, .int .u32 v] * (pts (w.heap.size + 1) 0 [.int .i64 k, .int .u32 a, .int .u32 b] * (pts (w.heap.size + 1 + 1) 0 [.int .i64 k, .int .u32 a, .int .u32 b] * any)))) [(0, true), (1, true), (2, true), (3, true), (4, true), (5, true), (6, true), (7, true), (8, false), (9, true), (10, true)] (by kernel_rfl) (by kernel_rfl) (fun _ _ _ _ h => h) own_any3 ?_
    iterate 8 (refine early_read (fun K hK => ?_); simp only [List.getElem?_cons_succ, List.getElem?_cons_zero]; (first | (rw [if_pos (by rfl)]; apply Exists.intro; refine ⟨fun w hSw => ?_, hK _ ?_⟩; (focus ((try dsimp only at hSw); go_simp; try with_reducible rfl))) | (rw [if_neg (ne_true_of_eq_false (by rfl))]; refine hK _ ?_)); clear hK K; simp only [Act.put, List.setIfInBounds_toArray, List.set_cons_zero, List.set_cons_succ])
    refine early_run (fun K hK => ?_); simp only [List.getElem?_cons_succ, List.getElem?_cons_zero]; rw [if_pos (by rfl)]
    go_wp2_with fail
    refine (auKeeps pb { A with due := du0 } k a b v hkk true cy co w0 _ (pts w.heap.size 0 [.int .i64 k, .int .u64 cy, .int .u64 co, .int .u32 a, .int .u32 b, .int .u32 v] * (pts (w.heap.size + 1) 0 [.int .i64 k, .int .u32 a, .int .u32 b] * (pts (w.heap.size + 1 + 1) 0 [.int .i64 k, .int .u32 a, .int .u32 b] * F))) (auP_of own_left) hA0 hok hv).mono ?_
    rintro en w2 ⟨rfl, hy, hn⟩
    clear hs1
    rw [Hr.out] at hy hn ⊢
    first
      | (have hs2 := auP_out (hy rfl)
         clear hy hn
         generalize learn { A with due := du0 } k a b v = B at hs2 Hst Hsn
         have hb1 : 0 ≤ B.seen ∧ B.seen < 1000000000 := by have := Hsn.out; omega
         go_wp2_with fail
         (first | refine ⟨own_any3, ?_⟩ | skip)
         iterate 2 (refine early_read (fun K hK => ?_); simp only [List.getElem?_cons_succ, List.getElem?_cons_zero]; (first | (rw [if_pos (by rfl)]; apply Exists.intro; refine ⟨fun w hSw => ?_, hK _ ?_⟩; (focus ((try dsimp only at hSw); go_simp; try with_reducible rfl))) | (rw [if_neg (ne_true_of_eq_false (by rfl))]; refine hK _ ?_)); clear hK K; simp only [Act.put, List.setIfInBounds_toArray, List.set_cons_zero, List.set_cons_succ])
         refine early_done ?_
         go_wp2_with fail
         go_ret
         refine nx_yes Hk.out (auP_of ?_)
         rw [Hst.out]
         dsimp only
         rw [← Hsn.out]
         exact own_left)
      | (have hs2 := hn rfl
         clear hy hn
         go_wp2_with fail
         (first | refine ⟨own_any3, ?_⟩ | skip)
         iterate 2 (refine early_read (fun K hK => ?_); simp only [List.getElem?_cons_succ, List.getElem?_cons_zero]; (first | (rw [if_pos (by rfl)]; apply Exists.intro; refine ⟨fun w hSw => ?_, hK _ ?_⟩; (focus ((try dsimp only at hSw); go_simp; try with_reducible rfl))) | (rw [if_neg (ne_true_of_eq_false (by rfl))]; refine hK _ ?_)); clear hK K; simp only [Act.put, List.setIfInBounds_toArray, List.set_cons_zero, List.set_cons_succ])
         refine early_done ?_
         go_wp2_with fail
         go_ret
         exact nx_no Hk.out own_left)
set_option maxRecDepth 100000 in
set_option maxHeartbeats 16000000 in
theorem auNext_free (pb : Nat) (A : Au) (k : Nat) (cy co : Int) (a b v : Nat) (w0 w : World) (F : HP) (hs : Sat w0 w (auP pb A * F)) (hA : AOk A) (hseen : 0 ≤ A.seen ∧ A.seen < 1000000000) (hkk : 1 ≤ k ∧ k ≤ 24) (hok : okN k a b v = true) (hv : v < 4294967296)
    (hno : okE ⟨k, cy, co, a, b, v⟩ = true) (h1 : A.last.k ≠ 24) (h2 : A.last.co ≤ co) (h3 : A.last.cy ≤ cy) (hd : A.due = du0) :
    Calls Try.prog 53 #[.pointer (some ⟨pb, 0, none⟩), evV ⟨k, cy, co, a, b, v⟩] w (Nx w0 pb A ⟨k, cy, co, a, b, v⟩ F) := by
  have hs := auP_out hs
  have hA0 : AOk { A with due := du0 } := ⟨hA.lt, hA.lo, hA.lp, hA.st, hA.late, hA.on, hA.job, hA.lev, hA.own, hA.isr, hA.run, hA.co, hA.cy, show (0 : Int) ≤ 0 ∧ (0 : Int) ≤ 24 by decide, show (0 : Nat) < 256 by decide, show (0 : Nat) < 256 by decide, fun _ => rfl⟩
  have Hk : Hid (keepsR A ⟨k, cy, co, a, b, v⟩ = rule { A with due := du0 } k a b v false) := by
    unfold Hid keepsR inTime duOf
    rw [hd]
    have e : decide ((du0 : Du) = ⟨k, a, b⟩) = false := by
      refine decide_eq_false fun h => ?_; have := congrArg Du.k h; simp at this; omega
    rw [e]; simp [hno, h1, h2, h3]
  have Hst : Hid (stepA A ⟨k, cy, co, a, b, v⟩ = { learn { A with due := du0 } k a b v with last := ⟨k, cy, co, a, b, v⟩, seen := A.seen + 1 }) := rfl
  have Hsn := hid (learn_seen { A with due := du0 } k a b v)
  dsimp only at Hsn
  rw [hd] at hs
  unfold evV
  dsimp only
  dsimp only [duCells] at hs
  have Hno := hid hno
  have d1 : (A.last.k != 24) = true := by simp [h1]
  have d2 : decide (A.last.co ≤ co) = true := by simp; omega
  have d3 : decide (A.last.cy ≤ cy) = true := by simp; omega
  clear hno h1 h2 h3 hd
  have g0 : ¬ (k : Int) = 0 := by omega
  have g1 : ¬ (0 : Int) = (k : Int) := by omega
  generalize hr : rule { A with due := du0 } k a b v false = r at Hk
  have Hr := hid hr
  clear hr
  cases r
  all_goals
    go_enter Try.func53, Try.ntmps53
    go_wp2_with fail
    refine wp_gen (w0 := w0) ?_
    intro wx hsx
    refine wp_region_early (fun w' => Sat w0 w' (pts w.heap.size 0 [.int .i64 k, .int .u64 cy, .int .u64 co, .int .u32 a, .int .u32 b, .int .u32 v] * (pts pb 2 (evCells A.last) * any))) [(0, true), (1, false), (2, true), (3, true), (4, true), (5, true), (6, true), (7, true), (8, true), (9, true), (10, true), (11, true), (12, true), (13, true), (14, true), (15, true), (16, true), (17, true), (18, true), (19, true), (20, true), (21, true), (22, true), (23, true), (24, true), (25, true), (26, true), (27, true), (28, true), (29, true), (30, true), (31, true)] (by kernel_rfl) (by kernel_rfl) (fun _ _ _ _ h => h) own_any2 ?_
    iterate 1 (refine early_read (fun K hK => ?_); simp only [List.getElem?_cons_succ, List.getElem?_cons_zero]; (first | (rw [if_pos (by rfl)]; apply Exists.intro; refine ⟨fun w hSw => ?_, hK _ ?_⟩; (focus ((try dsimp only at hSw); go_simp; try with_reducible rfl))) | (rw [if_neg (ne_true_of_eq_false (by rfl))]; refine hK _ ?_)); clear hK K; simp only [Act.put, List.setIfInBounds_toArray, List.set_cons_zero, List.set_cons_succ])
    refine early_run (fun K hK => ?_); simp only [List.getElem?_cons_succ, List.getElem?_cons_zero]; rw [if_pos (by rfl)]
    go_wp2_with fail
    refine (evCheck k cy co a b v w0 _ _).mono ?_
    rintro en w1 ⟨n, rfl, hn, hs1⟩
    obtain rfl : n = 0 := hn.2 Hno.out
    clear hn
    go_wp2_with fail
    refine ⟨own_any2, ?_⟩
    iterate 30 (refine early_read (fun K hK => ?_); simp only [List.getElem?_cons_succ, List.getElem?_cons_zero]; (first | (rw [if_pos (by rfl)]; apply Exists.intro; refine ⟨fun w hSw => ?_, hK _ ?_⟩; (focus ((try dsimp only at hSw); go_simp; try with_reducible rfl))) | (rw [if_neg (ne_true_of_eq_false (by rfl))]; refine hK _ ?_)); clear hK K; simp only [Act.put, List.setIfInBounds_toArray, List.set_cons_zero, List.set_cons_succ])
    refine early_done ?_
    clear hs hsx
    go_wp2_with fail
    refine wp_region_early (fun w' => Sat w0 w' (pts w.heap.size 0 [.int .i64 k, .int .u64 cy, .int .u64 co, .int .u32 a, .int .u32 b, .int .u32 v] * (pts (w.heap.size + 1) 0 [.int .i64 0, .int .u32 0, .int .u32 0] * (pts (w.heap.size + 1 + 1) 0 [.int .i64 k, .int .u32 a, .int .u32 b] * any)))) [(0, true), (1, true), (2, true), (3, true), (4, true), (5, true), (6, true), (7, true), (8, false), (9, true), (10, true)] (by kernel_rfl) (by kernel_rfl) (fun _ _ _ _ h => h) own_any3 ?_
    iterate 8 (refine early_read (fun K hK => ?_); simp only [List.getElem?_cons_succ, List.getElem?_cons_zero]; (first | (rw [if_pos (by rfl)]; apply Exists.intro; refine ⟨fun w hSw => ?_, hK _ ?_⟩; (focus ((try dsimp only at hSw); go_simp; try with_reducible rfl))) | (rw [if_neg (ne_true_of_eq_false (by rfl))]; refine hK _ ?_)); clear hK K; simp only [Act.put, List.setIfInBounds_toArray, List.set_cons_zero, List.set_cons_succ])
    refine early_run (fun K hK => ?_); simp only [List.getElem?_cons_succ, List.getElem?_cons_zero]; rw [if_pos (by rfl)]
    go_wp2_with fail
    refine (auKeeps pb { A with due := du0 } k a b v hkk false cy co w0 _ (pts w.heap.size 0 [.int .i64 k, .int .u64 cy, .int .u64 co, .int .u32 a, .int .u32 b, .int .u32 v] * (pts (w.heap.size + 1) 0 [.int .i64 0, .int .u32 0, .int .u32 0] * (pts (w.heap.size + 1 + 1) 0 [.int .i64 k, .int .u32 a, .int .u32 b] * F))) (auP_of own_left) hA0 hok hv).mono ?_
    rintro en w2 ⟨rfl, hy, hn⟩
    clear hs1
    rw [Hr.out] at hy hn ⊢
    first
      | (have hs2 := auP_out (hy rfl)
         clear hy hn
         generalize learn { A with due := du0 } k a b v = B at hs2 Hst Hsn
         have hb1 : 0 ≤ B.seen ∧ B.seen < 1000000000 := by have := Hsn.out; omega
         go_wp2_with fail
         (first | refine ⟨own_any3, ?_⟩ | skip)
         iterate 2 (refine early_read (fun K hK => ?_); simp only [List.getElem?_cons_succ, List.getElem?_cons_zero]; (first | (rw [if_pos (by rfl)]; apply Exists.intro; refine ⟨fun w hSw => ?_, hK _ ?_⟩; (focus ((try dsimp only at hSw); go_simp; try with_reducible rfl))) | (rw [if_neg (ne_true_of_eq_false (by rfl))]; refine hK _ ?_)); clear hK K; simp only [Act.put, List.setIfInBounds_toArray, List.set_cons_zero, List.set_cons_succ])
         refine early_done ?_
         go_wp2_with fail
         go_ret
         refine nx_yes Hk.out (auP_of ?_)
         rw [Hst.out]
         dsimp only
         rw [← Hsn.out]
         exact own_left)
      | (have hs2 := hn rfl
         clear hy hn
         go_wp2_with fail
         (first | refine ⟨own_any3, ?_⟩ | skip)
         iterate 2 (refine early_read (fun K hK => ?_); simp only [List.getElem?_cons_succ, List.getElem?_cons_zero]; (first | (rw [if_pos (by rfl)]; apply Exists.intro; refine ⟨fun w hSw => ?_, hK _ ?_⟩; (focus ((try dsimp only at hSw); go_simp; try with_reducible rfl))) | (rw [if_neg (ne_true_of_eq_false (by rfl))]; refine hK _ ?_)); clear hK K; simp only [Act.put, List.setIfInBounds_toArray, List.set_cons_zero, List.set_cons_succ])
         refine early_done ?_
         go_wp2_with fail
         go_ret
         exact nx_no Hk.out own_left)

theorem auNext (pb : Nat) (A : Au) (e : Ev) (w0 w : World) (F : HP) (hs : Sat w0 w (auP pb A * F)) (hA : AOk A) (he : EvOk e) (hseen : 0 ≤ A.seen ∧ A.seen < 1000000000) :
    Calls Try.prog 53 #[.pointer (some ⟨pb, 0, none⟩), evV e] w (Nx w0 pb A e F) := by
  obtain ⟨k, cy, co, a, b, v⟩ := e
  by_cases h0 : okE ⟨k, cy, co, a, b, v⟩ = true
  · have h0' := h0
    unfold okE at h0'
    simp only [Bool.and_eq_true, decide_eq_true_eq] at h0'
    obtain ⟨hkk, hok⟩ := h0'
    by_cases h1 : A.last.k = 24
    · exact auNext_close pb A k cy co a b v w0 w F hs h0 h1
    · by_cases h2 : A.last.co ≤ co
      · by_cases h3 : A.last.cy ≤ cy
        · obtain ⟨n, rfl⟩ := Int.eq_ofNat_of_zero_le (show 0 ≤ k by omega)
          have hok : okN n a b v = true := hok
          have hkk : 1 ≤ n ∧ n ≤ 24 := by omega
          by_cases h4 : A.due.k = 0
          · exact auNext_free pb A n cy co a b v w0 w F hs hA hseen hkk hok he.v h0 h1 h2 h3 (hA.dz h4)
          · by_cases h5 : A.due = ⟨n, a, b⟩
            · exact auNext_had pb A n cy co a b v w0 w F hs hA hseen hkk hok he.v h0 h1 h2 h3 h5
            · exact auNext_due pb A n cy co a b v w0 w F hs h0 h1 h2 h3 A.due.k A.due.a A.due.b rfl h4 (fun ⟨q1, q2, q3⟩ => h5 (by rw [← q1, ← q2, ← q3]))
        · exact auNext_cy pb A k cy co a b v w0 w F hs h0 h1 h2 h3
      · exact auNext_co pb A k cy co a b v w0 w F hs h0 h1 h2
  · exact auNext_ev pb A k cy co a b v w0 w F hs (by simpa using h0)

set_option maxRecDepth 100000 in
theorem auNext_broken (pb : Nat) (s : Int) (e : Ev) (w0 w : World) (F : HP) (hs : Sat w0 w (pts pb 0 [.int .i64 s, .bool true] * F)) :
    Calls Try.prog 53 #[.pointer (some ⟨pb, 0, none⟩), evV e] w (RetV w0 (.bool false) (pts pb 0 [.int .i64 s, .bool true] * F)) := by
  unfold evV
  go_enter Try.func53, Try.ntmps53
  go_wp2_with fail
  go_ret
  exact ⟨rfl, own_left⟩
set_option maxRecDepth 100000 in
theorem auNext_nil (e : Ev) (w0 w : World) (F : HP) (hs : Sat w0 w F) :
    Calls Try.prog 53 #[.pointer none, evV e] w (RetV w0 (.bool false) F) := by
  unfold evV
  go_enter Try.func53, Try.ntmps53
  go_wp2_with fail
  go_ret
  exact ⟨rfl, own_left⟩
theorem auSeen (pb : Nat) (s : Int) (r : List Value) (w0 w : World) (F : HP) (hs : Sat w0 w (pts pb 0 (.int .i64 s :: r) * F)) :
    Calls Try.prog 55 #[.pointer (some ⟨pb, 0, none⟩)] w (fun en w' => en = .returned (.int .i64 s) ∧ w = w') := by
  go_enter Try.func55, Try.ntmps55
  go_wp2_with fail
  go_ret
  exact ⟨rfl, rfl⟩
theorem auSeen_nil (w : World) :
    Calls Try.prog 55 #[.pointer none] w (fun en w' => en = .returned (.int .i64 0) ∧ w = w') := by
  go_enter Try.func55, Try.ntmps55
  go_wp2_with fail
  go_ret
  exact ⟨rfl, rfl⟩
theorem auBroken (pb : Nat) (s : Value) (x : Bool) (w0 w : World) (F : HP) (hs : Sat w0 w (pts pb 0 [s, .bool x] * F)) :
    Calls Try.prog 56 #[.pointer (some ⟨pb, 0, none⟩)] w (fun en w' => en = .returned (.bool x) ∧ w = w') := by
  go_enter Try.func56, Try.ntmps56
  go_wp2_with fail
  go_ret
  exact ⟨rfl, rfl⟩
theorem auBroken_nil (w : World) :
    Calls Try.prog 56 #[.pointer none] w (fun en w' => en = .returned (.bool false) ∧ w = w') := by
  go_enter Try.func56, Try.ntmps56
  go_wp2_with fail
  go_ret
  exact ⟨rfl, rfl⟩
end Go.Proofs.Ytfphgcplpokigaa
