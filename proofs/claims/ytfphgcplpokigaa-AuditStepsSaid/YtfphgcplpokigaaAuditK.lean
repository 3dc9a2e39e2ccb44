/-
  Audit: the contract of Next, what must come.
-/
import Derived.Test.YtfphgcplpokigaaAuditJ
namespace Go.Proofs.Ytfphgcplpokigaa
open Go.RowKit Go.Sx Go.Au
set_option linter.unusedSimpArgs false
set_option linter.unusedVariables false

set_option maxRecDepth 100000 in
set_option maxHeartbeats 16000000 in
theorem auNext_due (pb : Nat) (A : Au) (k : Int) (cy co : Int) (a b v : Nat) (w0 w : World) (F : HP) (hs : Sat w0 w (auP pb A * F)) (hno : okE ⟨k, cy, co, a, b, v⟩ = true) (h1 : A.last.k ≠ 24) (h2 : A.last.co ≤ co) (h3 : A.last.cy ≤ cy) (dk : Int) (da db : Nat) (hd : A.due = ⟨dk, da, db⟩) (h4 : dk ≠ 0) (h5 : ¬ (dk = k ∧ da = a ∧ db = b)) :
    Calls Try.prog 53 #[.pointer (some ⟨pb, 0, none⟩), evV ⟨k, cy, co, a, b, v⟩] w (Nx w0 pb A ⟨k, cy, co, a, b, v⟩ F) := by
  have hs := auP_out hs
  have Hk : Hid (keepsR A ⟨k, cy, co, a, b, v⟩ = false) := by
    have e1 : A.due ≠ du0 := by rw [hd]; intro h; exact h4 (congrArg Du.k h)
    have e2 : A.due ≠ ⟨k, a, b⟩ := by rw [hd]; intro h; injection h with q1 q2 q3; exact h5 ⟨q1, q2, q3⟩
    unfold Hid keepsR inTime duOf; simp [e1, e2]
  rw [hd] at hs
  unfold evV
  dsimp only
  dsimp only [duCells] at hs
  have Hno := hid hno
  have d1 : (A.last.k != 24) = true := by simp [h1]
  have d2 : decide (A.last.co ≤ co) = true := by simp; omega
  have d3 : decide (A.last.cy ≤ cy) = true := by simp; omega
  clear hno h1 h2 h3 hd
  have g0 : ¬ dk = 0 := h4
  clear h4
  by_cases q1 : dk = k
  · subst q1
    by_cases q2 : da = a
    · subst q2
      have g1 : ¬ db = b := fun h => h5 ⟨rfl, rfl, h⟩
      have g2 : ¬ (db : Int) = (b : Int) := by omega
      clear h5
      go_enter Try.func53, Try.ntmps53
      go_wp2_with fail
      refine wp_gen (w0 := w0) ?_
      intro wx hsx
      refine wp_region_early (fun w' => Sat w0 w' (pts w.heap.size 0 [.int .i64 dk, .int .u64 cy, .int .u64 co, .int .u32 da, .int .u32 b, .int .u32 v] * (pts pb 2 (evCells A.last) * any))) [(0, true), (1, false), (2, true), (3, true), (4, true), (5, true), (6, true), (7, true), (8, true), (9, true), (10, true), (11, true), (12, true), (13, true), (14, true), (15, true), (16, true), (17, true), (18, true), (19, true), (20, true), (21, true), (22, true), (23, true), (24, true), (25, true), (26, true), (27, true), (28, true), (29, true), (30, true), (31, true)] (by kernel_rfl) (by kernel_rfl) (fun _ _ _ _ h => h) own_any2 ?_
      iterate 1 (refine early_read (fun K hK => ?_); simp only [List.getElem?_cons_succ, List.getElem?_cons_zero]; (first | (rw [if_pos (by rfl)]; apply Exists.intro; refine ⟨fun w hSw => ?_, hK _ ?_⟩; (focus ((try dsimp only at hSw); go_simp; try with_reducible rfl))) | (rw [if_neg (ne_true_of_eq_false (by rfl))]; refine hK _ ?_)); clear hK K; simp only [Act.put, List.setIfInBounds_toArray, List.set_cons_zero, List.set_cons_succ])
      refine early_run (fun K hK => ?_); simp only [List.getElem?_cons_succ, List.getElem?_cons_zero]; rw [if_pos (by rfl)]
      go_wp2_with fail
      refine (evCheck dk cy co da b v w0 _ _).mono ?_
      rintro en w1 ⟨n, rfl, hn, hs1⟩
      obtain rfl : n = 0 := hn.2 Hno.out
      clear hn
      go_wp2_with fail
      refine ⟨own_any2, ?_⟩
      iterate 30 (refine early_read (fun K hK => ?_); simp only [List.getElem?_cons_succ, List.getElem?_cons_zero]; (first | (rw [if_pos (by rfl)]; apply Exists.intro; refine ⟨fun w hSw => ?_, hK _ ?_⟩; (focus ((try dsimp only at hSw); go_simp; try with_reducible rfl))) | (rw [if_neg (ne_true_of_eq_false (by rfl))]; refine hK _ ?_)); clear hK K; simp only [Act.put, List.setIfInBounds_toArray, List.set_cons_zero, List.set_cons_succ])
      refine early_done ?_
      clear hs hsx
      go_wp2_with fail
      go_quiet (fail)
      go_wp2_with fail
      go_ret
      exact nx_no Hk.out own_left
    · have g1 : ¬ da = a := q2
      have g2 : ¬ (da : Int) = (a : Int) := by omega
      clear h5 q2
      go_enter Try.func53, Try.ntmps53
      go_wp2_with fail
      refine wp_gen (w0 := w0) ?_
      intro wx hsx
      refine wp_region_early (fun w' => Sat w0 w' (pts w.heap.size 0 [.int .i64 dk, .int .u64 cy, .int .u64 co, .int .u32 a, .int .u32 b, .int .u32 v] * (pts pb 2 (evCells A.last) * any))) [(0, true), (1, false), (2, true), (3, true), (4, true), (5, true), (6, true), (7, true), (8, true), (9, true), (10, true), (11, true), (12, true), (13, true), (14, true), (15, true), (16, true), (17, true), (18, true), (19, true), (20, true), (21, true), (22, true), (23, true), (24, true), (25, true), (26, true), (27, true), (28, true), (29, true), (30, true), (31, true)] (by kernel_rfl) (by kernel_rfl) (fun _ _ _ _ h => h) own_any2 ?_
      iterate 1 (refine early_read (fun K hK => ?_); simp only [List.getElem?_cons_succ, List.getElem?_cons_zero]; (first | (rw [if_pos (by rfl)]; apply Exists.intro; refine ⟨fun w hSw => ?_, hK _ ?_⟩; (focus ((try dsimp only at hSw); go_simp; try with_reducible rfl))) | (rw [if_neg (ne_true_of_eq_false (by rfl))]; refine hK _ ?_)); clear hK K; simp only [Act.put, List.setIfInBounds_toArray, List.set_cons_zero, List.set_cons_succ])
      refine early_run (fun K hK => ?_); simp only [List.getElem?_cons_succ, List.getElem?_cons_zero]; rw [if_pos (by rfl)]
      go_wp2_with fail
      refine (evCheck dk cy co a b v w0 _ _).mono ?_
      rintro en w1 ⟨n, rfl, hn, hs1⟩
      obtain rfl : n = 0 := hn.2 Hno.out
      clear hn
      go_wp2_with fail
      refine ⟨own_any2, ?_⟩
      iterate 30 (refine early_read (fun K hK => ?_); simp only [List.getElem?_cons_succ, List.getElem?_cons_zero]; (first | (rw [if_pos (by rfl)]; apply Exists.intro; refine ⟨fun w hSw => ?_, hK _ ?_⟩; (focus ((try dsimp only at hSw); go_simp; try with_reducible rfl))) | (rw [if_neg (ne_true_of_eq_false (by rfl))]; refine hK _ ?_)); clear hK K; simp only [Act.put, List.setIfInBounds_toArray, List.set_cons_zero, List.set_cons_succ])
      refine early_done ?_
      clear hs hsx
      go_wp2_with fail
      go_quiet (fail)
      go_wp2_with fail
      go_ret
      exact nx_no Hk.out own_left
  · have g1 : ¬ dk = k := q1
    clear h5 q1
    go_enter Try.func53, Try.ntmps53
    go_wp2_with fail
    refine wp_gen (w0 := w0) ?_
    intro wx hsx
    refine wp_region_early (fun w' => Sat w0 w' (pts w.heap.size 0 [.int .i64 k, .int .u64 cy, .int .u64 co, .int .u32 a, .int .u32 b, .int .u32 v] * (pts pb 2 (evCells A.last) * any))) [(0, true), (1, false), (2, true), (3, true), (4, true), (5, true), (6, true), (7, true), (8, true), (9, true), (10, true), (11, true), (12, true), (13, true), (14, true), (15, true), (16, true), (17, true), (18, true), (19, true), (20, true), (21, true), (22, true), (23, true), (24, true), (25, true), (26, true), (27, true), (28, true), (29, true), (30, true), (31, true)] (by kernel_rfl) (by kernel_rfl) (fun _ _ _ _ h => h) own_any2 ?_
    iterate 1 (refine early_read (fun K hK => ?_); simp only [List.getElem?_cons_succ, List.getElem?_cons_zero]; (first | (rw [if_pos (by rfl)]; apply Exists.intro; refine ⟨fun w hSw => ?_, hK _ ?_⟩; (focus ((try dsimp only at hSw); go_simp; try with_reducible rfl))) | (rw [if_neg (ne_true_of_eq_false (by rfl))]; refine hK _ ?_)); clear hK K; simp only [Act.put, List.setIfInBounds_toArray, List.set_cons_zero, List.set_cons_succ])
    refine early_run (fun K hK => ?_); simp only [List.getElem?_cons_succ, List.getElem?_cons_zero]; rw [if_pos (by rfl)]
    go_wp2_with fail
    refine (evCheck k cy co a b v w0 _ _).mono ?_
    rintro en w1 ⟨n, rfl, hn, hs1⟩
    obtain rfl : n = 0 := hn.2 Hno.out
    clear hn
    go_wp2_with fail
    refine ⟨own_any2, ?_⟩
    iterate 30 (refine early_read (fun K hK => ?_); simp only [List.getElem?_cons_succ, List.getElem?_cons_zero]; (first | (rw [if_pos (by rfl)]; apply Exists.intro; refine ⟨fun w hSw => ?_, hK _ ?_⟩; (focus ((try dsimp only at hSw); go_simp; try with_reducible rfl))) | (rw [if_neg (ne_true_of_eq_false (by rfl))]; refine hK _ ?_)); clear hK K; simp only [Act.put, List.setIfInBounds_toArray, List.set_cons_zero, List.set_cons_succ])
    refine early_done ?_
    clear hs hsx
    go_wp2_with fail
    go_quiet (fail)
    go_wp2_with fail
    go_ret
    exact nx_no Hk.out own_left

end Go.Proofs.Ytfphgcplpokigaa
