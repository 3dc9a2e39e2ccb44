/-
  Audit: the contract of the reference's Next.
-/
import Derived.Test.YtfphgcplpokigaaAuditNr
namespace Go.Proofs.Ytfphgcplpokigaa
open Go.RowKit Go.Sx Go.Au
set_option linter.unusedSimpArgs false
set_option linter.unusedVariables false

set_option maxRecDepth 100000 in
set_option maxHeartbeats 16000000 in
theorem rfNext_ev (pb : Nat) (A : Au) (k : Int) (cy co : Int) (a b v : Nat) (w0 w : World) (F : HP) (hs : Sat w0 w (rfP pb A * F)) (hA : AOk A) (dk : Int) (da db : Nat) (hd : A.due = ⟨dk, da, db⟩) (hno : okE ⟨k, cy, co, a, b, v⟩ = false) :
    Calls Try.prog 54 #[.pointer (some ⟨pb, 0, none⟩), evV ⟨k, cy, co, a, b, v⟩] w (Nr w0 pb A ⟨k, cy, co, a, b, v⟩ F) := by
  have Hk : Hid (keepsR A ⟨k, cy, co, a, b, v⟩ = false) := by unfold Hid keepsR inTime; rw [hno]; rfl
  obtain ⟨g, off, cap, c1, c2, hs⟩ := rfP_out hA hs
  rw [hd] at hs
  unfold evV
  dsimp only
  dsimp only [duEv, evCells] at hs
  have Hno := hid hno
  clear hno hd
  by_cases q0 : dk = 0
  · subst q0
    go_enter Try.func54, Try.ntmps54
    go_wp2_with fail
    refine wp_gen (w0 := w0) ?_
    intro wx hsx
    refine wp_region_early (fun w' => Sat w0 w' (pts w.heap.size 0 [.int .i64 k, .int .u64 cy, .int .u64 co, .int .u32 a, .int .u32 b, .int .u32 v] * (pts pb 51 [.int .i64 A.last.k, .int .u64 A.last.cy, .int .u64 A.last.co, .int .u32 A.last.a, .int .u32 A.last.b, .int .u32 A.last.v] * (pts (w.heap.size + 1) 0 [.int .i64 0, .int .u64 0, .int .u64 0, .int .u32 da, .int .u32 db, .int .u32 0] * any)))) [(0, true), (1, false), (2, true), (3, true), (4, true), (5, true), (6, true), (7, true), (8, true), (9, true), (10, true), (11, true), (12, true), (13, true), (14, true), (15, true), (16, true), (17, true), (18, true), (19, true), (20, true), (21, true), (22, true), (23, true), (24, true), (25, true), (26, true), (27, true), (28, true), (29, true), (30, true), (31, true), (32, true), (33, true), (34, true), (35, true), (36, true), (37, true), (38, true), (39, true), (40, true), (41, true), (42, true), (43, true), (44, false), (45, true), (46, true)] (by kernel_rfl) (by kernel_rfl) (fun _ _ _ _ h => h) own_any3 ?_
    iterate 1 (refine early_read (fun K hK => ?_); simp only [List.getElem?_cons_succ, List.getElem?_cons_zero]; (first | (rw [if_pos (by rfl)]; apply Exists.intro; refine ⟨fun w hSw => ?_, hK _ ?_⟩; (focus ((try dsimp only at hSw); go_simp; try with_reducible rfl))) | (rw [if_neg (ne_true_of_eq_false (by rfl))]; refine hK _ ?_)); clear hK K; simp only [Act.put, List.setIfInBounds_toArray, List.set_cons_zero, List.set_cons_succ])
    refine early_run (fun K hK => ?_); simp only [List.getElem?_cons_succ, List.getElem?_cons_zero]; rw [if_pos (by rfl)]
    go_wp2_with fail
    refine (rfCheck k cy co a b v w0 _ _).mono ?_
    rintro en w1 ⟨n, rfl, hn, hs1⟩
    have hn0 : (n != 0) = true := by
      rw [Hno.out] at hn
      simp at hn; simp [hn]
    clear hn
    go_wp2_with fail
    refine ⟨own_any3, ?_⟩
    iterate 42 (refine early_read (fun K hK => ?_); simp only [List.getElem?_cons_succ, List.getElem?_cons_zero]; (first | (rw [if_pos (by rfl)]; apply Exists.intro; refine ⟨fun w hSw => ?_, hK _ ?_⟩; (focus ((try dsimp only at hSw); go_simp; try with_reducible rfl))) | (rw [if_neg (ne_true_of_eq_false (by rfl))]; refine hK _ ?_)); clear hK K; simp only [Act.put, List.setIfInBounds_toArray, List.set_cons_zero, List.set_cons_succ])
    refine early_run (fun K hK => ?_); simp only [List.getElem?_cons_succ, List.getElem?_cons_zero]; rw [if_neg (ne_true_of_eq_false (by rfl))]
    refine hK _ _ ⟨own_any3, ?_⟩
    clear hK K
    simp only [Act.put, List.setIfInBounds_toArray, List.set_cons_zero, List.set_cons_succ]
    iterate 2 (refine early_read (fun K hK => ?_); simp only [List.getElem?_cons_succ, List.getElem?_cons_zero]; (first | (rw [if_pos (by rfl)]; apply Exists.intro; refine ⟨fun w hSw => ?_, hK _ ?_⟩; (focus ((try dsimp only at hSw); go_simp; try with_reducible rfl))) | (rw [if_neg (ne_true_of_eq_false (by rfl))]; refine hK _ ?_)); clear hK K; simp only [Act.put, List.setIfInBounds_toArray, List.set_cons_zero, List.set_cons_succ])
    refine early_done ?_
    clear hs hsx
    go_wp2_with fail
    go_ret
    exact nr_no Hk.out own_left
  · have g0 : (dk != 0) = true := by simp [q0]
    clear q0
    by_cases q1 : dk = k
    · subst q1
      by_cases q2 : da = a
      · subst q2
        go_enter Try.func54, Try.ntmps54
        go_wp2_with fail
        refine wp_gen (w0 := w0) ?_
        intro wx hsx
        refine wp_region_early (fun w' => Sat w0 w' (pts w.heap.size 0 [.int .i64 dk, .int .u64 cy, .int .u64 co, .int .u32 da, .int .u32 b, .int .u32 v] * (pts pb 51 [.int .i64 A.last.k, .int .u64 A.last.cy, .int .u64 A.last.co, .int .u32 A.last.a, .int .u32 A.last.b, .int .u32 A.last.v] * (pts (w.heap.size + 1) 0 [.int .i64 dk, .int .u64 0, .int .u64 0, .int .u32 da, .int .u32 db, .int .u32 0] * any)))) [(0, true), (1, false), (2, true), (3, true), (4, true), (5, true), (6, true), (7, true), (8, true), (9, true), (10, true), (11, true), (12, true), (13, true), (14, true), (15, true), (16, true), (17, true), (18, true), (19, true), (20, true), (21, true), (22, true), (23, true), (24, true), (25, true), (26, true), (27, true), (28, true), (29, true), (30, true), (31, true), (32, true), (33, true), (34, true), (35, true), (36, true), (37, true), (38, true), (39, true), (40, true), (41, true), (42, true), (43, true), (44, false), (45, true), (46, true)] (by kernel_rfl) (by kernel_rfl) (fun _ _ _ _ h => h) own_any3 ?_
        iterate 1 (refine early_read (fun K hK => ?_); simp only [List.getElem?_cons_succ, List.getElem?_cons_zero]; (first | (rw [if_pos (by rfl)]; apply Exists.intro; refine ⟨fun w hSw => ?_, hK _ ?_⟩; (focus ((try dsimp only at hSw); go_simp; try with_reducible rfl))) | (rw [if_neg (ne_true_of_eq_false (by rfl))]; refine hK _ ?_)); clear hK K; simp only [Act.put, List.setIfInBounds_toArray, List.set_cons_zero, List.set_cons_succ])
        refine early_run (fun K hK => ?_); simp only [List.getElem?_cons_succ, List.getElem?_cons_zero]; rw [if_pos (by rfl)]
        go_wp2_with fail
        refine (rfCheck dk cy co da b v w0 _ _).mono ?_
        rintro en w1 ⟨n, rfl, hn, hs1⟩
        have hn0 : (n != 0) = true := by
          rw [Hno.out] at hn
          simp at hn; simp [hn]
        clear hn
        go_wp2_with fail
        refine ⟨own_any3, ?_⟩
        iterate 42 (refine early_read (fun K hK => ?_); simp only [List.getElem?_cons_succ, List.getElem?_cons_zero]; (first | (rw [if_pos (by rfl)]; apply Exists.intro; refine ⟨fun w hSw => ?_, hK _ ?_⟩; (focus ((try dsimp only at hSw); go_simp; try with_reducible rfl))) | (rw [if_neg (ne_true_of_eq_false (by rfl))]; refine hK _ ?_)); clear hK K; simp only [Act.put, List.setIfInBounds_toArray, List.set_cons_zero, List.set_cons_succ])
        refine early_run (fun K hK => ?_); simp only [List.getElem?_cons_succ, List.getElem?_cons_zero]; rw [if_neg (ne_true_of_eq_false (by rfl))]
        refine hK _ _ ⟨own_any3, ?_⟩
        clear hK K
        simp only [Act.put, List.setIfInBounds_toArray, List.set_cons_zero, List.set_cons_succ]
        iterate 2 (refine early_read (fun K hK => ?_); simp only [List.getElem?_cons_succ, List.getElem?_cons_zero]; (first | (rw [if_pos (by rfl)]; apply Exists.intro; refine ⟨fun w hSw => ?_, hK _ ?_⟩; (focus ((try dsimp only at hSw); go_simp; try with_reducible rfl))) | (rw [if_neg (ne_true_of_eq_false (by rfl))]; refine hK _ ?_)); clear hK K; simp only [Act.put, List.setIfInBounds_toArray, List.set_cons_zero, List.set_cons_succ])
        refine early_done ?_
        clear hs hsx
        go_wp2_with fail
        go_ret
        exact nr_no Hk.out own_left
      · have g2 : ((a : Int) == (da : Int)) = false := by simp; omega
        clear q2
        go_enter Try.func54, Try.ntmps54
        go_wp2_with fail
        refine wp_gen (w0 := w0) ?_
        intro wx hsx
        refine wp_region_early (fun w' => Sat w0 w' (pts w.heap.size 0 [.int .i64 dk, .int .u64 cy, .int .u64 co, .int .u32 a, .int .u32 b, .int .u32 v] * (pts pb 51 [.int .i64 A.last.k, .int .u64 A.last.cy, .int .u64 A.last.co, .int .u32 A.last.a, .int .u32 A.last.b, .int .u32 A.last.v] * (pts (w.heap.size + 1) 0 [.int .i64 dk, .int .u64 0, .int .u64 0, .int .u32 da, .int .u32 db, .int .u32 0] * any)))) [(0, true), (1, false), (2, true), (3, true), (4, true), (5, true), (6, true), (7, true), (8, true), (9, true), (10, true), (11, true), (12, true), (13, true), (14, true), (15, true), (16, true), (17, true), (18, true), (19, true), (20, true), (21, true), (22, true), (23, true), (24, true), (25, true), (26, true), (27, true), (28, true), (29, true), (30, true), (31, true), (32, true), (33, true), (34, true), (35, true), (36, true), (37, true), (38, true), (39, true), (40, true), (41, true), (42, true), (43, true), (44, false), (45, true), (46, true)] (by kernel_rfl) (by kernel_rfl) (fun _ _ _ _ h => h) own_any3 ?_
        iterate 1 (refine early_read (fun K hK => ?_); simp only [List.getElem?_cons_succ, List.getElem?_cons_zero]; (first | (rw [if_pos (by rfl)]; apply Exists.intro; refine ⟨fun w hSw => ?_, hK _ ?_⟩; (focus ((try dsimp only at hSw); go_simp; try with_reducible rfl))) | (rw [if_neg (ne_true_of_eq_false (by rfl))]; refine hK _ ?_)); clear hK K; simp only [Act.put, List.setIfInBounds_toArray, List.set_cons_zero, List.set_cons_succ])
        refine early_run (fun K hK => ?_); simp only [List.getElem?_cons_succ, List.getElem?_cons_zero]; rw [if_pos (by rfl)]
        go_wp2_with fail
        refine (rfCheck dk cy co a b v w0 _ _).mono ?_
        rintro en w1 ⟨n, rfl, hn, hs1⟩
        have hn0 : (n != 0) = true := by
          rw [Hno.out] at hn
          simp at hn; simp [hn]
        clear hn
        go_wp2_with fail
        refine ⟨own_any3, ?_⟩
        iterate 42 (refine early_read (fun K hK => ?_); simp only [List.getElem?_cons_succ, List.getElem?_cons_zero]; (first | (rw [if_pos (by rfl)]; apply Exists.intro; refine ⟨fun w hSw => ?_, hK _ ?_⟩; (focus ((try dsimp only at hSw); go_simp; try with_reducible rfl))) | (rw [if_neg (ne_true_of_eq_false (by rfl))]; refine hK _ ?_)); clear hK K; simp only [Act.put, List.setIfInBounds_toArray, List.set_cons_zero, List.set_cons_succ])
        refine early_run (fun K hK => ?_); simp only [List.getElem?_cons_succ, List.getElem?_cons_zero]; rw [if_neg (ne_true_of_eq_false (by rfl))]
        refine hK _ _ ⟨own_any3, ?_⟩
        clear hK K
        simp only [Act.put, List.setIfInBounds_toArray, List.set_cons_zero, List.set_cons_succ]
        iterate 2 (refine early_read (fun K hK => ?_); simp only [List.getElem?_cons_succ, List.getElem?_cons_zero]; (first | (rw [if_pos (by rfl)]; apply Exists.intro; refine ⟨fun w hSw => ?_, hK _ ?_⟩; (focus ((try dsimp only at hSw); go_simp; try with_reducible rfl))) | (rw [if_neg (ne_true_of_eq_false (by rfl))]; refine hK _ ?_)); clear hK K; simp only [Act.put, List.setIfInBounds_toArray, List.set_cons_zero, List.set_cons_succ])
        refine early_done ?_
        clear hs hsx
        go_wp2_with fail
        go_ret
        exact nr_no Hk.out own_left
    · have g1 : (k == dk) = false := by simp; omega
      clear q1
      go_enter Try.func54, Try.ntmps54
      go_wp2_with fail
      refine wp_gen (w0 := w0) ?_
      intro wx hsx
      refine wp_region_early (fun w' => Sat w0 w' (pts w.heap.size 0 [.int .i64 k, .int .u64 cy, .int .u64 co, .int .u32 a, .int .u32 b, .int .u32 v] * (pts pb 51 [.int .i64 A.last.k, .int .u64 A.last.cy, .int .u64 A.last.co, .int .u32 A.last.a, .int .u32 A.last.b, .int .u32 A.last.v] * (pts (w.heap.size + 1) 0 [.int .i64 dk, .int .u64 0, .int .u64 0, .int .u32 da, .int .u32 db, .int .u32 0] * any)))) [(0, true), (1, false), (2, true), (3, true), (4, true), (5, true), (6, true), (7, true), (8, true), (9, true), (10, true), (11, true), (12, true), (13, true), (14, true), (15, true), (16, true), (17, true), (18, true), (19, true), (20, true), (21, true), (22, true), (23, true), (24, true), (25, true), (26, true), (27, true), (28, true), (29, true), (30, true), (31, true), (32, true), (33, true), (34, true), (35, true), (36, true), (37, true), (38, true), (39, true), (40, true), (41, true), (42, true), (43, true), (44, false), (45, true), (46, true)] (by kernel_rfl) (by kernel_rfl) (fun _ _ _ _ h => h) own_any3 ?_
      iterate 1 (refine early_read (fun K hK => ?_); simp only [List.getElem?_cons_succ, List.getElem?_cons_zero]; (first | (rw [if_pos (by rfl)]; apply Exists.intro; refine ⟨fun w hSw => ?_, hK _ ?_⟩; (focus ((try dsimp only at hSw); go_simp; try with_reducible rfl))) | (rw [if_neg (ne_true_of_eq_false (by rfl))]; refine hK _ ?_)); clear hK K; simp only [Act.put, List.setIfInBounds_toArray, List.set_cons_zero, List.set_cons_succ])
      refine early_run (fun K hK => ?_); simp only [List.getElem?_cons_succ, List.getElem?_cons_zero]; rw [if_pos (by rfl)]
      go_wp2_with fail
      refine (rfCheck k cy co a b v w0 _ _).mono ?_
      rintro en w1 ⟨n, rfl, hn, hs1⟩
      have hn0 : (n != 0) = true := by
        rw [Hno.out] at hn
        simp at hn; simp [hn]
      clear hn
      go_wp2_with fail
      refine ⟨own_any3, ?_⟩
      iterate 42 (refine early_read (fun K hK => ?_); simp only [List.getElem?_cons_succ, List.getElem?_cons_zero]; (first | (rw [if_pos (by rfl)]; apply Exists.intro; refine ⟨fun w hSw => ?_, hK _ ?_⟩; (focus ((try dsimp only at hSw); go_simp; try with_reducible rfl))) | (rw [if_neg (ne_true_of_eq_false (by rfl))]; refine hK _ ?_)); clear hK K; simp only [Act.put, List.setIfInBounds_toArray, List.set_cons_zero, List.set_cons_succ])
      refine early_run (fun K hK => ?_); simp only [List.getElem?_cons_succ, List.getElem?_cons_zero]; rw [if_neg (ne_true_of_eq_false (by rfl))]
      refine hK _ _ ⟨own_any3, ?_⟩
      clear hK K
      simp only [Act.put, List.setIfInBounds_toArray, List.set_cons_zero, List.set_cons_succ]
      iterate 2 (refine early_read (fun K hK => ?_); simp only [List.getElem?_cons_succ, List.getElem?_cons_zero]; (first | (rw [if_pos (by rfl)]; apply Exists.intro; refine ⟨fun w hSw => ?_, hK _ ?_⟩; (focus ((try dsimp only at hSw); go_simp; try with_reducible rfl))) | (rw [if_neg (ne_true_of_eq_false (by rfl))]; refine hK _ ?_)); clear hK K; simp only [Act.put, List.setIfInBounds_toArray, List.set_cons_zero, List.set_cons_succ])
      refine early_done ?_
      clear hs hsx
      go_wp2_with fail
      go_ret
      exact nr_no Hk.out own_left
end Go.Proofs.Ytfphgcplpokigaa
