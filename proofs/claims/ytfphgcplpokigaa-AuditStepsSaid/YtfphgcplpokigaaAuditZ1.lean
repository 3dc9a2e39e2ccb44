/-
  Audit: the contract of the reference's Next.
-/
import Derived.Test.YtfphgcplpokigaaAuditNr
namespace Go.Proofs.Ytfphgcplpokigaa
open Go.RowKit Go.Sx Go.Au
set_option linter.unusedSimpArgs false
set_option linter.unusedVariables false

set_option maxRecDepth 100000 in
set_option maxHeartbeats 16000000 in
theorem rfNext_had (pb : Nat) (A : Au) (k : Nat) (cy co : Int) (a b v : Nat) (w0 w : World) (F : HP) (hs : Sat w0 w (rfP pb A * F)) (hA : AOk A) (dk : Int) (da db : Nat) (hd : A.due = ⟨dk, da, db⟩) (hseen : 0 ≤ A.seen ∧ A.seen < 1000000000) (hkk : 1 ≤ k ∧ k ≤ 24) (hok : okN k a b v = true) (hv : v < 4294967296) (hno : okE ⟨k, cy, co, a, b, v⟩ = true) (h1 : A.last.k ≠ 24) (h2 : A.last.co ≤ co) (h3 : A.last.cy ≤ cy) (hdd : dk = k ∧ da = a ∧ db = b) :
    Calls Try.prog 54 #[.pointer (some ⟨pb, 0, none⟩), evV ⟨k, cy, co, a, b, v⟩] w (Nr w0 pb A ⟨k, cy, co, a, b, v⟩ F) := by
  obtain ⟨e1, e2, e3⟩ := hdd
  have hd2 : A.due = ⟨k, a, b⟩ := by rw [hd, e1, e2, e3]
  clear hd e1 e2 e3 dk da db
  have hrd : ∀ x, rule { A with due := du0 } k a b v x = rule A k a b v x := fun x => rfl
  have Hk : Hid (keepsR A ⟨k, cy, co, a, b, v⟩ = rule A k a b v true) := by
    unfold Hid keepsR inTime duOf
    rw [hd2]
    have e : decide ((⟨k, a, b⟩ : Du) = ⟨k, a, b⟩) = true := by
      exact decide_eq_true rfl
    rw [e]; simp [hno, h1, h2, h3, hrd]
  have Hst : Hid (stepA A ⟨k, cy, co, a, b, v⟩ = { learn { A with due := du0 } k a b v with last := ⟨k, cy, co, a, b, v⟩, seen := A.seen + 1 }) := rfl
  have Hsn := hid (learn_seen { A with due := du0 } k a b v)
  dsimp only at Hsn
  have hA0 := hA.noDue
  have Hle := hid (aok_learn hA0 k a b v hkk hok hv)
  obtain ⟨g, off, cap, c1, c2, hs⟩ := rfP_out hA hs
  rw [hd2] at hs
  unfold evV
  dsimp only
  dsimp only [duEv, evCells] at hs
  have Hno := hid hno
  have d1 : (A.last.k == 24) = false := by simp [h1]
  have d2 : decide (co < A.last.co) = false := by simp; omega
  have d3 : decide (cy < A.last.cy) = false := by simp; omega
  clear hno h1 h2 h3 hrd
  have g0 : ((k : Int) != 0) = true := by simp; omega
  generalize hr : rule A k a b v true = r at Hk
  have Hr := hid hr
  clear hr
  cases r
  all_goals
    go_enter Try.func54, Try.ntmps54
    go_wp2_with fail
    refine wp_gen (w0 := w0) ?_
    intro wx hsx
    refine wp_region_early (fun w' => Sat w0 w' (pts w.heap.size 0 [.int .i64 k, .int .u64 cy, .int .u64 co, .int .u32 a, .int .u32 b, .int .u32 v] * (pts pb 51 [.int .i64 A.last.k, .int .u64 A.last.cy, .int .u64 A.last.co, .int .u32 A.last.a, .int .u32 A.last.b, .int .u32 A.last.v] * (pts (w.heap.size + 1) 0 [.int .i64 k, .int .u64 0, .int .u64 0, .int .u32 a, .int .u32 b, .int .u32 0] * any)))) [(0, true), (1, false), (2, true), (3, true), (4, true), (5, true), (6, true), (7, true), (8, true), (9, true), (10, true), (11, true), (12, true), (13, true), (14, true), (15, true), (16, true), (17, true), (18, true), (19, true), (20, true), (21, true), (22, true), (23, true), (24, true), (25, true), (26, true), (27, true), (28, true), (29, true), (30, true), (31, true), (32, true), (33, true), (34, true), (35, true), (36, true), (37, true), (38, true), (39, true), (40, true), (41, true), (42, true), (43, true), (44, false), (45, true), (46, true)] (by kernel_rfl) (by kernel_rfl) (fun _ _ _ _ h => h) own_any3 ?_
    iterate 1 (refine early_read (fun K hK => ?_); simp only [List.getElem?_cons_succ, List.getElem?_cons_zero]; (first | (rw [if_pos (by rfl)]; apply Exists.intro; refine ⟨fun w hSw => ?_, hK _ ?_⟩; (focus ((try dsimp only at hSw); go_simp; try with_reducible rfl))) | (rw [if_neg (ne_true_of_eq_false (by rfl))]; refine hK _ ?_)); clear hK K; simp only [Act.put, List.setIfInBounds_toArray, List.set_cons_zero, List.set_cons_succ])
    refine early_run (fun K hK => ?_); simp only [List.getElem?_cons_succ, List.getElem?_cons_zero]; rw [if_pos (by rfl)]
    go_wp2_with fail
    refine (rfCheck k cy co a b v w0 _ _).mono ?_
    rintro en w1 ⟨n, rfl, hn, hs1⟩
    obtain rfl : n = 0 := hn.2 Hno.out
    clear hn
    go_wp2_with fail
    refine ⟨own_any3, ?_⟩
    iterate 42 (refine early_read (fun K hK => ?_); simp only [List.getElem?_cons_succ, List.getElem?_cons_zero]; (first | (rw [if_pos (by rfl)]; apply Exists.intro; refine ⟨fun w hSw => ?_, hK _ ?_⟩; (focus ((try dsimp only at hSw); go_simp; try with_reducible rfl))) | (rw [if_neg (ne_true_of_eq_false (by rfl))]; refine hK _ ?_)); clear hK K; simp only [Act.put, List.setIfInBounds_toArray, List.set_cons_zero, List.set_cons_succ])
    refine early_run (fun K hK => ?_); simp only [List.getElem?_cons_succ, List.getElem?_cons_zero]; rw [if_pos (by rfl)]
    go_wp2_with fail
    refine (rfRule pb A k a b v hkk true cy co w0 _ (pts w.heap.size 0 [.int .i64 k, .int .u64 cy, .int .u64 co, .int .u32 a, .int .u32 b, .int .u32 v] * (pts (w.heap.size + 1) 0 [.int .i64 k, .int .u64 0, .int .u64 0, .int .u32 a, .int .u32 b, .int .u32 0] * F)) (rfP_of (v := .slice (some ⟨g, off, none⟩) 64 cap) (by rw [hd2]; exact own_left)) hA hok hv).mono ?_
    rintro en w2 ⟨rfl, hs2⟩
    obtain ⟨g2, off2, cap2, c3, c4, hs2⟩ := rfP_out hA hs2
    rw [hd2] at hs2
    dsimp only [duEv, evCells] at hs2
    rw [Hr.out]
    clear hs hsx hs1
    go_wp2_with fail
    refine ⟨own_any3, ?_⟩
    iterate 2 (refine early_read (fun K hK => ?_); simp only [List.getElem?_cons_succ, List.getElem?_cons_zero]; (first | (rw [if_pos (by rfl)]; apply Exists.intro; refine ⟨fun w hSw => ?_, hK _ ?_⟩; (focus ((try dsimp only at hSw); go_simp; try with_reducible rfl))) | (rw [if_neg (ne_true_of_eq_false (by rfl))]; refine hK _ ?_)); clear hK K; simp only [Act.put, List.setIfInBounds_toArray, List.set_cons_zero, List.set_cons_succ])
    refine early_done ?_
    go_wp2_with fail
    first
      | (refine (rfLearn pb { A with due := du0 } k a b v hkk cy co w0 _ (pts w.heap.size 0 [.int .i64 k, .int .u64 cy, .int .u64 co, .int .u32 a, .int .u32 b, .int .u32 v] * (pts (w.heap.size + 1) 0 [.int .i64 k, .int .u64 0, .int .u64 0, .int .u32 a, .int .u32 b, .int .u32 0] * F)) (rfP_of (v := .slice (some ⟨g2, off2, none⟩) 64 cap2) own_left) hA0 hok hv).mono ?_
         rintro en w3 ⟨rfl, hs3⟩
         generalize learn { A with due := du0 } k a b v = B at hs3 Hst Hsn Hle
         have hb1 : 0 ≤ B.seen ∧ B.seen < 1000000000 := by have := Hsn.out; omega
         obtain ⟨g3, off3, cap3, c5, c6, hs3⟩ := rfP_out Hle.out hs3
         clear hs2
         go_wp2_with fail
         go_ret
         refine nr_yes Hk.out (rfP_of (v := .slice (some ⟨g3, off3, none⟩) 64 cap3) ?_)
         rw [Hst.out]
         dsimp only
         rw [← Hsn.out]
         exact own_left)
      | (go_ret
         exact nr_no Hk.out own_left)
end Go.Proofs.Ytfphgcplpokigaa
