/-
  AuditSteps: the walk.
-/
import Derived.Test.YtfphgcplpokigaaAuditAA
import Derived.Test.YtfphgcplpokigaaRegionC
namespace Go.Proofs.Ytfphgcplpokigaa
open Go.RowKit Go.Sx Go.Au
set_option linter.unusedSimpArgs false
set_option linter.unusedVariables false

set_option maxRecDepth 100000 in
theorem rfNext_broken (pb : Nat) (s : Int) (e : Ev) (w0 w : World) (F : HP) (hs : Sat w0 w (pts pb 63 [.int .i64 s, .bool true] * F)) :
    Calls Try.prog 54 #[.pointer (some ⟨pb, 0, none⟩), evV e] w (RetV w0 (.bool false) (pts pb 63 [.int .i64 s, .bool true] * F)) := by
  unfold evV
  go_enter Try.func54, Try.ntmps54
  go_wp2_with fail
  go_ret
  exact ⟨rfl, own_left⟩
theorem any_of {w0 w : World} {A B : HP} (h : Sat w0 w (A * (B * any))) : Sat w0 w (A * any) := by haveI := h; exact own_any

set_option maxRecDepth 100000 in
set_option maxHeartbeats 16000000 in
theorem auditSteps_walk (v0 : Value) (l : List Ev) (w0 : World) (h0 : RdR w0 v0 l) (e0 : ∀ e ∈ l, EvOk e) :
    Calls Try.prog 15 #[v0] w0 (RetV w0 (.bool true) emp) := by
  have hs := Sat.start w0
  have H0 := hid h0
  obtain ⟨a0, c0, b0, o0, rfl, k1, k2, _, _⟩ := h0
  unfold maxLen at k2
  have E0 := hid e0
  clear e0
  by_cases g0 : 1000 < l.length
  · have d0 : decide ((1000 : Int) < (l.length : Int)) = true := by simp; omega
    go_enter Try.func15, Try.ntmps15
    go_wp2_with fail
    refine (auAwake w0 _ _ own_it).mono ?_
    rintro e w1 ⟨rfl, hs1⟩
    go_wp2_with fail
    refine (auAwake w0 _ _ hs1).mono ?_
    rintro e w2 ⟨rfl, hs2⟩
    go_wp2_with fail
    go_ret
    exact ⟨rfl, own_left⟩
  · have d0 : decide ((1000 : Int) < (l.length : Int)) = false := by simp; omega
    go_enter Try.func15, Try.ntmps15
    go_wp2_with fail
    refine (auAwake w0 _ _ own_it).mono ?_
    rintro e w1 ⟨rfl, hs1⟩
    have hs2 := auP_new hs1 88
    rw [← zeroA_eq] at hs2
    go_wp2_with fail
    generalize w1.heap.size = pb at *
    refine (rfNew w0 _ (auP pb au0 * emp) hs2).mono ?_
    rintro e w2 ⟨rb, rfl, hs3⟩
    clear hs1 hs2
    go_wp2_with fail
    go_loopw [18] (fun i wr => ∃ k : Nat, k ≤ l.length ∧ i = .int .i64 k ∧ ((∃ A, AOk A ∧ A.seen = k ∧ Sat w0 wr (auP pb A * (rfP rb A * any))) ∨ (∃ s : Int, Sat w0 wr (pts pb 0 [.int .i64 s, .bool true] * (pts rb 63 [.int .i64 s, .bool true] * any))))) (fun i _ => l.length - (intOf i).toNat)
    case atStart => exact ⟨0, by omega, rfl, .inl ⟨au0, aok0, rfl, own_left⟩⟩
    case round =>
      obtain ⟨k, hk, rfl, hcase⟩ := hrel
      have Hcase := hid hcase
      clear hcase hs3
      by_cases hlt : k < l.length
      · have hin : l[k] ∈ l := List.getElem_mem hlt
        have hek := E0.out _ hin
        have hsome : ∃ P, Sat w0 wr P := by
          rcases Hcase.out with ⟨A, _, _, h⟩ | ⟨s, h⟩ <;> exact ⟨_, h⟩
        obtain ⟨P0, hP0⟩ := hsome
        obtain ⟨g, off, rfl, q0, q1, q2, q3, q4, q5⟩ := ev_at (H0.out.later hP0) hlt
        clear hin hP0
        generalize l[k] = e at *
        obtain ⟨ek, ecy, eco, ea, eb, ev⟩ := e
        dsimp only at q0 q1 q2 q3 q4 q5
        have Hek := hid hek
        clear hek
        have hI : (k : Int) < (l.length : Int) := by omega
        rcases Hcase.out with ⟨A, hA, hse, hs4⟩ | ⟨s, hs4⟩
        · have hsn : 0 ≤ A.seen ∧ A.seen < 1000000000 := by omega
          have Hsn := hid hsn
          have Hse := hid hse
          clear hse hsn Hcase
          have hsn := Hsn.out
          generalize hr : keepsR A ⟨ek, ecy, eco, ea, eb, ev⟩ = r
          have Hr := hid hr
          clear hr
          cases r
          · go_wp2_with fail
            refine wp_gen (w0 := w0) ?_
            intro wx hsx
            generalize wr.heap.size = bx at *
            clear hs4
            refine wp_region_stage (fun w' => Sat w0 w' (pts bx 0 [.int .i64 ek, .int .u64 ecy, .int .u64 eco, .int .u32 ea, .int .u32 eb, .int .u32 ev] * any)) [(0, true), (2, true), (3, true), (1, false), (4, false), (5, true), (6, true), (8, true), (9, true), (10, true), (11, true), (7, false), (12, true), (13, true), (14, true), (16, true), (17, true), (18, true), (19, true), (15, false), (20, true), (21, true)] (by kernel_rfl) (by kernel_rfl) (fun _ _ _ _ h => h) own_any ?_
            iterate 3 (refine stage_read (fun K hK => ?_); simp only [List.getElem?_cons_succ, List.getElem?_cons_zero]; (first | (rw [if_pos (by rfl)]; apply Exists.intro; refine ⟨fun w hSw => ?_, hK _ ?_⟩; (focus ((try dsimp only at hSw); go_simp; try with_reducible rfl))) | (rw [if_neg (ne_true_of_eq_false (by rfl))]; refine hK _ ?_)); clear hK K; simp only [Act.put, List.setIfInBounds_toArray, List.set_cons_zero, List.set_cons_succ])
            refine stage_run (fun K hK => ?_); simp only [List.getElem?_cons_succ, List.getElem?_cons_zero]; rw [if_pos (by rfl)]
            go_wp2_with fail
            refine (auNext pb A ⟨ek, ecy, eco, ea, eb, ev⟩ w0 _ (pts bx 0 [.int .i64 ek, .int .u64 ecy, .int .u64 eco, .int .u32 ea, .int .u32 eb, .int .u32 ev] * (rfP rb A * any)) own_left hA Hek.out hsn).mono ?_
            rintro en w5 ⟨rfl, hy, hn⟩
            rw [Hr.out] at hy hn ⊢
            have hs5 := hn rfl
            clear hy hn
            clear hsx
            go_wp2_with fail
            refine ⟨_, fun _ h => h, own_any, ?_⟩
            refine stage_run (fun K hK => ?_); simp only [List.getElem?_cons_succ, List.getElem?_cons_zero]; rw [if_pos (by rfl)]
            go_wp2_with fail
            refine (rfNext rb A ⟨ek, ecy, eco, ea, eb, ev⟩ w0 _ (pts bx 0 [.int .i64 ek, .int .u64 ecy, .int .u64 eco, .int .u32 ea, .int .u32 eb, .int .u32 ev] * (pts pb 0 [.int .i64 A.seen, .bool true] * any)) own_left hA Hek.out hsn).mono ?_
            rintro en w6 ⟨rfl, hy, hn⟩
            rw [Hr.out] at hy hn ⊢
            have hs6 := hn rfl
            clear hy hn
            clear hs5
            go_wp2_with fail
            refine ⟨fun w' => Sat w0 w' (pts bx 0 [.int .i64 ek, .int .u64 ecy, .int .u64 eco, .int .u32 ea, .int .u32 eb, .int .u32 ev] * (pts rb 63 [.int .i64 A.seen, .bool true] * any)), fun _ h => any_of h, own_any2, ?_⟩
            iterate 6 (refine stage_read (fun K hK => ?_); simp only [List.getElem?_cons_succ, List.getElem?_cons_zero]; (first | (rw [if_pos (by rfl)]; apply Exists.intro; refine ⟨fun w hSw => ?_, hK _ ?_⟩; (focus ((try dsimp only at hSw); go_simp; try with_reducible rfl))) | (rw [if_neg (ne_true_of_eq_false (by rfl))]; refine hK _ ?_)); clear hK K; simp only [Act.put, List.setIfInBounds_toArray, List.set_cons_zero, List.set_cons_succ])
            refine stage_run (fun K hK => ?_); simp only [List.getElem?_cons_succ, List.getElem?_cons_zero]; rw [if_pos (by rfl)]
            go_wp2_with fail
            refine (auSeen pb _ _ w0 _ any (own_left : Sat w0 _ (pts pb 0 [.int .i64 A.seen, .bool true] * any))).mono ?_
            rintro en w7 ⟨rfl, rfl⟩
            go_wp2_with fail
            refine ⟨_, fun _ h => h, own_any2, ?_⟩
            iterate 7 (refine stage_read (fun K hK => ?_); simp only [List.getElem?_cons_succ, List.getElem?_cons_zero]; (first | (rw [if_pos (by rfl)]; apply Exists.intro; refine ⟨fun w hSw => ?_, hK _ ?_⟩; (focus ((try dsimp only at hSw); go_simp; try with_reducible rfl))) | (rw [if_neg (ne_true_of_eq_false (by rfl))]; refine hK _ ?_)); clear hK K; simp only [Act.put, List.setIfInBounds_toArray, List.set_cons_zero, List.set_cons_succ])
            refine stage_run (fun K hK => ?_); simp only [List.getElem?_cons_succ, List.getElem?_cons_zero]; rw [if_pos (by rfl)]
            go_wp2_with fail
            refine (auBroken pb _ true w0 _ any (own_left : Sat w0 _ (pts pb 0 [.int .i64 A.seen, .bool true] * any))).mono ?_
            rintro en w8 ⟨rfl, rfl⟩
            go_wp2_with fail
            refine ⟨_, fun _ h => h, own_any2, ?_⟩
            iterate 2 (refine stage_read (fun K hK => ?_); simp only [List.getElem?_cons_succ, List.getElem?_cons_zero]; (first | (rw [if_pos (by rfl)]; apply Exists.intro; refine ⟨fun w hSw => ?_, hK _ ?_⟩; (focus ((try dsimp only at hSw); go_simp; try with_reducible rfl))) | (rw [if_neg (ne_true_of_eq_false (by rfl))]; refine hK _ ?_)); clear hK K; simp only [Act.put, List.setIfInBounds_toArray, List.set_cons_zero, List.set_cons_succ])
            refine stage_done ?_
            go_wp2_with fail
            go_roundw
            case rel => exact ⟨k + 1, by omega, by go_num, .inr ⟨A.seen, own_left⟩⟩
            case measure => simp [intOf]; omega
          · go_wp2_with fail
            refine wp_gen (w0 := w0) ?_
            intro wx hsx
            generalize wr.heap.size = bx at *
            clear hs4
            refine wp_region_stage (fun w' => Sat w0 w' (pts bx 0 [.int .i64 ek, .int .u64 ecy, .int .u64 eco, .int .u32 ea, .int .u32 eb, .int .u32 ev] * any)) [(0, true), (2, true), (3, true), (1, false), (4, false), (5, true), (6, true), (8, true), (9, true), (10, true), (11, true), (7, false), (12, true), (13, true), (14, true), (16, true), (17, true), (18, true), (19, true), (15, false), (20, true), (21, true)] (by kernel_rfl) (by kernel_rfl) (fun _ _ _ _ h => h) own_any ?_
            iterate 3 (refine stage_read (fun K hK => ?_); simp only [List.getElem?_cons_succ, List.getElem?_cons_zero]; (first | (rw [if_pos (by rfl)]; apply Exists.intro; refine ⟨fun w hSw => ?_, hK _ ?_⟩; (focus ((try dsimp only at hSw); go_simp; try with_reducible rfl))) | (rw [if_neg (ne_true_of_eq_false (by rfl))]; refine hK _ ?_)); clear hK K; simp only [Act.put, List.setIfInBounds_toArray, List.set_cons_zero, List.set_cons_succ])
            refine stage_run (fun K hK => ?_); simp only [List.getElem?_cons_succ, List.getElem?_cons_zero]; rw [if_pos (by rfl)]
            go_wp2_with fail
            refine (auNext pb A ⟨ek, ecy, eco, ea, eb, ev⟩ w0 _ (pts bx 0 [.int .i64 ek, .int .u64 ecy, .int .u64 eco, .int .u32 ea, .int .u32 eb, .int .u32 ev] * (rfP rb A * any)) own_left hA Hek.out hsn).mono ?_
            rintro en w5 ⟨rfl, hy, hn⟩
            rw [Hr.out] at hy hn ⊢
            have hs5 := hy rfl
            clear hy hn
            clear hsx
            go_wp2_with fail
            refine ⟨_, fun _ h => h, own_any, ?_⟩
            refine stage_run (fun K hK => ?_); simp only [List.getElem?_cons_succ, List.getElem?_cons_zero]; rw [if_pos (by rfl)]
            go_wp2_with fail
            refine (rfNext rb A ⟨ek, ecy, eco, ea, eb, ev⟩ w0 _ (pts bx 0 [.int .i64 ek, .int .u64 ecy, .int .u64 eco, .int .u32 ea, .int .u32 eb, .int .u32 ev] * (auP pb (stepA A ⟨ek, ecy, eco, ea, eb, ev⟩) * any)) own_left hA Hek.out hsn).mono ?_
            rintro en w6 ⟨rfl, hy, hn⟩
            rw [Hr.out] at hy hn ⊢
            have hs6 := hy rfl
            clear hy hn
            have hB := hid (aok_step hA Hek.out Hr.out)
            have HsB := hid (step_seen A ⟨ek, ecy, eco, ea, eb, ev⟩)
            generalize stepA A ⟨ek, ecy, eco, ea, eb, ev⟩ = B at *
            obtain ⟨g2, off2, cap2, c3, c4, hs6⟩ := rfP_out hB.out hs6
            have hs6 := auP_out (hs6.pull (Q := auP pb B))
            have hbn : 0 ≤ B.seen ∧ B.seen < 2000000000 := by have := HsB.out; omega
            clear hs5
            go_wp2_with fail
            refine ⟨fun w' => Sat w0 w' (pts bx 0 [.int .i64 ek, .int .u64 ecy, .int .u64 eco, .int .u32 ea, .int .u32 eb, .int .u32 ev] * (pts rb 63 [.int .i64 B.seen, .bool false] * any)), fun _ h => any_of h, own_any2, ?_⟩
            iterate 6 (refine stage_read (fun K hK => ?_); simp only [List.getElem?_cons_succ, List.getElem?_cons_zero]; (first | (rw [if_pos (by rfl)]; apply Exists.intro; refine ⟨fun w hSw => ?_, hK _ ?_⟩; (focus ((try dsimp only at hSw); go_simp; try with_reducible rfl))) | (rw [if_neg (ne_true_of_eq_false (by rfl))]; refine hK _ ?_)); clear hK K; simp only [Act.put, List.setIfInBounds_toArray, List.set_cons_zero, List.set_cons_succ])
            refine stage_run (fun K hK => ?_); simp only [List.getElem?_cons_succ, List.getElem?_cons_zero]; rw [if_pos (by rfl)]
            go_wp2_with fail
            refine (auSeen pb _ _ w0 _ any (own_left : Sat w0 _ (pts pb 0 [.int .i64 B.seen, .bool false] * any))).mono ?_
            rintro en w7 ⟨rfl, rfl⟩
            go_wp2_with fail
            refine ⟨_, fun _ h => h, own_any2, ?_⟩
            iterate 7 (refine stage_read (fun K hK => ?_); simp only [List.getElem?_cons_succ, List.getElem?_cons_zero]; (first | (rw [if_pos (by rfl)]; apply Exists.intro; refine ⟨fun w hSw => ?_, hK _ ?_⟩; (focus ((try dsimp only at hSw); go_simp; try with_reducible rfl))) | (rw [if_neg (ne_true_of_eq_false (by rfl))]; refine hK _ ?_)); clear hK K; simp only [Act.put, List.setIfInBounds_toArray, List.set_cons_zero, List.set_cons_succ])
            refine stage_run (fun K hK => ?_); simp only [List.getElem?_cons_succ, List.getElem?_cons_zero]; rw [if_pos (by rfl)]
            go_wp2_with fail
            refine (auBroken pb _ false w0 _ any (own_left : Sat w0 _ (pts pb 0 [.int .i64 B.seen, .bool false] * any))).mono ?_
            rintro en w8 ⟨rfl, rfl⟩
            go_wp2_with fail
            refine ⟨_, fun _ h => h, own_any2, ?_⟩
            iterate 2 (refine stage_read (fun K hK => ?_); simp only [List.getElem?_cons_succ, List.getElem?_cons_zero]; (first | (rw [if_pos (by rfl)]; apply Exists.intro; refine ⟨fun w hSw => ?_, hK _ ?_⟩; (focus ((try dsimp only at hSw); go_simp; try with_reducible rfl))) | (rw [if_neg (ne_true_of_eq_false (by rfl))]; refine hK _ ?_)); clear hK K; simp only [Act.put, List.setIfInBounds_toArray, List.set_cons_zero, List.set_cons_succ])
            refine stage_done ?_
            go_wp2_with fail
            go_roundw
            case rel => 
              exact ⟨k + 1, by omega, by go_num, .inl ⟨B, hB.out, by rw [HsB.out, Hse.out]; omega, auP_of (F := rfP rb B * any) ((rfP_of (F := pts pb 0 [.int .i64 B.seen, .bool false] * (pts pb 2 (evCells B.last) * (pts pb 8 (duCells B.due) * (arrP pb 11 B.ts * (pts pb 331 (B.ow.map (Value.int .i64)) * (pts pb 363 (B.pn.map Value.bool) * (pts pb 379 [.int .i64 B.isr, .int .i64 B.run] * any))))))) (v := .slice (some ⟨g2, off2, none⟩) 64 cap2) own_left).perm (by ac_rfl))⟩⟩
            case measure => simp [intOf]; omega
        · clear Hcase
          go_wp2_with fail
          refine wp_gen (w0 := w0) ?_
          intro wx hsx
          generalize wr.heap.size = bx at *
          clear hs4
          refine wp_region_stage (fun w' => Sat w0 w' (pts bx 0 [.int .i64 ek, .int .u64 ecy, .int .u64 eco, .int .u32 ea, .int .u32 eb, .int .u32 ev] * any)) [(0, true), (2, true), (3, true), (1, false), (4, false), (5, true), (6, true), (8, true), (9, true), (10, true), (11, true), (7, false), (12, true), (13, true), (14, true), (16, true), (17, true), (18, true), (19, true), (15, false), (20, true), (21, true)] (by kernel_rfl) (by kernel_rfl) (fun _ _ _ _ h => h) own_any ?_
          iterate 3 (refine stage_read (fun K hK => ?_); simp only [List.getElem?_cons_succ, List.getElem?_cons_zero]; (first | (rw [if_pos (by rfl)]; apply Exists.intro; refine ⟨fun w hSw => ?_, hK _ ?_⟩; (focus ((try dsimp only at hSw); go_simp; try with_reducible rfl))) | (rw [if_neg (ne_true_of_eq_false (by rfl))]; refine hK _ ?_)); clear hK K; simp only [Act.put, List.setIfInBounds_toArray, List.set_cons_zero, List.set_cons_succ])
          refine stage_run (fun K hK => ?_); simp only [List.getElem?_cons_succ, List.getElem?_cons_zero]; rw [if_pos (by rfl)]
          go_wp2_with fail
          refine (auNext_broken pb s ⟨ek, ecy, eco, ea, eb, ev⟩ w0 _ (pts bx 0 [.int .i64 ek, .int .u64 ecy, .int .u64 eco, .int .u32 ea, .int .u32 eb, .int .u32 ev] * (pts rb 63 [.int .i64 s, .bool true] * any)) own_left).mono ?_
          rintro en w5 ⟨rfl, hs5⟩
          clear hsx
          go_wp2_with fail
          refine ⟨_, fun _ h => h, own_any, ?_⟩
          refine stage_run (fun K hK => ?_); simp only [List.getElem?_cons_succ, List.getElem?_cons_zero]; rw [if_pos (by rfl)]
          go_wp2_with fail
          refine (rfNext_broken rb s ⟨ek, ecy, eco, ea, eb, ev⟩ w0 _ (pts bx 0 [.int .i64 ek, .int .u64 ecy, .int .u64 eco, .int .u32 ea, .int .u32 eb, .int .u32 ev] * (pts pb 0 [.int .i64 s, .bool true] * any)) own_left).mono ?_
          rintro en w6 ⟨rfl, hs6⟩
          clear hs5
          go_wp2_with fail
          refine ⟨fun w' => Sat w0 w' (pts bx 0 [.int .i64 ek, .int .u64 ecy, .int .u64 eco, .int .u32 ea, .int .u32 eb, .int .u32 ev] * (pts rb 63 [.int .i64 s, .bool true] * any)), fun _ h => any_of h, own_any2, ?_⟩
          iterate 6 (refine stage_read (fun K hK => ?_); simp only [List.getElem?_cons_succ, List.getElem?_cons_zero]; (first | (rw [if_pos (by rfl)]; apply Exists.intro; refine ⟨fun w hSw => ?_, hK _ ?_⟩; (focus ((try dsimp only at hSw); go_simp; try with_reducible rfl))) | (rw [if_neg (ne_true_of_eq_false (by rfl))]; refine hK _ ?_)); clear hK K; simp only [Act.put, List.setIfInBounds_toArray, List.set_cons_zero, List.set_cons_succ])
          refine stage_run (fun K hK => ?_); simp only [List.getElem?_cons_succ, List.getElem?_cons_zero]; rw [if_pos (by rfl)]
          go_wp2_with fail
          refine (auSeen pb _ _ w0 _ any (own_left : Sat w0 _ (pts pb 0 [.int .i64 s, .bool true] * any))).mono ?_
          rintro en w7 ⟨rfl, rfl⟩
          go_wp2_with fail
          refine ⟨_, fun _ h => h, own_any2, ?_⟩
          iterate 7 (refine stage_read (fun K hK => ?_); simp only [List.getElem?_cons_succ, List.getElem?_cons_zero]; (first | (rw [if_pos (by rfl)]; apply Exists.intro; refine ⟨fun w hSw => ?_, hK _ ?_⟩; (focus ((try dsimp only at hSw); go_simp; try with_reducible rfl))) | (rw [if_neg (ne_true_of_eq_false (by rfl))]; refine hK _ ?_)); clear hK K; simp only [Act.put, List.setIfInBounds_toArray, List.set_cons_zero, List.set_cons_succ])
          refine stage_run (fun K hK => ?_); simp only [List.getElem?_cons_succ, List.getElem?_cons_zero]; rw [if_pos (by rfl)]
          go_wp2_with fail
          refine (auBroken pb _ true w0 _ any (own_left : Sat w0 _ (pts pb 0 [.int .i64 s, .bool true] * any))).mono ?_
          rintro en w8 ⟨rfl, rfl⟩
          go_wp2_with fail
          refine ⟨_, fun _ h => h, own_any2, ?_⟩
          iterate 2 (refine stage_read (fun K hK => ?_); simp only [List.getElem?_cons_succ, List.getElem?_cons_zero]; (first | (rw [if_pos (by rfl)]; apply Exists.intro; refine ⟨fun w hSw => ?_, hK _ ?_⟩; (focus ((try dsimp only at hSw); go_simp; try with_reducible rfl))) | (rw [if_neg (ne_true_of_eq_false (by rfl))]; refine hK _ ?_)); clear hK K; simp only [Act.put, List.setIfInBounds_toArray, List.set_cons_zero, List.set_cons_succ])
          refine stage_done ?_
          go_wp2_with fail
          go_roundw
          case rel => exact ⟨k + 1, by omega, by go_num, .inr ⟨s, own_left⟩⟩
          case measure => simp [intOf]; omega
      · have hke : k = l.length := by omega
        subst hke
        rcases Hcase.out with ⟨A, hA, hse, hs4⟩ | ⟨s, hs4⟩
        · clear hse Hcase
          go_wp2_with fail
          go_ret
          exact ⟨rfl, own_left⟩
        · clear Hcase
          go_wp2_with fail
          go_ret
          exact ⟨rfl, own_left⟩
end Go.Proofs.Ytfphgcplpokigaa
