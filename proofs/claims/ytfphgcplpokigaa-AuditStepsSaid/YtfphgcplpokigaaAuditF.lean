/-
  Audit: the contracts of jobs.
-/
import Derived.Test.YtfphgcplpokigaaAuditE
import Derived.Test.YtfphgcplpokigaaRegionB
namespace Go.Proofs.Ytfphgcplpokigaa
open Go.RowKit Go.Sx Go.Au
set_option linter.unusedSimpArgs false
set_option linter.unusedVariables false

theorem getD_mem {α : Type} {l : List α} {k : Nat} (h : k < l.length) (d : α) : l.getD k d ∈ l := by
  simp only [List.getD, List.getElem?_eq_getElem h, Option.getD_some]
  exact List.getElem_mem h
theorem tkg_mem {l : List Tk} {k : Nat} (h : k < l.length) : tkg l k ∈ l := getD_mem h tk0
theorem nbq (x y : Nat) : ((x : Int) == ((y : Int) + 1) % 4294967296) = decide (x = (y + 1) % 4294967296) := by rw [Bool.eq_iff_iff, beq_iff_eq, decide_eq_true_eq]; omega
theorem rule6 (A : Au) (a b v : Nat) (had : Bool) : rule A 6 a b v had = (decide ((tkAt A a).st = 0) && decide (v = ((tkAt A a).job + 1) % 4294967296)) := rfl
theorem learn6 (A : Au) (a b v : Nat) : learn A 6 a b v = setT A a { tkAt A a with st := 1, job := v, late := max ((tkAt A a).late - 1) 0 } := rfl

set_option maxRecDepth 100000 in
set_option maxHeartbeats 8000000 in
theorem auJobs6 (pb : Nat) (A : Au) (a b v : Nat) (had : Bool) (cy co : Int) (w0 w : World) (F : HP) (hs : Sat w0 w (auP pb A * F)) (hA : AOk A) (ha : a < 64) (hv : v < 4294967296) :
    Calls Try.prog 94 #[.pointer (some ⟨pb, 0, none⟩), evA 6 a b v cy co] w (Aft w0 pb A 6 a b v had F) := by
  have hs := auP_out hs
  have hlt := hA.lt
  have hm := tkg_mem (l := A.ts) (k := a) (by omega)
  have hj := hA.job _ hm
  have hl := hA.late _ hm
  have Hr := hid (rule6 A a b v had)
  have Hl := hid (learn6 A a b v)
  have Hlt := hid hlt
  have i1 : (a : Int) < 64 := by omega
  have i2 : decide (a < 64) = true := by simp; omega
  haveI : Lt a A.ts.length := ⟨by omega⟩
  clear hlt hm
  by_cases h1 : (tkAt A a).st = 0
  all_goals
    have h2 : (tkg A.ts a).st = (tkAt A a).st := rfl
    first | have e2 : ((tkg A.ts a).st == 0) = true := by rw [h2]; simp [h1]
          | have e2 : ((tkg A.ts a).st == 0) = false := by rw [h2]; simp [h1]
    first | rw [decide_eq_true h1, Bool.true_and] at Hr | rw [decide_eq_false h1, Bool.false_and] at Hr
    clear h1 h2
    have q4 : IntKind.i64.wrap ((tkg A.ts a).late - 1) = (tkg A.ts a).late - 1 := by rw [IntKind.wrap_i64]; omega
    by_cases hm : (tkg A.ts a).late ≤ 0
    all_goals
      first
        | (have m1 : (tkg A.ts a).late - 1 < 0 := by omega
           have Hm : Hid (max ((tkg A.ts a).late - 1) 0 = 0) := by unfold Hid; omega)
        | (have m1 : ¬ (tkg A.ts a).late - 1 < 0 := by omega
           have m2 : 0 ≤ (tkg A.ts a).late - 1 := by omega
           have Hm : Hid (max ((tkg A.ts a).late - 1) 0 = (tkg A.ts a).late - 1) := by unfold Hid; omega)
      clear hm
      go_enter Try.func94, Try.ntmps94
      go_wp2_with fail
      go_quiet (fail); go_wp2_with fail
      go_quiet (fail); go_wp2_with fail
      refine wp_gen (w0 := w0) ?_
      intro wx hsx
      refine wp_region_till (fun w' => w'.cell? ⟨w.heap.size, 5, none⟩ = some (.int .u32 v) ∧ w'.cell? ⟨pb, 11 + a * 5 + 1, none⟩ = some (.int .i64 (tkg A.ts a).late)) 19 [(0, 0), (1, 0), (2, 0), (3, 0), (4, 1), (5, 0), (6, 0), (7, 0), (8, 1), (9, 0), (10, 0), (11, 0), (12, 0), (13, 2), (14, 0), (15, 0), (16, 2), (17, 0), (18, 0), (19, 2)] (by kernel_rfl) (by kernel_rfl) (fun _ _ _ _ h => h) ⟨own_cell, own_cell⟩ ?_
      iterate 13 (first | (refine plan_pure (fun K hK => ?_); simp only [List.getElem?_cons_succ, List.getElem?_cons_zero]; (first | (rw [if_pos (by rfl)]; apply Exists.intro; refine ⟨fun w hSw => ?_, hK _ ?_⟩; (focus (clear hSw; go_simp; try with_reducible rfl))) | (rw [if_neg (ne_true_of_eq_false (by rfl))]; refine hK _ ?_)); clear hK K; simp only [Act.put, List.setIfInBounds_toArray, List.set_cons_zero, List.set_cons_succ]) | (refine plan_read (fun K hK => ?_); simp only [List.getElem?_cons_succ, List.getElem?_cons_zero]; (first | (rw [if_pos (by rfl)]; apply Exists.intro; refine ⟨fun w hSw => ?_, hK _ ?_⟩; (focus ((try dsimp only at hSw); go_simp; try with_reducible rfl))) | (rw [if_neg (ne_true_of_eq_false (by rfl))]; refine hK _ ?_)); clear hK K; simp only [Act.put, List.setIfInBounds_toArray, List.set_cons_zero, List.set_cons_succ]))
      refine plan_run (fun K hK => ?_); simp only [List.getElem?_cons_succ, List.getElem?_cons_zero]; rw [if_pos (by rfl)]
      go_wp2_with fail
      (first | refine ⟨fun _ => ⟨own_cell, own_cell⟩, ?_⟩ | refine ⟨fun h => absurd rfl h, ?_⟩ | skip)
      iterate 2 (first | (refine plan_pure (fun K hK => ?_); simp only [List.getElem?_cons_succ, List.getElem?_cons_zero]; (first | (rw [if_pos (by rfl)]; apply Exists.intro; refine ⟨fun w hSw => ?_, hK _ ?_⟩; (focus (clear hSw; go_simp; try with_reducible rfl))) | (rw [if_neg (ne_true_of_eq_false (by rfl))]; refine hK _ ?_)); clear hK K; simp only [Act.put, List.setIfInBounds_toArray, List.set_cons_zero, List.set_cons_succ]) | (refine plan_read (fun K hK => ?_); simp only [List.getElem?_cons_succ, List.getElem?_cons_zero]; (first | (rw [if_pos (by rfl)]; apply Exists.intro; refine ⟨fun w hSw => ?_, hK _ ?_⟩; (focus ((try dsimp only at hSw); go_simp; try with_reducible rfl))) | (rw [if_neg (ne_true_of_eq_false (by rfl))]; refine hK _ ?_)); clear hK K; simp only [Act.put, List.setIfInBounds_toArray, List.set_cons_zero, List.set_cons_succ]))
      refine plan_run (fun K hK => ?_); simp only [List.getElem?_cons_succ, List.getElem?_cons_zero]; rw [if_pos (by rfl)]
      go_wp2_with fail
      (first | refine ⟨fun _ => ⟨own_cell, own_cell⟩, ?_⟩ | refine ⟨fun h => absurd rfl h, ?_⟩ | skip)
      iterate 2 (first | (refine plan_pure (fun K hK => ?_); simp only [List.getElem?_cons_succ, List.getElem?_cons_zero]; (first | (rw [if_pos (by rfl)]; apply Exists.intro; refine ⟨fun w hSw => ?_, hK _ ?_⟩; (focus (clear hSw; go_simp; try with_reducible rfl))) | (rw [if_neg (ne_true_of_eq_false (by rfl))]; refine hK _ ?_)); clear hK K; simp only [Act.put, List.setIfInBounds_toArray, List.set_cons_zero, List.set_cons_succ]) | (refine plan_read (fun K hK => ?_); simp only [List.getElem?_cons_succ, List.getElem?_cons_zero]; (first | (rw [if_pos (by rfl)]; apply Exists.intro; refine ⟨fun w hSw => ?_, hK _ ?_⟩; (focus ((try dsimp only at hSw); go_simp; try with_reducible rfl))) | (rw [if_neg (ne_true_of_eq_false (by rfl))]; refine hK _ ?_)); clear hK K; simp only [Act.put, List.setIfInBounds_toArray, List.set_cons_zero, List.set_cons_succ]))
      refine plan_run (fun K hK => ?_); simp only [List.getElem?_cons_succ, List.getElem?_cons_zero]; rw [if_pos (by rfl)]
      go_wp2_with fail
      (first | refine ⟨fun _ => ⟨own_cell, own_cell⟩, ?_⟩ | refine ⟨fun h => absurd rfl h, ?_⟩ | skip)
      refine plan_done ?_
      go_wp2_with fail
      go_ret
      refine aft_both ?_ (auP_of ?_)
      · first | (rw [Hr.out]; done) | (rw [Hr.out]; exact nbq _ _)
      · rw [Hl.out]
        dsimp only [setT, tkAt]
        rw [Hm.out]
        exact own_left

theorem rule7 (A : Au) (a b v : Nat) (had : Bool) : rule A 7 a b v had = (decide ((tkAt A a).st ≠ 0 ∧ (tkAt A a).st ≠ 3) && decide ((v : Int) = min ((tkAt A a).late + 1) 255)) := rfl
theorem learn7 (A : Au) (a b v : Nat) : learn A 7 a b v = setT A a { tkAt A a with late := v } := rfl
theorem beqD (x y : Int) : (x == y) = decide (x = y) := by rw [Bool.eq_iff_iff]; simp
set_option maxRecDepth 100000 in
set_option maxHeartbeats 8000000 in
theorem auJobs7 (pb : Nat) (A : Au) (a b v : Nat) (had : Bool) (cy co : Int) (w0 w : World) (F : HP) (hs : Sat w0 w (auP pb A * F)) (hA : AOk A) (ha : a < 64) (hv : v < 4294967296) :
    Calls Try.prog 94 #[.pointer (some ⟨pb, 0, none⟩), evA 7 a b v cy co] w (Aft w0 pb A 7 a b v had F) := by
  have hs := auP_out hs
  have hlt := hA.lt
  have hm := tkg_mem (l := A.ts) (k := a) (by omega)
  have hl := hA.late _ hm
  have Hr := hid (rule7 A a b v had)
  have Hl := hid (learn7 A a b v)
  have Hlt := hid hlt
  have i1 : (a : Int) < 64 := by omega
  have i2 : decide (a < 64) = true := by simp; omega
  haveI : Lt a A.ts.length := ⟨by omega⟩
  clear hlt hm
  have h2 : (tkg A.ts a).st = (tkAt A a).st := rfl
  by_cases h1 : (tkAt A a).st = 0
  · have e2 : ((tkg A.ts a).st != 0) = false := by rw [h2]; simp [h1]
    rw [decide_eq_false (fun h => h.1 h1), Bool.false_and] at Hr
    clear h1 h2
    go_enter Try.func94, Try.ntmps94
    go_wp2_with fail
    go_quiet (fail); go_wp2_with fail
    go_quiet (fail); go_wp2_with fail
    go_ret
    refine aft_both ?_ (auP_of ?_)
    · rw [Hr.out]; done
    · rw [Hl.out]
      dsimp only [setT, tkAt]
      exact own_left
  · have e2 : ((tkg A.ts a).st != 0) = true := by rw [h2]; simp [h1]
    by_cases h3 : (tkAt A a).st = 3
    · have e3 : ((tkg A.ts a).st != 3) = false := by rw [h2]; simp [h3]
      rw [decide_eq_false (fun h => h.2 h3), Bool.false_and] at Hr
      clear h1 h2 h3
      go_enter Try.func94, Try.ntmps94
      go_wp2_with fail
      go_quiet (fail); go_wp2_with fail
      go_quiet (fail); go_wp2_with fail
      go_ret
      refine aft_both ?_ (auP_of ?_)
      · rw [Hr.out]; done
      · rw [Hl.out]
        dsimp only [setT, tkAt]
        exact own_left
    · have e3 : ((tkg A.ts a).st != 3) = true := by rw [h2]; simp [h3]
      rw [decide_eq_true ⟨h1, h3⟩, Bool.true_and] at Hr
      clear h1 h2 h3
      by_cases hm : (tkg A.ts a).late + 1 ≤ 255
      all_goals
        first
          | (have m1 : ¬ (255 < (tkg A.ts a).late + 1) := by omega
             have Hm : Hid (min ((tkAt A a).late + 1) 255 = (tkg A.ts a).late + 1) := by unfold Hid tkAt; omega)
          | (have m1 : 255 < (tkg A.ts a).late + 1 := by omega
             have Hm : Hid (min ((tkAt A a).late + 1) 255 = 255) := by unfold Hid tkAt; omega)
        clear hm
        go_enter Try.func94, Try.ntmps94
        go_wp2_with fail
        go_quiet (fail); go_wp2_with fail
        go_quiet (fail); go_wp2_with fail
        go_ret
        refine aft_both ?_ (auP_of ?_)
        · rw [Hr.out, Hm.out]; exact beqD _ _
        · rw [Hl.out]
          dsimp only [setT, tkAt]
          exact own_left
end Go.Proofs.Ytfphgcplpokigaa
