/-
  Audit: the contracts of jobs (an end), rests, owns.
-/
import Derived.Test.YtfphgcplpokigaaAuditF
namespace Go.Proofs.Ytfphgcplpokigaa
open Go.RowKit Go.Sx Go.Au
set_option linter.unusedSimpArgs false
set_option linter.unusedVariables false

theorem auActsX (b : Nat) (A : Au) (a : Nat) (x : Bool) (hx : acts A a = x) (w0 w : World) (F : HP) (hs : Sat w0 w (auP b A * F)) (hA : AOk A) (ha : a < 4294967296) :
    Calls Try.prog 92 #[.pointer (some ⟨b, 0, none⟩), .int .u32 a] w fun e w' => e = .returned (.bool x) ∧ w = w' := by
  subst hx; exact auActs b A a w0 w F hs hA ha
theorem rule8 (A : Au) (a b v : Nat) (had : Bool) : rule A 8 a b v had = (acts A a && decide (v = (tkAt A a).job)) := rfl
theorem learn8 (A : Au) (a b v : Nat) : learn A 8 a b v = { setT A a { tkAt A a with st := 0 } with due := if (tkAt A a).late > 0 then ⟨6, a, 0⟩ else A.due } := rfl
theorem natBeq (x y : Nat) : ((x : Int) == (y : Int)) = decide (x = y) := by rw [Bool.eq_iff_iff]; simp; omega

set_option maxRecDepth 100000 in
set_option maxHeartbeats 8000000 in
theorem auJobs8 (pb : Nat) (A : Au) (a b v : Nat) (had : Bool) (cy co : Int) (w0 w : World) (F : HP) (hs : Sat w0 w (auP pb A * F)) (hA : AOk A) (ha : a < 64) (hv : v < 4294967296) :
    Calls Try.prog 94 #[.pointer (some ⟨pb, 0, none⟩), evA 8 a b v cy co] w (Aft w0 pb A 8 a b v had F) := by
  have hs := auP_out hs
  have hlt := hA.lt
  have hm := tkg_mem (l := A.ts) (k := a) (by omega)
  have hl := hA.late _ hm
  have Hr := hid (rule8 A a b v had)
  have Hl := hid (learn8 A a b v)
  have Hlt := hid hlt
  have i1 : (a : Int) < 64 := by omega
  have i2 : decide (a < 64) = true := by simp; omega
  haveI : Lt a A.ts.length := ⟨by omega⟩
  clear hlt hm
  generalize hx : acts A a = x at Hr
  have Hx := hid hx
  clear hx
  by_cases hp : 0 < (tkg A.ts a).late
  all_goals
    first
      | (have p1 : decide (0 < (tkg A.ts a).late) = true := by simp [hp]
         have Hd : Hid ((if (tkAt A a).late > 0 then (⟨6, a, 0⟩ : Du) else A.due) = ⟨6, a, 0⟩) := by unfold Hid; exact if_pos hp)
      | (have p1 : decide (0 < (tkg A.ts a).late) = false := by simp [hp]
         have Hd : Hid ((if (tkAt A a).late > 0 then (⟨6, a, 0⟩ : Du) else A.due) = A.due) := by unfold Hid; exact if_neg hp)
    clear hp
    cases x
    all_goals
      go_enter Try.func94, Try.ntmps94
      go_wp2_with fail
      go_quiet (fail); go_wp2_with fail; refine wp_gen (w0 := w0) ?_; intro wq hsq
      go_quiet ((go_at_call 92; exact quiet_eq (auActsX pb A a _ Hx.out w0 _ any (auP_of own_left) hA (by omega))))
      go_wp2_with fail
      go_ret
      refine aft_both ?_ (auP_of ?_)
      · rw [Hr.out]; first | rfl | exact natBeq _ _
      · rw [Hl.out, Hd.out]
        dsimp only [setT, tkAt, duCells]
        exact own_left

theorem rule9 (A : Au) (a b v : Nat) (had : Bool) : rule A 9 a b v had = (acts A a && (!isMu b || decide (owAt A (b - 32) ≠ 0) && decide (owAt A (b - 32) ≠ (a : Int) + 1))) := rfl
theorem learn9 (A : Au) (a b v : Nat) : learn A 9 a b v = setT A a { tkAt A a with st := 2, on := b } := rfl
set_option maxRecDepth 100000 in
set_option maxHeartbeats 8000000 in
theorem auRests9 (pb : Nat) (A : Au) (a b v : Nat) (had : Bool) (cy co : Int) (w0 w : World) (F : HP) (hs : Sat w0 w (auP pb A * F)) (hA : AOk A) (ha : a < 64) (hb : b < 160) :
    Calls Try.prog 95 #[.pointer (some ⟨pb, 0, none⟩), evA 9 a b v cy co] w (Aft w0 pb A 9 a b v had F) := by
  have hs := auP_out hs
  have hlt := hA.lt
  have Hr := hid (rule9 A a b v had)
  have Hl := hid (learn9 A a b v)
  have Hlt := hid hlt
  have Hlo := hid hA.lo
  have i1 : (a : Int) < 64 := by omega
  have i2 : decide (a < 64) = true := by simp; omega
  haveI : Lt a A.ts.length := ⟨by omega⟩
  clear hlt
  generalize hx : acts A a = x at Hr
  have Hx := hid hx
  clear hx
  by_cases hmu : isMu b = true
  · have hm32 : b - 32 < 32 := by simp [isMu] at hmu; omega
    have i3 : ((b - 32 : Nat) : Int) < 32 := by omega
    have i4 : decide (b - 32 < 32) = true := by simp; omega
    haveI : Lt (b - 32) A.ow.length := ⟨by rw [hA.lo]; omega⟩
    have hown := hA.own (owg A.ow (b - 32)) (getD_mem (by rw [hA.lo]; omega) 0)
    have Hmu := hid hmu
    rw [hmu] at Hr
    have Hr2 : Hid (rule A 9 a b v had = (x && (decide (owg A.ow (b - 32) ≠ 0) && decide (owg A.ow (b - 32) ≠ (a : Int) + 1)))) := Hr
    clear Hr
    clear hmu
    generalize hmm : b - 32 = m at *
    have Hmm := hid hmm
    clear hmm
    generalize hoo : owg A.ow m = o at Hr2
    haveI : Cell (pts pb 331 (A.ow.map (Value.int .i64))) pb (331 + m) (.int .i64 o) := by
      rw [← hoo]; infer_instance
    rw [hoo] at hown
    clear hoo
    have e0 : (o != 0) = decide (o ≠ 0) := by rw [Bool.eq_iff_iff]; simp
    have e1 : (o != (a : Int) + 1) = decide (o ≠ (a : Int) + 1) := by rw [Bool.eq_iff_iff]; simp
    generalize decide (o ≠ 0) = y0 at *
    generalize decide (o ≠ (a : Int) + 1) = y1 at *
    cases x <;> cases y0 <;> cases y1
    all_goals
      go_enter Try.func95, Try.ntmps95
      go_wp2_with fail
      go_quiet (fail); go_wp2_with fail
      refine (auActsX pb A a _ Hx.out w0 _ any (auP_of own_left) hA (by omega)).mono ?_
      rintro e w' ⟨rfl, rfl⟩
      go_wp2_with fail
      refine (auMutex b hb _).mono ?_
      rintro e w' ⟨⟨z, rfl, hz⟩, rfl⟩
      obtain rfl : z = m := by rw [hz Hmu.out]; exact Hmm.out
      rw [Hmu.out]
      clear hz
      go_wp2_with fail
      go_quiet (fail); go_wp2_with fail; refine wp_gen (w0 := w0) ?_; intro wq hsq
      refine wp_region_early (fun w' => w'.cell? ⟨w.heap.size, 4, none⟩ = some (.int .u32 b)) [(0, true), (1, true), (2, true), (3, true), (4, true), (5, true), (6, false), (7, true), (8, true), (9, false)] (by kernel_rfl) (by kernel_rfl) (fun _ _ _ _ h => h) own_cell ?_
      iterate 6 (refine early_read (fun K hK => ?_); simp only [List.getElem?_cons_succ, List.getElem?_cons_zero]; (first | (rw [if_pos (by rfl)]; apply Exists.intro; refine ⟨fun w hSw => ?_, hK _ ?_⟩; (focus ((try dsimp only at hSw); go_simp; try with_reducible rfl))) | (rw [if_neg (ne_true_of_eq_false (by rfl))]; refine hK _ ?_)); clear hK K; simp only [Act.put, List.setIfInBounds_toArray, List.set_cons_zero, List.set_cons_succ])
      refine early_run (fun K hK => ?_); simp only [List.getElem?_cons_succ, List.getElem?_cons_zero]; rw [if_pos (by rfl)]
      go_wp2_with fail
      (first | refine ⟨own_cell, ?_⟩ | skip)
      iterate 2 (refine early_read (fun K hK => ?_); simp only [List.getElem?_cons_succ, List.getElem?_cons_zero]; (first | (rw [if_pos (by rfl)]; apply Exists.intro; refine ⟨fun w hSw => ?_, hK _ ?_⟩; (focus ((try dsimp only at hSw); go_simp; try with_reducible rfl))) | (rw [if_neg (ne_true_of_eq_false (by rfl))]; refine hK _ ?_)); clear hK K; simp only [Act.put, List.setIfInBounds_toArray, List.set_cons_zero, List.set_cons_succ])
      refine early_run (fun K hK => ?_); simp only [List.getElem?_cons_succ, List.getElem?_cons_zero]; rw [if_pos (by rfl)]
      go_wp2_with fail
      (first | refine ⟨own_cell, ?_⟩ | skip)
      refine early_done ?_
      go_wp2_with fail
      go_ret
      refine aft_both ?_ (auP_of ?_)
      · first | (rw [Hr2.out]; done) | (rw [Hr2.out]; rfl)
      · rw [Hl.out]
        dsimp only [setT, tkAt]
        exact own_left
  · rw [Bool.not_eq_true] at hmu
    have Hmu := hid hmu
    rw [hmu] at Hr
    have Hr2 := hid (Hr.out.trans (show (x && (!false || decide (owAt A (b - 32) ≠ 0) && decide (owAt A (b - 32) ≠ (a : Int) + 1))) = x by simp))
    clear hmu
    cases x
    all_goals
      go_enter Try.func95, Try.ntmps95
      go_wp2_with fail
      go_quiet (fail); go_wp2_with fail
      refine (auActsX pb A a _ Hx.out w0 _ any (auP_of own_left) hA (by omega)).mono ?_
      rintro e w' ⟨rfl, rfl⟩
      go_wp2_with fail
      refine (auMutex b hb _).mono ?_
      rintro e w' ⟨⟨z, rfl, hz⟩, rfl⟩
      rw [Hmu.out]
      clear hz
      go_wp2_with fail
      refine wp_gen (w0 := w0) ?_
      intro wq hsq
      refine wp_region_early (fun w' => w'.cell? ⟨w.heap.size, 4, none⟩ = some (.int .u32 b)) [(0, true), (1, true), (2, true), (3, true), (4, true), (5, true), (6, false), (7, true), (8, true), (9, false)] (by kernel_rfl) (by kernel_rfl) (fun _ _ _ _ h => h) own_cell ?_
      iterate 6 (refine early_read (fun K hK => ?_); simp only [List.getElem?_cons_succ, List.getElem?_cons_zero]; (first | (rw [if_pos (by rfl)]; apply Exists.intro; refine ⟨fun w hSw => ?_, hK _ ?_⟩; (focus ((try dsimp only at hSw); go_simp; try with_reducible rfl))) | (rw [if_neg (ne_true_of_eq_false (by rfl))]; refine hK _ ?_)); clear hK K; simp only [Act.put, List.setIfInBounds_toArray, List.set_cons_zero, List.set_cons_succ])
      refine early_run (fun K hK => ?_); simp only [List.getElem?_cons_succ, List.getElem?_cons_zero]; rw [if_pos (by rfl)]
      go_wp2_with fail
      (first | refine ⟨own_cell, ?_⟩ | skip)
      iterate 2 (refine early_read (fun K hK => ?_); simp only [List.getElem?_cons_succ, List.getElem?_cons_zero]; (first | (rw [if_pos (by rfl)]; apply Exists.intro; refine ⟨fun w hSw => ?_, hK _ ?_⟩; (focus ((try dsimp only at hSw); go_simp; try with_reducible rfl))) | (rw [if_neg (ne_true_of_eq_false (by rfl))]; refine hK _ ?_)); clear hK K; simp only [Act.put, List.setIfInBounds_toArray, List.set_cons_zero, List.set_cons_succ])
      refine early_run (fun K hK => ?_); simp only [List.getElem?_cons_succ, List.getElem?_cons_zero]; rw [if_pos (by rfl)]
      go_wp2_with fail
      (first | refine ⟨own_cell, ?_⟩ | skip)
      refine early_done ?_
      go_wp2_with fail
      go_ret
      refine aft_both ?_ (auP_of ?_)
      · first | (rw [Hr2.out]; done) | (rw [Hr2.out]; rfl)
      · rw [Hl.out]
        dsimp only [setT, tkAt]
        exact own_left

theorem rule10 (A : Au) (a b v : Nat) (had : Bool) : rule A 10 a b v had = (decide ((tkAt A a).st = 2) && (if (tkAt A a).on = 0 then decide (b = 0) else !isMu (tkAt A a).on || decide (b = 1) && decide (owAt A ((tkAt A a).on - 32) = 0))) := rfl
theorem learn10 (A : Au) (a b v : Nat) : learn A 10 a b v = { setT A a { tkAt A a with st := 1 } with due := if isMu (tkAt A a).on then ⟨12, a, (tkAt A a).on - 32⟩ else A.due } := rfl
end Go.Proofs.Ytfphgcplpokigaa
