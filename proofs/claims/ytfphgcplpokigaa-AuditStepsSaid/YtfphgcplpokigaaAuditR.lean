/-
  Audit: the reference's rule, kind by kind.
-/
import Derived.Test.YtfphgcplpokigaaAuditQ
import Derived.Test.YtfphgcplpokigaaAuditI
namespace Go.Proofs.Ytfphgcplpokigaa
open Go.RowKit Go.Sx Go.Au
set_option linter.unusedSimpArgs false
set_option linter.unusedVariables false

theorem bneD2 (x y : Int) : (x - 1 != y) = decide (x ≠ y + 1) := by rw [Bool.eq_iff_iff]; simp; omega
set_option maxRecDepth 100000 in
theorem rfActs80 (b : Nat) (w : World) :
    Calls Try.prog 101 #[.pointer (some ⟨b, 0, none⟩), .int .i64 80] w fun e w' => e = .returned (.bool false) ∧ w = w' := by
  go_enter Try.func101, Try.ntmps101
  go_wp2
  go_ret
  exact ⟨rfl, rfl⟩
set_option maxRecDepth 100000 in
theorem rfPosts (b : Nat) (A : Au) (x : Nat) (w0 w : World) (F : HP) (hs : Sat w0 w (rfP b A * F)) (hA : AOk A) (hx : x ≤ 80) :
    Calls Try.prog 102 #[.pointer (some ⟨b, 0, none⟩), .int .i64 x] w fun e w' => e = .returned (.bool (acts A x)) ∧ w = w' := by
  have hs0 := hs
  by_cases h : x < 80
  · have d1 : ((x : Int) == 80) = false := by simp; omega
    generalize hy : acts A x = y
    have Hy := hid hy
    clear hy
    cases y
    all_goals
      go_enter Try.func102, Try.ntmps102
      go_wp2_with fail
      refine (rfActsX b A x _ Hy.out w0 _ F hs0 hA h).mono ?_
      rintro e w' ⟨rfl, rfl⟩
      go_wp2_with fail
      go_ret
      exact ⟨rfl, rfl⟩
  · obtain rfl : x = 80 := by omega
    obtain ⟨g, off, cap, c1, c2, hs⟩ := rfP_out hA hs
    go_enter Try.func102, Try.ntmps102
    go_wp2_with fail
    refine (rfActs80 b _).mono ?_
    rintro e w' ⟨rfl, rfl⟩
    go_wp2_with fail
    go_ret
    exact ⟨retB (by unfold acts; rw [if_neg (by decide), if_neg (by decide), Bool.eq_iff_iff]; simp), rfl⟩

set_option maxRecDepth 100000 in
set_option maxHeartbeats 8000000 in
theorem rfRule1 (pb : Nat) (A : Au) (a b v : Nat) (had : Bool) (cy co : Int) (w0 w : World) (F : HP) (hs : Sat w0 w (rfP pb A * F)) (hA : AOk A) (hok : okN 1 a b v = true) (hv : v < 4294967296) :
    Calls Try.prog 80 #[.pointer (some ⟨pb, 0, none⟩), evA 1 a b v cy co, .bool had] w (RetV w0 (.bool (rule A 1 a b v had)) (rfP pb A * F)) := by
  have ha : a < 16 := by simp [okN, shp, win] at hok; omega
  have i1 : (a : Int) < 16 := by omega
  have i2 : decide (a < 16) = true := by simp; omega
  haveI : Lt a A.pn.length := ⟨by rw [hA.lp]; omega⟩
  have hb : b < 2 := by simp [okN, shp, win] at hok; omega
  obtain ⟨g, off, cap, c1, c2, hs⟩ := rfP_out hA hs
  go_enter Try.func80, Try.ntmps80
  go_wp2_with fail
  go_quiet (fail)
  go_wp2_with fail
  go_ret
  exact ⟨retB (by rw [show rule A 1 a b v had = (A.pn.getD a false == decide (b = 1)) from rfl, show decide (b = 1) = ((b : Int) == 1) by rw [Bool.eq_iff_iff]; simp; omega, Bool.beq_comm]; simp), rfP_of (v := .slice (some ⟨g, off, none⟩) 64 cap) own_left⟩
set_option maxRecDepth 100000 in
set_option maxHeartbeats 8000000 in
theorem rfRule2 (pb : Nat) (A : Au) (a b v : Nat) (had : Bool) (cy co : Int) (w0 w : World) (F : HP) (hs : Sat w0 w (rfP pb A * F)) (hA : AOk A) (hok : okN 2 a b v = true) (hv : v < 4294967296) :
    Calls Try.prog 80 #[.pointer (some ⟨pb, 0, none⟩), evA 2 a b v cy co, .bool had] w (RetV w0 (.bool (rule A 2 a b v had)) (rfP pb A * F)) := by
  have hb : b < 80 := by simp [okN, shp, win] at hok; omega
  have ha : a < 16 := by simp [okN, shp, win] at hok; omega
  obtain ⟨g, off, cap, c1, c2, hs⟩ := rfP_out hA hs
  go_enter Try.func80, Try.ntmps80
  go_wp2_with fail
  go_quiet (fail)
  go_wp2_with fail
  refine (rfActs pb A b w0 _ any (rfP_of (v := .slice (some ⟨g, off, none⟩) 64 cap) own_left) hA (by omega)).mono ?_
  rintro e w' ⟨rfl, rfl⟩
  go_wp2_with fail
  go_ret
  exact ⟨retB (rfl), rfP_of (v := .slice (some ⟨g, off, none⟩) 64 cap) own_left⟩
set_option maxRecDepth 100000 in
set_option maxHeartbeats 8000000 in
theorem rfRule20 (pb : Nat) (A : Au) (a b v : Nat) (had : Bool) (cy co : Int) (w0 w : World) (F : HP) (hs : Sat w0 w (rfP pb A * F)) (hA : AOk A) (hok : okN 20 a b v = true) (hv : v < 4294967296) :
    Calls Try.prog 80 #[.pointer (some ⟨pb, 0, none⟩), evA 20 a b v cy co, .bool had] w (RetV w0 (.bool (rule A 20 a b v had)) (rfP pb A * F)) := by
  have hb : b < 80 := by simp [okN, shp, win] at hok; omega
  have ha : a < 16 := by simp [okN, shp, win] at hok; omega
  obtain ⟨g, off, cap, c1, c2, hs⟩ := rfP_out hA hs
  go_enter Try.func80, Try.ntmps80
  go_wp2_with fail
  go_quiet (fail)
  go_wp2_with fail
  refine (rfActs pb A b w0 _ any (rfP_of (v := .slice (some ⟨g, off, none⟩) 64 cap) own_left) hA (by omega)).mono ?_
  rintro e w' ⟨rfl, rfl⟩
  go_wp2_with fail
  go_ret
  exact ⟨retB (rfl), rfP_of (v := .slice (some ⟨g, off, none⟩) 64 cap) own_left⟩
set_option maxRecDepth 100000 in
set_option maxHeartbeats 8000000 in
theorem rfRule3 (pb : Nat) (A : Au) (a b v : Nat) (had : Bool) (cy co : Int) (w0 w : World) (F : HP) (hs : Sat w0 w (rfP pb A * F)) (hA : AOk A) (hok : okN 3 a b v = true) (hv : v < 4294967296) :
    Calls Try.prog 80 #[.pointer (some ⟨pb, 0, none⟩), evA 3 a b v cy co, .bool had] w (RetV w0 (.bool (rule A 3 a b v had)) (rfP pb A * F)) := by
  have ha : a < 16 := by simp [okN, shp, win] at hok; omega
  have i1 : (a : Int) < 16 := by omega
  have i2 : decide (a < 16) = true := by simp; omega
  haveI : Lt a A.pn.length := ⟨by rw [hA.lp]; omega⟩
  have hb : b < 256 := by simp [okN, shp, win] at hok; omega
  have hi := hA.isr
  have Hr : Hid (rule A 3 a b v had = (decide (A.isr = 0) && A.pn.getD a false)) := rfl
  obtain ⟨g, off, cap, c1, c2, hs⟩ := rfP_out hA hs
  by_cases h1 : A.isr = 0
  all_goals
    first | have d2 : decide (A.isr - 1 < 0) = true := by simp; omega
          | have d2 : decide (A.isr - 1 < 0) = false := by simp; omega
    first | rw [decide_eq_true h1] at Hr | rw [decide_eq_false h1] at Hr
    clear h1
    go_enter Try.func80, Try.ntmps80
    go_wp2_with fail
    go_quiet (fail)
    go_wp2_with fail
    go_ret
    exact ⟨retB (by rw [Hr.out]; simp), rfP_of (v := .slice (some ⟨g, off, none⟩) 64 cap) own_left⟩
set_option maxRecDepth 100000 in
set_option maxHeartbeats 8000000 in
theorem rfRule4 (pb : Nat) (A : Au) (a b v : Nat) (had : Bool) (cy co : Int) (w0 w : World) (F : HP) (hs : Sat w0 w (rfP pb A * F)) (hA : AOk A) (hok : okN 4 a b v = true) (hv : v < 4294967296) :
    Calls Try.prog 80 #[.pointer (some ⟨pb, 0, none⟩), evA 4 a b v cy co, .bool had] w (RetV w0 (.bool (rule A 4 a b v had)) (rfP pb A * F)) := by
  have ha : a < 16 := by simp [okN, shp, win] at hok; omega
  have i1 : (a : Int) < 16 := by omega
  have i2 : decide (a < 16) = true := by simp; omega
  haveI : Lt a A.pn.length := ⟨by rw [hA.lp]; omega⟩
  have hb : b < 256 := by simp [okN, shp, win] at hok; omega
  have hi := hA.isr
  have Hr : Hid (rule A 4 a b v had = decide (A.isr = (a : Int) + 1)) := rfl
  obtain ⟨g, off, cap, c1, c2, hs⟩ := rfP_out hA hs
  go_enter Try.func80, Try.ntmps80
  go_wp2_with fail
  go_quiet (fail)
  go_wp2_with fail
  go_ret
  exact ⟨retB (by rw [Hr.out, Bool.eq_iff_iff]; simp; omega), rfP_of (v := .slice (some ⟨g, off, none⟩) 64 cap) own_left⟩
set_option maxRecDepth 100000 in
set_option maxHeartbeats 8000000 in
theorem rfRule6 (pb : Nat) (A : Au) (a b v : Nat) (had : Bool) (cy co : Int) (w0 w : World) (F : HP) (hs : Sat w0 w (rfP pb A * F)) (hA : AOk A) (hok : okN 6 a b v = true) (hv : v < 4294967296) :
    Calls Try.prog 80 #[.pointer (some ⟨pb, 0, none⟩), evA 6 a b v cy co, .bool had] w (RetV w0 (.bool (rule A 6 a b v had)) (rfP pb A * F)) := by
  have ha : a < 64 := by simp [okN, shp, win] at hok; omega
  have i1 : (a : Int) < 64 := by omega
  have i2 : decide (a < 64) = true := by simp; omega
  haveI : Lt a A.ts.length := ⟨by rw [hA.lt]; omega⟩
  have hb : b < 256 := by simp [okN, shp, win] at hok; omega
  have hm := tkg_mem (l := A.ts) (k := a) this.lt
  have hj := hA.job _ hm
  have Hr := hid (rule6 A a b v had)
  have h2 : (tkg A.ts a).st = (tkAt A a).st := rfl
  obtain ⟨g, off, cap, c1, c2, hs⟩ := rfP_out hA hs
  clear hm
  by_cases h1 : (tkAt A a).st = 0
  all_goals
    first | have e2 : ((tkg A.ts a).st == 0) = true := by rw [h2]; simp [h1]
          | have e2 : ((tkg A.ts a).st == 0) = false := by rw [h2]; simp [h1]
    first | rw [decide_eq_true h1, Bool.true_and] at Hr | rw [decide_eq_false h1, Bool.false_and] at Hr
    clear h1 h2
    go_enter Try.func80, Try.ntmps80
    go_wp2_with fail
    go_quiet (fail)
    go_wp2_with fail
    refine wp_gen (w0 := w0) ?_
    intro wq hsq
    go_quiet (fail)
    go_wp2_with fail
    go_ret
    exact ⟨retB (by first | (rw [Hr.out]; done) | (rw [Hr.out]; exact nbq _ _)), rfP_of (v := .slice (some ⟨g, off, none⟩) 64 cap) own_left⟩
set_option maxRecDepth 100000 in
set_option maxHeartbeats 8000000 in
theorem rfRule7 (pb : Nat) (A : Au) (a b v : Nat) (had : Bool) (cy co : Int) (w0 w : World) (F : HP) (hs : Sat w0 w (rfP pb A * F)) (hA : AOk A) (hok : okN 7 a b v = true) (hv : v < 4294967296) :
    Calls Try.prog 80 #[.pointer (some ⟨pb, 0, none⟩), evA 7 a b v cy co, .bool had] w (RetV w0 (.bool (rule A 7 a b v had)) (rfP pb A * F)) := by
  have ha : a < 64 := by simp [okN, shp, win] at hok; omega
  have i1 : (a : Int) < 64 := by omega
  have i2 : decide (a < 64) = true := by simp; omega
  haveI : Lt a A.ts.length := ⟨by rw [hA.lt]; omega⟩
  have hb : b < 256 := by simp [okN, shp, win] at hok; omega
  have hm := tkg_mem (l := A.ts) (k := a) this.lt
  have hl := hA.late _ hm
  have hst := hA.st _ hm
  have Hr := hid (rule7 A a b v had)
  have h2 : (tkg A.ts a).st = (tkAt A a).st := rfl
  obtain ⟨g, off, cap, c1, c2, hs⟩ := rfP_out hA hs
  clear hm
  have fin : ∀ (y1 y2 : Bool), ((tkg A.ts a).st == 1) = y1 → ((tkg A.ts a).st == 2) = y2 → Hid (rule A 7 a b v had = ((y1 || y2) && decide ((v : Int) = min ((tkAt A a).late + 1) 255))) := by
    intro y1 y2 e1 e2
    rw [Hid, Hr.out, ← e1, ← e2]
    congr 1
    rw [Bool.eq_iff_iff]; simp only [decide_eq_true_eq, Bool.or_eq_true, beq_iff_eq]; rw [← h2]; omega
  by_cases hm : (tkg A.ts a).late + 1 ≤ 255
  all_goals
    first
      | (have m1 : ¬ (255 < (tkg A.ts a).late + 1) := by omega
         have Hm : Hid (min ((tkAt A a).late + 1) 255 = (tkg A.ts a).late + 1) := by unfold Hid tkAt; omega)
      | (have m1 : 255 < (tkg A.ts a).late + 1 := by omega
         have Hm : Hid (min ((tkAt A a).late + 1) 255 = 255) := by unfold Hid tkAt; omega)
    clear hm
    generalize e1 : ((tkg A.ts a).st == 1) = y1 at *
    generalize e2 : ((tkg A.ts a).st == 2) = y2 at *
    have Hf := hid (fin y1 y2 rfl rfl).out
    clear fin hst h2
    cases y1 <;> cases y2
    all_goals
      go_enter Try.func80, Try.ntmps80
      go_wp2_with fail
      go_quiet (fail)
      go_wp2_with fail
      refine wp_gen (w0 := w0) ?_
      intro wq hsq
      go_quiet (fail)
      go_wp2_with fail
      go_ret
      exact ⟨retB (by first | (rw [Hf.out]; done) | (rw [Hf.out, Hm.out]; first | rfl | exact beqD _ _)), rfP_of (v := .slice (some ⟨g, off, none⟩) 64 cap) own_left⟩
set_option maxRecDepth 100000 in
set_option maxHeartbeats 8000000 in
theorem rfRule8 (pb : Nat) (A : Au) (a b v : Nat) (had : Bool) (cy co : Int) (w0 w : World) (F : HP) (hs : Sat w0 w (rfP pb A * F)) (hA : AOk A) (hok : okN 8 a b v = true) (hv : v < 4294967296) :
    Calls Try.prog 80 #[.pointer (some ⟨pb, 0, none⟩), evA 8 a b v cy co, .bool had] w (RetV w0 (.bool (rule A 8 a b v had)) (rfP pb A * F)) := by
  have ha : a < 64 := by simp [okN, shp, win] at hok; omega
  have i1 : (a : Int) < 64 := by omega
  have i2 : decide (a < 64) = true := by simp; omega
  haveI : Lt a A.ts.length := ⟨by rw [hA.lt]; omega⟩
  have hb : b < 256 := by simp [okN, shp, win] at hok; omega
  have Hr := hid (rule8 A a b v had)
  generalize hx : acts A a = x at Hr
  have Hx := hid hx
  clear hx
  obtain ⟨g, off, cap, c1, c2, hs⟩ := rfP_out hA hs
  cases x
  all_goals
    go_enter Try.func80, Try.ntmps80
    go_wp2_with fail
    go_quiet (fail)
    go_wp2_with fail
    refine wp_gen (w0 := w0) ?_
    intro wq hsq
    go_quiet ((go_at_call 101; exact quiet_eq (rfActsX pb A a _ Hx.out w0 _ any (rfP_of (v := .slice (some ⟨g, off, none⟩) 64 cap) own_left) hA (by omega))))
    go_wp2_with fail
    go_ret
    exact ⟨retB (by rw [Hr.out]; first | rfl | exact natBeq _ _), rfP_of (v := .slice (some ⟨g, off, none⟩) 64 cap) own_left⟩
set_option maxRecDepth 100000 in
set_option maxHeartbeats 8000000 in
theorem rfRule15 (pb : Nat) (A : Au) (a b v : Nat) (had : Bool) (cy co : Int) (w0 w : World) (F : HP) (hs : Sat w0 w (rfP pb A * F)) (hA : AOk A) (hok : okN 15 a b v = true) (hv : v < 4294967296) :
    Calls Try.prog 80 #[.pointer (some ⟨pb, 0, none⟩), evA 15 a b v cy co, .bool had] w (RetV w0 (.bool (rule A 15 a b v had)) (rfP pb A * F)) := by
  have ha : a < 80 := by simp [okN, shp, win] at hok; omega
  have hb : b < 256 := by simp [okN, shp, win] at hok; omega
  obtain ⟨g, off, cap, c1, c2, hs⟩ := rfP_out hA hs
  go_enter Try.func80, Try.ntmps80
  go_wp2_with fail
  go_quiet (fail)
  go_wp2_with fail
  refine (rfActs pb A a w0 _ any (rfP_of (v := .slice (some ⟨g, off, none⟩) 64 cap) own_left) hA (by omega)).mono ?_
  rintro e w' ⟨rfl, rfl⟩
  go_wp2_with fail
  go_ret
  exact ⟨retB (rfl), rfP_of (v := .slice (some ⟨g, off, none⟩) 64 cap) own_left⟩
set_option maxRecDepth 100000 in
set_option maxHeartbeats 8000000 in
theorem rfRule19 (pb : Nat) (A : Au) (a b v : Nat) (had : Bool) (cy co : Int) (w0 w : World) (F : HP) (hs : Sat w0 w (rfP pb A * F)) (hA : AOk A) (hok : okN 19 a b v = true) (hv : v < 4294967296) :
    Calls Try.prog 80 #[.pointer (some ⟨pb, 0, none⟩), evA 19 a b v cy co, .bool had] w (RetV w0 (.bool (rule A 19 a b v had)) (rfP pb A * F)) := by
  have ha : a < 80 := by simp [okN, shp, win] at hok; omega
  have hb : b < 256 := by simp [okN, shp, win] at hok; omega
  obtain ⟨g, off, cap, c1, c2, hs⟩ := rfP_out hA hs
  go_enter Try.func80, Try.ntmps80
  go_wp2_with fail
  go_quiet (fail)
  go_wp2_with fail
  refine (rfActs pb A a w0 _ any (rfP_of (v := .slice (some ⟨g, off, none⟩) 64 cap) own_left) hA (by omega)).mono ?_
  rintro e w' ⟨rfl, rfl⟩
  go_wp2_with fail
  go_ret
  exact ⟨retB (rfl), rfP_of (v := .slice (some ⟨g, off, none⟩) 64 cap) own_left⟩
set_option maxRecDepth 100000 in
set_option maxHeartbeats 8000000 in
theorem rfRule21 (pb : Nat) (A : Au) (a b v : Nat) (had : Bool) (cy co : Int) (w0 w : World) (F : HP) (hs : Sat w0 w (rfP pb A * F)) (hA : AOk A) (hok : okN 21 a b v = true) (hv : v < 4294967296) :
    Calls Try.prog 80 #[.pointer (some ⟨pb, 0, none⟩), evA 21 a b v cy co, .bool had] w (RetV w0 (.bool (rule A 21 a b v had)) (rfP pb A * F)) := by
  have ha : a < 80 := by simp [okN, shp, win] at hok; omega
  have hb : b < 256 := by simp [okN, shp, win] at hok; omega
  obtain ⟨g, off, cap, c1, c2, hs⟩ := rfP_out hA hs
  go_enter Try.func80, Try.ntmps80
  go_wp2_with fail
  go_quiet (fail)
  go_wp2_with fail
  refine (rfActs pb A a w0 _ any (rfP_of (v := .slice (some ⟨g, off, none⟩) 64 cap) own_left) hA (by omega)).mono ?_
  rintro e w' ⟨rfl, rfl⟩
  go_wp2_with fail
  go_ret
  exact ⟨retB (rfl), rfP_of (v := .slice (some ⟨g, off, none⟩) 64 cap) own_left⟩
set_option maxRecDepth 100000 in
set_option maxHeartbeats 8000000 in
theorem rfRule22 (pb : Nat) (A : Au) (a b v : Nat) (had : Bool) (cy co : Int) (w0 w : World) (F : HP) (hs : Sat w0 w (rfP pb A * F)) (hA : AOk A) (hok : okN 22 a b v = true) (hv : v < 4294967296) :
    Calls Try.prog 80 #[.pointer (some ⟨pb, 0, none⟩), evA 22 a b v cy co, .bool had] w (RetV w0 (.bool (rule A 22 a b v had)) (rfP pb A * F)) := by
  have ha : a < 80 := by simp [okN, shp, win] at hok; omega
  have hb : b < 256 := by simp [okN, shp, win] at hok; omega
  obtain ⟨g, off, cap, c1, c2, hs⟩ := rfP_out hA hs
  go_enter Try.func80, Try.ntmps80
  go_wp2_with fail
  go_quiet (fail)
  go_wp2_with fail
  refine (rfActs pb A a w0 _ any (rfP_of (v := .slice (some ⟨g, off, none⟩) 64 cap) own_left) hA (by omega)).mono ?_
  rintro e w' ⟨rfl, rfl⟩
  go_wp2_with fail
  go_ret
  exact ⟨retB (rfl), rfP_of (v := .slice (some ⟨g, off, none⟩) 64 cap) own_left⟩
set_option maxRecDepth 100000 in
set_option maxHeartbeats 8000000 in
theorem rfRule14 (pb : Nat) (A : Au) (a b v : Nat) (had : Bool) (cy co : Int) (w0 w : World) (F : HP) (hs : Sat w0 w (rfP pb A * F)) (hA : AOk A) (hok : okN 14 a b v = true) (hv : v < 4294967296) :
    Calls Try.prog 80 #[.pointer (some ⟨pb, 0, none⟩), evA 14 a b v cy co, .bool had] w (RetV w0 (.bool (rule A 14 a b v had)) (rfP pb A * F)) := by
  have ha : a ≤ 80 := by simp [okN, shp, win] at hok; omega
  have hb : b < 256 := by simp [okN, shp, win] at hok; omega
  obtain ⟨g, off, cap, c1, c2, hs⟩ := rfP_out hA hs
  go_enter Try.func80, Try.ntmps80
  go_wp2_with fail
  go_quiet (fail)
  go_wp2_with fail
  refine (rfPosts pb A a w0 _ any (rfP_of (v := .slice (some ⟨g, off, none⟩) 64 cap) own_left) hA (by omega)).mono ?_
  rintro e w' ⟨rfl, rfl⟩
  go_wp2_with fail
  go_ret
  exact ⟨retB (rfl), rfP_of (v := .slice (some ⟨g, off, none⟩) 64 cap) own_left⟩
set_option maxRecDepth 100000 in
set_option maxHeartbeats 8000000 in
theorem rfRule23 (pb : Nat) (A : Au) (a b v : Nat) (had : Bool) (cy co : Int) (w0 w : World) (F : HP) (hs : Sat w0 w (rfP pb A * F)) (hA : AOk A) (hok : okN 23 a b v = true) (hv : v < 4294967296) :
    Calls Try.prog 80 #[.pointer (some ⟨pb, 0, none⟩), evA 23 a b v cy co, .bool had] w (RetV w0 (.bool (rule A 23 a b v had)) (rfP pb A * F)) := by
  have ha : a ≤ 80 := by simp [okN, shp, win] at hok; omega
  have hb : b < 256 := by simp [okN, shp, win] at hok; omega
  obtain ⟨g, off, cap, c1, c2, hs⟩ := rfP_out hA hs
  go_enter Try.func80, Try.ntmps80
  go_wp2_with fail
  go_quiet (fail)
  go_wp2_with fail
  refine (rfPosts pb A a w0 _ any (rfP_of (v := .slice (some ⟨g, off, none⟩) 64 cap) own_left) hA (by omega)).mono ?_
  rintro e w' ⟨rfl, rfl⟩
  go_wp2_with fail
  go_ret
  exact ⟨retB (rfl), rfP_of (v := .slice (some ⟨g, off, none⟩) 64 cap) own_left⟩
set_option maxRecDepth 100000 in
set_option maxHeartbeats 8000000 in
theorem rfRule18 (pb : Nat) (A : Au) (a b v : Nat) (had : Bool) (cy co : Int) (w0 w : World) (F : HP) (hs : Sat w0 w (rfP pb A * F)) (hA : AOk A) (hok : okN 18 a b v = true) (hv : v < 4294967296) :
    Calls Try.prog 80 #[.pointer (some ⟨pb, 0, none⟩), evA 18 a b v cy co, .bool had] w (RetV w0 (.bool (rule A 18 a b v had)) (rfP pb A * F)) := by
  have ha : a < 256 := by simp [okN, shp, win] at hok; omega
  have hb : b < 256 := by simp [okN, shp, win] at hok; omega
  obtain ⟨g, off, cap, c1, c2, hs⟩ := rfP_out hA hs
  go_enter Try.func80, Try.ntmps80
  go_wp2_with fail
  go_quiet (fail)
  go_wp2_with fail
  go_ret
  exact ⟨retB (rfl), rfP_of (v := .slice (some ⟨g, off, none⟩) 64 cap) own_left⟩
set_option maxRecDepth 100000 in
set_option maxHeartbeats 8000000 in
theorem rfRule24 (pb : Nat) (A : Au) (a b v : Nat) (had : Bool) (cy co : Int) (w0 w : World) (F : HP) (hs : Sat w0 w (rfP pb A * F)) (hA : AOk A) (hok : okN 24 a b v = true) (hv : v < 4294967296) :
    Calls Try.prog 80 #[.pointer (some ⟨pb, 0, none⟩), evA 24 a b v cy co, .bool had] w (RetV w0 (.bool (rule A 24 a b v had)) (rfP pb A * F)) := by
  have ha : a < 256 := by simp [okN, shp, win] at hok; omega
  have hb : b < 256 := by simp [okN, shp, win] at hok; omega
  obtain ⟨g, off, cap, c1, c2, hs⟩ := rfP_out hA hs
  go_enter Try.func80, Try.ntmps80
  go_wp2_with fail
  go_quiet (fail)
  go_wp2_with fail
  go_ret
  exact ⟨retB (rfl), rfP_of (v := .slice (some ⟨g, off, none⟩) 64 cap) own_left⟩
set_option maxRecDepth 100000 in
set_option maxHeartbeats 8000000 in
theorem rfRule11 (pb : Nat) (A : Au) (a b v : Nat) (had : Bool) (cy co : Int) (w0 w : World) (F : HP) (hs : Sat w0 w (rfP pb A * F)) (hA : AOk A) (hok : okN 11 a b v = true) (hv : v < 4294967296) :
    Calls Try.prog 80 #[.pointer (some ⟨pb, 0, none⟩), evA 11 a b v cy co, .bool had] w (RetV w0 (.bool (rule A 11 a b v had)) (rfP pb A * F)) := by
  have ha : a < 64 := by simp [okN, shp, win] at hok; omega
  have i1 : (a : Int) < 64 := by omega
  have i2 : decide (a < 64) = true := by simp; omega
  haveI : Lt a A.ts.length := ⟨by rw [hA.lt]; omega⟩
  have hb : b < 32 := by simp [okN, shp, win] at hok; omega
  have Hr := hid (rule11 A a b v had)
  obtain ⟨g, off, cap, c1, c2, hs⟩ := rfP_out hA hs
  go_enter Try.func80, Try.ntmps80
  go_wp2_with fail
  go_quiet (fail)
  go_wp2_with fail
  go_ret
  exact ⟨retB (by rw [Hr.out]; exact bneD2 _ _), rfP_of (v := .slice (some ⟨g, off, none⟩) 64 cap) own_left⟩
set_option maxRecDepth 100000 in
set_option maxHeartbeats 8000000 in
theorem rfRule12 (pb : Nat) (A : Au) (a b v : Nat) (had : Bool) (cy co : Int) (w0 w : World) (F : HP) (hs : Sat w0 w (rfP pb A * F)) (hA : AOk A) (hok : okN 12 a b v = true) (hv : v < 4294967296) :
    Calls Try.prog 80 #[.pointer (some ⟨pb, 0, none⟩), evA 12 a b v cy co, .bool had] w (RetV w0 (.bool (rule A 12 a b v had)) (rfP pb A * F)) := by
  have ha : a < 64 := by simp [okN, shp, win] at hok; omega
  have hb : b < 32 := by simp [okN, shp, win] at hok; omega
  have i1 : (b : Int) < 32 := by omega
  have i2 : decide (b < 32) = true := by simp; omega
  haveI : Lt b A.ow.length := ⟨by rw [hA.lo]; omega⟩
  have hown := hA.own (owg A.ow b) (getD_mem (by rw [hA.lo]; omega) 0)
  have h2 : owg A.ow b = owAt A b := rfl
  have Hr := hid (rule12 A a b v had)
  generalize hx : acts A a = x at Hr
  have Hx := hid hx
  clear hx
  obtain ⟨g, off, cap, c1, c2, hs⟩ := rfP_out hA hs
  by_cases h1 : owAt A b = 0
  all_goals
    first | have e1 : decide (owg A.ow b - 1 < 0) = true := by rw [h2]; simp; omega
          | have e1 : decide (owg A.ow b - 1 < 0) = false := by simp; omega
    first | rw [decide_eq_true h1, Bool.true_and] at Hr | rw [decide_eq_false h1, Bool.false_and] at Hr
    clear h1 h2
    cases had
    all_goals
      go_enter Try.func80, Try.ntmps80
      go_wp2_with fail
      go_quiet (fail)
      go_wp2_with fail
      try
        refine (rfActsX pb A a _ Hx.out w0 _ any (rfP_of (v := .slice (some ⟨g, off, none⟩) 64 cap) own_left) hA (by omega)).mono ?_
        rintro e w' ⟨rfl, rfl⟩
        go_wp2_with fail
      go_ret
      exact ⟨retB (by first | (rw [Hr.out]; done) | (rw [Hr.out]; rfl)), rfP_of (v := .slice (some ⟨g, off, none⟩) 64 cap) own_left⟩
set_option maxRecDepth 100000 in
set_option maxHeartbeats 8000000 in
theorem rfRule13 (pb : Nat) (A : Au) (a b v : Nat) (had : Bool) (cy co : Int) (w0 w : World) (F : HP) (hs : Sat w0 w (rfP pb A * F)) (hA : AOk A) (hok : okN 13 a b v = true) (hv : v < 4294967296) :
    Calls Try.prog 80 #[.pointer (some ⟨pb, 0, none⟩), evA 13 a b v cy co, .bool had] w (RetV w0 (.bool (rule A 13 a b v had)) (rfP pb A * F)) := by
  have ha : a < 64 := by simp [okN, shp, win] at hok; omega
  have i1 : (a : Int) < 64 := by omega
  have i2 : decide (a < 64) = true := by simp; omega
  haveI : Lt a A.ts.length := ⟨by rw [hA.lt]; omega⟩
  have hb : b < 32 := by simp [okN, shp, win] at hok; omega
  have i3 : (b : Int) < 32 := by omega
  have i4 : decide (b < 32) = true := by simp; omega
  haveI : Lt b A.ow.length := ⟨by rw [hA.lo]; omega⟩
  have hown := hA.own (owg A.ow b) (getD_mem (by rw [hA.lo]; omega) 0)
  have h2 : owg A.ow b = owAt A b := rfl
  have h3 : (tkg A.ts a).st = (tkAt A a).st := rfl
  have Hr := hid (rule13 A a b v had)
  generalize hx : acts A a = x at Hr
  have Hx := hid hx
  clear hx
  obtain ⟨g, off, cap, c1, c2, hs⟩ := rfP_out hA hs
  by_cases h1 : owAt A b = (a : Int) + 1
  · have e1 : (owg A.ow b - 1 == (a : Int)) = true := by rw [h2]; simp; omega
    rw [decide_eq_true h1, Bool.true_and, Bool.or_comm, ← h3] at Hr
    clear h1 h2 h3
    cases x
    all_goals
      go_enter Try.func80, Try.ntmps80
      go_wp2_with fail
      go_quiet (fail)
      go_wp2_with fail
      refine (rfActsX pb A a _ Hx.out w0 _ any (rfP_of (v := .slice (some ⟨g, off, none⟩) 64 cap) own_left) hA (by omega)).mono ?_
      rintro e w' ⟨rfl, rfl⟩
      go_wp2_with fail
      go_ret
      exact ⟨retB (by first | (rw [Hr.out]; done) | (rw [Hr.out]; exact beqD _ _) | (rw [Hr.out]; rfl)), rfP_of (v := .slice (some ⟨g, off, none⟩) 64 cap) own_left⟩
  · have e1 : (owg A.ow b - 1 == (a : Int)) = false := by rw [h2]; simp; omega
    rw [decide_eq_false h1, Bool.false_and] at Hr
    clear h1 h2 h3
    go_enter Try.func80, Try.ntmps80
    go_wp2_with fail
    go_quiet (fail)
    go_wp2_with fail
    go_ret
    exact ⟨retB (by rw [Hr.out]), rfP_of (v := .slice (some ⟨g, off, none⟩) 64 cap) own_left⟩
end Go.Proofs.Ytfphgcplpokigaa
