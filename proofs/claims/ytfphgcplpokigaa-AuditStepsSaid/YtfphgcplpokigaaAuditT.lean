/-
  Audit: what the reference learns.
-/
import Derived.Test.YtfphgcplpokigaaAuditS
namespace Go.Proofs.Ytfphgcplpokigaa
open Go.RowKit Go.Sx Go.Au
set_option linter.unusedSimpArgs false
set_option linter.unusedVariables false

set_option maxRecDepth 100000 in
set_option maxHeartbeats 8000000 in
theorem rfLearn1 (pb : Nat) (A : Au) (a b v : Nat) (cy co : Int) (w0 w : World) (F : HP) (hs : Sat w0 w (rfP pb A * F)) (hA : AOk A) (hok : okN 1 a b v = true) (hv : v < 4294967296) :
    Calls Try.prog 81 #[.pointer (some ⟨pb, 0, none⟩), evA 1 a b v cy co] w (RetV w0 (.tuple #[]) (rfP pb (learn A 1 a b v) * F)) := by
  have ha : a < 16 := by simp [okN, shp, win] at hok; omega
  have i1 : (a : Int) < 16 := by omega
  have i2 : decide (a < 16) = true := by simp; omega
  haveI : Lt a A.pn.length := ⟨by rw [hA.lp]; omega⟩
  have hb : b < 256 := by simp [okN, shp, win] at hok; omega
  obtain ⟨g, off, cap, c1, c2, hs⟩ := rfP_out hA hs
  go_enter Try.func81, Try.ntmps81
  go_wp2_with fail
  go_quiet (fail)
  go_wp2_with fail
  go_returns
  refine ⟨rfl, rfP_of (v := .slice (some ⟨g, off, none⟩) 64 cap) ?_⟩
  rw [show learn A 1 a b v = { A with pn := A.pn.set a true } from rfl]
  dsimp only [setT, tkAt, duEv]
  exact own_left
set_option maxRecDepth 100000 in
set_option maxHeartbeats 8000000 in
theorem rfLearn2 (pb : Nat) (A : Au) (a b v : Nat) (cy co : Int) (w0 w : World) (F : HP) (hs : Sat w0 w (rfP pb A * F)) (hA : AOk A) (hok : okN 2 a b v = true) (hv : v < 4294967296) :
    Calls Try.prog 81 #[.pointer (some ⟨pb, 0, none⟩), evA 2 a b v cy co] w (RetV w0 (.tuple #[]) (rfP pb (learn A 2 a b v) * F)) := by
  have ha : a < 256 := by simp [okN, shp, win] at hok; omega
  have hb : b < 256 := by simp [okN, shp, win] at hok; omega
  obtain ⟨g, off, cap, c1, c2, hs⟩ := rfP_out hA hs
  go_enter Try.func81, Try.ntmps81
  go_wp2_with fail
  go_quiet (fail)
  go_wp2_with fail
  go_returns
  refine ⟨rfl, rfP_of (v := .slice (some ⟨g, off, none⟩) 64 cap) ?_⟩
  rw [show learn A 2 a b v = A from rfl]
  exact own_left
set_option maxRecDepth 100000 in
set_option maxHeartbeats 8000000 in
theorem rfLearn14 (pb : Nat) (A : Au) (a b v : Nat) (cy co : Int) (w0 w : World) (F : HP) (hs : Sat w0 w (rfP pb A * F)) (hA : AOk A) (hok : okN 14 a b v = true) (hv : v < 4294967296) :
    Calls Try.prog 81 #[.pointer (some ⟨pb, 0, none⟩), evA 14 a b v cy co] w (RetV w0 (.tuple #[]) (rfP pb (learn A 14 a b v) * F)) := by
  have ha : a < 256 := by simp [okN, shp, win] at hok; omega
  have hb : b < 256 := by simp [okN, shp, win] at hok; omega
  obtain ⟨g, off, cap, c1, c2, hs⟩ := rfP_out hA hs
  go_enter Try.func81, Try.ntmps81
  go_wp2_with fail
  go_quiet (fail)
  go_wp2_with fail
  go_returns
  refine ⟨rfl, rfP_of (v := .slice (some ⟨g, off, none⟩) 64 cap) ?_⟩
  rw [show learn A 14 a b v = A from rfl]
  exact own_left
set_option maxRecDepth 100000 in
set_option maxHeartbeats 8000000 in
theorem rfLearn15 (pb : Nat) (A : Au) (a b v : Nat) (cy co : Int) (w0 w : World) (F : HP) (hs : Sat w0 w (rfP pb A * F)) (hA : AOk A) (hok : okN 15 a b v = true) (hv : v < 4294967296) :
    Calls Try.prog 81 #[.pointer (some ⟨pb, 0, none⟩), evA 15 a b v cy co] w (RetV w0 (.tuple #[]) (rfP pb (learn A 15 a b v) * F)) := by
  have ha : a < 256 := by simp [okN, shp, win] at hok; omega
  have hb : b < 256 := by simp [okN, shp, win] at hok; omega
  obtain ⟨g, off, cap, c1, c2, hs⟩ := rfP_out hA hs
  go_enter Try.func81, Try.ntmps81
  go_wp2_with fail
  go_quiet (fail)
  go_wp2_with fail
  go_returns
  refine ⟨rfl, rfP_of (v := .slice (some ⟨g, off, none⟩) 64 cap) ?_⟩
  rw [show learn A 15 a b v = A from rfl]
  exact own_left
set_option maxRecDepth 100000 in
set_option maxHeartbeats 8000000 in
theorem rfLearn16 (pb : Nat) (A : Au) (a b v : Nat) (cy co : Int) (w0 w : World) (F : HP) (hs : Sat w0 w (rfP pb A * F)) (hA : AOk A) (hok : okN 16 a b v = true) (hv : v < 4294967296) :
    Calls Try.prog 81 #[.pointer (some ⟨pb, 0, none⟩), evA 16 a b v cy co] w (RetV w0 (.tuple #[]) (rfP pb (learn A 16 a b v) * F)) := by
  have ha : a < 256 := by simp [okN, shp, win] at hok; omega
  have hb : b < 256 := by simp [okN, shp, win] at hok; omega
  obtain ⟨g, off, cap, c1, c2, hs⟩ := rfP_out hA hs
  go_enter Try.func81, Try.ntmps81
  go_wp2_with fail
  go_quiet (fail)
  go_wp2_with fail
  go_returns
  refine ⟨rfl, rfP_of (v := .slice (some ⟨g, off, none⟩) 64 cap) ?_⟩
  rw [show learn A 16 a b v = A from rfl]
  exact own_left
set_option maxRecDepth 100000 in
set_option maxHeartbeats 8000000 in
theorem rfLearn17 (pb : Nat) (A : Au) (a b v : Nat) (cy co : Int) (w0 w : World) (F : HP) (hs : Sat w0 w (rfP pb A * F)) (hA : AOk A) (hok : okN 17 a b v = true) (hv : v < 4294967296) :
    Calls Try.prog 81 #[.pointer (some ⟨pb, 0, none⟩), evA 17 a b v cy co] w (RetV w0 (.tuple #[]) (rfP pb (learn A 17 a b v) * F)) := by
  have ha : a < 256 := by simp [okN, shp, win] at hok; omega
  have hb : b < 256 := by simp [okN, shp, win] at hok; omega
  obtain ⟨g, off, cap, c1, c2, hs⟩ := rfP_out hA hs
  go_enter Try.func81, Try.ntmps81
  go_wp2_with fail
  go_quiet (fail)
  go_wp2_with fail
  go_returns
  refine ⟨rfl, rfP_of (v := .slice (some ⟨g, off, none⟩) 64 cap) ?_⟩
  rw [show learn A 17 a b v = A from rfl]
  exact own_left
set_option maxRecDepth 100000 in
set_option maxHeartbeats 8000000 in
theorem rfLearn18 (pb : Nat) (A : Au) (a b v : Nat) (cy co : Int) (w0 w : World) (F : HP) (hs : Sat w0 w (rfP pb A * F)) (hA : AOk A) (hok : okN 18 a b v = true) (hv : v < 4294967296) :
    Calls Try.prog 81 #[.pointer (some ⟨pb, 0, none⟩), evA 18 a b v cy co] w (RetV w0 (.tuple #[]) (rfP pb (learn A 18 a b v) * F)) := by
  have ha : a < 256 := by simp [okN, shp, win] at hok; omega
  have hb : b < 256 := by simp [okN, shp, win] at hok; omega
  obtain ⟨g, off, cap, c1, c2, hs⟩ := rfP_out hA hs
  go_enter Try.func81, Try.ntmps81
  go_wp2_with fail
  go_quiet (fail)
  go_wp2_with fail
  go_returns
  refine ⟨rfl, rfP_of (v := .slice (some ⟨g, off, none⟩) 64 cap) ?_⟩
  rw [show learn A 18 a b v = A from rfl]
  exact own_left
set_option maxRecDepth 100000 in
set_option maxHeartbeats 8000000 in
theorem rfLearn19 (pb : Nat) (A : Au) (a b v : Nat) (cy co : Int) (w0 w : World) (F : HP) (hs : Sat w0 w (rfP pb A * F)) (hA : AOk A) (hok : okN 19 a b v = true) (hv : v < 4294967296) :
    Calls Try.prog 81 #[.pointer (some ⟨pb, 0, none⟩), evA 19 a b v cy co] w (RetV w0 (.tuple #[]) (rfP pb (learn A 19 a b v) * F)) := by
  have ha : a < 256 := by simp [okN, shp, win] at hok; omega
  have hb : b < 256 := by simp [okN, shp, win] at hok; omega
  obtain ⟨g, off, cap, c1, c2, hs⟩ := rfP_out hA hs
  go_enter Try.func81, Try.ntmps81
  go_wp2_with fail
  go_quiet (fail)
  go_wp2_with fail
  go_returns
  refine ⟨rfl, rfP_of (v := .slice (some ⟨g, off, none⟩) 64 cap) ?_⟩
  rw [show learn A 19 a b v = A from rfl]
  exact own_left
set_option maxRecDepth 100000 in
set_option maxHeartbeats 8000000 in
theorem rfLearn20 (pb : Nat) (A : Au) (a b v : Nat) (cy co : Int) (w0 w : World) (F : HP) (hs : Sat w0 w (rfP pb A * F)) (hA : AOk A) (hok : okN 20 a b v = true) (hv : v < 4294967296) :
    Calls Try.prog 81 #[.pointer (some ⟨pb, 0, none⟩), evA 20 a b v cy co] w (RetV w0 (.tuple #[]) (rfP pb (learn A 20 a b v) * F)) := by
  have ha : a < 256 := by simp [okN, shp, win] at hok; omega
  have hb : b < 256 := by simp [okN, shp, win] at hok; omega
  obtain ⟨g, off, cap, c1, c2, hs⟩ := rfP_out hA hs
  go_enter Try.func81, Try.ntmps81
  go_wp2_with fail
  go_quiet (fail)
  go_wp2_with fail
  go_returns
  refine ⟨rfl, rfP_of (v := .slice (some ⟨g, off, none⟩) 64 cap) ?_⟩
  rw [show learn A 20 a b v = A from rfl]
  exact own_left
set_option maxRecDepth 100000 in
set_option maxHeartbeats 8000000 in
theorem rfLearn23 (pb : Nat) (A : Au) (a b v : Nat) (cy co : Int) (w0 w : World) (F : HP) (hs : Sat w0 w (rfP pb A * F)) (hA : AOk A) (hok : okN 23 a b v = true) (hv : v < 4294967296) :
    Calls Try.prog 81 #[.pointer (some ⟨pb, 0, none⟩), evA 23 a b v cy co] w (RetV w0 (.tuple #[]) (rfP pb (learn A 23 a b v) * F)) := by
  have ha : a < 256 := by simp [okN, shp, win] at hok; omega
  have hb : b < 256 := by simp [okN, shp, win] at hok; omega
  obtain ⟨g, off, cap, c1, c2, hs⟩ := rfP_out hA hs
  go_enter Try.func81, Try.ntmps81
  go_wp2_with fail
  go_quiet (fail)
  go_wp2_with fail
  go_returns
  refine ⟨rfl, rfP_of (v := .slice (some ⟨g, off, none⟩) 64 cap) ?_⟩
  rw [show learn A 23 a b v = A from rfl]
  exact own_left
set_option maxRecDepth 100000 in
set_option maxHeartbeats 8000000 in
theorem rfLearn24 (pb : Nat) (A : Au) (a b v : Nat) (cy co : Int) (w0 w : World) (F : HP) (hs : Sat w0 w (rfP pb A * F)) (hA : AOk A) (hok : okN 24 a b v = true) (hv : v < 4294967296) :
    Calls Try.prog 81 #[.pointer (some ⟨pb, 0, none⟩), evA 24 a b v cy co] w (RetV w0 (.tuple #[]) (rfP pb (learn A 24 a b v) * F)) := by
  have ha : a < 256 := by simp [okN, shp, win] at hok; omega
  have hb : b < 256 := by simp [okN, shp, win] at hok; omega
  obtain ⟨g, off, cap, c1, c2, hs⟩ := rfP_out hA hs
  go_enter Try.func81, Try.ntmps81
  go_wp2_with fail
  go_quiet (fail)
  go_wp2_with fail
  go_returns
  refine ⟨rfl, rfP_of (v := .slice (some ⟨g, off, none⟩) 64 cap) ?_⟩
  rw [show learn A 24 a b v = A from rfl]
  exact own_left
set_option maxRecDepth 100000 in
set_option maxHeartbeats 8000000 in
theorem rfLearn3 (pb : Nat) (A : Au) (a b v : Nat) (cy co : Int) (w0 w : World) (F : HP) (hs : Sat w0 w (rfP pb A * F)) (hA : AOk A) (hok : okN 3 a b v = true) (hv : v < 4294967296) :
    Calls Try.prog 81 #[.pointer (some ⟨pb, 0, none⟩), evA 3 a b v cy co] w (RetV w0 (.tuple #[]) (rfP pb (learn A 3 a b v) * F)) := by
  have ha : a < 16 := by simp [okN, shp, win] at hok; omega
  have i1 : (a : Int) < 16 := by omega
  have i2 : decide (a < 16) = true := by simp; omega
  haveI : Lt a A.pn.length := ⟨by rw [hA.lp]; omega⟩
  have hb : b < 256 := by simp [okN, shp, win] at hok; omega
  obtain ⟨g, off, cap, c1, c2, hs⟩ := rfP_out hA hs
  go_enter Try.func81, Try.ntmps81
  go_wp2_with fail
  go_quiet (fail)
  go_wp2_with fail
  go_returns
  refine ⟨rfl, rfP_of (v := .slice (some ⟨g, off, none⟩) 64 cap) ?_⟩
  rw [show learn A 3 a b v = { A with pn := A.pn.set a false, isr := (a : Int) + 1 } from rfl]
  dsimp only [setT, tkAt, duEv]
  rw [Int.add_sub_cancel]
  exact own_left
set_option maxRecDepth 100000 in
set_option maxHeartbeats 8000000 in
theorem rfLearn4 (pb : Nat) (A : Au) (a b v : Nat) (cy co : Int) (w0 w : World) (F : HP) (hs : Sat w0 w (rfP pb A * F)) (hA : AOk A) (hok : okN 4 a b v = true) (hv : v < 4294967296) :
    Calls Try.prog 81 #[.pointer (some ⟨pb, 0, none⟩), evA 4 a b v cy co] w (RetV w0 (.tuple #[]) (rfP pb (learn A 4 a b v) * F)) := by
  have ha : a < 16 := by simp [okN, shp, win] at hok; omega
  have i1 : (a : Int) < 16 := by omega
  have i2 : decide (a < 16) = true := by simp; omega
  haveI : Lt a A.pn.length := ⟨by rw [hA.lp]; omega⟩
  have hb : b < 256 := by simp [okN, shp, win] at hok; omega
  obtain ⟨g, off, cap, c1, c2, hs⟩ := rfP_out hA hs
  go_enter Try.func81, Try.ntmps81
  go_wp2_with fail
  go_quiet (fail)
  go_wp2_with fail
  go_returns
  refine ⟨rfl, rfP_of (v := .slice (some ⟨g, off, none⟩) 64 cap) ?_⟩
  rw [show learn A 4 a b v = { A with isr := 0 } from rfl]
  dsimp only [setT, tkAt, duEv]
  rw [show (0 : Int) - 1 = -1 from rfl]
  exact own_left
set_option maxRecDepth 100000 in
set_option maxHeartbeats 8000000 in
theorem rfLearn5 (pb : Nat) (A : Au) (a b v : Nat) (cy co : Int) (w0 w : World) (F : HP) (hs : Sat w0 w (rfP pb A * F)) (hA : AOk A) (hok : okN 5 a b v = true) (hv : v < 4294967296) :
    Calls Try.prog 81 #[.pointer (some ⟨pb, 0, none⟩), evA 5 a b v cy co] w (RetV w0 (.tuple #[]) (rfP pb (learn A 5 a b v) * F)) := by
  have ha : a < 256 := by simp [okN, shp, win] at hok; omega
  have hb : b < 256 := by simp [okN, shp, win] at hok; omega
  have Hrn : Hid (rn (if a = 255 then 0 else (a : Int) + 1) = (a : Int)) := by
    unfold Hid rn
    by_cases h : a = 255
    · subst h; rfl
    · rw [if_neg h, if_neg (by omega)]; omega
  obtain ⟨g, off, cap, c1, c2, hs⟩ := rfP_out hA hs
  go_enter Try.func81, Try.ntmps81
  go_wp2_with fail
  go_quiet (fail)
  go_wp2_with fail
  go_returns
  refine ⟨rfl, rfP_of (v := .slice (some ⟨g, off, none⟩) 64 cap) ?_⟩
  rw [show learn A 5 a b v = { A with run := if a = 255 then 0 else (a : Int) + 1 } from rfl]
  dsimp only [setT, tkAt, duEv]
  rw [Hrn.out]
  exact own_left
set_option maxRecDepth 100000 in
set_option maxHeartbeats 8000000 in
theorem rfLearn6 (pb : Nat) (A : Au) (a b v : Nat) (cy co : Int) (w0 w : World) (F : HP) (hs : Sat w0 w (rfP pb A * F)) (hA : AOk A) (hok : okN 6 a b v = true) (hv : v < 4294967296) :
    Calls Try.prog 81 #[.pointer (some ⟨pb, 0, none⟩), evA 6 a b v cy co] w (RetV w0 (.tuple #[]) (rfP pb (learn A 6 a b v) * F)) := by
  have ha : a < 64 := by simp [okN, shp, win] at hok; omega
  have i1 : (a : Int) < 64 := by omega
  have i2 : decide (a < 64) = true := by simp; omega
  haveI : Lt a A.ts.length := ⟨by rw [hA.lt]; omega⟩
  have hb : b < 256 := by simp [okN, shp, win] at hok; omega
  have hm := tkg_mem (l := A.ts) (k := a) this.lt
  have hl := hA.late _ hm
  have Hl := hid (learn6 A a b v)
  obtain ⟨g, off, cap, c1, c2, hs⟩ := rfP_out hA hs
  clear hm
  have q4 : IntKind.i64.wrap ((tkg A.ts a).late - 1) = (tkg A.ts a).late - 1 := by rw [IntKind.wrap_i64]; omega
  by_cases hp : 0 < (tkg A.ts a).late
  all_goals
    first
      | (have p1 : decide (0 < (tkg A.ts a).late) = true := by simp [hp]
         have Hm : Hid (max ((tkg A.ts a).late - 1) 0 = (tkg A.ts a).late - 1) := by unfold Hid; omega)
      | (have p1 : decide (0 < (tkg A.ts a).late) = false := by simp [hp]
         have Hm : Hid (max ((tkg A.ts a).late - 1) 0 = (tkg A.ts a).late) := by unfold Hid; omega)
    clear hp
    go_enter Try.func81, Try.ntmps81
    go_wp2_with fail
    go_quiet (fail)
    go_wp2_with fail
    refine wp_gen (w0 := w0) ?_; intro wx hsx; go_still_tail 9, (by kernel_rfl); change wpList _ _ _ _ _ wx.drew; go_wp2_with fail
    go_returns
    refine ⟨rfl, rfP_of (v := .slice (some ⟨g, off, none⟩) 64 cap) ?_⟩
    rw [Hl.out]
    dsimp only [setT, tkAt, duEv]
    rw [Hm.out]
    exact own_left
set_option maxRecDepth 100000 in
set_option maxHeartbeats 8000000 in
theorem rfLearn7 (pb : Nat) (A : Au) (a b v : Nat) (cy co : Int) (w0 w : World) (F : HP) (hs : Sat w0 w (rfP pb A * F)) (hA : AOk A) (hok : okN 7 a b v = true) (hv : v < 4294967296) :
    Calls Try.prog 81 #[.pointer (some ⟨pb, 0, none⟩), evA 7 a b v cy co] w (RetV w0 (.tuple #[]) (rfP pb (learn A 7 a b v) * F)) := by
  have ha : a < 64 := by simp [okN, shp, win] at hok; omega
  have i1 : (a : Int) < 64 := by omega
  have i2 : decide (a < 64) = true := by simp; omega
  haveI : Lt a A.ts.length := ⟨by rw [hA.lt]; omega⟩
  have hb : b < 256 := by simp [okN, shp, win] at hok; omega
  have Hl := hid (learn7 A a b v)
  obtain ⟨g, off, cap, c1, c2, hs⟩ := rfP_out hA hs
  go_enter Try.func81, Try.ntmps81
  go_wp2_with fail
  go_quiet (fail)
  go_wp2_with fail
  refine wp_gen (w0 := w0) ?_
  intro wz hsz
  go_still_tail 10, (by kernel_rfl)
  change wpList _ _ _ _ _ wz.drew
  go_wp2_with fail
  go_returns
  refine ⟨rfl, rfP_of (v := .slice (some ⟨g, off, none⟩) 64 cap) ?_⟩
  rw [Hl.out]
  dsimp only [setT, tkAt, duEv]
  exact own_left
set_option maxRecDepth 100000 in
set_option maxHeartbeats 8000000 in
theorem rfLearn8 (pb : Nat) (A : Au) (a b v : Nat) (cy co : Int) (w0 w : World) (F : HP) (hs : Sat w0 w (rfP pb A * F)) (hA : AOk A) (hok : okN 8 a b v = true) (hv : v < 4294967296) :
    Calls Try.prog 81 #[.pointer (some ⟨pb, 0, none⟩), evA 8 a b v cy co] w (RetV w0 (.tuple #[]) (rfP pb (learn A 8 a b v) * F)) := by
  have ha : a < 64 := by simp [okN, shp, win] at hok; omega
  have i1 : (a : Int) < 64 := by omega
  have i2 : decide (a < 64) = true := by simp; omega
  haveI : Lt a A.ts.length := ⟨by rw [hA.lt]; omega⟩
  have hb : b < 256 := by simp [okN, shp, win] at hok; omega
  have hm := tkg_mem (l := A.ts) (k := a) this.lt
  have hl := hA.late _ hm
  have Hl := hid (learn8 A a b v)
  obtain ⟨g, off, cap, c1, c2, hs⟩ := rfP_out hA hs
  clear hm
  by_cases hp : 0 < (tkg A.ts a).late
  all_goals
    first
      | (have p1 : decide (0 < (tkg A.ts a).late) = true := by simp [hp]
         have Hd : Hid ((if (tkAt A a).late > 0 then (⟨6, a, 0⟩ : Du) else A.due) = ⟨6, a, 0⟩) := by unfold Hid; exact if_pos hp)
      | (have p1 : decide (0 < (tkg A.ts a).late) = false := by simp [hp]
         have Hd : Hid ((if (tkAt A a).late > 0 then (⟨6, a, 0⟩ : Du) else A.due) = A.due) := by unfold Hid; exact if_neg hp)
    clear hp
    go_enter Try.func81, Try.ntmps81
    go_wp2_with fail
    go_quiet (fail)
    go_wp2_with fail
    go_returns
    refine ⟨rfl, rfP_of (v := .slice (some ⟨g, off, none⟩) 64 cap) ?_⟩
    rw [Hl.out, Hd.out]
    dsimp only [setT, tkAt, duEv]
    exact own_left
set_option maxRecDepth 100000 in
set_option maxHeartbeats 8000000 in
theorem rfLearn9 (pb : Nat) (A : Au) (a b v : Nat) (cy co : Int) (w0 w : World) (F : HP) (hs : Sat w0 w (rfP pb A * F)) (hA : AOk A) (hok : okN 9 a b v = true) (hv : v < 4294967296) :
    Calls Try.prog 81 #[.pointer (some ⟨pb, 0, none⟩), evA 9 a b v cy co] w (RetV w0 (.tuple #[]) (rfP pb (learn A 9 a b v) * F)) := by
  have ha : a < 64 := by simp [okN, shp, win] at hok; omega
  have i1 : (a : Int) < 64 := by omega
  have i2 : decide (a < 64) = true := by simp; omega
  haveI : Lt a A.ts.length := ⟨by rw [hA.lt]; omega⟩
  have hb : b < 256 := by simp [okN, shp, win] at hok; omega
  have Hl := hid (learn9 A a b v)
  obtain ⟨g, off, cap, c1, c2, hs⟩ := rfP_out hA hs
  go_enter Try.func81, Try.ntmps81
  go_wp2_with fail
  go_quiet (fail)
  go_wp2_with fail
  go_returns
  refine ⟨rfl, rfP_of (v := .slice (some ⟨g, off, none⟩) 64 cap) ?_⟩
  rw [Hl.out]
  dsimp only [setT, tkAt, duEv]
  exact own_left
set_option maxRecDepth 100000 in
set_option maxHeartbeats 8000000 in
theorem rfLearn10 (pb : Nat) (A : Au) (a b v : Nat) (cy co : Int) (w0 w : World) (F : HP) (hs : Sat w0 w (rfP pb A * F)) (hA : AOk A) (hok : okN 10 a b v = true) (hv : v < 4294967296) :
    Calls Try.prog 81 #[.pointer (some ⟨pb, 0, none⟩), evA 10 a b v cy co] w (RetV w0 (.tuple #[]) (rfP pb (learn A 10 a b v) * F)) := by
  have ha : a < 64 := by simp [okN, shp, win] at hok; omega
  have i1 : (a : Int) < 64 := by omega
  have i2 : decide (a < 64) = true := by simp; omega
  haveI : Lt a A.ts.length := ⟨by rw [hA.lt]; omega⟩
  have hb : b < 256 := by simp [okN, shp, win] at hok; omega
  have hm := tkg_mem (l := A.ts) (k := a) this.lt
  have hon := hA.on _ hm
  have Hl := hid (learn10 A a b v)
  obtain ⟨g, off, cap, c1, c2, hs⟩ := rfP_out hA hs
  clear hm
  by_cases hmu : isMu (tkg A.ts a).on = true
  · have hm32 : 32 ≤ (tkg A.ts a).on ∧ (tkg A.ts a).on < 64 := by simp [isMu] at hmu; omega
    have g1 : decide ((32 : Int) ≤ ((tkg A.ts a).on : Int)) = true := by simp; omega
    have g2 : decide (((tkg A.ts a).on : Int) ≤ 63) = true := by simp; omega
    have hsub : Hid ((((tkg A.ts a).on - 32 : Nat) : Int) = ((tkg A.ts a).on : Int) - 32) := by unfold Hid; omega
    have hm2 : isMu (tkAt A a).on = true := hmu
    rw [hm2] at Hl
    have Hl2 : Hid (learn A 10 a b v = { setT A a { tkAt A a with st := 1 } with due := ⟨12, a, (tkAt A a).on - 32⟩ }) := Hl
    clear Hl hmu hm2
    go_enter Try.func81, Try.ntmps81
    go_wp2_with fail
    go_quiet (fail)
    go_wp2_with fail
    go_returns
    refine ⟨rfl, rfP_of (v := .slice (some ⟨g, off, none⟩) 64 cap) ?_⟩
    rw [Hl2.out]
    dsimp only [setT, tkAt, duEv]
    dsimp only [evCells]
    rw [hsub.out]
    exact own_left
  · rw [Bool.not_eq_true] at hmu
    have hm32 : (tkg A.ts a).on < 32 ∨ 63 < (tkg A.ts a).on := by simp [isMu] at hmu; omega
    have hm2 : isMu (tkAt A a).on = false := hmu
    rw [hm2] at Hl
    have Hl2 : Hid (learn A 10 a b v = setT A a { tkAt A a with st := 1 }) := Hl
    clear Hl hmu hm2
    by_cases gq : 32 ≤ (tkg A.ts a).on
    · have g1 : decide ((32 : Int) ≤ ((tkg A.ts a).on : Int)) = true := by simp; omega
      have g2 : decide (((tkg A.ts a).on : Int) ≤ 63) = false := by simp; omega
      clear hm32
      go_enter Try.func81, Try.ntmps81
      go_wp2_with fail
      go_quiet (fail)
      go_wp2_with fail
      go_returns
      refine ⟨rfl, rfP_of (v := .slice (some ⟨g, off, none⟩) 64 cap) ?_⟩
      rw [Hl2.out]
      dsimp only [setT, tkAt, duEv]
      exact own_left
    · have g1 : decide ((32 : Int) ≤ ((tkg A.ts a).on : Int)) = false := by simp; omega
      clear hm32
      go_enter Try.func81, Try.ntmps81
      go_wp2_with fail
      go_quiet (fail)
      go_wp2_with fail
      go_returns
      refine ⟨rfl, rfP_of (v := .slice (some ⟨g, off, none⟩) 64 cap) ?_⟩
      rw [Hl2.out]
      dsimp only [setT, tkAt, duEv]
      exact own_left
set_option maxRecDepth 100000 in
set_option maxHeartbeats 8000000 in
theorem rfLearn11 (pb : Nat) (A : Au) (a b v : Nat) (cy co : Int) (w0 w : World) (F : HP) (hs : Sat w0 w (rfP pb A * F)) (hA : AOk A) (hok : okN 11 a b v = true) (hv : v < 4294967296) :
    Calls Try.prog 81 #[.pointer (some ⟨pb, 0, none⟩), evA 11 a b v cy co] w (RetV w0 (.tuple #[]) (rfP pb (learn A 11 a b v) * F)) := by
  have ha : a < 64 := by simp [okN, shp, win] at hok; omega
  have i1 : (a : Int) < 64 := by omega
  have i2 : decide (a < 64) = true := by simp; omega
  haveI : Lt a A.ts.length := ⟨by rw [hA.lt]; omega⟩
  have hb : b < 32 := by simp [okN, shp, win] at hok; omega
  obtain ⟨g, off, cap, c1, c2, hs⟩ := rfP_out hA hs
  go_enter Try.func81, Try.ntmps81
  go_wp2_with fail
  go_quiet (fail)
  go_wp2_with fail
  go_returns
  refine ⟨rfl, rfP_of (v := .slice (some ⟨g, off, none⟩) 64 cap) ?_⟩
  rw [show learn A 11 a b v = setT A a { tkAt A a with lev := (b : Int) + 1 } from rfl]
  dsimp only [setT, tkAt, duEv]
  exact own_left
set_option maxRecDepth 100000 in
set_option maxHeartbeats 8000000 in
theorem rfLearn12 (pb : Nat) (A : Au) (a b v : Nat) (cy co : Int) (w0 w : World) (F : HP) (hs : Sat w0 w (rfP pb A * F)) (hA : AOk A) (hok : okN 12 a b v = true) (hv : v < 4294967296) :
    Calls Try.prog 81 #[.pointer (some ⟨pb, 0, none⟩), evA 12 a b v cy co] w (RetV w0 (.tuple #[]) (rfP pb (learn A 12 a b v) * F)) := by
  have ha : a < 64 := by simp [okN, shp, win] at hok; omega
  have i1 : (a : Int) < 64 := by omega
  have i2 : decide (a < 64) = true := by simp; omega
  haveI : Lt a A.ts.length := ⟨by rw [hA.lt]; omega⟩
  have hb : b < 32 := by simp [okN, shp, win] at hok; omega
  have i3 : (b : Int) < 32 := by omega
  have i4 : decide (b < 32) = true := by simp; omega
  haveI : Lt b A.ow.length := ⟨by rw [hA.lo]; omega⟩
  obtain ⟨g, off, cap, c1, c2, hs⟩ := rfP_out hA hs
  go_enter Try.func81, Try.ntmps81
  go_wp2_with fail
  go_quiet (fail)
  go_wp2_with fail
  go_returns
  refine ⟨rfl, rfP_of (v := .slice (some ⟨g, off, none⟩) 64 cap) ?_⟩
  rw [show learn A 12 a b v = { A with ow := A.ow.set b ((a : Int) + 1) } from rfl]
  dsimp only [setT, tkAt, duEv]
  exact own_left
set_option maxRecDepth 100000 in
set_option maxHeartbeats 8000000 in
theorem rfLearn13 (pb : Nat) (A : Au) (a b v : Nat) (cy co : Int) (w0 w : World) (F : HP) (hs : Sat w0 w (rfP pb A * F)) (hA : AOk A) (hok : okN 13 a b v = true) (hv : v < 4294967296) :
    Calls Try.prog 81 #[.pointer (some ⟨pb, 0, none⟩), evA 13 a b v cy co] w (RetV w0 (.tuple #[]) (rfP pb (learn A 13 a b v) * F)) := by
  have ha : a < 64 := by simp [okN, shp, win] at hok; omega
  have i1 : (a : Int) < 64 := by omega
  have i2 : decide (a < 64) = true := by simp; omega
  haveI : Lt a A.ts.length := ⟨by rw [hA.lt]; omega⟩
  have hb : b < 32 := by simp [okN, shp, win] at hok; omega
  have i3 : (b : Int) < 32 := by omega
  have i4 : decide (b < 32) = true := by simp; omega
  haveI : Lt b A.ow.length := ⟨by rw [hA.lo]; omega⟩
  obtain ⟨g, off, cap, c1, c2, hs⟩ := rfP_out hA hs
  go_enter Try.func81, Try.ntmps81
  go_wp2_with fail
  go_quiet (fail)
  go_wp2_with fail
  go_returns
  refine ⟨rfl, rfP_of (v := .slice (some ⟨g, off, none⟩) 64 cap) ?_⟩
  rw [show learn A 13 a b v = { A with ow := A.ow.set b (-1 + 1) } from rfl]
  dsimp only [setT, tkAt, duEv]
  exact own_left
set_option maxRecDepth 100000 in
set_option maxHeartbeats 8000000 in
theorem rfLearn22 (pb : Nat) (A : Au) (a b v : Nat) (cy co : Int) (w0 w : World) (F : HP) (hs : Sat w0 w (rfP pb A * F)) (hA : AOk A) (hok : okN 22 a b v = true) (hv : v < 4294967296) :
    Calls Try.prog 81 #[.pointer (some ⟨pb, 0, none⟩), evA 22 a b v cy co] w (RetV w0 (.tuple #[]) (rfP pb (learn A 22 a b v) * F)) := by
  have ha : a < 64 := by simp [okN, shp, win] at hok; omega
  have i1 : (a : Int) < 64 := by omega
  have i2 : decide (a < 64) = true := by simp; omega
  haveI : Lt a A.ts.length := ⟨by rw [hA.lt]; omega⟩
  have hb : b < 256 := by simp [okN, shp, win] at hok; omega
  obtain ⟨g, off, cap, c1, c2, hs⟩ := rfP_out hA hs
  go_enter Try.func81, Try.ntmps81
  go_wp2_with fail
  go_quiet (fail)
  go_wp2_with fail
  go_returns
  refine ⟨rfl, rfP_of (v := .slice (some ⟨g, off, none⟩) 64 cap) ?_⟩
  rw [show learn A 22 a b v = setT A a { tkAt A a with st := 3 } from rfl]
  dsimp only [setT, tkAt, duEv]
  exact own_left
set_option maxRecDepth 100000 in
set_option maxHeartbeats 8000000 in
theorem rfLearn21 (pb : Nat) (A : Au) (a b v : Nat) (cy co : Int) (w0 w : World) (F : HP) (hs : Sat w0 w (rfP pb A * F)) (hA : AOk A) (hok : okN 21 a b v = true) (hv : v < 4294967296) :
    Calls Try.prog 81 #[.pointer (some ⟨pb, 0, none⟩), evA 21 a b v cy co] w (RetV w0 (.tuple #[]) (rfP pb (learn A 21 a b v) * F)) := by
  have ha : a < 80 := by simp [okN, shp, win] at hok; omega
  have hb : b < 256 := by simp [okN, shp, win] at hok; omega
  obtain ⟨g, off, cap, c1, c2, hs⟩ := rfP_out hA hs
  by_cases h1 : a < 64
  · have i1 : (a : Int) < 64 := by omega
    have i2 : decide (a < 64) = true := by simp; omega
    have i3 : decide ((64 : Int) ≤ (a : Int)) = false := by simp; omega
    have i4 : ¬ (64 : Int) ≤ (a : Int) := by omega
    haveI : Lt a A.ts.length := ⟨by rw [hA.lt]; omega⟩
    have Hl : Hid (learn A 21 a b v = setT A a { tkAt A a with st := 3 }) := by simp [Hid, learn, h1]
    go_enter Try.func81, Try.ntmps81
    go_wp2_with fail
    go_quiet (fail)
    go_wp2_with fail
    go_returns
    refine ⟨rfl, rfP_of (v := .slice (some ⟨g, off, none⟩) 64 cap) ?_⟩
    rw [Hl.out]
    dsimp only [setT, tkAt, duEv]
    exact own_left
  · have i3 : decide ((64 : Int) ≤ (a : Int)) = true := by simp; omega
    have i4 : (64 : Int) ≤ (a : Int) := by omega
    have Hl : Hid (learn A 21 a b v = { A with due := ⟨4, a - 64, 0⟩ }) := by simp [Hid, learn, h1]
    have hsub : Hid (((a - 64 : Nat) : Int) = (a : Int) - 64) := by unfold Hid; omega
    go_enter Try.func81, Try.ntmps81
    go_wp2_with fail
    go_quiet (fail)
    go_wp2_with fail
    go_returns
    refine ⟨rfl, rfP_of (v := .slice (some ⟨g, off, none⟩) 64 cap) ?_⟩
    rw [Hl.out]
    dsimp only [setT, tkAt, duEv]
    dsimp only [evCells]
    rw [hsub.out]
    exact own_left

theorem rfLearn (pb : Nat) (A : Au) (k a b v : Nat) (hk : 1 ≤ k ∧ k ≤ 24) (cy co : Int) (w0 w : World) (F : HP) (hs : Sat w0 w (rfP pb A * F)) (hA : AOk A) (hok : okN k a b v = true) (hv : v < 4294967296) :
    Calls Try.prog 81 #[.pointer (some ⟨pb, 0, none⟩), evA k a b v cy co] w (RetV w0 (.tuple #[]) (rfP pb (learn A k a b v) * F)) := by
  have h : k = 1 ∨ k = 2 ∨ k = 3 ∨ k = 4 ∨ k = 5 ∨ k = 6 ∨ k = 7 ∨ k = 8 ∨ k = 9 ∨ k = 10 ∨ k = 11 ∨ k = 12 ∨ k = 13 ∨ k = 14 ∨ k = 15 ∨ k = 16 ∨ k = 17 ∨ k = 18 ∨ k = 19 ∨ k = 20 ∨ k = 21 ∨ k = 22 ∨ k = 23 ∨ k = 24 := by omega
  rcases h with rfl | rfl | rfl | rfl | rfl | rfl | rfl | rfl | rfl | rfl | rfl | rfl | rfl | rfl | rfl | rfl | rfl | rfl | rfl | rfl | rfl | rfl | rfl | rfl
  · exact rfLearn1 pb A a b v cy co w0 w F hs hA hok hv
  · exact rfLearn2 pb A a b v cy co w0 w F hs hA hok hv
  · exact rfLearn3 pb A a b v cy co w0 w F hs hA hok hv
  · exact rfLearn4 pb A a b v cy co w0 w F hs hA hok hv
  · exact rfLearn5 pb A a b v cy co w0 w F hs hA hok hv
  · exact rfLearn6 pb A a b v cy co w0 w F hs hA hok hv
  · exact rfLearn7 pb A a b v cy co w0 w F hs hA hok hv
  · exact rfLearn8 pb A a b v cy co w0 w F hs hA hok hv
  · exact rfLearn9 pb A a b v cy co w0 w F hs hA hok hv
  · exact rfLearn10 pb A a b v cy co w0 w F hs hA hok hv
  · exact rfLearn11 pb A a b v cy co w0 w F hs hA hok hv
  · exact rfLearn12 pb A a b v cy co w0 w F hs hA hok hv
  · exact rfLearn13 pb A a b v cy co w0 w F hs hA hok hv
  · exact rfLearn14 pb A a b v cy co w0 w F hs hA hok hv
  · exact rfLearn15 pb A a b v cy co w0 w F hs hA hok hv
  · exact rfLearn16 pb A a b v cy co w0 w F hs hA hok hv
  · exact rfLearn17 pb A a b v cy co w0 w F hs hA hok hv
  · exact rfLearn18 pb A a b v cy co w0 w F hs hA hok hv
  · exact rfLearn19 pb A a b v cy co w0 w F hs hA hok hv
  · exact rfLearn20 pb A a b v cy co w0 w F hs hA hok hv
  · exact rfLearn21 pb A a b v cy co w0 w F hs hA hok hv
  · exact rfLearn22 pb A a b v cy co w0 w F hs hA hok hv
  · exact rfLearn23 pb A a b v cy co w0 w F hs hA hok hv
  · exact rfLearn24 pb A a b v cy co w0 w F hs hA hok hv
end Go.Proofs.Ytfphgcplpokigaa
