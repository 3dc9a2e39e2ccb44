/-
  Audit: the reference's rule, the other kinds, and all of them.
-/
import Derived.Test.YtfphgcplpokigaaAuditR
namespace Go.Proofs.Ytfphgcplpokigaa
open Go.RowKit Go.Sx Go.Au
set_option linter.unusedSimpArgs false
set_option linter.unusedVariables false

set_option maxRecDepth 100000 in
set_option maxHeartbeats 8000000 in
theorem rfRule9 (pb : Nat) (A : Au) (a b v : Nat) (had : Bool) (cy co : Int) (w0 w : World) (F : HP) (hs : Sat w0 w (rfP pb A * F)) (hA : AOk A) (hok : okN 9 a b v = true) (hv : v < 4294967296) :
    Calls Try.prog 80 #[.pointer (some ⟨pb, 0, none⟩), evA 9 a b v cy co, .bool had] w (RetV w0 (.bool (rule A 9 a b v had)) (rfP pb A * F)) := by
  have ha : a < 64 := by simp [okN, shp, win] at hok; omega
  have i1 : (a : Int) < 64 := by omega
  have i2 : decide (a < 64) = true := by simp; omega
  haveI : Lt a A.ts.length := ⟨by rw [hA.lt]; omega⟩
  have hb : b < 160 := by simp [okN, shp, win] at hok; omega
  have Hr := hid (rule9 A a b v had)
  generalize hx : acts A a = x at Hr
  have Hx := hid hx
  clear hx
  obtain ⟨g, off, cap, c1, c2, hs⟩ := rfP_out hA hs
  by_cases hmu : isMu b = true
  · have hm32 : 32 ≤ b ∧ b < 64 := by simp [isMu] at hmu; omega
    rw [hmu] at Hr
    have Hr2 : Hid (rule A 9 a b v had = (x && (decide (owg A.ow (b - 32) ≠ 0) && decide (owg A.ow (b - 32) ≠ (a : Int) + 1)))) := Hr
    clear Hr hmu
    generalize hmm : b - 32 = m at *
    have hbm : (b : Int) - 32 = (m : Int) := by omega
    have g1 : decide ((b : Int) < 32) = false := by simp; omega
    have g2 : decide ((63 : Int) < (b : Int)) = false := by simp; omega
    have i3 : (m : Int) < 32 := by omega
    have i4 : decide (m < 32) = true := by simp; omega
    haveI : Lt m A.ow.length := ⟨by rw [hA.lo]; omega⟩
    have hown := hA.own (owg A.ow m) (getD_mem (by rw [hA.lo]; omega) 0)
    have e0 : decide (1 ≤ owg A.ow m) = decide (owg A.ow m ≠ 0) := by rw [Bool.eq_iff_iff]; simp; omega
    have e1 : (owg A.ow m - 1 != (a : Int)) = decide (owg A.ow m ≠ (a : Int) + 1) := bneD2 _ _
    clear hmm hm32 hown
    generalize decide (owg A.ow m ≠ 0) = y0 at *
    generalize decide (owg A.ow m ≠ (a : Int) + 1) = y1 at *
    cases x <;> cases y0 <;> cases y1
    all_goals
      go_enter Try.func80, Try.ntmps80
      go_wp2_with fail
      go_quiet (fail)
      go_wp2_with fail
      refine (rfActsX pb A a _ Hx.out w0 _ any (rfP_of (v := .slice (some ⟨g, off, none⟩) 64 cap) own_left) hA (by omega)).mono ?_
      rintro e w' ⟨rfl, rfl⟩
      go_wp2_with fail
      go_ret
      exact ⟨retB (by first | (rw [Hr2.out]; done) | (rw [Hr2.out]; rfl)), rfP_of (v := .slice (some ⟨g, off, none⟩) 64 cap) own_left⟩
  · rw [Bool.not_eq_true] at hmu
    have hm32 : b < 32 ∨ 63 < b := by simp [isMu] at hmu; omega
    rw [hmu] at Hr
    have Hr2 : Hid (rule A 9 a b v had = x) := by unfold Hid; rw [Hr.out]; simp
    clear Hr hmu
    by_cases gq : b < 32
    · have g1 : decide ((b : Int) < 32) = true := by simp; omega
      clear hm32
      cases x
      all_goals
        go_enter Try.func80, Try.ntmps80
        go_wp2_with fail
        go_quiet (fail)
        go_wp2_with fail
        refine (rfActsX pb A a _ Hx.out w0 _ any (rfP_of (v := .slice (some ⟨g, off, none⟩) 64 cap) own_left) hA (by omega)).mono ?_
        rintro e w' ⟨rfl, rfl⟩
        go_wp2_with fail
        go_ret
        exact ⟨retB (by first | (rw [Hr2.out]; done) | (rw [Hr2.out]; rfl)), rfP_of (v := .slice (some ⟨g, off, none⟩) 64 cap) own_left⟩
    · have g1 : decide ((b : Int) < 32) = false := by simp; omega
      have g2 : decide ((63 : Int) < (b : Int)) = true := by simp; omega
      clear hm32
      cases x
      all_goals
        go_enter Try.func80, Try.ntmps80
        go_wp2_with fail
        go_quiet (fail)
        go_wp2_with fail
        refine (rfActsX pb A a _ Hx.out w0 _ any (rfP_of (v := .slice (some ⟨g, off, none⟩) 64 cap) own_left) hA (by omega)).mono ?_
        rintro e w' ⟨rfl, rfl⟩
        go_wp2_with fail
        go_ret
        exact ⟨retB (by first | (rw [Hr2.out]; done) | (rw [Hr2.out]; rfl)), rfP_of (v := .slice (some ⟨g, off, none⟩) 64 cap) own_left⟩
set_option maxRecDepth 100000 in
set_option maxHeartbeats 8000000 in
theorem rfRule10 (pb : Nat) (A : Au) (a b v : Nat) (had : Bool) (cy co : Int) (w0 w : World) (F : HP) (hs : Sat w0 w (rfP pb A * F)) (hA : AOk A) (hok : okN 10 a b v = true) (hv : v < 4294967296) :
    Calls Try.prog 80 #[.pointer (some ⟨pb, 0, none⟩), evA 10 a b v cy co, .bool had] w (RetV w0 (.bool (rule A 10 a b v had)) (rfP pb A * F)) := by
  have ha : a < 64 := by simp [okN, shp, win] at hok; omega
  have i1 : (a : Int) < 64 := by omega
  have i2 : decide (a < 64) = true := by simp; omega
  haveI : Lt a A.ts.length := ⟨by rw [hA.lt]; omega⟩
  have hb : b < 2 := by simp [okN, shp, win] at hok; omega
  have hm := tkg_mem (l := A.ts) (k := a) this.lt
  have hon := hA.on _ hm
  have Hr := hid (rule10 A a b v had)
  have h2 : (tkg A.ts a).st = (tkAt A a).st := rfl
  have hon2 : (tkAt A a).on = (tkg A.ts a).on := rfl
  obtain ⟨g, off, cap, c1, c2, hs⟩ := rfP_out hA hs
  clear hm
  by_cases h1 : (tkAt A a).st = 2
  · have e1 : ((tkg A.ts a).st != 2) = false := by rw [h2]; simp [h1]
    rw [decide_eq_true h1, Bool.true_and, hon2] at Hr
    clear h1 h2 hon2
    by_cases h3 : (tkg A.ts a).on = 0
    · have e3 : (((tkg A.ts a).on : Int) == 0) = true := by simp [h3]
      have g1 : decide (((tkg A.ts a).on : Int) < 32) = true := by simp; omega
      rw [if_pos h3] at Hr
      clear h3
      by_cases hb0 : b = 0
      all_goals
        first | have f1 : ((b : Int) != 0) = false := by simp [hb0]
              | have f1 : ((b : Int) != 0) = true := by simp; omega
        first | rw [decide_eq_true hb0] at Hr | rw [decide_eq_false hb0] at Hr
        clear hb0
        go_enter Try.func80, Try.ntmps80
        go_wp2_with fail
        go_quiet (fail)
        go_wp2_with fail
        go_ret
        exact ⟨retB (by first | (rw [Hr.out]; done) | (rw [Hr.out]; rfl)), rfP_of (v := .slice (some ⟨g, off, none⟩) 64 cap) own_left⟩
    · have e3 : (((tkg A.ts a).on : Int) == 0) = false := by simp [h3]
      rw [if_neg h3] at Hr
      clear h3
      by_cases hmu : isMu (tkg A.ts a).on = true
      · have hm32 : 32 ≤ (tkg A.ts a).on ∧ (tkg A.ts a).on < 64 := by simp [isMu] at hmu; omega
        rw [hmu] at Hr
        have Hr2 : Hid (rule A 10 a b v had = (decide (b = 1) && decide (owg A.ow ((tkg A.ts a).on - 32) = 0))) := Hr
        clear Hr hmu
        generalize hmm : (tkg A.ts a).on - 32 = m at *
        have hbm : ((tkg A.ts a).on : Int) - 32 = (m : Int) := by omega
        have g1 : decide (((tkg A.ts a).on : Int) < 32) = false := by simp; omega
        have g2 : decide ((63 : Int) < ((tkg A.ts a).on : Int)) = false := by simp; omega
        have i3 : (m : Int) < 32 := by omega
        have i4 : decide (m < 32) = true := by simp; omega
        haveI : Lt m A.ow.length := ⟨by rw [hA.lo]; omega⟩
        have hown := hA.own (owg A.ow m) (getD_mem (by rw [hA.lo]; omega) 0)
        have e0 : decide (owg A.ow m - 1 < 0) = decide (owg A.ow m = 0) := by rw [Bool.eq_iff_iff]; simp; omega
        clear hmm hm32 hown
        generalize decide (owg A.ow m = 0) = y0 at *
        by_cases hb1 : b = 1
        all_goals
          first | have f1 : ((b : Int) == 1) = true := by simp [hb1]
                | have f1 : ((b : Int) == 1) = false := by simp; omega
          first | rw [decide_eq_true hb1, Bool.true_and] at Hr2 | rw [decide_eq_false hb1, Bool.false_and] at Hr2
          clear hb1
          cases y0
          all_goals
            go_enter Try.func80, Try.ntmps80
            go_wp2_with fail
            go_quiet (fail)
            go_wp2_with fail
            go_ret
            exact ⟨retB (by first | (rw [Hr2.out]; done) | (rw [Hr2.out]; rfl)), rfP_of (v := .slice (some ⟨g, off, none⟩) 64 cap) own_left⟩
      · rw [Bool.not_eq_true] at hmu
        have hm32 : (tkg A.ts a).on < 32 ∨ 63 < (tkg A.ts a).on := by simp [isMu] at hmu; omega
        rw [hmu] at Hr
        have Hr2 : Hid (rule A 10 a b v had = true) := by unfold Hid; rw [Hr.out]; simp
        clear Hr hmu
        by_cases gq : (tkg A.ts a).on < 32
        · have g1 : decide (((tkg A.ts a).on : Int) < 32) = true := by simp; omega
          clear hm32
          go_enter Try.func80, Try.ntmps80
          go_wp2_with fail
          go_quiet (fail)
          go_wp2_with fail
          go_ret
          exact ⟨retB (by first | (rw [Hr2.out]; done) | (rw [Hr2.out]; rfl)), rfP_of (v := .slice (some ⟨g, off, none⟩) 64 cap) own_left⟩
        · have g1 : decide (((tkg A.ts a).on : Int) < 32) = false := by simp; omega
          have g2 : decide ((63 : Int) < ((tkg A.ts a).on : Int)) = true := by simp; omega
          clear hm32
          go_enter Try.func80, Try.ntmps80
          go_wp2_with fail
          go_quiet (fail)
          go_wp2_with fail
          go_ret
          exact ⟨retB (by first | (rw [Hr2.out]; done) | (rw [Hr2.out]; rfl)), rfP_of (v := .slice (some ⟨g, off, none⟩) 64 cap) own_left⟩
  · have e1 : ((tkg A.ts a).st != 2) = true := by rw [h2]; simp [h1]
    rw [decide_eq_false h1, Bool.false_and] at Hr
    clear h1 h2 hon2
    go_enter Try.func80, Try.ntmps80
    go_wp2_with fail
    go_quiet (fail)
    go_wp2_with fail
    go_ret
    exact ⟨retB (by first | (rw [Hr.out]; done) | (rw [Hr.out]; rfl)), rfP_of (v := .slice (some ⟨g, off, none⟩) 64 cap) own_left⟩
set_option maxRecDepth 100000 in
set_option maxHeartbeats 8000000 in
theorem rfRule16 (pb : Nat) (A : Au) (a b v : Nat) (had : Bool) (cy co : Int) (w0 w : World) (F : HP) (hs : Sat w0 w (rfP pb A * F)) (hA : AOk A) (hok : okN 16 a b v = true) (hv : v < 4294967296) :
    Calls Try.prog 80 #[.pointer (some ⟨pb, 0, none⟩), evA 16 a b v cy co, .bool had] w (RetV w0 (.bool (rule A 16 a b v had)) (rfP pb A * F)) := by
  have ha : a < 80 := by simp [okN, shp, win] at hok; omega
  have hb : b < 32 := by simp [okN, shp, win] at hok; omega
  have Hr := hid (rule16 A a b v had)
  have h3 : (tkg A.ts a).st = (tkAt A a).st := rfl
  have h4 : (tkg A.ts a).on = (tkAt A a).on := rfl
  generalize hx : acts A a = x at Hr
  have Hx := hid hx
  clear hx
  obtain ⟨g, off, cap, c1, c2, hs⟩ := rfP_out hA hs
  cases x
  · rw [Bool.or_false] at Hr
    by_cases h1 : a < 64
    · have i1 : (a : Int) < 64 := by omega
      have i2 : decide (a < 64) = true := by simp; omega
      have i3 : decide ((a : Int) < 64) = true := by simp; omega
      haveI : Lt a A.ts.length := ⟨by rw [hA.lt]; omega⟩
      have hon := hA.on _ (tkg_mem (l := A.ts) (k := a) this.lt)
      by_cases h2 : (tkAt A a).st = 2
      · have e2 : ((tkg A.ts a).st == 2) = true := by rw [h3]; simp [h2]
        by_cases h5 : (tkAt A a).on = 96 + b
        · have e3 : (((tkg A.ts a).on : Int) == 96 + (b : Int)) = true := by rw [h4]; simp; omega
          rw [decide_eq_true ⟨h1, h2, h5⟩] at Hr
          clear h1 h2 h3 h4 h5
          go_enter Try.func80, Try.ntmps80
          go_wp2_with fail
          go_quiet (fail)
          go_wp2_with fail
          refine (rfActsX pb A a _ Hx.out w0 _ any (rfP_of (v := .slice (some ⟨g, off, none⟩) 64 cap) own_left) hA (by omega)).mono ?_
          rintro e w' ⟨rfl, rfl⟩
          go_wp2_with fail
          go_ret
          exact ⟨retB (by first | (rw [Hr.out]; done) | (rw [Hr.out]; rfl)), rfP_of (v := .slice (some ⟨g, off, none⟩) 64 cap) own_left⟩
        · have e3 : (((tkg A.ts a).on : Int) == 96 + (b : Int)) = false := by rw [h4]; simp; omega
          rw [decide_eq_false (fun h => h5 h.2.2)] at Hr
          clear h1 h2 h3 h4 h5
          go_enter Try.func80, Try.ntmps80
          go_wp2_with fail
          go_quiet (fail)
          go_wp2_with fail
          refine (rfActsX pb A a _ Hx.out w0 _ any (rfP_of (v := .slice (some ⟨g, off, none⟩) 64 cap) own_left) hA (by omega)).mono ?_
          rintro e w' ⟨rfl, rfl⟩
          go_wp2_with fail
          go_ret
          exact ⟨retB (by first | (rw [Hr.out]; done) | (rw [Hr.out]; rfl)), rfP_of (v := .slice (some ⟨g, off, none⟩) 64 cap) own_left⟩
      · have e2 : ((tkg A.ts a).st == 2) = false := by rw [h3]; simp [h2]
        rw [decide_eq_false (fun h => h2 h.2.1)] at Hr
        clear h1 h2 h3 h4
        go_enter Try.func80, Try.ntmps80
        go_wp2_with fail
        go_quiet (fail)
        go_wp2_with fail
        refine (rfActsX pb A a _ Hx.out w0 _ any (rfP_of (v := .slice (some ⟨g, off, none⟩) 64 cap) own_left) hA (by omega)).mono ?_
        rintro e w' ⟨rfl, rfl⟩
        go_wp2_with fail
        go_ret
        exact ⟨retB (by first | (rw [Hr.out]; done) | (rw [Hr.out]; rfl)), rfP_of (v := .slice (some ⟨g, off, none⟩) 64 cap) own_left⟩
    · have i3 : decide ((a : Int) < 64) = false := by simp; omega
      rw [decide_eq_false (fun h => h1 h.1)] at Hr
      clear h1 h3 h4
      go_enter Try.func80, Try.ntmps80
      go_wp2_with fail
      go_quiet (fail)
      go_wp2_with fail
      refine (rfActsX pb A a _ Hx.out w0 _ any (rfP_of (v := .slice (some ⟨g, off, none⟩) 64 cap) own_left) hA (by omega)).mono ?_
      rintro e w' ⟨rfl, rfl⟩
      go_wp2_with fail
      go_ret
      exact ⟨retB (by first | (rw [Hr.out]; done) | (rw [Hr.out]; rfl)), rfP_of (v := .slice (some ⟨g, off, none⟩) 64 cap) own_left⟩
  · rw [Bool.or_true] at Hr
    clear h3 h4
    go_enter Try.func80, Try.ntmps80
    go_wp2_with fail
    go_quiet (fail)
    go_wp2_with fail
    refine (rfActsX pb A a _ Hx.out w0 _ any (rfP_of (v := .slice (some ⟨g, off, none⟩) 64 cap) own_left) hA (by omega)).mono ?_
    rintro e w' ⟨rfl, rfl⟩
    go_wp2_with fail
    go_ret
    exact ⟨retB (by first | (rw [Hr.out]; done) | (rw [Hr.out]; rfl)), rfP_of (v := .slice (some ⟨g, off, none⟩) 64 cap) own_left⟩
set_option maxRecDepth 100000 in
set_option maxHeartbeats 8000000 in
theorem rfRule17 (pb : Nat) (A : Au) (a b v : Nat) (had : Bool) (cy co : Int) (w0 w : World) (F : HP) (hs : Sat w0 w (rfP pb A * F)) (hA : AOk A) (hok : okN 17 a b v = true) (hv : v < 4294967296) :
    Calls Try.prog 80 #[.pointer (some ⟨pb, 0, none⟩), evA 17 a b v cy co, .bool had] w (RetV w0 (.bool (rule A 17 a b v had)) (rfP pb A * F)) := by
  have ha : a < 80 := by simp [okN, shp, win] at hok; omega
  have hb : b < 32 := by simp [okN, shp, win] at hok; omega
  have Hr := hid (rule17 A a b v had)
  have h3 : (tkg A.ts a).st = (tkAt A a).st := rfl
  have h4 : (tkg A.ts a).on = (tkAt A a).on := rfl
  generalize hx : acts A a = x at Hr
  have Hx := hid hx
  clear hx
  obtain ⟨g, off, cap, c1, c2, hs⟩ := rfP_out hA hs
  cases x
  · rw [Bool.or_false] at Hr
    by_cases h1 : a < 64
    · have i1 : (a : Int) < 64 := by omega
      have i2 : decide (a < 64) = true := by simp; omega
      have i3 : decide ((a : Int) < 64) = true := by simp; omega
      haveI : Lt a A.ts.length := ⟨by rw [hA.lt]; omega⟩
      have hon := hA.on _ (tkg_mem (l := A.ts) (k := a) this.lt)
      by_cases h2 : (tkAt A a).st = 2
      · have e2 : ((tkg A.ts a).st == 2) = true := by rw [h3]; simp [h2]
        by_cases h5 : (tkAt A a).on = 128 + b
        · have e3 : (((tkg A.ts a).on : Int) == 128 + (b : Int)) = true := by rw [h4]; simp; omega
          rw [decide_eq_true ⟨h1, h2, h5⟩] at Hr
          clear h1 h2 h3 h4 h5
          go_enter Try.func80, Try.ntmps80
          go_wp2_with fail
          go_quiet (fail)
          go_wp2_with fail
          refine (rfActsX pb A a _ Hx.out w0 _ any (rfP_of (v := .slice (some ⟨g, off, none⟩) 64 cap) own_left) hA (by omega)).mono ?_
          rintro e w' ⟨rfl, rfl⟩
          go_wp2_with fail
          go_ret
          exact ⟨retB (by first | (rw [Hr.out]; done) | (rw [Hr.out]; rfl)), rfP_of (v := .slice (some ⟨g, off, none⟩) 64 cap) own_left⟩
        · have e3 : (((tkg A.ts a).on : Int) == 128 + (b : Int)) = false := by rw [h4]; simp; omega
          rw [decide_eq_false (fun h => h5 h.2.2)] at Hr
          clear h1 h2 h3 h4 h5
          go_enter Try.func80, Try.ntmps80
          go_wp2_with fail
          go_quiet (fail)
          go_wp2_with fail
          refine (rfActsX pb A a _ Hx.out w0 _ any (rfP_of (v := .slice (some ⟨g, off, none⟩) 64 cap) own_left) hA (by omega)).mono ?_
          rintro e w' ⟨rfl, rfl⟩
          go_wp2_with fail
          go_ret
          exact ⟨retB (by first | (rw [Hr.out]; done) | (rw [Hr.out]; rfl)), rfP_of (v := .slice (some ⟨g, off, none⟩) 64 cap) own_left⟩
      · have e2 : ((tkg A.ts a).st == 2) = false := by rw [h3]; simp [h2]
        rw [decide_eq_false (fun h => h2 h.2.1)] at Hr
        clear h1 h2 h3 h4
        go_enter Try.func80, Try.ntmps80
        go_wp2_with fail
        go_quiet (fail)
        go_wp2_with fail
        refine (rfActsX pb A a _ Hx.out w0 _ any (rfP_of (v := .slice (some ⟨g, off, none⟩) 64 cap) own_left) hA (by omega)).mono ?_
        rintro e w' ⟨rfl, rfl⟩
        go_wp2_with fail
        go_ret
        exact ⟨retB (by first | (rw [Hr.out]; done) | (rw [Hr.out]; rfl)), rfP_of (v := .slice (some ⟨g, off, none⟩) 64 cap) own_left⟩
    · have i3 : decide ((a : Int) < 64) = false := by simp; omega
      rw [decide_eq_false (fun h => h1 h.1)] at Hr
      clear h1 h3 h4
      go_enter Try.func80, Try.ntmps80
      go_wp2_with fail
      go_quiet (fail)
      go_wp2_with fail
      refine (rfActsX pb A a _ Hx.out w0 _ any (rfP_of (v := .slice (some ⟨g, off, none⟩) 64 cap) own_left) hA (by omega)).mono ?_
      rintro e w' ⟨rfl, rfl⟩
      go_wp2_with fail
      go_ret
      exact ⟨retB (by first | (rw [Hr.out]; done) | (rw [Hr.out]; rfl)), rfP_of (v := .slice (some ⟨g, off, none⟩) 64 cap) own_left⟩
  · rw [Bool.or_true] at Hr
    clear h3 h4
    go_enter Try.func80, Try.ntmps80
    go_wp2_with fail
    go_quiet (fail)
    go_wp2_with fail
    refine (rfActsX pb A a _ Hx.out w0 _ any (rfP_of (v := .slice (some ⟨g, off, none⟩) 64 cap) own_left) hA (by omega)).mono ?_
    rintro e w' ⟨rfl, rfl⟩
    go_wp2_with fail
    go_ret
    exact ⟨retB (by first | (rw [Hr.out]; done) | (rw [Hr.out]; rfl)), rfP_of (v := .slice (some ⟨g, off, none⟩) 64 cap) own_left⟩
theorem rn_b {r : Int} (h : 0 ≤ r ∧ r ≤ 64) {b : Nat} (hb : b < 64 ∨ b = 255) : (rn r != (b : Int)) = !decide (r = if b = 255 then 0 else (b : Int) + 1) := by
  unfold rn
  rw [Bool.eq_iff_iff]
  simp only [bne_iff_ne, Bool.not_eq_true', decide_eq_false_iff_not, ne_eq]
  split <;> split <;> omega
set_option maxRecDepth 100000 in
set_option maxHeartbeats 8000000 in
theorem rfRule5 (pb : Nat) (A : Au) (a b v : Nat) (had : Bool) (cy co : Int) (w0 w : World) (F : HP) (hs : Sat w0 w (rfP pb A * F)) (hA : AOk A) (hok : okN 5 a b v = true) (hv : v < 4294967296) :
    Calls Try.prog 80 #[.pointer (some ⟨pb, 0, none⟩), evA 5 a b v cy co, .bool had] w (RetV w0 (.bool (rule A 5 a b v had)) (rfP pb A * F)) := by
  have ha : a < 64 ∨ a = 255 := by simp [okN, shp, win] at hok; omega
  have hb : b < 64 ∨ b = 255 := by simp [okN, shp, win] at hok; omega
  have hb2 : b < 256 := by omega
  have ha2 : a < 256 := by omega
  have hi := hA.isr
  have Hr := hid (rule5 A a b v had)
  have hrn := rn_b hA.run hb
  have Hlt := hid hA.lt
  have Ha := hid ha
  generalize decide (A.run = if b = 255 then 0 else (b : Int) + 1) = y at *
  clear hb ha
  obtain ⟨g, off, cap, c1, c2, hs⟩ := rfP_out hA hs
  by_cases h1 : A.isr = 0
  · have e1 : decide (1 ≤ A.isr) = false := by simp; omega
    rw [decide_eq_true h1, Bool.true_and] at Hr
    clear h1 hi
    cases y
    · rw [Bool.false_and] at Hr
      simp only [Bool.not_false] at hrn
      go_enter Try.func80, Try.ntmps80
      go_wp2_with fail
      go_quiet (fail)
      go_wp2_with fail
      go_ret
      exact ⟨retB (by first | (rw [Hr.out]; done) | (rw [Hr.out]; rfl)), rfP_of (v := .slice (some ⟨g, off, none⟩) 64 cap) own_left⟩
    · rw [Bool.true_and] at Hr
      simp only [Bool.not_true] at hrn
      by_cases h3 : a = 255
      · have e3 : ((a : Int) != 255) = false := by simp [h3]
        rw [if_pos h3] at Hr
        clear h3
        go_enter Try.func80, Try.ntmps80
        go_wp2_with fail
        go_quiet (fail)
        go_wp2_with fail
        refine wp_gen (w0 := w0) ?_
        intro wq hsq
        go_loop [9] (fun iv => ∃ k : Nat, k ≤ 64 ∧ iv = .int .i64 k ∧ ((A.ts.take k).all fun t => decide (t.st ≠ 1)) = true) (fun iv => 64 - (intOf iv).toNat)
        case atStart => exact ⟨0, by omega, rfl, by simp⟩
        case round =>
          obtain ⟨k, hk, rfl, hx⟩ := hrel
          have Hx := hid hx
          clear hx
          by_cases hk64 : k < 64
          · have i1 : (k : Int) < 64 := by omega
            have i2 : decide (k < 64) = true := by simp; omega
            haveI : Lt k A.ts.length := ⟨by have := Hlt.out; omega⟩
            have Hn := hid (all_next (ts := A.ts) (k := k) (by have := Hlt.out; omega) (fun t => decide (t.st ≠ 1)))
            by_cases h6 : (tkg A.ts k).st = 1
            · have e6 : ((tkg A.ts k).st == 1) = true := by simp [h6]
              have Hno : Hid (nobody A = false) := by
                unfold Hid nobody
                rw [List.all_eq_false]
                exact ⟨tkg A.ts k, tkg_mem (by have := Hlt.out; omega), by simp [h6]⟩
              clear h6
              go_wp2_with fail
              go_ret
              exact ⟨retB (by rw [Hr.out, Hno.out]), rfP_of (v := .slice (some ⟨g, off, none⟩) 64 cap) own_left⟩
            · have e6 : ((tkg A.ts k).st == 1) = false := by simp [h6]
              have H6 : Hid (((A.ts.take (k + 1)).all fun t => decide (t.st ≠ 1)) = true) := by
                unfold Hid; rw [Hn.out, Hx.out]; simp [h6]
              clear h6
              go_wp2_with fail
              go_round
              case rel => exact ⟨k + 1, by omega, by go_num, H6.out⟩
              case measure => simp [intOf]; omega
          · have hke : k = 64 := by omega
            subst hke
            have Hno : Hid (nobody A = true) := by
              unfold Hid nobody
              have := Hx.out
              rwa [List.take_of_length_le (by have := Hlt.out; omega)] at this
            go_wp2_with fail
            go_ret
            exact ⟨retB (by rw [Hr.out, Hno.out]), rfP_of (v := .slice (some ⟨g, off, none⟩) 64 cap) own_left⟩
      · have e3 : ((a : Int) != 255) = true := by simp; omega
        rw [if_neg h3] at Hr
        have ha64 : a < 64 := by have := Ha.out; omega
        have i1 : (a : Int) < 64 := by omega
        have i2 : decide (a < 64) = true := by simp; omega
        haveI : Lt a A.ts.length := ⟨by have := Hlt.out; omega⟩
        clear h3
        go_enter Try.func80, Try.ntmps80
        go_wp2_with fail
        go_quiet (fail)
        go_wp2_with fail
        go_ret
        exact ⟨retB (by rw [Hr.out]; exact beqD _ _), rfP_of (v := .slice (some ⟨g, off, none⟩) 64 cap) own_left⟩
  · have e1 : decide (1 ≤ A.isr) = true := by simp; omega
    rw [decide_eq_false h1, Bool.false_and, Bool.false_and] at Hr
    clear h1
    go_enter Try.func80, Try.ntmps80
    go_wp2_with fail
    go_quiet (fail)
    go_wp2_with fail
    go_ret
    exact ⟨retB (by first | (rw [Hr.out]; done) | (rw [Hr.out]; rfl)), rfP_of (v := .slice (some ⟨g, off, none⟩) 64 cap) own_left⟩

theorem rfRule (pb : Nat) (A : Au) (k a b v : Nat) (hk : 1 ≤ k ∧ k ≤ 24) (had : Bool) (cy co : Int) (w0 w : World) (F : HP) (hs : Sat w0 w (rfP pb A * F)) (hA : AOk A) (hok : okN k a b v = true) (hv : v < 4294967296) :
    Calls Try.prog 80 #[.pointer (some ⟨pb, 0, none⟩), evA k a b v cy co, .bool had] w (RetV w0 (.bool (rule A k a b v had)) (rfP pb A * F)) := by
  have h : k = 1 ∨ k = 2 ∨ k = 3 ∨ k = 4 ∨ k = 5 ∨ k = 6 ∨ k = 7 ∨ k = 8 ∨ k = 9 ∨ k = 10 ∨ k = 11 ∨ k = 12 ∨ k = 13 ∨ k = 14 ∨ k = 15 ∨ k = 16 ∨ k = 17 ∨ k = 18 ∨ k = 19 ∨ k = 20 ∨ k = 21 ∨ k = 22 ∨ k = 23 ∨ k = 24 := by omega
  rcases h with rfl | rfl | rfl | rfl | rfl | rfl | rfl | rfl | rfl | rfl | rfl | rfl | rfl | rfl | rfl | rfl | rfl | rfl | rfl | rfl | rfl | rfl | rfl | rfl
  · exact rfRule1 pb A a b v had cy co w0 w F hs hA hok hv
  · exact rfRule2 pb A a b v had cy co w0 w F hs hA hok hv
  · exact rfRule3 pb A a b v had cy co w0 w F hs hA hok hv
  · exact rfRule4 pb A a b v had cy co w0 w F hs hA hok hv
  · exact rfRule5 pb A a b v had cy co w0 w F hs hA hok hv
  · exact rfRule6 pb A a b v had cy co w0 w F hs hA hok hv
  · exact rfRule7 pb A a b v had cy co w0 w F hs hA hok hv
  · exact rfRule8 pb A a b v had cy co w0 w F hs hA hok hv
  · exact rfRule9 pb A a b v had cy co w0 w F hs hA hok hv
  · exact rfRule10 pb A a b v had cy co w0 w F hs hA hok hv
  · exact rfRule11 pb A a b v had cy co w0 w F hs hA hok hv
  · exact rfRule12 pb A a b v had cy co w0 w F hs hA hok hv
  · exact rfRule13 pb A a b v had cy co w0 w F hs hA hok hv
  · exact rfRule14 pb A a b v had cy co w0 w F hs hA hok hv
  · exact rfRule15 pb A a b v had cy co w0 w F hs hA hok hv
  · exact rfRule16 pb A a b v had cy co w0 w F hs hA hok hv
  · exact rfRule17 pb A a b v had cy co w0 w F hs hA hok hv
  · exact rfRule18 pb A a b v had cy co w0 w F hs hA hok hv
  · exact rfRule19 pb A a b v had cy co w0 w F hs hA hok hv
  · exact rfRule20 pb A a b v had cy co w0 w F hs hA hok hv
  · exact rfRule21 pb A a b v had cy co w0 w F hs hA hok hv
  · exact rfRule22 pb A a b v had cy co w0 w F hs hA hok hv
  · exact rfRule23 pb A a b v had cy co w0 w F hs hA hok hv
  · exact rfRule24 pb A a b v had cy co w0 w F hs hA hok hv
end Go.Proofs.Ytfphgcplpokigaa
