/-
  Audit: the contracts of rests (a wake), owns.
-/
import Derived.Test.YtfphgcplpokigaaAuditG
namespace Go.Proofs.Ytfphgcplpokigaa
open Go.RowKit Go.Sx Go.Au
set_option linter.unusedSimpArgs false
set_option linter.unusedVariables false

set_option maxRecDepth 100000 in
set_option maxHeartbeats 8000000 in
theorem auRests10 (pb : Nat) (A : Au) (a b v : Nat) (had : Bool) (cy co : Int) (w0 w : World) (F : HP) (hs : Sat w0 w (auP pb A * F)) (hA : AOk A) (ha : a < 64) (hb : b < 2) :
    Calls Try.prog 95 #[.pointer (some ⟨pb, 0, none⟩), evA 10 a b v cy co] w (Aft w0 pb A 10 a b v had F) := by
  have hs := auP_out hs
  have hlt := hA.lt
  have hm := tkg_mem (l := A.ts) (k := a) (by omega)
  have hon := hA.on _ hm
  have Hr := hid (rule10 A a b v had)
  have Hl := hid (learn10 A a b v)
  have Hlt := hid hlt
  have i1 : (a : Int) < 64 := by omega
  have i2 : decide (a < 64) = true := by simp; omega
  haveI : Lt a A.ts.length := ⟨by omega⟩
  clear hlt hm
  have h2 : (tkg A.ts a).st = (tkAt A a).st := rfl
  have hon2 : (tkg A.ts a).on = (tkAt A a).on := rfl
  by_cases h1 : (tkAt A a).st = 2
  · have e1 : ((tkg A.ts a).st == 2) = true := by rw [h2]; simp [h1]
    rw [decide_eq_true h1, Bool.true_and] at Hr
    clear h1 h2
    by_cases h3 : (tkAt A a).on = 0
    · have e3 : (((tkg A.ts a).on : Int) == 0) = true := by rw [hon2]; simp [h3]
      rw [if_pos h3] at Hr
      rw [h3, show isMu 0 = false from rfl] at Hl
      have Hl2 : Hid (learn A 10 a b v = setT A a { tkAt A a with st := 1 }) := Hl
      clear Hl
      have Hmu : Hid (isMu (tkg A.ts a).on = false) := by rw [hon2, h3]; rfl
      clear h3 hon2
      go_enter Try.func95, Try.ntmps95
      go_wp2_with fail
      go_quiet (fail); go_wp2_with fail
      refine (auMutex _ hon _).mono ?_
      rintro e w' ⟨⟨z, rfl, hz⟩, rfl⟩
      rw [Hmu.out]
      clear hz
      go_wp2_with fail
      go_ret
      refine aft_both ?_ (auP_of ?_)
      · rw [Hr.out]; exact natBeq _ 0
      · rw [Hl2.out]
        dsimp only [setT, tkAt]
        exact own_left
    · have e3 : (((tkg A.ts a).on : Int) == 0) = false := by rw [hon2]; simp [h3]
      rw [if_neg h3] at Hr
      by_cases hmu : isMu (tkAt A a).on = true
      · have hm32 : (tkAt A a).on - 32 < 32 := by simp [isMu] at hmu; omega
        have i3 : (((tkAt A a).on - 32 : Nat) : Int) < 32 := by omega
        have i4 : decide ((tkAt A a).on - 32 < 32) = true := by simp; omega
        haveI : Lt ((tkAt A a).on - 32) A.ow.length := ⟨by rw [hA.lo]; omega⟩
        have Hmu : Hid (isMu (tkg A.ts a).on = true) := hmu
        rw [hmu] at Hr Hl
        have Hr2 : Hid (rule A 10 a b v had = (decide (b = 1) && decide (owg A.ow ((tkAt A a).on - 32) = 0))) := Hr
        clear hmu Hr
        have Hon2 := hid hon2
        clear h3 hon2
        generalize hmm : (tkAt A a).on - 32 = m at *
        have Hmm := hid hmm
        clear hmm
        have Hl2 : Hid (learn A 10 a b v = { setT A a { tkAt A a with st := 1 } with due := ⟨12, a, m⟩ }) := Hl
        clear Hl
        by_cases hb1 : b = 1
        all_goals
          first | (have f1 : ((b : Int) == 1) = true := by simp [hb1]) | (have f1 : ((b : Int) == 1) = false := by simp; omega)
          first | rw [decide_eq_true hb1, Bool.true_and] at Hr2 | rw [decide_eq_false hb1, Bool.false_and] at Hr2
          clear hb1
          go_enter Try.func95, Try.ntmps95
          go_wp2_with fail
          go_quiet (fail); go_wp2_with fail
          refine (auMutex _ hon _).mono ?_
          rintro e w' ⟨⟨z, rfl, hz⟩, rfl⟩
          obtain rfl : z = m := by rw [hz Hmu.out]; exact Hmm.out
          rw [Hmu.out]
          clear hz
          go_wp2_with fail
          go_ret
          refine aft_both ?_ (auP_of ?_)
          · first | (rw [Hr2.out]; done) | (rw [Hr2.out]; exact beqD _ _)
          · rw [Hl2.out]
            dsimp only [setT, tkAt, duCells]
            exact own_left
      · rw [Bool.not_eq_true] at hmu
        have Hmu : Hid (isMu (tkg A.ts a).on = false) := hmu
        rw [hmu] at Hr Hl
        have Hr2 : Hid (rule A 10 a b v had = true) := Hr
        have Hl2 : Hid (learn A 10 a b v = setT A a { tkAt A a with st := 1 }) := Hl
        clear hmu Hr Hl h3 hon2
        go_enter Try.func95, Try.ntmps95
        go_wp2_with fail
        go_quiet (fail); go_wp2_with fail
        refine (auMutex _ hon _).mono ?_
        rintro e w' ⟨⟨z, rfl, hz⟩, rfl⟩
        rw [Hmu.out]
        clear hz
        go_wp2_with fail
        go_ret
        refine aft_both ?_ (auP_of ?_)
        · rw [Hr2.out]
        · rw [Hl2.out]
          dsimp only [setT, tkAt, duCells]
          exact own_left
  · have e1 : ((tkg A.ts a).st == 2) = false := by rw [h2]; simp [h1]
    rw [decide_eq_false h1, Bool.false_and] at Hr
    clear h1 h2 hon2
    generalize hmu : isMu (tkg A.ts a).on = mu
    have Hmu := hid hmu
    clear hmu
    cases mu
    all_goals
      go_enter Try.func95, Try.ntmps95
      go_wp2_with fail
      go_quiet (fail); go_wp2_with fail
      refine (auMutex _ hon _).mono ?_
      rintro e w' ⟨⟨z, rfl, hz⟩, rfl⟩
      rw [Hmu.out]
      clear hz
      go_wp2_with fail
      go_ret
      exact aft_no Hr.out rfl own_left

theorem rule12 (A : Au) (a b v : Nat) (had : Bool) : rule A 12 a b v had = (decide (owAt A b = 0) && (had || acts A a)) := rfl
theorem rule13 (A : Au) (a b v : Nat) (had : Bool) : rule A 13 a b v had = (decide (owAt A b = (a : Int) + 1) && (decide ((tkAt A a).st = 3) || acts A a)) := rfl
theorem learn12 (A : Au) (a b v : Nat) : learn A 12 a b v = { A with ow := A.ow.set b ((a : Int) + 1) } := rfl
theorem learn13 (A : Au) (a b v : Nat) : learn A 13 a b v = { A with ow := A.ow.set b 0 } := rfl
set_option maxRecDepth 100000 in
set_option maxHeartbeats 8000000 in
theorem auOwns12 (pb : Nat) (A : Au) (a b v : Nat) (had : Bool) (cy co : Int) (w0 w : World) (F : HP) (hs : Sat w0 w (auP pb A * F)) (hA : AOk A) (ha : a < 64) (hb : b < 32) :
    Calls Try.prog 96 #[.pointer (some ⟨pb, 0, none⟩), evA 12 a b v cy co, .bool had] w (Aft w0 pb A 12 a b v had F) := by
  have hs := auP_out hs
  have Hr := hid (rule12 A a b v had)
  have Hl := hid (learn12 A a b v)
  have i1 : (b : Int) < 32 := by omega
  have i2 : decide (b < 32) = true := by simp; omega
  haveI : Lt b A.ow.length := ⟨by rw [hA.lo]; omega⟩
  have h2 : owg A.ow b = owAt A b := rfl
  generalize hx : acts A a = x at Hr
  have Hx := hid hx
  clear hx
  by_cases h1 : owAt A b = 0
  all_goals
    first | have e1 : (owg A.ow b == 0) = true := by rw [h2]; simp [h1]
          | have e1 : (owg A.ow b == 0) = false := by rw [h2]; simp [h1]
    first | rw [decide_eq_true h1, Bool.true_and] at Hr | rw [decide_eq_false h1, Bool.false_and] at Hr
    clear h1 h2
    cases had
    all_goals
      go_enter Try.func96, Try.ntmps96
      go_wp2_with fail
      go_quiet (fail); go_wp2_with fail
      try
        refine (auActsX pb A a _ Hx.out w0 _ any (auP_of own_left) hA (by omega)).mono ?_
        rintro e w' ⟨rfl, rfl⟩
        go_wp2_with fail
      go_ret
      refine aft_both ?_ (auP_of ?_)
      · first | (rw [Hr.out]; done) | (rw [Hr.out]; rfl)
      · rw [Hl.out]
        exact own_left
set_option maxRecDepth 100000 in
set_option maxHeartbeats 8000000 in
theorem auOwns13 (pb : Nat) (A : Au) (a b v : Nat) (had : Bool) (cy co : Int) (w0 w : World) (F : HP) (hs : Sat w0 w (auP pb A * F)) (hA : AOk A) (ha : a < 64) (hb : b < 32) :
    Calls Try.prog 96 #[.pointer (some ⟨pb, 0, none⟩), evA 13 a b v cy co, .bool had] w (Aft w0 pb A 13 a b v had F) := by
  have hs := auP_out hs
  have Hr := hid (rule13 A a b v had)
  have Hl := hid (learn13 A a b v)
  have i1 : (b : Int) < 32 := by omega
  have i2 : decide (b < 32) = true := by simp; omega
  have i3 : (a : Int) < 64 := by omega
  have i4 : decide (a < 64) = true := by simp; omega
  haveI : Lt b A.ow.length := ⟨by rw [hA.lo]; omega⟩
  haveI : Lt a A.ts.length := ⟨by rw [hA.lt]; omega⟩
  have h2 : owg A.ow b = owAt A b := rfl
  have h3 : (tkg A.ts a).st = (tkAt A a).st := rfl
  generalize hx : acts A a = x at Hr
  have Hx := hid hx
  clear hx
  by_cases h1 : owAt A b = (a : Int) + 1
  · have e1 : (owg A.ow b == (a : Int) + 1) = true := by rw [h2]; simp [h1]
    rw [decide_eq_true h1, Bool.true_and] at Hr
    by_cases h4 : (tkAt A a).st = 3
    · have e2 : ((tkg A.ts a).st == 3) = true := by rw [h3]; simp [h4]
      rw [decide_eq_true h4, Bool.true_or] at Hr
      clear h1 h2 h3 h4
      go_enter Try.func96, Try.ntmps96
      go_wp2_with fail
      go_quiet (fail); go_wp2_with fail; refine wp_gen (w0 := w0) ?_; intro wq hsq
      go_quiet (fail); go_wp2_with fail
      go_ret
      refine aft_both ?_ (auP_of ?_)
      · first | (rw [Hr.out]; done) | (rw [Hr.out]; rfl)
      · rw [Hl.out]
        exact own_left
    · have e2 : ((tkg A.ts a).st == 3) = false := by rw [h3]; simp [h4]
      rw [decide_eq_false h4, Bool.false_or] at Hr
      clear h1 h2 h3 h4
      cases x
      all_goals
        go_enter Try.func96, Try.ntmps96
        go_wp2_with fail
        go_quiet (fail); go_wp2_with fail; refine wp_gen (w0 := w0) ?_; intro wq hsq
        go_quiet ((go_at_call 92; exact quiet_eq (auActsX pb A a _ Hx.out w0 _ any (auP_of own_left) hA (by omega))))
        go_wp2_with fail
        go_ret
        refine aft_both ?_ (auP_of ?_)
        · first | (rw [Hr.out]; done) | (rw [Hr.out]; rfl)
        · rw [Hl.out]
          exact own_left
  · have e1 : (owg A.ow b == (a : Int) + 1) = false := by rw [h2]; simp [h1]
    rw [decide_eq_false h1, Bool.false_and] at Hr
    clear h1 h2 h3
    go_enter Try.func96, Try.ntmps96
    go_wp2_with fail
    go_quiet (fail); go_wp2_with fail; refine wp_gen (w0 := w0) ?_; intro wq hsq
    go_quiet (fail); go_wp2_with fail
    go_ret
    refine aft_both ?_ (auP_of ?_)
    · first | (rw [Hr.out]; done) | (rw [Hr.out]; rfl)
    · rw [Hl.out]
      exact own_left
end Go.Proofs.Ytfphgcplpokigaa
