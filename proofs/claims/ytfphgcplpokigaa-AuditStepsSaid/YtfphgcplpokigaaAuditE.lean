/-
  Audit: the contracts of change and jobs.
-/
import Derived.Test.YtfphgcplpokigaaAuditD
namespace Go.Proofs.Ytfphgcplpokigaa
open Go.RowKit Go.Sx Go.Au
set_option linter.unusedSimpArgs false
set_option linter.unusedVariables false

theorem all_next {ts : List Tk} {k : Nat} (hk : k < ts.length) (p : Tk → Bool) : (ts.take (k + 1)).all p = ((ts.take k).all p && p (tkg ts k)) := by
  rw [List.take_succ_eq_append_getElem hk, List.all_append]
  simp [tkg, List.getD, hk]
theorem rule5 (A : Au) (a b v : Nat) (had : Bool) : rule A 5 a b v had = (decide (A.isr = 0) && decide (A.run = if b = 255 then 0 else (b : Int) + 1) && (if a = 255 then nobody A else decide ((tkAt A a).st = 1))) := rfl

set_option maxRecDepth 100000 in
set_option maxHeartbeats 8000000 in
theorem auChange (pb : Nat) (A : Au) (a b v : Nat) (had : Bool) (cy co : Int) (w0 w : World) (F : HP) (hs : Sat w0 w (auP pb A * F)) (hA : AOk A) (ha : a < 64 ∨ a = 255) (hb : b < 64 ∨ b = 255) :
    Calls Try.prog 93 #[.pointer (some ⟨pb, 0, none⟩), evA 5 a b v cy co] w (Aft w0 pb A 5 a b v had F) := by
  have hs := auP_out hs
  have Hr := hid (rule5 A a b v had)
  generalize hwb : (if b = 255 then (0 : Int) else (b : Int) + 1) = wb at Hr
  generalize hO : (decide (A.isr = 0) && decide (A.run = wb)) = O at Hr
  have Hwb := hid hwb
  have HO := hid hO
  have hb2 : b < 256 := by omega
  have ha2 : a < 256 := by omega
  have Hb := hid hb
  have Ha := hid ha
  have hlt := hA.lt
  have Hlt := hid hlt
  clear hwb hb ha hO hlt
  by_cases h1 : b = 255
  all_goals
    first
      | have e1 : ((b : Int) != 255) = false := by simp [h1]
      | have e1 : ((b : Int) != 255) = true := by simp; omega
    have Hw2 := Hwb.out
    first | rw [if_pos h1] at Hw2 | rw [if_neg h1] at Hw2
    subst Hw2
    clear h1
    by_cases h2 : A.isr = 0
    all_goals
      first | have e2 : (A.isr == 0) = true := by simp [h2]
            | have e2 : (A.isr == 0) = false := by simp [h2]
      first | rw [decide_eq_true h2, Bool.true_and] at HO | rw [decide_eq_false h2, Bool.false_and] at HO
      clear h2
      by_cases h3 : a = 255
      · have e3 : ((a : Int) == 255) = true := by simp [h3]
        rw [if_pos h3] at Hr
        have Hl : Hid (learn A 5 a b v = { A with run := 0 }) := by simp [Hid, learn, h3]
        clear h3
        go_enter Try.func93, Try.ntmps93
        go_wp2_with fail
        go_loop [31, 6] (fun iv okv => ∃ (k : Nat) (x : Bool), k ≤ 64 ∧ iv = .int .i64 k ∧ okv = .bool x ∧ x = (O && (A.ts.take k).all fun t => decide (t.st ≠ 1))) (fun iv _ => 64 - (intOf iv).toNat)
        case atStart => exact ⟨0, _, by omega, rfl, rfl, by rw [← HO.out]; first | rfl | (rw [Bool.eq_iff_iff]; simp)⟩
        case round =>
          obtain ⟨k, x, hk, rfl, rfl, hx⟩ := hrel
          have Hx := hid hx
          clear hx
          by_cases hk64 : k < 64
          · have i1 : (k : Int) < 64 := by omega
            have i2 : decide (k < 64) = true := by simp; omega
            haveI : Lt k A.ts.length := ⟨by have := Hlt.out; omega⟩
            have Hn := hid (all_next (ts := A.ts) (k := k) (by have := Hlt.out; omega) (fun t => decide (t.st ≠ 1)))
            cases x
            all_goals
              go_wp2_with fail
              go_round
              case rel =>
                refine ⟨k + 1, _, by omega, by go_num, rfl, ?_⟩
                rw [Hn.out, ← Bool.and_assoc, ← Hx.out]
                first | rfl | (rw [Bool.eq_iff_iff]; simp)
              case measure => simp [intOf]; omega
          · have hke : k = 64 := by omega
            subst hke
            have i1 : ¬ ((64 : Int) < 64) := by omega
            go_wp2_with fail
            go_ret
            refine aft_both ?_ (auP_of ?_)
            · rw [Hr.out, nobody]
              have := Hx.out
              rw [List.take_of_length_le (by have := Hlt.out; omega)] at this
              rw [← this]
            · rw [Hl.out]
              exact own_left
      · have e3 : ((a : Int) == 255) = false := by simp; omega
        rw [if_neg h3] at Hr
        have Hl : Hid (learn A 5 a b v = { A with run := (a : Int) + 1 }) := by simp [Hid, learn, h3]
        have ha64 : a < 64 := by have := Ha.out; omega
        have i1 : (a : Int) < 64 := by omega
        have i2 : decide (a < 64) = true := by simp; omega
        haveI : Lt a A.ts.length := ⟨by have := Hlt.out; omega⟩
        clear h3
        first
          | (cases O
             all_goals
               have HO2 := HO.out
               rw [← Bool.beq_eq_decide_eq] at HO2
               go_enter Try.func93, Try.ntmps93
               go_wp2_with fail
               go_quiet (fail); go_wp2_with fail
               go_ret
               refine aft_both ?_ (auP_of ?_)
               · rw [Hr.out]; first | rfl | (rw [Bool.eq_iff_iff]; simp [tkAt])
               · rw [Hl.out]
                 exact own_left)
          | (have HO2 := HO.out
             subst HO2
             go_enter Try.func93, Try.ntmps93
             go_wp2_with fail
             go_quiet (fail); go_wp2_with fail
             go_ret
             refine aft_both ?_ (auP_of ?_)
             · rw [Hr.out]; first | rfl | (rw [Bool.eq_iff_iff]; simp [tkAt])
             · rw [Hl.out]
               exact own_left)
end Go.Proofs.Ytfphgcplpokigaa
