/-
  Audit: the contracts of lines, change, over.
-/
import Derived.Test.YtfphgcplpokigaaAuditC
namespace Go.Proofs.Ytfphgcplpokigaa
open Go.RowKit Go.Sx Go.Au
set_option linter.unusedSimpArgs false
set_option linter.unusedVariables false

/-- It tells whether an event keeps the rule of its kind, and knows then what there is to know. -/
def Aft (w0 : World) (pb : Nat) (A : Au) (k a b v : Nat) (had : Bool) (F : HP) (e : Ending) (w' : World) : Prop :=
  e = .returned (.bool (rule A k a b v had)) ∧ (rule A k a b v had = true → Sat w0 w' (auP pb (learn A k a b v) * F)) ∧ (rule A k a b v had = false → Sat w0 w' (pts pb 0 [.int .i64 A.seen, .bool false] * (F * any)))
theorem learn_seen (A : Au) (k a b v : Nat) : (learn A k a b v).seen = A.seen := by
  unfold learn setT
  repeat' (first | rfl | split)
section
variable {w0 w' : World} {pb : Nat} {A : Au} {k a b v : Nat} {had x : Bool} {F : HP}
theorem aft_no (hr : rule A k a b v had = false) (hx : x = false) (hs : Sat w0 w' (pts pb 0 [.int .i64 A.seen, .bool false] * (F * any))) : Aft w0 pb A k a b v had F (.returned (.bool x)) w' :=
  ⟨by rw [hr, hx], fun h => (by rw [hr] at h; cases h), fun _ => hs⟩
theorem aft_both (hx : x = rule A k a b v had) (hs : Sat w0 w' (auP pb (learn A k a b v) * F)) : Aft w0 pb A k a b v had F (.returned (.bool x)) w' := by
  refine ⟨by rw [hx], fun _ => hs, fun _ => ?_⟩
  have hs := auP_out hs
  rw [learn_seen] at hs
  exact own_left
end
abbrev evA (k a b v : Nat) (cy co : Int) : Value := .agg #[.int .i64 k, .int .u64 cy, .int .u64 co, .int .u32 a, .int .u32 b, .int .u32 v]

set_option maxRecDepth 100000 in
set_option maxHeartbeats 4000000 in
theorem auLines1 (pb : Nat) (A : Au) (a b v : Nat) (had : Bool) (cy co : Int) (w0 w : World) (F : HP) (hs : Sat w0 w (auP pb A * F)) (hA : AOk A) (ha : a < 16) :
    Calls Try.prog 91 #[.pointer (some ⟨pb, 0, none⟩), evA 1 a b v cy co] w (Aft w0 pb A 1 a b v had F) := by
  have hs := auP_out hs
  have d1 : decide (a < 16) = true := by simp; omega
  have i1 : (a : Int) < 16 := by omega
  haveI : Lt a A.pn.length := ⟨by rw [hA.lp]; omega⟩
  go_enter Try.func91, Try.ntmps91
  go_wp2_with fail
  go_quiet (fail); go_wp2_with fail
  refine wp_gen (w0 := w0) ?_; intro wx hsx; go_still_tail 6, (by kernel_rfl); change wpList _ _ _ _ _ wx.drew; go_wp2_with fail
  go_ret
  refine aft_both (by rw [show rule A 1 a b v had = (A.pn.getD a false == decide (b = 1)) from rfl, show decide (b = 1) = ((b : Int) == 1) by rw [Bool.eq_iff_iff]; simp; omega]; simp) (auP_of ?_); dsimp only [learn, setT, tkAt, owAt]; exact own_left
set_option maxRecDepth 100000 in
set_option maxHeartbeats 4000000 in
theorem auLines3 (pb : Nat) (A : Au) (a b v : Nat) (had : Bool) (cy co : Int) (w0 w : World) (F : HP) (hs : Sat w0 w (auP pb A * F)) (hA : AOk A) (ha : a < 16) :
    Calls Try.prog 91 #[.pointer (some ⟨pb, 0, none⟩), evA 3 a b v cy co] w (Aft w0 pb A 3 a b v had F) := by
  have hs := auP_out hs
  have d1 : decide (a < 16) = true := by simp; omega
  have i1 : (a : Int) < 16 := by omega
  haveI : Lt a A.pn.length := ⟨by rw [hA.lp]; omega⟩
  have Hr : Hid (rule A 3 a b v had = (decide (A.isr = 0) && A.pn.getD a false)) := rfl
  by_cases h1 : A.isr = 0
  all_goals
    first | have d2 : (A.isr == 0) = true := by simp [h1]
          | have d2 : (A.isr == 0) = false := by simp [h1]
    first | rw [decide_eq_true h1] at Hr | rw [decide_eq_false h1] at Hr
    clear h1
    go_enter Try.func91, Try.ntmps91
    go_wp2_with fail
    go_quiet (fail); go_wp2_with fail
    refine wp_gen (w0 := w0) ?_; intro wx hsx; go_still_tail 6, (by kernel_rfl); change wpList _ _ _ _ _ wx.drew; go_wp2_with fail
    go_ret
    refine aft_both (by rw [Hr.out]; simp) (auP_of ?_); dsimp only [learn, setT, tkAt, owAt]; exact own_left
set_option maxRecDepth 100000 in
set_option maxHeartbeats 4000000 in
theorem auLines4 (pb : Nat) (A : Au) (a b v : Nat) (had : Bool) (cy co : Int) (w0 w : World) (F : HP) (hs : Sat w0 w (auP pb A * F)) (ha : a < 16) :
    Calls Try.prog 91 #[.pointer (some ⟨pb, 0, none⟩), evA 4 a b v cy co] w (Aft w0 pb A 4 a b v had F) := by
  have hs := auP_out hs
  have i1 : (a : Int) < 16 := by omega
  go_enter Try.func91, Try.ntmps91
  go_wp2_with fail
  go_quiet (fail); go_wp2_with fail
  go_ret
  refine aft_both (by rw [Bool.eq_iff_iff]; simp [rule]) (auP_of ?_); dsimp only [learn, setT, tkAt, owAt]; exact own_left

set_option maxRecDepth 100000 in
set_option maxHeartbeats 4000000 in
theorem auOver (pb : Nat) (A : Au) (k a b v : Nat) (hk : k = 21 ∨ k = 22 ∧ a < 64) (had : Bool) (cy co : Int) (w0 w : World) (F : HP) (hs : Sat w0 w (auP pb A * F)) (hA : AOk A) (ha : a < 80) :
    Calls Try.prog 97 #[.pointer (some ⟨pb, 0, none⟩), evA k a b v cy co] w (Aft w0 pb A k a b v had F) := by
  have Hr : Hid (rule A k a b v had = acts A a) := by rcases hk with rfl | ⟨rfl, _⟩ <;> rfl
  have hs0 := hs
  have hs := auP_out hs
  by_cases h1 : a < 64
  · have d1 : decide ((a : Int) < 64) = true := by simp; omega
    have d2 : decide (a < 64) = true := by simp; omega
    have i1 : (a : Int) < 64 := by omega
    haveI : Lt a A.ts.length := ⟨by rw [hA.lt]; omega⟩
    have Hl : Hid (learn A k a b v = setT A a { tkAt A a with st := 3 }) := by rcases hk with rfl | ⟨rfl, _⟩ <;> simp [Hid, learn, h1]
    go_enter Try.func97, Try.ntmps97
    go_wp2_with fail
    refine (auActs pb A a w0 _ any (auP_of own_left) hA (by omega)).mono ?_
    rintro e w' ⟨rfl, rfl⟩
    rw [← Hr.out]
    go_wp2_with fail
    refine wp_gen (w0 := w0) ?_; intro wx hsx; go_still_tail 7, (by kernel_rfl); change wpList _ _ _ _ _ wx.drew; go_wp2_with fail
    go_ret
    refine aft_both rfl (auP_of ?_)
    rw [Hl.out]
    dsimp only [setT, tkAt]
    exact own_left
  · have d1 : decide ((a : Int) < 64) = false := by simp; omega
    obtain rfl : k = 21 := by omega
    have Hl : Hid (learn A 21 a b v = { A with due := ⟨4, a - 64, 0⟩ }) := by simp [Hid, learn, h1]
    have hsub : ((a - 64 : Nat) : Int) = (a : Int) - 64 := by omega
    go_enter Try.func97, Try.ntmps97
    go_wp2_with fail
    refine (auActs pb A a w0 _ any (auP_of own_left) hA (by omega)).mono ?_
    rintro e w' ⟨rfl, rfl⟩
    rw [← Hr.out]
    go_wp2_with fail
    go_ret
    refine aft_both rfl (auP_of ?_)
    rw [Hl.out]
    dsimp only [duCells]
    rw [hsub]
    exact own_left
end Go.Proofs.Ytfphgcplpokigaa
