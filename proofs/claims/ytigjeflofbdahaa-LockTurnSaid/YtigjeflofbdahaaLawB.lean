/-
  More small laws on owned memory. Nothing of any program stands here.
-/
import Derived.Test.YtigjeflofbdahaaLaw
namespace Go.Sx
open Go.RowKit
section
variable {w0 w : World} {F : HP} {b o : Nat} {u v x : Value} {xs : List Value}
theorem Sat.c1 (hs : Sat w0 w (pts b o (u :: v :: xs) * F)) : w.cell? ⟨b, o + 1, none⟩ = some v := hs.cell (j := 1) rfl
theorem Sat.c2 (hs : Sat w0 w (pts b o (u :: v :: x :: xs) * F)) : w.cell? ⟨b, o + 2, none⟩ = some x := hs.cell (j := 2) rfl
theorem Sat.c01 (hs : Sat w0 w (pts b 0 (u :: v :: xs) * F)) : w.cell? ⟨b, 1, none⟩ = some v := by
  have := hs.cell (j := 1) rfl
  simpa using this
theorem Sat.c02 (hs : Sat w0 w (pts b 0 (u :: v :: x :: xs) * F)) : w.cell? ⟨b, 2, none⟩ = some x := by
  have := hs.cell (j := 2) rfl
  simpa using this
theorem Sat.f1 (hs : Sat w0 w (pts b o (u :: v :: xs) * F)) : w.frozen? ⟨b, o + 1, none⟩ = false := hs.frz (j := 1) (by simp)
theorem Sat.f01 (hs : Sat w0 w (pts b 0 (u :: v :: xs) * F)) : w.frozen? ⟨b, 1, none⟩ = false := by
  have := hs.frz (j := 1) (by simp)
  simpa using this
theorem Sat.set1 (hs : Sat w0 w (pts b o (u :: v :: xs) * F)) (y : Value) : Sat w0 (w.setCell ⟨b, o + 1, none⟩ y) (pts b o (u :: y :: xs) * F) := hs.set (j := 1) (by simp) y
end
end Go.Sx
