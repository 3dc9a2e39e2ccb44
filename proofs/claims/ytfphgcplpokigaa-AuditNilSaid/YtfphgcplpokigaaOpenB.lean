/-
  Opening a law's arguments: a struct of numbers.
-/
import Derived.Test.YtfphgcplpokigaaOpen
namespace Go.Proofs.Ytfphgcplpokigaa
open Go.RowKit Go.Sx Go.ChangeShapes Go.WideShapes Go.ChangeAt
section
variable {H : Type} {enc : TypeId × Value → H} {P : Program} {W : World} {base : Nat}
theorem opened_rec {t : TypeId} {fs : Array Field} {κs : List IntKind} {v : Value} {d : DataW H} {p : List MemPlace} (ht : P.underlying t = some (.struct fs))
    (hfs : ∀ c κ, κs[c]? = some κ → ∃ g : Field, fs[c]? = some g ∧ g.offset = c ∧ P.underlying g.type = some (.int κ) ∧ P.cellsOf g.type = 1) (ce : P.cellsOf t = κs.length)
    (hok : Value.okWide P W .any base t v) (h : DataW.Trod enc P W 0 (fun _ => true) true t v d p) :
    ∃ f : Nat → Int, v = .agg ((List.range κs.length).map fun c => Value.int (κs.getD c .i64) (f c)).toArray ∧ ∀ c κ, κs[c]? = some κ → (Lit.int κ (f c)).wf = true := by
  obtain ⟨cs, rfl, hsz⟩ := okWide_struct ht hok
  obtain ⟨fuel, hf⟩ := h
  have hf' : DataW.trod enc P W 0 (fun _ => true) true fuel t cs.toList = some (d, p) := hf
  obtain ⟨f, hf2⟩ := trod_numbers ht hfs ce hf'
  refine ⟨f, ?_, fun c κ hκ => (hf2 c κ hκ).2⟩
  congr 1
  apply Array.ext
  · simp [hsz, ce]
  · intro i h1 h2
    have hi : i < κs.length := by rw [← ce, ← hsz]; exact h1
    have h3 := (hf2 i κs[i] (List.getElem?_eq_getElem hi)).1
    rw [List.getElem?_eq_getElem (by simpa using h1)] at h3
    simp only [Option.some.injEq, Array.getElem_toList] at h3
    rw [h3]
    simp [List.getD, hi]
end
end Go.Proofs.Ytfphgcplpokigaa
