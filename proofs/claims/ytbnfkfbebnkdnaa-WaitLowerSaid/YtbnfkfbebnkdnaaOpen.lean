/-
  Opening a law's arguments: numbers, slices of numbers.
-/
import Derived.Test.YtbnfkfbebnkdnaaRows
import Derived.Test.YtbnfkfbebnkdnaaLaw
import Derived.ProofKit
import Derived.OpenShut
import Derived.ShutString
import Derived.ChangeOld
import Derived.Below
namespace Go.Proofs.Ytbnfkfbebnkdnaa
open Go.RowKit Go.Sx Go.ChangeShapes Go.WideShapes Go.ChangeAt
open Go.ChangeMaps (open_string shut_string)

theorem own : ownKnob Try.prog.godebug = none := by kernel_rfl
theorem laidOut : laidOutB Try.prog = true := by kernel_rfl

theorem addr_flat {w : World} {a : Addr} {u : Value} (h : w.cell? (a.add 0) = some u) : ∃ b off, a = ⟨b, off, none⟩ := by
  have h : w.cell? a = some u := by simpa [Addr.add] using h
  obtain ⟨b, off, s⟩ := a
  cases s with
  | none => exact ⟨b, off, rfl⟩
  | some s =>
    unfold World.cell? at h
    split at h
    · simp at h
    · cases h

theorem rdN_of_open {κ : IntKind} {w : World} {a : Addr} {len cap : Nat} {zs : List Int} (hl : len ≤ cap) (hm : cap ≤ maxLen) (hz : zs.length = cap) (hc : ∀ i, i < zs.length → w.cell? (a.add i) = some (.int κ (zs.getD i 0))) :
    RdN κ w (.slice (some a) len cap) (zs.take len) := by
  have hlen : (zs.take len).length = len := by simp; omega
  by_cases h0 : len = 0
  · subst h0
    exact ⟨some a, cap, 0, 0, by simp, by simp, hm, fun h => absurd (by simp) h, fun j hj => absurd hj (by simp)⟩
  · obtain ⟨b, off, rfl⟩ := addr_flat (hc 0 (by omega))
    refine ⟨_, cap, b, off, by rw [hlen], by omega, hm, fun _ => rfl, fun j hj => ?_⟩
    have := hc j (by omega)
    rw [Addr.add_lit] at this
    rw [this]
    congr 2
    rw [hlen] at hj
    simp [List.getD, hj]

section
variable {H : Type} {enc : TypeId × Value → H} {P : Program} {W : World} {base : Nat}
/-- A slice of numbers that came in. -/
theorem opened_nums {t e : TypeId} {κ : IntKind} {v : Value} {d : DataW H} {p : List MemPlace} (ht : P.underlying t = some (.slice e)) (he : P.underlying e = some (.int κ)) (hc : P.cellsOf e = 1)
    (hok : Value.okWide P W .any base t v) (h : DataW.Trod enc P W 0 (fun _ => true) true t v d p) :
    ∃ l, RdN κ W v l ∧ (∀ n ∈ l, (Lit.int κ n).wf = true) ∧ l.length ≤ maxLen := by
  obtain ⟨a, len, cap, rfl⟩ := okWide_slice ht hok
  obtain ⟨fuel, hf⟩ := h
  rcases open_ints ht he hc hf with ⟨hcs, _⟩ | ⟨x, l, c, zs, hcs, _, hl, hm, hz, _, hcell, hwz⟩
  · simp [Value.cells] at hcs
    obtain ⟨rfl, rfl, rfl⟩ := hcs
    exact ⟨[], ⟨none, 0, 0, 0, rfl, Nat.le_refl _, Nat.zero_le _, fun h => absurd rfl h, fun j hj => absurd hj (Nat.not_lt_zero _)⟩, fun n hn => (by cases hn), Nat.zero_le _⟩
  · simp [Value.cells] at hcs
    obtain ⟨rfl, rfl, rfl⟩ := hcs
    exact ⟨_, rdN_of_open hl hm (by simpa using hz) hcell, fun n hn => hwz n (List.mem_of_mem_take hn), by simp; omega⟩
theorem trod_places {t : TypeId} {v : Value} {d : DataW H} {p : List MemPlace} (h : DataW.Trod enc P W 0 (fun _ => true) true t v d p) : ∀ x ∈ p, x.block < W.heap.size := by
  obtain ⟨m, hm⟩ := h
  exact DataW.trod_lt m _ _ _ hm
end

end Go.Proofs.Ytbnfkfbebnkdnaa
