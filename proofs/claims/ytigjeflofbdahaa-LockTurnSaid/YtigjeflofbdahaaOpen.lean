/-
  Opening a law's arguments: numbers, slices of numbers.
-/
import Derived.Test.YtigjeflofbdahaaRows
import Derived.Test.YtigjeflofbdahaaLaw
import Derived.ProofKit
import Derived.OpenShut
import Derived.ShutString
import Derived.ChangeOld
import Derived.Below
import Derived.Deep.Slices
namespace Go.Proofs.Ytigjeflofbdahaa
open Go.RowKit Go.Sx Go.ChangeShapes Go.WideShapes Go.ChangeAt
open Go.ChangeMaps (open_string shut_string)

theorem own : ownKnob Try.prog.godebug = none := by kernel_rfl
theorem laidOut : laidOutB Try.prog = true := by kernel_rfl

theorem addr_flat {w : World} {a : Addr} {u : Value} (h : w.cell? (a.add 0) = some u) : ∃ b off, a = ⟨b, off, none⟩ := by
  have h : w.cell? a = some u := by simpa [Addr.add] using h
  obtain ⟨b, off, s⟩ := a
  cases s with
  | none => exact ⟨b, off, rfl⟩
  | some s =>
    unfold World.cell? at h
    split at h
    · simp at h
    · cases h

theorem rdN_of_open {κ : IntKind} {w : World} {a : Addr} {len cap : Nat} {zs : List Int} (hl : len ≤ cap) (hm : cap ≤ maxLen) (hz : zs.length = cap) (hc : ∀ i, i < zs.length → w.cell? (a.add i) = some (.int κ (zs.getD i 0))) :
    RdN κ w (.slice (some a) len cap) (zs.take len) := by
  have hlen : (zs.take len).length = len := by simp; omega
  by_cases h0 : len = 0
  · subst h0
    exact ⟨some a, cap, 0, 0, by simp, by simp, hm, fun h => absurd (by simp) h, fun j hj => absurd hj (by simp)⟩
  · obtain ⟨b, off, rfl⟩ := addr_flat (hc 0 (by omega))
    refine ⟨_, cap, b, off, by rw [hlen], by omega, hm, fun _ => rfl, fun j hj => ?_⟩
    have := hc j (by omega)
    rw [Addr.add_lit] at this
    rw [this]
    congr 2
    rw [hlen] at hj
    simp [List.getD, hj]

section
variable {H : Type} {enc : TypeId × Value → H} {P : Program} {W : World} {base : Nat}
/-- A slice of numbers that came in. -/
theorem opened_nums {t e : TypeId} {κ : IntKind} {v : Value} {d : DataW H} {p : List MemPlace} (ht : P.underlying t = some (.slice e)) (he : P.underlying e = some (.int κ)) (hc : P.cellsOf e = 1)
    (hok : Value.okWide P W .any base t v) (h : DataW.Trod enc P W 0 (fun _ => true) true t v d p) :
    ∃ l, RdN κ W v l ∧ (∀ n ∈ l, (Lit.int κ n).wf = true) ∧ l.length ≤ maxLen := by
  obtain ⟨a, len, cap, rfl⟩ := okWide_slice ht hok
  obtain ⟨fuel, hf⟩ := h
  rcases open_ints ht he hc hf with ⟨hcs, _⟩ | ⟨x, l, c, zs, hcs, _, hl, hm, hz, _, hcell, hwz⟩
  · simp [Value.cells] at hcs
    obtain ⟨rfl, rfl, rfl⟩ := hcs
    exact ⟨[], ⟨none, 0, 0, 0, rfl, Nat.le_refl _, Nat.zero_le _, fun h => absurd rfl h, fun j hj => absurd hj (Nat.not_lt_zero _)⟩, fun n hn => (by cases hn), Nat.zero_le _⟩
  · simp [Value.cells] at hcs
    obtain ⟨rfl, rfl, rfl⟩ := hcs
    exact ⟨_, rdN_of_open hl hm (by simpa using hz) hcell, fun n hn => hwz n (List.mem_of_mem_take hn), by simp; omega⟩
/-- A struct of one-cell numbers. -/
theorem trod_numbers {e : TypeId} {fs : Array Field} {κs : List IntKind} {fuel : Nat} {cs : List Value} {x : DataW H × List MemPlace} {spare : Nat → Bool} {held : Bool} (he : P.underlying e = some (.struct fs))
    (hfs : ∀ c κ, κs[c]? = some κ → ∃ g : Field, fs[c]? = some g ∧ g.offset = c ∧ P.underlying g.type = some (.int κ) ∧ P.cellsOf g.type = 1) (ce : P.cellsOf e = κs.length)
    (h : DataW.trod enc P W base spare held fuel e cs = some x) : ∃ f : Nat → Int, ∀ c κ, κs[c]? = some κ → cs[c]? = some (.int κ (f c)) ∧ (Lit.int κ (f c)).wf = true := by
  obtain ⟨xs, n, _, _, hlen, hxl, hf⟩ := DataW.trod_struct he h
  have each : ∀ c, c < κs.length → ∃ m : Int, ∀ κ, κs[c]? = some κ → cs[c]? = some (.int κ m) ∧ (Lit.int κ m).wf = true := fun c hc => by
    have hk := List.getElem?_eq_getElem hc
    obtain ⟨g, h1, h2, h3, h4⟩ := hfs c _ hk
    have h5 := hf c g h1
    rw [h2, h4] at h5
    have hcl : c < cs.length := by omega
    have h6 : (cs.drop c).take 1 = [cs[c]] := by rw [List.drop_eq_getElem_cons hcl]; rfl
    have hxc : c < xs.length := by
      have := (Array.getElem?_eq_some_iff.1 h1).1
      omega
    rw [h6, List.getElem?_eq_getElem hxc] at h5
    obtain ⟨m, e1, _, e3⟩ := DataW.trod_int h3 h5
    refine ⟨m, fun κ hκ => ?_⟩
    rw [hk] at hκ
    cases hκ
    simp only [List.cons.injEq, and_true] at e1
    exact ⟨by rw [List.getElem?_eq_getElem hcl, e1], e3⟩
  obtain ⟨f, hf'⟩ := Go.Deep.choose_lt each
  exact ⟨f, fun c κ hκ => hf' c (List.getElem?_eq_some_iff.1 hκ).1 κ hκ⟩
/-- A slice of such structs that came in. -/
theorem opened_structs {t e : TypeId} {fs : Array Field} {κs : List IntKind} {v : Value} {d : DataW H} {p : List MemPlace} (ht : P.underlying t = some (.slice e)) (he : P.underlying e = some (.struct fs))
    (hfs : ∀ c κ, κs[c]? = some κ → ∃ g : Field, fs[c]? = some g ∧ g.offset = c ∧ P.underlying g.type = some (.int κ) ∧ P.cellsOf g.type = 1) (ce : P.cellsOf e = κs.length) (hpos : 0 < κs.length)
    (hok : Value.okWide P W .any base t v) (h : DataW.Trod enc P W 0 (fun _ => true) true t v d p) :
    ∃ n f, RdK κs W v n f ∧ n ≤ maxLen := by
  obtain ⟨a, len, cap, rfl⟩ := okWide_slice ht hok
  obtain ⟨fuel, hf⟩ := h
  rcases Go.Deep.open_slice ht hf with ⟨hcs, _⟩ | ⟨x, l, c, m, n, D, Pl, hcs, _, hl, hm, hmm, _, hx⟩
  · simp [Value.cells] at hcs
    obtain ⟨rfl, rfl, rfl⟩ := hcs
    exact ⟨0, fun _ _ => 0, ⟨none, 0, 0, 0, rfl, Nat.le_refl _, Nat.zero_le _, fun h => absurd h (Nat.lt_irrefl _), fun i c κ hi => absurd hi (Nat.not_lt_zero _)⟩, Nat.zero_le _⟩
  · simp [Value.cells] at hcs
    obtain ⟨rfl, rfl, rfl⟩ := hcs
    simp at hmm
    subst hmm
    have each : ∀ i, i < m → ∃ f : Nat → Int, ∀ c κ, κs[c]? = some κ → W.cell? (x.add (i * κs.length + c)) = some (.int κ (f c)) ∧ (Lit.int κ (f c)).wf = true := fun i hi => by
      obtain ⟨cs', h1, h2⟩ := hx i hi
      obtain ⟨_, hlen, hcell⟩ := World.cells?_some h1
      obtain ⟨f, hf⟩ := trod_numbers he hfs ce h2
      refine ⟨f, fun c κ hκ => ⟨?_, (hf c κ hκ).2⟩⟩
      have hc := hcell c (by rw [ce]; exact (List.getElem?_eq_some_iff.1 hκ).1)
      rw [Go.Deep.add_add, ce] at hc
      rw [hc]; exact (hf c κ hκ).1
    obtain ⟨f, hf⟩ := Go.Deep.choose_lt (α := Nat → Int) (p := fun i f => ∀ c κ, κs[c]? = some κ → W.cell? (x.add (i * κs.length + c)) = some (.int κ (f c)) ∧ (Lit.int κ (f c)).wf = true) each
    refine ⟨len, f, ?_, by omega⟩
    by_cases h0 : 0 < len
    · obtain ⟨b, off, rfl⟩ := addr_flat (by simpa using (hf 0 (by omega) 0 _ (List.getElem?_eq_getElem hpos)).1)
      refine ⟨_, m, b, off, rfl, by omega, hm, fun _ => rfl, fun i c κ hi hκ => ?_⟩
      have := hf i (by omega) c κ hκ
      rw [Addr.add_lit] at this
      exact this
    · exact ⟨_, m, 0, 0, rfl, by omega, hm, fun h => absurd h h0, fun i c κ hi => absurd hi (by omega)⟩
theorem trod_places {t : TypeId} {v : Value} {d : DataW H} {p : List MemPlace} (h : DataW.Trod enc P W 0 (fun _ => true) true t v d p) : ∀ x ∈ p, x.block < W.heap.size := by
  obtain ⟨m, hm⟩ := h
  exact DataW.trod_lt m _ _ _ hm
end

end Go.Proofs.Ytigjeflofbdahaa
