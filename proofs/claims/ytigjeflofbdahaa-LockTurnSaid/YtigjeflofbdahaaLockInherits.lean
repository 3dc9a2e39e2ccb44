/-
  LockInherits: the walk.
-/
import Derived.Test.YtigjeflofbdahaaLockS
namespace Go.Lk
open Go.Proofs.Ytigjeflofbdahaa (wNow heldK rg)
theorem mem_heldK {ow : List Int} {t : Int} {k : Nat} {x : Int} : x ∈ heldK ow t k ↔ ∃ m : Nat, m < k ∧ x = m ∧ lg ow m = t := by
  unfold heldK
  rw [List.mem_map]
  constructor
  · rintro ⟨m, h, rfl⟩
    rw [List.mem_filter] at h
    exact ⟨m, by simpa using h.1, rfl, by simpa using h.2⟩
  · rintro ⟨m, h1, rfl, h2⟩
    exact ⟨m, List.mem_filter.2 ⟨by simpa using h1, by simpa using h2⟩, rfl⟩
theorem lg_mem {l : List Int} {k : Nat} (h : k < l.length) : lg l k ∈ l := by simp [lg, List.getD, h]
theorem mem_lg {l : List Int} {x : Int} (h : x ∈ l) : ∃ k, k < l.length ∧ lg l k = x := by
  obtain ⟨k, hk, e⟩ := List.getElem_of_mem h
  exact ⟨k, hk, by simp [lg, List.getD, hk, e]⟩
/-- The last step of a chain. -/
theorem reach_last {L : Lk} {s t : Nat} (h : Go.Lk.Reach L s t) : s = t ∨ ∃ u, Go.Lk.Reach L s u ∧ 0 ≤ onAt L u ∧ nx L u = t := by
  cases h with
  | refl => exact .inl rfl
  | step hr ho => exact .inr ⟨_, hr, ho, rfl⟩
/-- What is the least of a task's own level and of those that wait for what it has, is its level. -/
theorem least_now {L : Lk} (hf : Fit L) (hl : Lev L) {t : Nat} (ht : t < L.own.length) {B : Int} (h1 : nowAt L t ≤ B) (h2 : B ≤ ownAt L t) (h3 : ∀ u, u < L.own.length → 0 ≤ onAt L u → nx L u = t → B ≤ nowAt L u) : nowAt L t = B := by
  refine Int.le_antisymm h1 ?_
  obtain ⟨s, hs, hr, e⟩ := hl.att t ht
  rcases reach_last hr with rfl | ⟨u, hu, ho, hn⟩
  · rw [e]; exact h2
  · have a := h3 u (reach_lt hf hs hu) ho hn
    have b := lev_reach hf hl hs hu
    have c := hl.up s hs
    omega
end Go.Lk
namespace Go.Proofs.Ytigjeflofbdahaa
open Go.RowKit Go.Sx Go.Lk
set_option linter.unusedSimpArgs false
set_option linter.unusedVariables false

/-- What is known of the least so far, with p mutexes gone through. -/
def InvP (L : Lk) (t : Nat) (H : List Int) (p : Nat) (B : Int) : Prop :=
  lg L.now t ≤ B ∧ B ≤ lg L.own t ∧ ∀ q, q < p → ∀ u, u < L.own.length → lg L.on u = lg H q → B ≤ lg L.now u
end Go.Proofs.Ytigjeflofbdahaa
