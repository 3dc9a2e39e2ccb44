/-
  A region that draws its order, walked in one order laid down ahead, as in XRegion; but what is known of the worlds may grow behind each operation that is carried out. Nothing of any program stands here.
-/
import Derived.Test.YtigjeflofbdahaaRegion
namespace Go.Sx
open Go.RowKit

def wpStage (P : Program) (ops : Array Oper) (Q : Exit → Act → World → Prop) : (World → Prop) → List (Nat × Bool) → Act → World → Prop
  | _, [], a, w => Q .normal a w
  | S, (i, true) :: rest, a, w => ∃ o v, ops[i]? = some o ∧ YieldsIf P ops S o v a ∧ wpStage P ops Q S rest (a.put o.dst v) w
  | S, (i, false) :: rest, a, w => wpOp P ops Q i (fun a' w' => ∃ S' : World → Prop, (∀ w, S' w → S w) ∧ S' w' ∧ wpStage P ops Q S' rest a' w') a w

section
variable {P : Program} {ops : Array Oper} {Q : Exit → Act → World → Prop} {md : Region.Mode} {S : World → Prop}
theorem wpAnyH_mono {S' : World → Prop} (hm : ∀ w, S' w → S w) : ∀ (fuel : Nat) (listed : Array Bool) (a : Act) (w : World), wpAnyH P md ops Q S' fuel listed a w → wpAnyH P md ops Q S fuel listed a w
  | 0, _, _, _, h => h
  | fuel + 1, _, _, _, h => ⟨h.1, fun i hi => wpOp_mono (fun a' w' h' => ⟨hm _ h'.1, wpAnyH_mono hm fuel _ a' w' h'.2⟩) (h.2 i hi)⟩
theorem wpAnyH_of_stage (hs : Region.noSelect ops = true) (hQ : ∀ (t : Array Value) c (a : Act) w, Q (.panic c) { a with tmps := t } w → Q (.panic c) a w) :
    ∀ (plan : List (Nat × Bool)) (S : World → Prop) (listed : Array Bool) (a : Act) (w : World), earlyB md ops plan listed = true → S w → wpStage P ops Q S plan a w → wpAnyH P md ops Q S plan.length listed a w
  | [], _, _, _, _, hB, _, h => wpAnyH_done (by simpa [earlyB] using hB) h _
  | (i, true) :: rest, S, listed, a, w, hB, hS, h => by
    simp only [earlyB, Bool.and_eq_true] at hB
    obtain ⟨⟨hr, hf⟩, hB'⟩ := hB
    obtain ⟨o, v, ho, hy, h'⟩ := h
    exact wpAnyH_take ho hs hf hr (fun c a w hq => by
      cases hd : o.dst with
      | none => rw [hd] at hq; exact hq
      | some d => rw [hd] at hq; exact hQ _ c a w hq) hy hS (wpAnyH_of_stage hs hQ rest S _ _ _ hB' hS h')
  | (i, false) :: rest, S, listed, a, w, hB, hS, h => by
    simp only [earlyB, Bool.and_eq_true, beq_iff_eq] at hB
    obtain ⟨hr, hB'⟩ := hB
    refine wpAnyH_all hr (by simp) fun j hj => ?_
    have : j = i := by simpa using hj
    subst this
    exact wpOp_mono (fun a' w' ⟨S', hm, hS', h'⟩ => ⟨hm _ hS', wpAnyH_mono hm _ _ _ _ (wpAnyH_of_stage hs hQ rest S' _ _ _ hB' hS' h')⟩) h

theorem wp_region_stage {id : Nat} {a : Act} {w : World} (S : World → Prop) (plan : List (Nat × Bool)) (hm : P.follows .mixedOrders = true) (hB : planB ops plan = true)
    (hQ : ∀ (t : Array Value) c (a : Act) w, Q (.panic c) { a with tmps := t } w → Q (.panic c) a w) (hS : S w.drew) (h : wpStage P ops Q S plan a w.drew) : (Code.region id ops true).wp P Q a w := by
  simp only [planB, Bool.and_eq_true, beq_iff_eq] at hB
  obtain ⟨⟨h1, h2⟩, h3⟩ := hB
  refine wp_region_held (S := S) hm ?_
  rw [← h2]
  rw [← h2] at h3
  exact wpAnyH_of_stage h1 hQ plan S _ a w.drew h3 hS h

theorem stage_done {a : Act} {w : World} (h : Q .normal a w) : wpStage P ops Q S [] a w := h
section
variable {l : List Oper} {i : Nat} {rest : List (Nat × Bool)} {a : Act} {w : World}
theorem stage_read (h : ∀ K : Act → Prop, (∀ a, wpStage P l.toArray Q S rest a w → K a) → match l[i]? with
    | none => False
    | some o => if Region.wanted o (yielded l.toArray a.tmps) = true then ∃ v, (∀ w, S w → (execOp a.eval o).run P w = .ok (.value v) w) ∧ K (a.put o.dst v) else K (a.put o.dst undef)) :
    wpStage P l.toArray Q S ((i, true) :: rest) a w := by
  have h := h _ fun _ h => h
  cases ho : l[i]? with
  | none => rw [ho] at h; exact h.elim
  | some o =>
    rw [ho] at h
    have h : if Region.wanted o (yielded l.toArray a.tmps) = true then _ else _ := h
    by_cases hw : Region.wanted o (yielded l.toArray a.tmps) = true
    · rw [if_pos hw] at h
      obtain ⟨v, h1, h2⟩ := h
      exact ⟨o, v, by simpa using ho, .inl ⟨hw, h1⟩, h2⟩
    · rw [if_neg hw] at h
      exact ⟨o, undef, by simpa using ho, .inr ⟨by simpa using hw, rfl⟩, h⟩
theorem stage_run (h : ∀ K : Act → World → Prop, (∀ a w, (∃ S' : World → Prop, (∀ w, S' w → S w) ∧ S' w ∧ wpStage P l.toArray Q S' rest a w) → K a w) → match l[i]? with
    | none => False
    | some o => if Region.wanted o (yielded l.toArray a.tmps) = true then o.wp P a w K Q else K (a.put o.dst undef) w) :
    wpStage P l.toArray Q S ((i, false) :: rest) a w := by
  have h := h _ fun _ _ h => h
  show wpOp P l.toArray Q i _ a w
  unfold wpOp
  have e : l.toArray[i]? = l[i]? := by simp
  rw [e]
  cases ho : l[i]? with
  | none => rw [ho] at h; exact h.elim
  | some o =>
    rw [ho] at h
    have h : if Region.wanted o (yielded l.toArray a.tmps) = true then _ else _ := h
    show if Region.wanted o (yielded l.toArray a.tmps) = true then _ else _
    by_cases hw : Region.wanted o (yielded l.toArray a.tmps) = true
    · rw [if_pos hw] at h ⊢; exact .inl h
    · rw [if_neg hw] at h ⊢; exact h
end
end
end Go.Sx
