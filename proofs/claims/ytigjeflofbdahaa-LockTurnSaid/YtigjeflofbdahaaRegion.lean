/-
  A region that draws its order, walked in ONE order that is laid down ahead: what only reads is taken as early as may be, the rest waits for one another. Nothing of any program stands here.
-/
import Derived.Test.YtigjeflofbdahaaLawB
import Derived.OrdersHeld
import Derived.RegionTactic
namespace Go.Sx
open Go.RowKit

/-- The operations of the plan, one by one: (i, true): it yields its value in every world that meets S; (i, false): it is carried out, and S is to be shown anew. -/
def wpEarly (P : Program) (ops : Array Oper) (Q : Exit → Act → World → Prop) (S : World → Prop) : List (Nat × Bool) → Act → World → Prop
  | [], a, w => Q .normal a w
  | (i, true) :: rest, a, w => ∃ o v, ops[i]? = some o ∧ YieldsIf P ops S o v a ∧ wpEarly P ops Q S rest (a.put o.dst v) w
  | (i, false) :: rest, a, w => wpOp P ops Q i (fun a' w' => S w' ∧ wpEarly P ops Q S rest a' w') a w

def earlyB (md : Region.Mode) (ops : Array Oper) : List (Nat × Bool) → Array Bool → Bool
  | [], listed => (Region.ready md ops listed).isEmpty
  | (i, true) :: rest, listed => (Region.ready md ops listed).contains i && Region.free md ops listed i && earlyB md ops rest (listed.setIfInBounds i true)
  | (i, false) :: rest, listed => (Region.ready md ops listed == [i]) && earlyB md ops rest (listed.setIfInBounds i true)
def planB (ops : Array Oper) (plan : List (Nat × Bool)) : Bool :=
  Region.noSelect ops && (plan.length == ops.size) && earlyB .any ops plan (Array.replicate ops.size false)

section
variable {P : Program} {ops : Array Oper} {Q : Exit → Act → World → Prop} {md : Region.Mode} {S : World → Prop}
theorem wpAnyH_of_early (hs : Region.noSelect ops = true) (hQ : ∀ (t : Array Value) c (a : Act) w, Q (.panic c) { a with tmps := t } w → Q (.panic c) a w) :
    ∀ (plan : List (Nat × Bool)) (listed : Array Bool) (a : Act) (w : World), earlyB md ops plan listed = true → S w → wpEarly P ops Q S plan a w → wpAnyH P md ops Q S plan.length listed a w
  | [], _, _, _, hB, _, h => wpAnyH_done (by simpa [earlyB] using hB) h _
  | (i, true) :: rest, listed, a, w, hB, hS, h => by
    simp only [earlyB, Bool.and_eq_true] at hB
    obtain ⟨⟨hr, hf⟩, hB'⟩ := hB
    obtain ⟨o, v, ho, hy, h'⟩ := h
    exact wpAnyH_take ho hs hf hr (fun c a w hq => by
      cases hd : o.dst with
      | none => rw [hd] at hq; exact hq
      | some d => rw [hd] at hq; exact hQ _ c a w hq) hy hS (wpAnyH_of_early hs hQ rest _ _ _ hB' hS h')
  | (i, false) :: rest, listed, a, w, hB, hS, h => by
    simp only [earlyB, Bool.and_eq_true, beq_iff_eq] at hB
    obtain ⟨hr, hB'⟩ := hB
    refine wpAnyH_all hr (by simp) fun j hj => ?_
    have : j = i := by simpa using hj
    subst this
    exact wpOp_mono (fun a' w' h' => ⟨h'.1, wpAnyH_of_early hs hQ rest _ _ _ hB' h'.1 h'.2⟩) h

theorem wp_region_early {id : Nat} {a : Act} {w : World} (S : World → Prop) (plan : List (Nat × Bool)) (hm : P.follows .mixedOrders = true) (hB : planB ops plan = true)
    (hQ : ∀ (t : Array Value) c (a : Act) w, Q (.panic c) { a with tmps := t } w → Q (.panic c) a w) (hS : S w.drew) (h : wpEarly P ops Q S plan a w.drew) : (Code.region id ops true).wp P Q a w := by
  simp only [planB, Bool.and_eq_true, beq_iff_eq] at hB
  obtain ⟨⟨h1, h2⟩, h3⟩ := hB
  refine wp_region_held (S := S) hm ?_
  rw [← h2]
  rw [← h2] at h3
  exact wpAnyH_of_early h1 hQ plan _ a w.drew h3 hS h

theorem early_done {a : Act} {w : World} (h : Q .normal a w) : wpEarly P ops Q S [] a w := h
section
variable {l : List Oper} {i : Nat} {rest : List (Nat × Bool)} {a : Act} {w : World}
/-- What only reads. -/
theorem early_read (h : ∀ K : Act → Prop, (∀ a, wpEarly P l.toArray Q S rest a w → K a) → match l[i]? with
    | none => False
    | some o => if Region.wanted o (yielded l.toArray a.tmps) = true then ∃ v, (∀ w, S w → (execOp a.eval o).run P w = .ok (.value v) w) ∧ K (a.put o.dst v) else K (a.put o.dst undef)) :
    wpEarly P l.toArray Q S ((i, true) :: rest) a w := by
  have h := h _ fun _ h => h
  cases ho : l[i]? with
  | none => rw [ho] at h; exact h.elim
  | some o =>
    rw [ho] at h
    have h : if Region.wanted o (yielded l.toArray a.tmps) = true then _ else _ := h
    by_cases hw : Region.wanted o (yielded l.toArray a.tmps) = true
    · rw [if_pos hw] at h
      obtain ⟨v, h1, h2⟩ := h
      exact ⟨o, v, by simpa using ho, .inl ⟨hw, h1⟩, h2⟩
    · rw [if_neg hw] at h
      exact ⟨o, undef, by simpa using ho, .inr ⟨by simpa using hw, rfl⟩, h⟩
/-- What is carried out. -/
theorem early_run (h : ∀ K : Act → World → Prop, (∀ a w, S w ∧ wpEarly P l.toArray Q S rest a w → K a w) → match l[i]? with
    | none => False
    | some o => if Region.wanted o (yielded l.toArray a.tmps) = true then o.wp P a w K Q else K (a.put o.dst undef) w) :
    wpEarly P l.toArray Q S ((i, false) :: rest) a w := by
  have h := h _ fun _ _ h => h
  show wpOp P l.toArray Q i _ a w
  unfold wpOp
  have e : l.toArray[i]? = l[i]? := by simp
  rw [e]
  cases ho : l[i]? with
  | none => rw [ho] at h; exact h.elim
  | some o =>
    rw [ho] at h
    have h : if Region.wanted o (yielded l.toArray a.tmps) = true then _ else _ := h
    show if Region.wanted o (yielded l.toArray a.tmps) = true then _ else _
    by_cases hw : Region.wanted o (yielded l.toArray a.tmps) = true
    · rw [if_pos hw] at h ⊢; exact .inl h
    · rw [if_neg hw] at h ⊢; exact h
end
end
end Go.Sx
