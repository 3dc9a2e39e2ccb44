/-
  A region that draws its order, where some operations that are carried out may come in either order: as in XRegionC, but by a tree of orders. Nothing of any program stands here.
-/
import Derived.Test.YtigjeflofbdahaaRegionC
namespace Go.Sx
open Go.RowKit

/-- A tree of orders. -/
inductive Plan where
  | done : Plan
  | read (i : Nat) (p : Plan) : Plan
  | run (i : Nat) (p : Plan) : Plan
  | alt (i : Nat) (p : Plan) (j : Nat) (q : Plan) : Plan
  | alt3 (i : Nat) (p : Plan) (j : Nat) (q : Plan) (k : Nat) (r : Plan) : Plan
def Plan.size : Plan → Nat
  | .done => 0
  | .read _ p => p.size + 1
  | .run _ p => p.size + 1
  | .alt _ p _ _ => p.size + 1
  | .alt3 _ p _ _ _ _ => p.size + 1
def wpTree (P : Program) (ops : Array Oper) (Q : Exit → Act → World → Prop) : (World → Prop) → Plan → Act → World → Prop
  | _, .done, a, w => Q .normal a w
  | S, .read i p, a, w => ∃ o v, ops[i]? = some o ∧ YieldsIf P ops S o v a ∧ wpTree P ops Q S p (a.put o.dst v) w
  | S, .run i p, a, w => wpOp P ops Q i (fun a' w' => ∃ S' : World → Prop, (∀ w, S' w → S w) ∧ S' w' ∧ wpTree P ops Q S' p a' w') a w
  | S, .alt i p j q, a, w => wpOp P ops Q i (fun a' w' => ∃ S' : World → Prop, (∀ w, S' w → S w) ∧ S' w' ∧ wpTree P ops Q S' p a' w') a w ∧
      wpOp P ops Q j (fun a' w' => ∃ S' : World → Prop, (∀ w, S' w → S w) ∧ S' w' ∧ wpTree P ops Q S' q a' w') a w
  | S, .alt3 i p j q k r, a, w => wpOp P ops Q i (fun a' w' => ∃ S' : World → Prop, (∀ w, S' w → S w) ∧ S' w' ∧ wpTree P ops Q S' p a' w') a w ∧
      wpOp P ops Q j (fun a' w' => ∃ S' : World → Prop, (∀ w, S' w → S w) ∧ S' w' ∧ wpTree P ops Q S' q a' w') a w ∧
      wpOp P ops Q k (fun a' w' => ∃ S' : World → Prop, (∀ w, S' w → S w) ∧ S' w' ∧ wpTree P ops Q S' r a' w') a w
def treeB (md : Region.Mode) (ops : Array Oper) : Plan → Array Bool → Bool
  | .done, listed => (Region.ready md ops listed).isEmpty
  | .read i p, listed => (Region.ready md ops listed).contains i && Region.free md ops listed i && treeB md ops p (listed.setIfInBounds i true)
  | .run i p, listed => (Region.ready md ops listed == [i]) && treeB md ops p (listed.setIfInBounds i true)
  | .alt i p j q, listed => (Region.ready md ops listed == [i, j]) && (p.size == q.size) && treeB md ops p (listed.setIfInBounds i true) && treeB md ops q (listed.setIfInBounds j true)
  | .alt3 i p j q k r, listed => (Region.ready md ops listed == [i, j, k]) && (p.size == q.size) && (p.size == r.size) && treeB md ops p (listed.setIfInBounds i true) && treeB md ops q (listed.setIfInBounds j true) && treeB md ops r (listed.setIfInBounds k true)
def treePlanB (ops : Array Oper) (plan : Plan) : Bool :=
  Region.noSelect ops && (plan.size == ops.size) && treeB .any ops plan (Array.replicate ops.size false)

section
variable {P : Program} {ops : Array Oper} {Q : Exit → Act → World → Prop} {md : Region.Mode} {S : World → Prop}
theorem wpAnyH_of_tree (hs : Region.noSelect ops = true) (hQ : ∀ (t : Array Value) c (a : Act) w, Q (.panic c) { a with tmps := t } w → Q (.panic c) a w) :
    ∀ (plan : Plan) (S : World → Prop) (listed : Array Bool) (a : Act) (w : World), treeB md ops plan listed = true → S w → wpTree P ops Q S plan a w → wpAnyH P md ops Q S plan.size listed a w
  | .done, _, _, _, _, hB, _, h => wpAnyH_done (by simpa [treeB] using hB) h _
  | .read i p, S, listed, a, w, hB, hS, h => by
    simp only [treeB, Bool.and_eq_true] at hB
    obtain ⟨⟨hr, hf⟩, hB'⟩ := hB
    obtain ⟨o, v, ho, hy, h'⟩ := h
    exact wpAnyH_take ho hs hf hr (fun c a w hq => by
      cases hd : o.dst with
      | none => rw [hd] at hq; exact hq
      | some d => rw [hd] at hq; exact hQ _ c a w hq) hy hS (wpAnyH_of_tree hs hQ p S _ _ _ hB' hS h')
  | .run i p, S, listed, a, w, hB, hS, h => by
    simp only [treeB, Bool.and_eq_true, beq_iff_eq] at hB
    obtain ⟨hr, hB'⟩ := hB
    refine wpAnyH_all hr (by simp) fun j hj => ?_
    have : j = i := by simpa using hj
    subst this
    exact wpOp_mono (fun a' w' ⟨S', hm, hS', h'⟩ => ⟨hm _ hS', wpAnyH_mono hm _ _ _ _ (wpAnyH_of_tree hs hQ p S' _ _ _ hB' hS' h')⟩) h
  | .alt i p j q, S, listed, a, w, hB, hS, h => by
    simp only [treeB, Bool.and_eq_true, beq_iff_eq] at hB
    obtain ⟨⟨⟨hr, hz⟩, hB1⟩, hB2⟩ := hB
    refine wpAnyH_all hr (by simp) fun x hx => ?_
    rcases (by simpa using hx : x = i ∨ x = j) with rfl | rfl
    · exact wpOp_mono (fun a' w' ⟨S', hm, hS', h'⟩ => ⟨hm _ hS', wpAnyH_mono hm _ _ _ _ (wpAnyH_of_tree hs hQ p S' _ _ _ hB1 hS' h')⟩) h.1
    · rw [hz]
      exact wpOp_mono (fun a' w' ⟨S', hm, hS', h'⟩ => ⟨hm _ hS', wpAnyH_mono hm _ _ _ _ (wpAnyH_of_tree hs hQ q S' _ _ _ hB2 hS' h')⟩) h.2
  | .alt3 i p j q k r, S, listed, a, w, hB, hS, h => by
    simp only [treeB, Bool.and_eq_true, beq_iff_eq] at hB
    obtain ⟨⟨⟨⟨⟨hr, hz⟩, hz2⟩, hB1⟩, hB2⟩, hB3⟩ := hB
    refine wpAnyH_all hr (by simp) fun x hx => ?_
    rcases (by simpa using hx : x = i ∨ x = j ∨ x = k) with rfl | rfl | rfl
    · exact wpOp_mono (fun a' w' ⟨S', hm, hS', h'⟩ => ⟨hm _ hS', wpAnyH_mono hm _ _ _ _ (wpAnyH_of_tree hs hQ p S' _ _ _ hB1 hS' h')⟩) h.1
    · rw [hz]
      exact wpOp_mono (fun a' w' ⟨S', hm, hS', h'⟩ => ⟨hm _ hS', wpAnyH_mono hm _ _ _ _ (wpAnyH_of_tree hs hQ q S' _ _ _ hB2 hS' h')⟩) h.2.1
    · rw [hz2]
      exact wpOp_mono (fun a' w' ⟨S', hm, hS', h'⟩ => ⟨hm _ hS', wpAnyH_mono hm _ _ _ _ (wpAnyH_of_tree hs hQ r S' _ _ _ hB3 hS' h')⟩) h.2.2

theorem wp_region_tree {id : Nat} {a : Act} {w : World} (S : World → Prop) (plan : Plan) (hm : P.follows .mixedOrders = true) (hB : treePlanB ops plan = true)
    (hQ : ∀ (t : Array Value) c (a : Act) w, Q (.panic c) { a with tmps := t } w → Q (.panic c) a w) (hS : S w.drew) (h : wpTree P ops Q S plan a w.drew) : (Code.region id ops true).wp P Q a w := by
  simp only [treePlanB, Bool.and_eq_true, beq_iff_eq] at hB
  obtain ⟨⟨h1, h2⟩, h3⟩ := hB
  refine wp_region_held (S := S) hm ?_
  rw [← h2]
  rw [← h2] at h3
  exact wpAnyH_of_tree h1 hQ plan S _ a w.drew h3 hS h

theorem tree_done {a : Act} {w : World} (h : Q .normal a w) : wpTree P ops Q S .done a w := h
section
variable {l : List Oper} {i j k : Nat} {p q r : Plan} {a : Act} {w : World}
theorem tree_read (h : ∀ K : Act → Prop, (∀ a, wpTree P l.toArray Q S p a w → K a) → match l[i]? with
    | none => False
    | some o => if Region.wanted o (yielded l.toArray a.tmps) = true then ∃ v, (∀ w, S w → (execOp a.eval o).run P w = .ok (.value v) w) ∧ K (a.put o.dst v) else K (a.put o.dst undef)) :
    wpTree P l.toArray Q S (.read i p) a w := by
  have h := h _ fun _ h => h
  cases ho : l[i]? with
  | none => rw [ho] at h; exact h.elim
  | some o =>
    rw [ho] at h
    have h : if Region.wanted o (yielded l.toArray a.tmps) = true then _ else _ := h
    by_cases hw : Region.wanted o (yielded l.toArray a.tmps) = true
    · rw [if_pos hw] at h
      obtain ⟨v, h1, h2⟩ := h
      exact ⟨o, v, by simpa using ho, .inl ⟨hw, h1⟩, h2⟩
    · rw [if_neg hw] at h
      exact ⟨o, undef, by simpa using ho, .inr ⟨by simpa using hw, rfl⟩, h⟩
/-- What is carried out. -/
theorem tree_run (h : ∀ K : Act → World → Prop, (∀ a w, (∃ S' : World → Prop, (∀ w, S' w → S w) ∧ S' w ∧ wpTree P l.toArray Q S' p a w) → K a w) → match l[i]? with
    | none => False
    | some o => if Region.wanted o (yielded l.toArray a.tmps) = true then o.wp P a w K Q else K (a.put o.dst undef) w) :
    wpTree P l.toArray Q S (.run i p) a w := by
  have h := h _ fun _ _ h => h
  show wpOp P l.toArray Q i _ a w
  unfold wpOp
  have e : l.toArray[i]? = l[i]? := by simp
  rw [e]
  cases ho : l[i]? with
  | none => rw [ho] at h; exact h.elim
  | some o =>
    rw [ho] at h
    have h : if Region.wanted o (yielded l.toArray a.tmps) = true then _ else _ := h
    show if Region.wanted o (yielded l.toArray a.tmps) = true then _ else _
    by_cases hw : Region.wanted o (yielded l.toArray a.tmps) = true
    · rw [if_pos hw] at h ⊢; exact .inl h
    · rw [if_neg hw] at h ⊢; exact h
theorem tree_alt (h1 : wpTree P l.toArray Q S (.run i p) a w) (h2 : wpTree P l.toArray Q S (.run j q) a w) : wpTree P l.toArray Q S (.alt i p j q) a w := ⟨h1, h2⟩
theorem tree_alt3 (h1 : wpTree P l.toArray Q S (.run i p) a w) (h2 : wpTree P l.toArray Q S (.run j q) a w) (h3 : wpTree P l.toArray Q S (.run k r) a w) : wpTree P l.toArray Q S (.alt3 i p j q k r) a w := ⟨h1, h2, h3⟩
end
end
end Go.Sx
