/-
  As XRegionB, where some operations that are carried out may come in either order: a tree of orders. Nothing of any program stands here.
-/
import Derived.Test.YtfphgcplpokigaaRegionB
import Derived.Test.YtfphgcplpokigaaAuto
namespace Go.Sx
open Go.RowKit

/-- A tree of orders: what yields its value in whatever world, what does so in worlds that meet S, what is carried out. -/
inductive Wood where
  | done : Wood
  | pure (i : Nat) (p : Wood) : Wood
  | load (i : Nat) (p : Wood) : Wood
  | run (i : Nat) (p : Wood) : Wood
  | alt (i : Nat) (p : Wood) (j : Nat) (q : Wood) : Wood
def Wood.size : Wood → Nat
  | .done => 0
  | .pure _ p => p.size + 1
  | .load _ p => p.size + 1
  | .run _ p => p.size + 1
  | .alt _ p _ _ => p.size + 1
def wpWood (P : Program) (ops : Array Oper) (Q : Exit → Act → World → Prop) (S : World → Prop) (j0 : Nat) : Wood → Act → World → Prop
  | .done, a, w => Q .normal a w
  | .pure i p, a, w => ∃ o v, ops[i]? = some o ∧ YieldsIf P ops (fun _ => True) o v a ∧ wpWood P ops Q S j0 p (a.put o.dst v) w
  | .load i p, a, w => ∃ o v, ops[i]? = some o ∧ YieldsIf P ops S o v a ∧ wpWood P ops Q S j0 p (a.put o.dst v) w
  | .run i p, a, w => wpOp P ops Q i (fun a' w' => (i ≠ j0 → S w') ∧ wpWood P ops Q S j0 p a' w') a w
  | .alt i p j q, a, w => wpOp P ops Q i (fun a' w' => (i ≠ j0 → S w') ∧ wpWood P ops Q S j0 p a' w') a w ∧ wpOp P ops Q j (fun a' w' => (j ≠ j0 → S w') ∧ wpWood P ops Q S j0 q a' w') a w
def woodB (md : Region.Mode) (ops : Array Oper) (j0 : Nat) : Wood → Array Bool → Bool
  | .done, listed => (Region.ready md ops listed).isEmpty
  | .pure i p, listed => (i != j0) && (Region.ready md ops listed).contains i && Region.free md ops listed i && woodB md ops j0 p (listed.setIfInBounds i true)
  | .load i p, listed => (i != j0) && waitsFor md ops j0 i && !listed.getD j0 true && (Region.ready md ops listed).contains i && Region.free md ops listed i && woodB md ops j0 p (listed.setIfInBounds i true)
  | .run i p, listed => (Region.ready md ops listed == [i]) && woodB md ops j0 p (listed.setIfInBounds i true)
  | .alt i p j q, listed => (Region.ready md ops listed == [i, j]) && (p.size == q.size) && woodB md ops j0 p (listed.setIfInBounds i true) && woodB md ops j0 q (listed.setIfInBounds j true)
def planWoodB (ops : Array Oper) (j0 : Nat) (plan : Wood) : Bool :=
  Region.noSelect ops && (plan.size == ops.size) && woodB .any ops j0 plan (Array.replicate ops.size false)

section
variable {P : Program} {ops : Array Oper} {Q : Exit → Act → World → Prop} {md : Region.Mode} {S : World → Prop} {j0 : Nat}
theorem wpTill_of_wood (hs : Region.noSelect ops = true) (hQ : ∀ (t : Array Value) c (a : Act) w, Q (.panic c) { a with tmps := t } w → Q (.panic c) a w) :
    ∀ (plan : Wood) (listed : Array Bool) (a : Act) (w : World), woodB md ops j0 plan listed = true → (listed.getD j0 true = false → S w) → wpWood P ops Q S j0 plan a w → wpTill P md ops Q S j0 plan.size listed a w
  | .done, _, _, _, hB, _, h => ⟨by simpa [woodB] using hB, h⟩
  | .pure i p, listed, a, w, hB, hS, h => by
    simp only [woodB, Bool.and_eq_true, bne_iff_ne] at hB
    obtain ⟨⟨⟨h0, hr⟩, hf⟩, hB'⟩ := hB
    obtain ⟨o, v, ho, hy, h'⟩ := h
    refine wpTill_first ho (Region.noSelect_spec hs) (fun c a w hq => by
      cases hd : o.dst with
      | none => rw [hd] at hq; exact hq
      | some d => rw [hd] at hq; exact hQ _ c a w hq) h0 (.inl fun _ => trivial) _ _ _ _ (Region.free_spec ho hf) (by simpa using hr) (.inl fun _ => trivial) hy hS
      (wpTill_of_wood hs hQ p _ _ _ hB' (fun hl => hS (by rw [getD_set_ne true h0] at hl; exact hl)) h')
  | .load i p, listed, a, w, hB, hS, h => by
    simp only [woodB, Bool.and_eq_true, bne_iff_ne, Bool.not_eq_true'] at hB
    obtain ⟨⟨⟨⟨⟨h0, hw⟩, hl⟩, hr⟩, hf⟩, hB'⟩ := hB
    obtain ⟨o, v, ho, hy, h'⟩ := h
    refine wpTill_first ho (Region.noSelect_spec hs) (fun c a w hq => by
      cases hd : o.dst with
      | none => rw [hd] at hq; exact hq
      | some d => rw [hd] at hq; exact hQ _ c a w hq) h0 (.inr ⟨fun _ h => h, hw⟩) _ _ _ _ (Region.free_spec ho hf) (by simpa using hr) (.inr hl) hy hS
      (wpTill_of_wood hs hQ p _ _ _ hB' (fun hl => hS (by rw [getD_set_ne true h0] at hl; exact hl)) h')
  | .run i p, listed, a, w, hB, hS, h => by
    simp only [woodB, Bool.and_eq_true, beq_iff_eq] at hB
    obtain ⟨hr, hB'⟩ := hB
    refine ⟨fun h0 => (by rw [hr] at h0; cases h0), fun j hj => ?_⟩
    rw [hr] at hj
    have : j = i := by simpa using hj
    subst this
    have hjr : j ∈ Region.ready md ops listed := by rw [hr]; simp
    refine wpOp_mono (fun a' w' h' => ⟨fun hn _ => h'.1 hn, wpTill_of_wood hs hQ p _ _ _ hB' (fun hl => ?_) h'.2⟩) h
    by_cases hj0 : j = j0
    · subst hj0
      rw [listed_set (mem_ready.1 hjr).1] at hl
      cases hl
    · exact h'.1 hj0
  | .alt i p j q, listed, a, w, hB, hS, h => by
    simp only [woodB, Bool.and_eq_true, beq_iff_eq] at hB
    obtain ⟨⟨⟨hr, hz⟩, hB1⟩, hB2⟩ := hB
    refine ⟨fun h0 => (by rw [hr] at h0; cases h0), fun k hk => ?_⟩
    rw [hr] at hk
    rcases (by simpa using hk : k = i ∨ k = j) with rfl | rfl
    · have hjr : k ∈ Region.ready md ops listed := by rw [hr]; simp
      refine wpOp_mono (fun a' w' h' => ⟨fun hn _ => h'.1 hn, wpTill_of_wood hs hQ p _ _ _ hB1 (fun hl => ?_) h'.2⟩) h.1
      by_cases hj0 : k = j0
      · subst hj0
        rw [listed_set (mem_ready.1 hjr).1] at hl
        cases hl
      · exact h'.1 hj0
    · have hjr : k ∈ Region.ready md ops listed := by rw [hr]; simp
      refine wpOp_mono (fun a' w' h' => ⟨fun hn _ => h'.1 hn, ?_⟩) h.2
      rw [hz]
      refine wpTill_of_wood hs hQ q _ _ _ hB2 (fun hl => ?_) h'.2
      by_cases hj0 : k = j0
      · subst hj0
        rw [listed_set (mem_ready.1 hjr).1] at hl
        cases hl
      · exact h'.1 hj0

theorem wp_region_wood {id : Nat} {a : Act} {w : World} (S : World → Prop) (j0 : Nat) (plan : Wood) (hm : P.follows .mixedOrders = true) (hB : planWoodB ops j0 plan = true)
    (hQ : ∀ (t : Array Value) c (a : Act) w, Q (.panic c) { a with tmps := t } w → Q (.panic c) a w) (hS : S w.drew) (h : wpWood P ops Q S j0 plan a w.drew) : (Code.region id ops true).wp P Q a w := by
  simp only [planWoodB, Bool.and_eq_true, beq_iff_eq] at hB
  obtain ⟨⟨h1, h2⟩, h3⟩ := hB
  refine wp_region_any hm (wpAny_of_till (S := S) (j0 := j0) _ _ _ _ ?_)
  rw [← h2]
  rw [← h2] at h3
  exact wpTill_of_wood h1 hQ plan _ a w.drew h3 (fun _ => hS) h

theorem wood_done {a : Act} {w : World} (h : Q .normal a w) : wpWood P ops Q S j0 .done a w := h
section
variable {l : List Oper} {i j : Nat} {p q : Wood} {a : Act} {w : World}
theorem wood_pure (h : ∀ K : Act → Prop, (∀ a, wpWood P l.toArray Q S j0 p a w → K a) → match l[i]? with
    | none => False
    | some o => if Region.wanted o (yielded l.toArray a.tmps) = true then ∃ v, (∀ w, True → (execOp a.eval o).run P w = .ok (.value v) w) ∧ K (a.put o.dst v) else K (a.put o.dst undef)) :
    wpWood P l.toArray Q S j0 (.pure i p) a w := by
  have h := h _ fun _ h => h
  cases ho : l[i]? with
  | none => rw [ho] at h; exact h.elim
  | some o =>
    rw [ho] at h
    have h : if Region.wanted o (yielded l.toArray a.tmps) = true then _ else _ := h
    by_cases hw : Region.wanted o (yielded l.toArray a.tmps) = true
    · rw [if_pos hw] at h
      obtain ⟨v, h1, h2⟩ := h
      exact ⟨o, v, by simpa using ho, .inl ⟨hw, h1⟩, h2⟩
    · rw [if_neg hw] at h
      exact ⟨o, undef, by simpa using ho, .inr ⟨by simpa using hw, rfl⟩, h⟩
theorem wood_load (h : ∀ K : Act → Prop, (∀ a, wpWood P l.toArray Q S j0 p a w → K a) → match l[i]? with
    | none => False
    | some o => if Region.wanted o (yielded l.toArray a.tmps) = true then ∃ v, (∀ w, S w → (execOp a.eval o).run P w = .ok (.value v) w) ∧ K (a.put o.dst v) else K (a.put o.dst undef)) :
    wpWood P l.toArray Q S j0 (.load i p) a w := by
  have h := h _ fun _ h => h
  cases ho : l[i]? with
  | none => rw [ho] at h; exact h.elim
  | some o =>
    rw [ho] at h
    have h : if Region.wanted o (yielded l.toArray a.tmps) = true then _ else _ := h
    by_cases hw : Region.wanted o (yielded l.toArray a.tmps) = true
    · rw [if_pos hw] at h
      obtain ⟨v, h1, h2⟩ := h
      exact ⟨o, v, by simpa using ho, .inl ⟨hw, h1⟩, h2⟩
    · rw [if_neg hw] at h
      exact ⟨o, undef, by simpa using ho, .inr ⟨by simpa using hw, rfl⟩, h⟩
theorem wood_run (h : ∀ K : Act → World → Prop, (∀ a w, (i ≠ j0 → S w) ∧ wpWood P l.toArray Q S j0 p a w → K a w) → match l[i]? with
    | none => False
    | some o => if Region.wanted o (yielded l.toArray a.tmps) = true then o.wp P a w K Q else K (a.put o.dst undef) w) :
    wpWood P l.toArray Q S j0 (.run i p) a w := by
  have h := h _ fun _ _ h => h
  show wpOp P l.toArray Q i _ a w
  unfold wpOp
  have e : l.toArray[i]? = l[i]? := by simp
  rw [e]
  cases ho : l[i]? with
  | none => rw [ho] at h; exact h.elim
  | some o =>
    rw [ho] at h
    have h : if Region.wanted o (yielded l.toArray a.tmps) = true then _ else _ := h
    show if Region.wanted o (yielded l.toArray a.tmps) = true then _ else _
    by_cases hw : Region.wanted o (yielded l.toArray a.tmps) = true
    · rw [if_pos hw] at h ⊢; exact .inl h
    · rw [if_neg hw] at h ⊢; exact h
theorem wood_alt (h1 : wpWood P l.toArray Q S j0 (.run i p) a w) (h2 : wpWood P l.toArray Q S j0 (.run j q) a w) : wpWood P l.toArray Q S j0 (.alt i p j q) a w := ⟨h1, h2⟩
end
end
/-- A literal of one number that was made a while ago. -/
instance (priority := 850) Rd.lit1 (w0 w : World) (P : HP) (κ : IntKind) (x : Int) (g : Nat) (F : HP) [h : Sat w0 w P] [p : PullP P g 0 [Value.int κ x] F] : Rd w κ (.slice (some ⟨g, 0, none⟩) 1 1) [x] :=
  ⟨⟨some ⟨g, 0, none⟩, 1, g, 0, rfl, Nat.le_refl _, by unfold maxLen; omega, fun _ => rfl, fun j hj => by
    have hj0 : j = 0 := by simpa using hj
    subst hj0
    exact (h.perm p.eq).c0⟩⟩
end Go.Sx
