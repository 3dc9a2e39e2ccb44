/-
  A region that draws its order and whose store hits a cell that it loads: a condition on the world that is kept till the store (number j0) has come up. Nothing of any program stands here.
-/
import Derived.Test.YtigjeflofbdahaaRegion
namespace Go.Sx
open Go.RowKit

/-- Whatever order is picked from here on; as long as number j0 has not come up, S holds behind what was carried out. -/
def wpTill (P : Program) (md : Region.Mode) (ops : Array Oper) (Q : Exit → Act → World → Prop) (S : World → Prop) (j0 : Nat) : Nat → Array Bool → Act → World → Prop
  | 0, listed, a, w => Region.ready md ops listed = [] ∧ Q .normal a w
  | fuel + 1, listed, a, w =>
    (Region.ready md ops listed = [] → Q .normal a w) ∧
    ∀ i ∈ Region.ready md ops listed, wpOp P ops Q i (fun a' w' => (i ≠ j0 → listed.getD j0 true = false → S w') ∧ wpTill P md ops Q S j0 fuel (listed.setIfInBounds i true) a' w') a w

section
variable {P : Program} {ops : Array Oper} {Q : Exit → Act → World → Prop} {md : Region.Mode} {S : World → Prop} {j0 : Nat}
theorem wpAny_of_till : ∀ (fuel : Nat) (listed : Array Bool) (a : Act) (w : World), wpTill P md ops Q S j0 fuel listed a w → wpAny P md ops Q fuel listed a w
  | 0, _, _, _, h => h
  | fuel + 1, _, _, _, h => ⟨h.1, fun i hi => wpOp_mono (fun a' w' h' => wpAny_of_till fuel _ a' w' h'.2) (h.2 i hi)⟩

/-- j0 waits for i. -/
def waitsFor (md : Region.Mode) (ops : Array Oper) (j0 i : Nat) : Bool := match ops[j0]? with
  | none => false
  | some o => o.after.any fun e => Region.binds md e && e.on == i
theorem waitsFor_ready {i : Nat} {listed : Array Bool} (h : waitsFor md ops j0 i = true) (hr : j0 ∈ Region.ready md ops listed) : listed.getD i false = true := by
  unfold waitsFor at h
  obtain ⟨_, o, ho, hall⟩ := mem_ready.1 hr
  rw [ho] at h
  obtain ⟨e, he, hb⟩ := Array.any_eq_true'.1 h
  simp only [Bool.and_eq_true, beq_iff_eq] at hb
  rw [← hb.2]
  exact hall e he hb.1
theorem unlisted {i : Nat} {listed : Array Bool} (h : listed.getD i true = false) : ¬ listed.getD i false = true := by
  rcases Nat.lt_or_ge i listed.size with h' | h'
  · simp [h'] at h ⊢; exact h
  · simp [Array.getElem?_eq_none h'] at h
theorem listed_set {i : Nat} {listed : Array Bool} (h : listed.getD i true = false) : (listed.setIfInBounds i true).getD i true = true := by
  rcases Nat.lt_or_ge i listed.size with h' | h'
  · simp [h']
  · simp [Array.getElem?_eq_none h'] at h

theorem wpTill_first {i : Nat} {oi : Oper} {v : Value} {Si : World → Prop} (hi : ops[i]? = some oi) (hsel : ∀ (j : Nat) (o : Oper) cs b, ops[j]? = some o → o.op ≠ .select cs b)
    (hQ : ∀ c a w, Q (.panic c) (a.put oi.dst v) w → Q (.panic c) a w) (hij : i ≠ j0) (hneed : (∀ w, Si w) ∨ ((∀ w, S w → Si w) ∧ waitsFor md ops j0 i = true)) :
    ∀ (fuel : Nat) (listed : Array Bool) (a : Act) (w : World),
      (∀ j oj, ops[j]? = some oj → j ≠ i → listed.getD j true = false → (∀ e ∈ oj.after, Region.binds md e = true → e.on ≠ i) → oi.apart ops oj = true) →
      i ∈ Region.ready md ops listed → ((∀ w, Si w) ∨ listed.getD j0 true = false) → YieldsIf P ops Si oi v a → (listed.getD j0 true = false → S w) →
      wpTill P md ops Q S j0 fuel (listed.setIfInBounds i true) (a.put oi.dst v) w → wpTill P md ops Q S j0 (fuel + 1) listed a w := by
  have hSi : ∀ (listed : Array Bool) (w : World), ((∀ w, Si w) ∨ listed.getD j0 true = false) → (listed.getD j0 true = false → S w) → Si w := fun listed w h1 h2 => by
    rcases h1 with h | h
    · exact h w
    · rcases hneed with h3 | ⟨h3, _⟩
      · exact h3 w
      · exact h3 w (h2 h)
  intro fuel
  induction fuel with
  | zero =>
    intro listed a w _ hr hst hy hS H
    refine ⟨fun h => (by rw [h] at hr; cases hr), fun j hj => ?_⟩
    by_cases hji : j = i
    · subst hji; exact hy.wpOp hi (hSi listed w hst hS) ⟨fun _ h => hS h, H⟩
    · have := ready_mono hj hji
      rw [H.1] at this
      cases this
  | succ fuel ih =>
    intro listed a w hfree hr hst hy hS H
    refine ⟨fun h => (by rw [h] at hr; cases hr), fun j hj => ?_⟩
    by_cases hji : j = i
    · subst hji; exact hy.wpOp hi (hSi listed w hst hS) ⟨fun _ h => hS h, H⟩
    · have h1 := H.2 j (ready_mono hj hji)
      obtain ⟨hjun, oj, hoj, hall⟩ := mem_ready.1 hj
      have hiun := (mem_ready.1 hr).1
      have hnot : ∀ e ∈ oj.after, Region.binds md e = true → e.on ≠ i := fun e he hb heq => by
        have h1 := hall e he hb
        rw [heq] at h1
        exact unlisted hiun h1
      have h2 := wpOp_putIf hoj (hfree j oj hoj hji hjun hnot) (fun cs b => hsel i oi cs b hi) (fun cs b => hsel j oj cs b hoj) hQ hy h1
      have hfree' : ∀ k ok, ops[k]? = some ok → k ≠ i → (listed.setIfInBounds j true).getD k true = false →
          (∀ e ∈ ok.after, Region.binds md e = true → e.on ≠ i) → oi.apart ops ok = true := fun k ok hk hki hun hno => by
        refine hfree k ok hk hki ?_ hno
        by_cases hjk : j = k
        · subst hjk; exact hjun
        · rw [getD_set_ne true hjk] at hun; exact hun
      have hst' : (∀ w, Si w) ∨ (listed.setIfInBounds j true).getD j0 true = false := by
        rcases hst with h | h
        · exact .inl h
        · rcases hneed with h3 | ⟨_, h3⟩
          · exact .inl h3
          · by_cases hj0 : j = j0
            · subst hj0
              exact absurd (waitsFor_ready h3 hj) (unlisted hiun)
            · exact .inr (by rw [getD_set_ne true hj0]; exact h)
      refine wpOp_mono (fun a' w' h3 => ⟨fun hn hl => h3.2.1 hn (by rw [getD_set_ne true hij]; exact hl), ih (listed.setIfInBounds j true) a' w' hfree' (ready_mono hr (Ne.symm hji)) hst' h3.1 ?_ ?_⟩) h2
      · intro hl
        by_cases hj0 : j = j0
        · subst hj0
          rw [listed_set hjun] at hl
          cases hl
        · rw [getD_set_ne true hj0] at hl
          exact h3.2.1 hj0 (by rw [getD_set_ne true hij]; exact hl)
      · rw [Array.setIfInBounds_comm _ _ hji]
        exact h3.2.2

/-- The plan: (i, 0): it yields its value in whatever world; (i, 1): in every world that meets S; else it is carried out. -/
def wpPlan (P : Program) (ops : Array Oper) (Q : Exit → Act → World → Prop) (S : World → Prop) (j0 : Nat) : List (Nat × Nat) → Act → World → Prop
  | [], a, w => Q .normal a w
  | (i, 0) :: rest, a, w => ∃ o v, ops[i]? = some o ∧ YieldsIf P ops (fun _ => True) o v a ∧ wpPlan P ops Q S j0 rest (a.put o.dst v) w
  | (i, 1) :: rest, a, w => ∃ o v, ops[i]? = some o ∧ YieldsIf P ops S o v a ∧ wpPlan P ops Q S j0 rest (a.put o.dst v) w
  | (i, _ + 2) :: rest, a, w => wpOp P ops Q i (fun a' w' => (i ≠ j0 → S w') ∧ wpPlan P ops Q S j0 rest a' w') a w

def tillB (md : Region.Mode) (ops : Array Oper) (j0 : Nat) : List (Nat × Nat) → Array Bool → Bool
  | [], listed => (Region.ready md ops listed).isEmpty
  | (i, 0) :: rest, listed => (i != j0) && (Region.ready md ops listed).contains i && Region.free md ops listed i && tillB md ops j0 rest (listed.setIfInBounds i true)
  | (i, 1) :: rest, listed => (i != j0) && waitsFor md ops j0 i && !listed.getD j0 true && (Region.ready md ops listed).contains i && Region.free md ops listed i && tillB md ops j0 rest (listed.setIfInBounds i true)
  | (i, _ + 2) :: rest, listed => (Region.ready md ops listed == [i]) && tillB md ops j0 rest (listed.setIfInBounds i true)
def planTillB (ops : Array Oper) (j0 : Nat) (plan : List (Nat × Nat)) : Bool :=
  Region.noSelect ops && (plan.length == ops.size) && tillB .any ops j0 plan (Array.replicate ops.size false)

theorem wpTill_of_plan (hs : Region.noSelect ops = true) (hQ : ∀ (t : Array Value) c (a : Act) w, Q (.panic c) { a with tmps := t } w → Q (.panic c) a w) :
    ∀ (plan : List (Nat × Nat)) (listed : Array Bool) (a : Act) (w : World), tillB md ops j0 plan listed = true → (listed.getD j0 true = false → S w) → wpPlan P ops Q S j0 plan a w → wpTill P md ops Q S j0 plan.length listed a w
  | [], _, _, _, hB, _, h => ⟨by simpa [tillB] using hB, h⟩
  | (i, 0) :: rest, listed, a, w, hB, hS, h => by
    simp only [tillB, Bool.and_eq_true, bne_iff_ne] at hB
    obtain ⟨⟨⟨h0, hr⟩, hf⟩, hB'⟩ := hB
    obtain ⟨o, v, ho, hy, h'⟩ := h
    refine wpTill_first ho (Region.noSelect_spec hs) (fun c a w hq => by
      cases hd : o.dst with
      | none => rw [hd] at hq; exact hq
      | some d => rw [hd] at hq; exact hQ _ c a w hq) h0 (.inl fun _ => trivial) _ _ _ _ (Region.free_spec ho hf) (by simpa using hr) (.inl fun _ => trivial) hy hS
      (wpTill_of_plan hs hQ rest _ _ _ hB' (fun hl => hS (by rw [getD_set_ne true h0] at hl; exact hl)) h')
  | (i, 1) :: rest, listed, a, w, hB, hS, h => by
    simp only [tillB, Bool.and_eq_true, bne_iff_ne, Bool.not_eq_true'] at hB
    obtain ⟨⟨⟨⟨⟨h0, hw⟩, hl⟩, hr⟩, hf⟩, hB'⟩ := hB
    obtain ⟨o, v, ho, hy, h'⟩ := h
    refine wpTill_first ho (Region.noSelect_spec hs) (fun c a w hq => by
      cases hd : o.dst with
      | none => rw [hd] at hq; exact hq
      | some d => rw [hd] at hq; exact hQ _ c a w hq) h0 (.inr ⟨fun _ h => h, hw⟩) _ _ _ _ (Region.free_spec ho hf) (by simpa using hr) (.inr hl) hy hS
      (wpTill_of_plan hs hQ rest _ _ _ hB' (fun hl => hS (by rw [getD_set_ne true h0] at hl; exact hl)) h')
  | (i, n + 2) :: rest, listed, a, w, hB, hS, h => by
    simp only [tillB, Bool.and_eq_true, beq_iff_eq] at hB
    obtain ⟨hr, hB'⟩ := hB
    refine ⟨fun h0 => (by rw [hr] at h0; cases h0), fun j hj => ?_⟩
    rw [hr] at hj
    have : j = i := by simpa using hj
    subst this
    have hjr : j ∈ Region.ready md ops listed := by rw [hr]; simp
    refine wpOp_mono (fun a' w' h' => ⟨fun hn _ => h'.1 hn, wpTill_of_plan hs hQ rest _ _ _ hB' (fun hl => ?_) h'.2⟩) h
    by_cases hj0 : j = j0
    · subst hj0
      rw [listed_set (mem_ready.1 hjr).1] at hl
      cases hl
    · exact h'.1 hj0

theorem wp_region_till {id : Nat} {a : Act} {w : World} (S : World → Prop) (j0 : Nat) (plan : List (Nat × Nat)) (hm : P.follows .mixedOrders = true) (hB : planTillB ops j0 plan = true)
    (hQ : ∀ (t : Array Value) c (a : Act) w, Q (.panic c) { a with tmps := t } w → Q (.panic c) a w) (hS : S w.drew) (h : wpPlan P ops Q S j0 plan a w.drew) : (Code.region id ops true).wp P Q a w := by
  simp only [planTillB, Bool.and_eq_true, beq_iff_eq] at hB
  obtain ⟨⟨h1, h2⟩, h3⟩ := hB
  refine wp_region_any hm (wpAny_of_till (S := S) (j0 := j0) _ _ _ _ ?_)
  rw [← h2]
  rw [← h2] at h3
  exact wpTill_of_plan h1 hQ plan _ a w.drew h3 (fun _ => hS) h

theorem plan_done {a : Act} {w : World} (h : Q .normal a w) : wpPlan P ops Q S j0 [] a w := h
section
variable {l : List Oper} {i n : Nat} {rest : List (Nat × Nat)} {a : Act} {w : World}
theorem plan_pure (h : ∀ K : Act → Prop, (∀ a, wpPlan P l.toArray Q S j0 rest a w → K a) → match l[i]? with
    | none => False
    | some o => if Region.wanted o (yielded l.toArray a.tmps) = true then ∃ v, (∀ w, True → (execOp a.eval o).run P w = .ok (.value v) w) ∧ K (a.put o.dst v) else K (a.put o.dst undef)) :
    wpPlan P l.toArray Q S j0 ((i, 0) :: rest) a w := by
  have h := h _ fun _ h => h
  cases ho : l[i]? with
  | none => rw [ho] at h; exact h.elim
  | some o =>
    rw [ho] at h
    have h : if Region.wanted o (yielded l.toArray a.tmps) = true then _ else _ := h
    by_cases hw : Region.wanted o (yielded l.toArray a.tmps) = true
    · rw [if_pos hw] at h
      obtain ⟨v, h1, h2⟩ := h
      exact ⟨o, v, by simpa using ho, .inl ⟨hw, h1⟩, h2⟩
    · rw [if_neg hw] at h
      exact ⟨o, undef, by simpa using ho, .inr ⟨by simpa using hw, rfl⟩, h⟩
theorem plan_read (h : ∀ K : Act → Prop, (∀ a, wpPlan P l.toArray Q S j0 rest a w → K a) → match l[i]? with
    | none => False
    | some o => if Region.wanted o (yielded l.toArray a.tmps) = true then ∃ v, (∀ w, S w → (execOp a.eval o).run P w = .ok (.value v) w) ∧ K (a.put o.dst v) else K (a.put o.dst undef)) :
    wpPlan P l.toArray Q S j0 ((i, 1) :: rest) a w := by
  have h := h _ fun _ h => h
  cases ho : l[i]? with
  | none => rw [ho] at h; exact h.elim
  | some o =>
    rw [ho] at h
    have h : if Region.wanted o (yielded l.toArray a.tmps) = true then _ else _ := h
    by_cases hw : Region.wanted o (yielded l.toArray a.tmps) = true
    · rw [if_pos hw] at h
      obtain ⟨v, h1, h2⟩ := h
      exact ⟨o, v, by simpa using ho, .inl ⟨hw, h1⟩, h2⟩
    · rw [if_neg hw] at h
      exact ⟨o, undef, by simpa using ho, .inr ⟨by simpa using hw, rfl⟩, h⟩
theorem plan_run (h : ∀ K : Act → World → Prop, (∀ a w, (i ≠ j0 → S w) ∧ wpPlan P l.toArray Q S j0 rest a w → K a w) → match l[i]? with
    | none => False
    | some o => if Region.wanted o (yielded l.toArray a.tmps) = true then o.wp P a w K Q else K (a.put o.dst undef) w) :
    wpPlan P l.toArray Q S j0 ((i, n + 2) :: rest) a w := by
  have h := h _ fun _ _ h => h
  show wpOp P l.toArray Q i _ a w
  unfold wpOp
  have e : l.toArray[i]? = l[i]? := by simp
  rw [e]
  cases ho : l[i]? with
  | none => rw [ho] at h; exact h.elim
  | some o =>
    rw [ho] at h
    have h : if Region.wanted o (yielded l.toArray a.tmps) = true then _ else _ := h
    show if Region.wanted o (yielded l.toArray a.tmps) = true then _ else _
    by_cases hw : Region.wanted o (yielded l.toArray a.tmps) = true
    · rw [if_pos hw] at h ⊢; exact .inl h
    · rw [if_neg hw] at h ⊢; exact h
end
end
end Go.Sx
