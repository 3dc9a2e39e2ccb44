/-
  Plain facts on whose turn it is: the one that beats those ahead of it and is beaten by none behind it; the row that is made of a list of tasks.
-/
import Derived.Test.YtigjeflofbdahaaWaitD
namespace Go.Proofs.Ytigjeflofbdahaa
open Go.RowKit Go.Sx

def beats (lv : List Int) (t b : Int) : Prop := t < lv.length ∧ ((lv.length : Int) ≤ b ∨ lvAt lv t < lvAt lv b)
theorem bestStep_def (lv : List Int) (b t : Int) : bestStep lv b t = t ∧ beats lv t b ∨ bestStep lv b t = b ∧ ¬ beats lv t b := by
  unfold bestStep beats
  split
  · exact .inl ⟨rfl, by assumption⟩
  · exact .inr ⟨rfl, by assumption⟩
theorem beats_trans {lv : List Int} {a b c : Int} (h1 : beats lv a b) (h2 : beats lv b c) : beats lv a c := by
  unfold beats at *; exact ⟨h1.1, by rcases h1.2 with h | h <;> rcases h2.2 with h' | h' <;> omega⟩
theorem beats_not {lv : List Int} {a b c : Int} (h1 : beats lv a b) (h2 : ¬ beats lv c b) : beats lv a c := by
  unfold beats at *
  obtain ⟨h3, h4⟩ := h1
  refine ⟨h3, ?_⟩
  by_cases hc : c < lv.length
  · rcases h4 with h | h
    · exact absurd ⟨hc, .inl h⟩ h2
    · right
      by_cases h5 : lvAt lv c < lvAt lv b
      · exact absurd ⟨hc, .inr h5⟩ h2
      · omega
  · left; omega
theorem not_beats_trans {lv : List Int} {a b c : Int} (h1 : ¬ beats lv a b) (h2 : beats lv c b) : ¬ beats lv a c := fun h => h1 (beats_trans h h2)

theorem fold_split (lv : List Int) : ∀ (r : List Int) (t : Int), ∃ A C, t :: r = A ++ r.foldl (bestStep lv) t :: C ∧ (∀ x ∈ A, beats lv (r.foldl (bestStep lv) t) x) ∧ ∀ x ∈ C, ¬ beats lv x (r.foldl (bestStep lv) t) := by
  have key : ∀ (r : List Int) (A C : List Int) (t : Int), (∀ x ∈ A, beats lv t x) → (∀ x ∈ C, ¬ beats lv x t) →
      ∃ A' C', A ++ t :: C ++ r = A' ++ r.foldl (bestStep lv) t :: C' ∧ (∀ x ∈ A', beats lv (r.foldl (bestStep lv) t) x) ∧ ∀ x ∈ C', ¬ beats lv x (r.foldl (bestStep lv) t) := by
    intro r
    induction r with
    | nil => intro A C t ha hc; exact ⟨A, C, by simp, ha, hc⟩
    | cons y r ih =>
      intro A C t ha hc
      rw [List.foldl_cons]
      rcases bestStep_def lv t y with ⟨e, hb⟩ | ⟨e, hb⟩
      · rw [e]
        obtain ⟨A', C', e1, e2, e3⟩ := ih (A ++ t :: C) [] y (fun x hx => by
          rcases List.mem_append.1 hx with h | h
          · exact beats_trans hb (ha x h)
          · rcases List.mem_cons.1 h with rfl | h
            · exact hb
            · exact beats_not hb (hc x h)) (fun x hx => by cases hx)
        exact ⟨A', C', by rw [← e1]; simp, e2, e3⟩
      · rw [e]
        obtain ⟨A', C', e1, e2, e3⟩ := ih A (C ++ [y]) t ha (fun x hx => by
          rcases List.mem_append.1 hx with h | h
          · exact hc x h
          · simp at h; rw [h]; exact hb)
        exact ⟨A', C', by rw [← e1]; simp, e2, e3⟩
  intro r t
  simpa using key r [] [] t (fun x hx => by cases hx) (fun x hx => by cases hx)

theorem best_split (lv : List Int) (l : List Int) (h : l ≠ []) : ∃ A C, l = A ++ bestOf lv l :: C ∧ (∀ x ∈ A, beats lv (bestOf lv l) x) ∧ ∀ x ∈ C, ¬ beats lv x (bestOf lv l) := by
  cases l with
  | nil => exact absurd rfl h
  | cons t r => exact fold_split lv r t

theorem split_best (lv : List Int) (A C : List Int) (b : Int) (ha : ∀ x ∈ A, beats lv b x) (hc : ∀ x ∈ C, ¬ beats lv x b) : bestOf lv (A ++ b :: C) = b := by
  have hC : ∀ (C : List Int), (∀ x ∈ C, ¬ beats lv x b) → C.foldl (bestStep lv) b = b := by
    intro C
    induction C with
    | nil => intro _; rfl
    | cons y r ih =>
      intro h
      rw [List.foldl_cons]
      rcases bestStep_def lv b y with ⟨_, e2⟩ | ⟨e, _⟩
      · exact absurd e2 (h y (by simp))
      · rw [e]; exact ih (fun x hx => h x (by simp [hx]))
  have hA : ∀ (A : List Int) (t : Int), beats lv b t → (∀ x ∈ A, beats lv b x) → (A ++ b :: C).foldl (bestStep lv) t = b := by
    intro A
    induction A with
    | nil =>
      intro t ht _
      rw [List.nil_append, List.foldl_cons]
      rcases bestStep_def lv t b with ⟨e, _⟩ | ⟨_, e2⟩
      · rw [e]; exact hC C hc
      · exact absurd ht e2
    | cons y r ih =>
      intro t ht h
      rw [List.cons_append, List.foldl_cons]
      rcases bestStep_def lv t y with ⟨e, _⟩ | ⟨e, _⟩
      · rw [e]; exact ih y (h y (by simp)) (fun x hx => h x (by simp [hx]))
      · rw [e]; exact ih t ht (fun x hx => h x (by simp [hx]))
  cases A with
  | nil => exact hC C hc
  | cons y r => exact hA r y (ha y (by simp)) (fun x hx => ha x (by simp [hx]))

theorem best_erase (lv l : List Int) (g : Int) (h : l ≠ []) (hg : g ≠ bestOf lv l) : l.erase g ≠ [] ∧ bestOf lv (l.erase g) = bestOf lv l := by
  obtain ⟨A, C, e, ha, hc⟩ := best_split lv l h
  generalize bestOf lv l = b at *
  subst e
  have e : (A ++ b :: C).erase g = (if g ∈ A then A.erase g else A) ++ b :: (if g ∈ A then C else C.erase g) := by
    rw [List.erase_append]
    split
    · rfl
    · rw [List.erase_cons_tail (by simpa using Ne.symm hg)]
  rw [e]
  refine ⟨by simp, split_best lv _ _ b (fun x hx => ?_) (fun x hx => ?_)⟩
  · split at hx
    · exact ha x (List.mem_of_mem_erase hx)
    · exact ha x hx
  · split at hx
    · exact hc x hx
    · exact hc x (List.mem_of_mem_erase hx)

theorem best_in (lv l : List Int) (h : l ≠ []) : bestOf lv l ∈ l := by
  obtain ⟨A, C, e, _, _⟩ := best_split lv l h
  generalize bestOf lv l = b at e ⊢
  rw [e]; simp

/-! ### A row that is made of a list -/
def addOne (l : List Int) (t : Int) : List Int := if addOk l t then l ++ [t] else l
theorem addOne_ok {l : List Int} (h : RowOk l) (t : Int) : RowOk (addOne l t) := by
  unfold addOne
  split
  · rename_i hc
    obtain ⟨h1, h2, h3⟩ := hc
    refine ⟨List.nodup_append.2 ⟨h.1, by simp, fun a ha b hb => by simp at hb; rintro rfl; exact h3 (hb ▸ ha)⟩, fun x hx => ?_⟩
    rcases List.mem_append.1 hx with hx | hx
    · exact h.2 x hx
    · simp at hx; omega
  · exact h
theorem rowOk_nil : RowOk [] := ⟨by simp, fun t h => by cases h⟩
theorem rowOk_erase {l : List Int} (h : RowOk l) (t : Int) : RowOk (l.erase t) := ⟨h.1.erase t, fun x hx => h.2 x (List.mem_of_mem_erase hx)⟩
theorem addAll_ok (ts : List Int) : RowOk (ts.foldl addOne []) := by
  have key : ∀ (ts l : List Int), RowOk l → RowOk (ts.foldl addOne l) := by
    intro ts
    induction ts with
    | nil => intro l h; exact h
    | cons t r ih => intro l h; exact ih _ (addOne_ok h t)
  exact key ts [] rowOk_nil
theorem addAll_next {ts : List Int} {k : Nat} (hk : k < ts.length) : (ts.take (k + 1)).foldl addOne [] = addOne ((ts.take k).foldl addOne []) (ts.getD k 0) := by
  rw [List.take_succ_eq_append_getElem hk, List.foldl_append]
  simp [List.getD, hk]

/-- Add in one contract. -/
theorem rowAdd (b o : Nat) (l : List Int) (t : Int) (w0 w : World) (F : HP) (hs : Sat w0 w (rowP b o l * F)) (hl : RowOk l) :
    Calls Try.prog 22 #[.pointer (some ⟨b, o, none⟩), .int .i64 t] w (RetV w0 (.int .i64 (if addOk l t then 0 else 1)) (rowP b o (addOne l t) * F)) := by
  by_cases h : addOk l t
  · have e : addOne l t = l ++ [t] := if_pos h
    rw [e, if_pos h]
    exact rowAdd_yes b o l t w0 w F hs h (by have := rowOk_len hl; omega)
  · have e : addOne l t = l := if_neg h
    rw [e, if_neg h]
    exact (rowAdd_no b o l t w0 w F hs h).mono fun e w' ⟨h1, h2⟩ => ⟨h1, h2 ▸ hs⟩
/-- Remove in one contract. -/
theorem rowRemove (b o : Nat) (l : List Int) (t : Int) (w0 w : World) (F : HP) (hs : Sat w0 w (rowP b o l * F)) (hl : RowOk l) :
    Calls Try.prog 19 #[.pointer (some ⟨b, o, none⟩), .int .i64 t] w (RetV w0 (.bool (decide (t ∈ l))) (rowP b o (l.erase t) * F)) := by
  by_cases h : t ∈ l
  · rw [decide_eq_true h]
    exact rowRemove_yes b o l t w0 w F hs h (by have := rowOk_len hl; omega)
  · rw [decide_eq_false h, List.erase_of_not_mem h]
    exact (rowRemove_no b o l t w0 w F hs h).mono fun e w' ⟨h1, h2⟩ => ⟨h1, h2 ▸ hs⟩
/-- Best in one contract. -/
theorem rowBest (b o : Nat) (l : List Int) (lv : Value) (levels : List Int) (w0 w : World) (F : HP) (hs : Sat w0 w (rowP b o l * F)) (hlv : RdN .i64 w lv levels) (hl : RowOk l) :
    Calls Try.prog 18 #[.pointer (some ⟨b, o, none⟩), lv] w (Drawn (.tuple #[.int .i64 (bestOf levels l), .bool (decide (l ≠ []))]) w) := by
  cases l with
  | nil => exact (rowBest_none b o lv w0 w F hs).mono fun e w' ⟨h1, h2⟩ => ⟨h1, 0, h2.symm⟩
  | cons t r =>
    rw [decide_eq_true (by simp : t :: r ≠ [])]
    exact rowBest_some b o t r lv levels w0 w F hs hlv (fun x hx => (hl.2 x hx).1) (by have := rowOk_len hl; simp at this; omega)
end Go.Proofs.Ytigjeflofbdahaa
