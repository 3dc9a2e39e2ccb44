/-
  The walk of the reference's Best; that both Bests are one.
-/
import Derived.Test.YtigjeflofbdahaaWaitB
namespace Go.Proofs.Ytigjeflofbdahaa
open Go.RowKit Go.Sx

def rStep (lv : List Int) (best t : Int) : Int := if t < lv.length ∧ (best < 0 ∨ lvAt lv t < lvAt lv best) then t else best
def rBest (lv l : List Int) : Int := if l.foldl (rStep lv) (-1) < 0 ∧ l ≠ [] then l.getD 0 0 else l.foldl (rStep lv) (-1)

theorem rStep_cases (lv l : List Int) (h : ∀ t ∈ l, 0 ≤ t) : l.foldl (rStep lv) (-1) = -1 ∨ (0 ≤ l.foldl (rStep lv) (-1) ∧ l.foldl (rStep lv) (-1) < lv.length ∧ l.foldl (rStep lv) (-1) ∈ l) := by
  have key : ∀ (l : List Int) (b : Int), (∀ t ∈ l, 0 ≤ t) → l.foldl (rStep lv) b = b ∨ (0 ≤ l.foldl (rStep lv) b ∧ l.foldl (rStep lv) b < lv.length ∧ l.foldl (rStep lv) b ∈ l) := by
    intro l
    induction l with
    | nil => intro b _; exact .inl rfl
    | cons t r ih =>
      intro b h
      rw [List.foldl_cons]
      rcases ih (rStep lv b t) (fun x hx => h x (by simp [hx])) with e | ⟨e1, e2, e3⟩
      · rw [e]
        unfold rStep
        split
        · rename_i hc; exact .inr ⟨h t (by simp), hc.1, by simp⟩
        · exact .inl rfl
      · exact .inr ⟨e1, e2, by simp [e3]⟩
  exact key l (-1) h

theorem best_agree (lv : List Int) (t0 : Int) (r : List Int) (h0 : 0 ≤ t0) (h : ∀ t ∈ r, 0 ≤ t) : rBest lv (t0 :: r) = bestOf lv (t0 :: r) := by
  have key : ∀ (r : List Int) (b c : Int), (∀ t ∈ r, 0 ≤ t) → (b < 0 ∧ c = t0 ∧ (lv.length : Int) ≤ t0 ∨ 0 ≤ b ∧ b < lv.length ∧ c = b) →
      (r.foldl (rStep lv) b < 0 ∧ r.foldl (bestStep lv) c = t0 ∨ 0 ≤ r.foldl (rStep lv) b ∧ r.foldl (bestStep lv) c = r.foldl (rStep lv) b) := by
    intro r
    induction r with
    | nil => intro b c _ hi; rcases hi with ⟨h1, h2, _⟩ | ⟨h1, _, h2⟩
             · exact .inl ⟨h1, h2⟩
             · exact .inr ⟨h1, h2⟩
    | cons t r ih =>
      intro b c h hi
      rw [List.foldl_cons, List.foldl_cons]
      have ht := h t (by simp)
      refine ih _ _ (fun x hx => h x (by simp [hx])) ?_
      unfold rStep bestStep
      rcases hi with ⟨h1, rfl, h3⟩ | ⟨h1, h2, rfl⟩
      · by_cases hc : t < lv.length
        · rw [if_pos ⟨hc, .inl h1⟩, if_pos ⟨hc, .inl h3⟩]; exact .inr ⟨ht, hc, rfl⟩
        · rw [if_neg (fun e => hc e.1), if_neg (fun e => hc e.1)]; exact .inl ⟨h1, rfl, h3⟩
      · by_cases hc : t < lv.length ∧ lvAt lv t < lvAt lv c
        · rw [if_pos ⟨hc.1, .inr hc.2⟩, if_pos ⟨hc.1, .inr hc.2⟩]; exact .inr ⟨ht, hc.1, rfl⟩
        · rw [if_neg (fun e => hc ⟨e.1, e.2.resolve_left (by omega)⟩), if_neg (fun e => hc ⟨e.1, e.2.resolve_left (by omega)⟩)]; exact .inr ⟨h1, h2, rfl⟩
  have h1 : rStep lv (-1) t0 < 0 ∧ t0 = t0 ∧ (lv.length : Int) ≤ t0 ∨ 0 ≤ rStep lv (-1) t0 ∧ rStep lv (-1) t0 < lv.length ∧ t0 = rStep lv (-1) t0 := by
    unfold rStep
    by_cases hc : t0 < lv.length
    · rw [if_pos ⟨hc, .inl (by omega)⟩]; exact .inr ⟨h0, hc, rfl⟩
    · rw [if_neg (fun e => hc e.1)]; exact .inl ⟨by omega, rfl, by omega⟩
  have h2 := key r (rStep lv (-1) t0) t0 h h1
  change rBest lv (t0 :: r) = r.foldl (bestStep lv) t0
  unfold rBest
  rw [List.foldl_cons]
  rcases h2 with ⟨e1, e2⟩ | ⟨e1, e2⟩
  · rw [if_pos ⟨e1, by simp⟩, e2]; rfl
  · rw [if_neg (by omega), e2]

end Go.Proofs.Ytigjeflofbdahaa
