/-
  Locks in memory; the contracts of task, has, Owner, Waits, closes.
-/
import Derived.Test.YtigjeflofbdahaaLockP
import Derived.Test.YtigjeflofbdahaaRec
import Derived.Test.YtigjeflofbdahaaRegionB
import Derived.Test.YtigjeflofbdahaaRegionC
import Derived.Handy
namespace Go.Proofs.Ytigjeflofbdahaa
open Go.RowKit Go.Sx Go.Lk
set_option linter.unusedSimpArgs false
set_option linter.unusedVariables false

instance (priority := 1300) (g off n cap k : Nat) (l : List Int) [h : Lt k l.length] : Cell (numsP .i64 (.slice (some ⟨g, off, none⟩) n cap) l) g (off + k) (.int .i64 (lg l k)) := Cell.nums .i64 g off n cap k l
theorem nums_upd {w0 w : World} {F : HP} {g off n cap k : Nat} {l : List Int} (hs : Sat w0 w (numsP .i64 (.slice (some ⟨g, off, none⟩) n cap) l * F)) (hk : k < l.length) (x : Int) :
    Sat w0 (w.setCell ⟨g, off + k, none⟩ (.int .i64 x)) (numsP .i64 (.slice (some ⟨g, off, none⟩) n cap) (l.set k x) * F) := by
  rcases hs.slice_out with ⟨e, _⟩ | ⟨g', off', cap', sp, e, h1, h2, hx, hsp, hs'⟩
  · cases e
  · simp only [Value.slice.injEq, Option.some.injEq, Addr.mk.injEq] at e
    obtain ⟨⟨rfl, rfl, _⟩, rfl, rfl⟩ := e
    have h3 := hs'.set (j := k) (by rw [List.length_append, List.length_map]; omega) (.int .i64 x)
    rw [List.set_append_left _ _ (by rw [List.length_map]; exact hk), ← List.map_set] at h3
    have h4 := Sat.slice_in (k := 1) (n := l.length) h3 h1 h2 (by simp) hsp
    unfold numsP
    rw [List.length_set]
    exact h4
instance (priority := 1300) (g off n cap k : Nat) (l : List Int) (x : Int) [h : Lt k l.length] : Upd (numsP .i64 (.slice (some ⟨g, off, none⟩) n cap) l) g (off + k) (.int .i64 x) (numsP .i64 (.slice (some ⟨g, off, none⟩) n cap) (l.set k x)) := ⟨fun hs => nums_upd hs h.lt x⟩

/-- The mutexes from place o on: each its owner and its row. -/
def mutR (g : Nat) : Nat → List Int → List (List Int) → HP
  | o, x :: xs, r :: rs => pts g o [.int .i64 x] * (rowP g (o + 1) r * mutR g (o + 2) xs rs)
  | _, _, _ => emp
/-- All but number i. -/
def mutX (g : Nat) : Nat → Nat → List Int → List (List Int) → HP
  | o, 0, _ :: xs, _ :: rs => mutR g (o + 2) xs rs
  | o, i + 1, x :: xs, r :: rs => pts g o [.int .i64 x] * (rowP g (o + 1) r * mutX g (o + 2) i xs rs)
  | _, _, _, _ => emp
def rg (l : List (List Int)) (k : Nat) : List Int := l.getD k []
theorem mutR_at (g : Nat) : ∀ (o i : Nat) (xs : List Int) (rs : List (List Int)) (_ : i < xs.length) (_ : rs.length = xs.length),
    mutR g o xs rs = pts g (o + i * 2) [.int .i64 (lg xs i)] * (rowP g (o + i * 2 + 1) (rg rs i) * mutX g o i xs rs)
  | o, _, [], _, hi, _ => absurd hi (by simp)
  | o, _, _ :: _, [], _, hl => absurd hl (by simp)
  | o, 0, x :: xs, r :: rs, _, _ => by simp [mutR, mutX, lg, rg, List.getD]
  | o, i + 1, x :: xs, r :: rs, hi, hl => by
    have e := mutR_at g (o + 2) i xs rs (by simpa using hi) (by simpa using hl)
    rw [show o + (i + 1) * 2 = o + 2 + i * 2 by omega]
    show pts g o [.int .i64 x] * (rowP g (o + 1) r * mutR g (o + 2) xs rs) = _
    rw [e]
    have e1 : lg (x :: xs) (i + 1) = lg xs i := by simp [lg, List.getD]
    have e2 : rg (r :: rs) (i + 1) = rg rs i := by simp [rg, List.getD]
    rw [e1, e2]
    show _ = pts g (o + 2 + i * 2) [.int .i64 (lg xs i)] * (rowP g (o + 2 + i * 2 + 1) (rg rs i) * (pts g o [.int .i64 x] * (rowP g (o + 1) r * mutX g (o + 2) i xs rs)))
    ac_rfl
theorem mutX_set (g : Nat) : ∀ (o i : Nat) (xs : List Int) (rs : List (List Int)) (x : Int) (r : List Int), mutX g o i (xs.set i x) (rs.set i r) = mutX g o i xs rs
  | o, i, [], rs, x, r => by cases i <;> cases rs <;> rfl
  | o, i, y :: ys, [], x, r => by cases i <;> rfl
  | o, 0, y :: ys, q :: qs, x, r => rfl
  | o, i + 1, y :: ys, q :: qs, x, r => by
    show pts g o [.int .i64 y] * (rowP g (o + 1) q * mutX g (o + 2) i (ys.set i x) (qs.set i r)) = _
    rw [mutX_set g (o + 2) i ys qs x r]; rfl
theorem lg_set {l : List Int} {k : Nat} (h : k < l.length) (x : Int) (j : Nat) : lg (l.set k x) j = if j = k then x else lg l j := by
  unfold lg
  by_cases e : j = k
  · subst e; rw [if_pos rfl]; simp [List.getD, h]
  · rw [if_neg e]; simp [List.getD, List.getElem?_set_ne (Ne.symm e)]
theorem rg_set {l : List (List Int)} {k : Nat} (h : k < l.length) (x : List Int) (j : Nat) : rg (l.set k x) j = if j = k then x else rg l j := by
  unfold rg
  by_cases e : j = k
  · subst e; rw [if_pos rfl]; simp [List.getD, h]
  · rw [if_neg e]; simp [List.getD, List.getElem?_set_ne (Ne.symm e)]
theorem set_same {α : Type} (l : List α) (k : Nat) (d : α) : l.set k (l.getD k d) = l := by
  by_cases h : k < l.length
  · refine List.ext_getElem (by simp) fun i h1 h2 => ?_
    rw [List.getElem_set]
    split
    · rename_i e; subst e; simp [List.getD, h]
    · rfl
  · rw [List.set_eq_of_length_le (by omega)]
class SameLen (xs : List Int) (rs : List (List Int)) : Prop where
  eq : rs.length = xs.length
instance (xs : List Int) (rs : List (List Int)) (i : Nat) (x : Int) [h : SameLen xs rs] : SameLen (xs.set i x) rs := ⟨by rw [List.length_set]; exact h.eq⟩
section
variable (g o i : Nat) (xs : List Int) (rs : List (List Int)) (x : Int)
instance [h : Lt i xs.length] [e : SameLen xs rs] : Cell (mutR g o xs rs) g (o + i * 2) (.int .i64 (lg xs i)) :=
  ⟨fun {w0 w F} hs => by rw [mutR_at g o i xs rs h.lt e.eq] at hs; exact Sat.c0 (F := rowP g (o + i * 2 + 1) (rg rs i) * mutX g o i xs rs * F) (hs.perm (by ac_rfl)),
   fun {w0 w F} hs => by rw [mutR_at g o i xs rs h.lt e.eq] at hs; exact Sat.f0 (F := rowP g (o + i * 2 + 1) (rg rs i) * mutX g o i xs rs * F) (hs.perm (by ac_rfl))⟩
instance [h : Lt i xs.length] [e : SameLen xs rs] : Upd (mutR g o xs rs) g (o + i * 2) (.int .i64 x) (mutR g o (xs.set i x) rs) :=
  ⟨fun {w0 w F} hs => by
    rw [mutR_at g o i xs rs h.lt e.eq] at hs
    have h1 := Sat.set0 (F := rowP g (o + i * 2 + 1) (rg rs i) * mutX g o i xs rs * F) (hs.perm (by ac_rfl)) (.int .i64 x)
    have h2 : mutX g o i (xs.set i x) rs = mutX g o i xs rs := by
      have := mutX_set g o i xs rs x (rg rs i)
      rwa [show rs.set i (rg rs i) = rs from set_same rs i []] at this
    rw [mutR_at g o i (xs.set i x) rs (by rw [List.length_set]; exact h.lt) (by rw [List.length_set]; exact e.eq), h2, lg_set h.lt, if_pos rfl]
    exact h1.perm (by ac_rfl)⟩
end
def lkV (b : Nat) (L : Lk) (v0 v1 v2 : Value) (g off cap : Nat) : HP :=
  pts b 0 [v0, v1, v2, .slice (some ⟨g, off, none⟩) L.ow.length cap] * (numsP .i64 v0 L.own * (numsP .i64 v1 L.now * (numsP .i64 v2 L.on * mutR g off L.ow L.rows)))
/-- Locks at the front of block b. -/
def lkP (b : Nat) (L : Lk) : HP := ex fun v0 => ex fun v1 => ex fun v2 => ex fun g => ex fun off => ex fun cap => lkV b L v0 v1 v2 g off cap
theorem lkP_of {w0 w : World} {F : HP} {b : Nat} {L : Lk} {v0 v1 v2 : Value} {g off cap : Nat} (hs : Sat w0 w (pts b 0 [v0, v1, v2, .slice (some ⟨g, off, none⟩) L.ow.length cap] * (numsP .i64 v0 L.own * (numsP .i64 v1 L.now * (numsP .i64 v2 L.on * (mutR g off L.ow L.rows * F)))))) : Sat w0 w (lkP b L * F) :=
  Sat.ex_in v0 (Sat.ex_in v1 (Sat.ex_in v2 (Sat.ex_in g (Sat.ex_in off (Sat.ex_in cap (hs.perm (by unfold lkV; ac_rfl)))))))
/-- The same, where the mutexes lie told. -/
def lkG (b g off cap : Nat) (L : Lk) : HP := ex fun v0 => ex fun v1 => ex fun v2 => lkV b L v0 v1 v2 g off cap
theorem lkG_of {w0 w : World} {F : HP} {b : Nat} {L : Lk} {v0 v1 v2 : Value} {g off cap : Nat} (hs : Sat w0 w (pts b 0 [v0, v1, v2, .slice (some ⟨g, off, none⟩) L.ow.length cap] * (numsP .i64 v0 L.own * (numsP .i64 v1 L.now * (numsP .i64 v2 L.on * (mutR g off L.ow L.rows * F)))))) : Sat w0 w (lkG b g off cap L * F) :=
  Sat.ex_in v0 (Sat.ex_in v1 (Sat.ex_in v2 (hs.perm (by unfold lkV; ac_rfl))))
theorem lkP_in {w0 w : World} {F : HP} {b : Nat} {L : Lk} {g off cap : Nat} (hs : Sat w0 w (lkG b g off cap L * F)) : Sat w0 w (lkP b L * F) := by
  obtain ⟨v0, hs⟩ := hs.ex_out
  obtain ⟨v1, hs⟩ := hs.ex_out
  obtain ⟨v2, hs⟩ := hs.ex_out
  exact Sat.ex_in v0 (Sat.ex_in v1 (Sat.ex_in v2 (Sat.ex_in g (Sat.ex_in off (Sat.ex_in cap hs)))))
theorem lkP_G {w0 w : World} {F : HP} {b : Nat} {L : Lk} (hs : Sat w0 w (lkP b L * F)) : ∃ g off cap, Sat w0 w (lkG b g off cap L * F) := by
  obtain ⟨v0, hs⟩ := hs.ex_out
  obtain ⟨v1, hs⟩ := hs.ex_out
  obtain ⟨v2, hs⟩ := hs.ex_out
  obtain ⟨g, hs⟩ := hs.ex_out
  obtain ⟨off, hs⟩ := hs.ex_out
  obtain ⟨cap, hs⟩ := hs.ex_out
  exact ⟨g, off, cap, Sat.ex_in v0 (Sat.ex_in v1 (Sat.ex_in v2 hs))⟩
theorem lkG_out {w0 w : World} {F : HP} {b g off cap : Nat} {L : Lk} (hs : Sat w0 w (lkG b g off cap L * F)) (hL : Fit L) : ∃ a0 c0 a1 c1 a2 c2, (0 < L.own.length → (∃ g0 o0, a0 = some ⟨g0, o0, none⟩) ∧ (∃ g1 o1, a1 = some ⟨g1, o1, none⟩) ∧ (∃ g2 o2, a2 = some ⟨g2, o2, none⟩)) ∧
    Sat w0 w (pts b 0 [.slice a0 L.own.length c0, .slice a1 L.own.length c1, .slice a2 L.own.length c2, .slice (some ⟨g, off, none⟩) L.ow.length cap] * (numsP .i64 (.slice a0 L.own.length c0) L.own * (numsP .i64 (.slice a1 L.own.length c1) L.now * (numsP .i64 (.slice a2 L.own.length c2) L.on * (mutR g off L.ow L.rows * F))))) := by
  obtain ⟨v0, hs⟩ := hs.ex_out
  obtain ⟨v1, hs⟩ := hs.ex_out
  obtain ⟨v2, hs⟩ := hs.ex_out
  have h0 : Sat w0 w (numsP .i64 v0 L.own * (numsP .i64 v1 L.now * (numsP .i64 v2 L.on * (pts b 0 [v0, v1, v2, .slice (some ⟨g, off, none⟩) L.ow.length cap] * (mutR g off L.ow L.rows * F))))) := hs.perm (by unfold lkV; ac_rfl)
  obtain ⟨a0, c0, rfl⟩ := h0.slice_form
  have h1 := h0.perm (by ac_rfl : _ = numsP .i64 v1 L.now * (numsP .i64 (.slice a0 L.own.length c0) L.own * (numsP .i64 v2 L.on * (pts b 0 [.slice a0 L.own.length c0, v1, v2, .slice (some ⟨g, off, none⟩) L.ow.length cap] * (mutR g off L.ow L.rows * F)))))
  obtain ⟨a1, c1, rfl⟩ := h1.slice_form
  rw [hL.ln] at h1
  have h2 := h1.perm (by ac_rfl : _ = numsP .i64 v2 L.on * (numsP .i64 (.slice a0 L.own.length c0) L.own * (numsP .i64 (.slice a1 L.own.length c1) L.now * (pts b 0 [.slice a0 L.own.length c0, .slice a1 L.own.length c1, v2, .slice (some ⟨g, off, none⟩) L.ow.length cap] * (mutR g off L.ow L.rows * F)))))
  obtain ⟨a2, c2, rfl⟩ := h2.slice_form
  rw [hL.lo] at h2
  refine ⟨a0, c0, a1, c1, a2, c2, fun hp => ⟨?_, ?_, ?_⟩, h2.perm (by ac_rfl)⟩
  · exact Sat.someA h2 a0 (by omega)
  · exact Sat.someA h2 a1 (by rw [hL.ln]; omega)
  · exact Sat.someA h2 a2 (by rw [hL.lo]; omega)
theorem lkP_out {w0 w : World} {F : HP} {b : Nat} {L : Lk} (hs : Sat w0 w (lkP b L * F)) (hL : Fit L) : ∃ a0 c0 a1 c1 a2 c2 g off cap, (0 < L.own.length → (∃ g0 o0, a0 = some ⟨g0, o0, none⟩) ∧ (∃ g1 o1, a1 = some ⟨g1, o1, none⟩) ∧ (∃ g2 o2, a2 = some ⟨g2, o2, none⟩)) ∧
    Sat w0 w (pts b 0 [.slice a0 L.own.length c0, .slice a1 L.own.length c1, .slice a2 L.own.length c2, .slice (some ⟨g, off, none⟩) L.ow.length cap] * (numsP .i64 (.slice a0 L.own.length c0) L.own * (numsP .i64 (.slice a1 L.own.length c1) L.now * (numsP .i64 (.slice a2 L.own.length c2) L.on * (mutR g off L.ow L.rows * F))))) := by
  obtain ⟨g, off, cap, hs⟩ := lkP_G hs
  obtain ⟨a0, c0, a1, c1, a2, c2, h1, h2⟩ := lkG_out hs hL
  exact ⟨a0, c0, a1, c1, a2, c2, g, off, cap, h1, h2⟩
end Go.Proofs.Ytigjeflofbdahaa
