/-
  Slices and arrays of records (structs of one-cell values), owned and found by instances. Nothing of any program stands here.
-/
import Derived.Test.YtigjeflofbdahaaAuto
namespace Go.Sx
open Go.RowKit

/-- A record of type α lies in sz cells. -/
class Enc (α : Type) (sz : outParam Nat) where
  enc : α → List Value
  len : ∀ x, (enc x).length = sz
  one : ∀ x, ∀ u ∈ enc x, u.oneCell' = true
  dft : α
  pos : 0 < sz
/-- Its cell c holds v. -/
class EncAt {α : Type} {sz : Nat} [E : Enc α sz] (x : α) (c : Nat) (v : outParam Value) : Prop where
  at_ : (E.enc x)[c]? = some v
/-- Cell c set to v it is x'. -/
class EncSet {α : Type} {sz : Nat} [E : Enc α sz] (x : α) (c : Nat) (v : Value) (x' : outParam α) : Prop where
  set_ : E.enc x' = (E.enc x).set c v
  lt : c < sz

section
variable {α : Type} {sz : Nat} [E : Enc α sz]
def cellsOf (l : List α) : List Value := l.flatMap E.enc
theorem cellsOf_nil : cellsOf ([] : List α) = [] := rfl
theorem cellsOf_cons (x : α) (l : List α) : cellsOf (x :: l) = E.enc x ++ cellsOf l := by simp [cellsOf]
theorem cellsOf_append (l m : List α) : cellsOf (l ++ m) = cellsOf l ++ cellsOf m := by simp [cellsOf]
theorem cellsOf_len (l : List α) : (cellsOf l).length = l.length * sz := by
  induction l with
  | nil => simp [cellsOf]
  | cons x l ih => rw [cellsOf_cons, List.length_append, E.len, ih, List.length_cons, Nat.add_mul]; omega
theorem cellsOf_one (l : List α) : ∀ u ∈ cellsOf l, u.oneCell' = true := by
  intro u hu
  obtain ⟨x, _, h⟩ := List.mem_flatMap.1 hu
  exact E.one x u h
theorem cellsOf_at {l : List α} {k c : Nat} (hk : k < l.length) (hc : c < sz) : (cellsOf l)[k * sz + c]? = (E.enc (l.getD k E.dft))[c]? := by
  induction l generalizing k with
  | nil => simp at hk
  | cons x l ih =>
    rw [cellsOf_cons]
    cases k with
    | zero => rw [Nat.zero_mul, Nat.zero_add, List.getElem?_append_left (by rw [E.len]; exact hc)]; simp [List.getD]
    | succ k =>
      rw [List.getElem?_append_right (by rw [E.len, Nat.add_mul]; omega), E.len, show (k + 1) * sz + c - sz = k * sz + c by rw [Nat.add_mul]; omega, ih (by simpa using hk)]
      simp [List.getD]
theorem cellsOf_set {l : List α} {k c : Nat} {v : Value} {x' : α} (hk : k < l.length) (hc : c < sz) (h : E.enc x' = (E.enc (l.getD k E.dft)).set c v) : (cellsOf l).set (k * sz + c) v = cellsOf (l.set k x') := by
  induction l generalizing k with
  | nil => simp at hk
  | cons x l ih =>
    cases k with
    | zero =>
      rw [List.set_cons_zero, cellsOf_cons, cellsOf_cons, h, Nat.zero_mul, Nat.zero_add, List.set_append_left _ _ (by rw [E.len]; exact hc)]
      simp [List.getD]
    | succ k =>
      rw [List.set_cons_succ, cellsOf_cons, cellsOf_cons, List.set_append_right _ _ (by rw [E.len, Nat.add_mul]; omega), E.len, show (k + 1) * sz + c - sz = k * sz + c by rw [Nat.add_mul]; omega, ih (by simpa using hk) (by simpa [List.getD] using h)]
theorem cellsOf_take (l : List α) (k : Nat) : cellsOf (l.take k) = (cellsOf l).take (k * sz) := by
  induction l generalizing k with
  | nil => simp [cellsOf]
  | cons x l ih =>
    cases k with
    | zero => simp [cellsOf]
    | succ k => rw [List.take_succ_cons, cellsOf_cons, cellsOf_cons, ih, List.take_append, E.len, List.take_of_length_le (l := E.enc x) (by rw [E.len, Nat.add_mul]; omega), show (k + 1) * sz - sz = k * sz by rw [Nat.add_mul]; omega]
theorem cellsOf_drop (l : List α) (k : Nat) : cellsOf (l.drop k) = (cellsOf l).drop (k * sz) := by
  induction l generalizing k with
  | nil => simp [cellsOf]
  | cons x l ih =>
    cases k with
    | zero => simp
    | succ k => rw [List.drop_succ_cons, cellsOf_cons, ih, List.drop_append, E.len, List.drop_eq_nil_of_le (as := E.enc x) (by rw [E.len, Nat.add_mul]; omega), List.nil_append, show (k + 1) * sz - sz = k * sz by rw [Nat.add_mul]; omega]

/-- An array of records; a slice of records that is owned; that reads so. -/
def arrP (b o : Nat) (l : List α) : HP := pts b o (cellsOf l)
def recsP (v : Value) (l : List α) : HP := sliceP sz v l.length (cellsOf l)
def RdR (w : World) (v : Value) (l : List α) : Prop :=
  ∃ a cap b off, v = .slice a l.length cap ∧ l.length ≤ cap ∧ cap ≤ maxLen ∧ (l ≠ [] → a = some ⟨b, off, none⟩) ∧ ∀ j u, (cellsOf l)[j]? = some u → w.cell? ⟨b, off + j, none⟩ = some u
theorem Sat.recs_form {w0 w : World} {F : HP} {v : Value} {l : List α} (hs : Sat w0 w (recsP v l * F)) : ∃ a cap, v = .slice a l.length cap := hs.slice_form
theorem Sat.rdR {w0 w : World} {F : HP} {v : Value} {l : List α} (hs : Sat w0 w (recsP v l * F)) : RdR w v l := by
  rcases hs.slice_out with ⟨rfl, h0, h1, _⟩ | ⟨g, off, cap, sp, rfl, hc, hcm, hx, hsp, hs'⟩
  · have : l = [] := List.eq_nil_of_length_eq_zero h0
    subst this
    exact ⟨none, 0, 0, 0, rfl, Nat.le_refl _, Nat.zero_le _, fun h => absurd rfl h, fun j u hj => by simp [cellsOf] at hj⟩
  · exact ⟨_, cap, g, off, rfl, hc, hcm, fun _ => rfl, fun j u hj => hs'.cell (by rw [List.getElem?_append_left (List.getElem?_eq_some_iff.1 hj).1]; exact hj)⟩
theorem RdR.later {w0 w : World} {v : Value} {l : List α} {P : HP} (h : RdR w0 v l) (hs : Sat w0 w P) : RdR w v l := by
  obtain ⟨a, cap, b, off, h1, h2, h3, h4, h5⟩ := h
  exact ⟨a, cap, b, off, h1, h2, h3, h4, fun j u hj => hs.keep (h5 j u hj)⟩
theorem RdR.caps {w : World} {ad : Option Addr} {n c : Nat} {l : List α} (h : RdR w (.slice ad n c) l) : n = l.length ∧ n ≤ c ∧ c ≤ maxLen := by
  obtain ⟨a, cap, b, o, e, h3, h4, _⟩ := h
  simp only [Value.slice.injEq] at e
  obtain ⟨rfl, rfl, rfl⟩ := e
  exact ⟨rfl, h3, h4⟩
theorem RdR.news {w : World} {a : Option Addr} {n cap : Nat} {l : List α} (h : RdR w (.slice a n cap) l) :
    n = l.length ∧ (a = none → n = 0) ∧ ∀ ad, a = some ad → ∀ j u, (cellsOf l)[j]? = some u → w.cell? (ad.add j) = some u := by
  obtain ⟨a', cap', b, off, h1, h2, h3, h4, h5⟩ := h
  simp only [Value.slice.injEq] at h1
  obtain ⟨rfl, rfl, rfl⟩ := h1
  have hne : 0 < l.length → l ≠ [] := fun h e => by simp [e] at h
  refine ⟨rfl, fun hn => ?_, fun ad had j u hu => ?_⟩
  · rcases Nat.eq_zero_or_pos l.length with h | h
    · exact h
    · have := h4 (hne h); rw [hn] at this; cases this
  · have hj : j < (cellsOf l).length := (List.getElem?_eq_some_iff.1 hu).1
    have e := h4 (fun e => by rw [e] at hj; simp [cellsOf] at hj)
    rw [had] at e
    cases e
    rw [Addr.add_lit]
    exact h5 j u hu
theorem rdR_nil (w : World) : RdR (α := α) w (.slice none 0 0) [] := ⟨none, 0, 0, 0, rfl, Nat.le_refl _, Nat.zero_le _, fun h => absurd rfl h, fun j u hj => by simp [cellsOf] at hj⟩
theorem rdR_lit (l : List α) (w : World) (t : TypeId) (cs : List Value) (hcs : cs = cellsOf l) (n : Nat) (hn : n = l.length) (h : l.length ≤ maxLen) : RdR (w.alloc (.cells cs.toArray t)) (.slice (some ⟨w.heap.size, 0, none⟩) n n) l :=
  ⟨_, l.length, w.heap.size, 0, by rw [hn], Nat.le_refl _, h, fun _ => rfl, fun j u hj => by
    rw [Nat.zero_add, World.cell?_alloc_new, hcs]
    simpa using hj⟩
end

/-- P owns the slice v of records, that reads as l, and F. -/
class PullR (P : HP) {α : Type} {sz : Nat} (E : Enc α sz) (v : Value) (l : outParam (List α)) (F : outParam HP) : Prop where
  eq : P = @recsP α sz E v l * F
section
variable {α : Type} {sz : Nat} [E : Enc α sz]
instance (priority := 2000) PullR.here (v : Value) (l : List α) (F : HP) : PullR (recsP v l * F) E v l F := ⟨rfl⟩
instance (priority := 100) PullR.last (v : Value) (l : List α) : PullR (recsP v l) E v l emp := ⟨(star_emp _).symm⟩
instance (priority := 1000) PullR.right (A G F : HP) (v : Value) (l : List α) [h : PullR G E v l F] : PullR (A * G) E v l (A * F) := ⟨by rw [h.eq]; ac_rfl⟩
instance (priority := 900) PullR.left (A G F : HP) (v : Value) (l : List α) [h : PullR A E v l F] : PullR (A * G) E v l (F * G) := ⟨by rw [h.eq]; ac_rfl⟩
theorem recsP_nil : recsP (α := α) (.slice none 0 0) [] = emp := HP.same fun h => by
  constructor
  · intro p
    rcases p with ⟨_, _, _, e⟩ | ⟨g, off, cap, sp, e, _⟩
    · exact e
    · cases e
  · intro e
    exact Or.inl ⟨rfl, rfl, rfl, e⟩
theorem recsP_empty (g o : Nat) : recsP (α := α) (.slice (some ⟨g, o, none⟩) 0 0) [] = emp := HP.same fun h => by
  constructor
  · intro p
    rcases p with ⟨e, _⟩ | ⟨g', off, cap, sp, e, _, _, hx, hsp, p⟩
    · cases e
    · simp only [Value.slice.injEq] at e
      obtain ⟨_, _, rfl⟩ := e
      have h1 : cellsOf ([] : List α) ++ sp = [] := by rw [cellsOf_nil, List.nil_append]; simpa using hsp
      rw [h1, pts_nil] at p
      exact p
  · intro e
    refine Or.inr ⟨g, o, 0, [], rfl, Nat.le_refl _, Nat.zero_le _, by simp [cellsOf], by simp, ?_⟩
    rw [cellsOf_nil, List.nil_append, pts_nil]
    exact e
instance (priority := 50) PullR.nil (P : HP) : PullR P E (.slice none 0 0) [] P := ⟨by rw [recsP_nil, emp_star]⟩
instance (priority := 50) PullR.empty (P : HP) (g o : Nat) : PullR P E (.slice (some ⟨g, o, none⟩) 0 0) [] P := ⟨by rw [recsP_empty, emp_star]⟩

theorem Sat.recs_cell {w0 w : World} {F : HP} {g off n cap : Nat} {l : List α} (hs : Sat w0 w (recsP (.slice (some ⟨g, off, none⟩) n cap) l * F)) {k c : Nat} {v : Value} (hk : k < l.length) (hv : (E.enc (l.getD k E.dft))[c]? = some v) :
    w.cell? ⟨g, off + k * sz + c, none⟩ = some v ∧ w.frozen? ⟨g, off + k * sz + c, none⟩ = false := by
  have hc : c < sz := by rw [← E.len (l.getD k E.dft)]; exact (List.getElem?_eq_some_iff.1 hv).1
  rcases hs.slice_out with ⟨e, _⟩ | ⟨g', off', cap', sp, e, _, _, hx, _, hs'⟩
  · cases e
  · simp only [Value.slice.injEq, Option.some.injEq, Addr.mk.injEq] at e
    obtain ⟨⟨rfl, rfl, _⟩, _, _⟩ := e
    have h1 : (cellsOf l)[k * sz + c]? = some v := by rw [cellsOf_at hk hc]; exact hv
    rw [Nat.add_assoc]
    exact pts_split hs' (by rw [List.getElem?_append_left (List.getElem?_eq_some_iff.1 h1).1]; exact h1)
instance (priority := 1200) Cell.recs (g off n cap k c : Nat) (l : List α) (v : Value) [h : Lt k l.length] [e : EncAt (l.getD k E.dft) c v] : Cell (recsP (.slice (some ⟨g, off, none⟩) n cap) l) g (off + k * sz + c) v :=
  ⟨fun hs => (hs.recs_cell h.lt e.at_).1, fun hs => (hs.recs_cell h.lt e.at_).2⟩
instance (priority := 1210) Cell.recs0 (g off n cap k : Nat) (l : List α) (v : Value) [h : Lt k l.length] [e : EncAt (l.getD k E.dft) 0 v] : Cell (recsP (.slice (some ⟨g, off, none⟩) n cap) l) g (off + k * sz) v :=
  ⟨fun hs => (hs.recs_cell h.lt e.at_).1, fun hs => (hs.recs_cell h.lt e.at_).2⟩
instance (priority := 1190) Cell.recsZ (g off n cap c : Nat) (l : List α) (v : Value) [h : Lt 0 l.length] [e : EncAt (l.getD 0 E.dft) c v] : Cell (recsP (.slice (some ⟨g, off, none⟩) n cap) l) g (off + c) v :=
  ⟨fun hs => by have := (hs.recs_cell (k := 0) h.lt e.at_).1; rwa [Nat.zero_mul, Nat.add_zero] at this, fun hs => by have := (hs.recs_cell (k := 0) h.lt e.at_).2; rwa [Nat.zero_mul, Nat.add_zero] at this⟩
instance (priority := 1195) Cell.recsZ0 (g off n cap : Nat) (l : List α) (v : Value) [h : Lt 0 l.length] [e : EncAt (l.getD 0 E.dft) 0 v] : Cell (recsP (.slice (some ⟨g, off, none⟩) n cap) l) g off v :=
  ⟨fun hs => by have := (hs.recs_cell (k := 0) h.lt e.at_).1; simpa using this, fun hs => by have := (hs.recs_cell (k := 0) h.lt e.at_).2; simpa using this⟩
theorem recs_upd {w0 w : World} {F : HP} {g off n cap : Nat} {l : List α} (hs : Sat w0 w (recsP (.slice (some ⟨g, off, none⟩) n cap) l * F)) {k c : Nat} {v : Value} {x' : α} (hk : k < l.length) (hc : c < sz) (h : E.enc x' = (E.enc (l.getD k E.dft)).set c v) :
    Sat w0 (w.setCell ⟨g, off + k * sz + c, none⟩ v) (recsP (.slice (some ⟨g, off, none⟩) n cap) (l.set k x') * F) := by
  rcases hs.slice_out with ⟨e, _⟩ | ⟨g', off', cap', sp, e, h1, h2, hx, hsp, hs'⟩
  · cases e
  · simp only [Value.slice.injEq, Option.some.injEq, Addr.mk.injEq] at e
    obtain ⟨⟨rfl, rfl, _⟩, rfl, rfl⟩ := e
    have hlt : k * sz + c < (cellsOf l).length := by
      rw [cellsOf_len]
      calc k * sz + c < k * sz + sz := by omega
        _ = (k + 1) * sz := by rw [Nat.add_mul]; omega
        _ ≤ l.length * sz := Nat.mul_le_mul_right _ hk
    have h3 := hs'.set (j := k * sz + c) (by rw [List.length_append]; omega) v
    rw [List.set_append_left _ _ hlt, cellsOf_set hk hc h, ← Nat.add_assoc] at h3
    have h4 := Sat.slice_in (k := sz) (n := l.length) h3 h1 h2 (by rw [cellsOf_len, List.length_set]) hsp
    unfold recsP
    rw [List.length_set]
    exact h4
instance (priority := 1200) Upd.recs (g off n cap k c : Nat) (l : List α) (v : Value) (x' : α) [h : Lt k l.length] [e : EncSet (l.getD k E.dft) c v x'] : Upd (recsP (.slice (some ⟨g, off, none⟩) n cap) l) g (off + k * sz + c) v (recsP (.slice (some ⟨g, off, none⟩) n cap) (l.set k x')) :=
  ⟨fun hs => recs_upd hs h.lt e.lt e.set_⟩
instance (priority := 1210) Upd.recs0 (g off n cap k : Nat) (l : List α) (v : Value) (x' : α) [h : Lt k l.length] [e : EncSet (l.getD k E.dft) 0 v x'] : Upd (recsP (.slice (some ⟨g, off, none⟩) n cap) l) g (off + k * sz) v (recsP (.slice (some ⟨g, off, none⟩) n cap) (l.set k x')) :=
  ⟨fun hs => recs_upd hs h.lt e.lt e.set_⟩
instance (priority := 1190) Upd.recsZ (g off n cap c : Nat) (l : List α) (v : Value) (x' : α) [h : Lt 0 l.length] [e : EncSet (l.getD 0 E.dft) c v x'] : Upd (recsP (.slice (some ⟨g, off, none⟩) n cap) l) g (off + c) v (recsP (.slice (some ⟨g, off, none⟩) n cap) (l.set 0 x')) :=
  ⟨fun {w0 w F} hs => by have := recs_upd hs h.lt e.lt e.set_; rwa [Nat.zero_mul, Nat.add_zero] at this⟩
instance (priority := 1195) Upd.recsZ0 (g off n cap : Nat) (l : List α) (v : Value) (x' : α) [h : Lt 0 l.length] [e : EncSet (l.getD 0 E.dft) 0 v x'] : Upd (recsP (.slice (some ⟨g, off, none⟩) n cap) l) g off v (recsP (.slice (some ⟨g, off, none⟩) n cap) (l.set 0 x')) :=
  ⟨fun {w0 w F} hs => by have := recs_upd hs h.lt e.lt e.set_; simpa using this⟩

/-! ### Arrays of records in a block -/
theorem arr_cell {w0 w : World} {F : HP} {b o : Nat} {l : List α} (hs : Sat w0 w (arrP b o l * F)) {k c : Nat} {v : Value} (hk : k < l.length) (hv : (E.enc (l.getD k E.dft))[c]? = some v) :
    w.cell? ⟨b, o + k * sz + c, none⟩ = some v ∧ w.frozen? ⟨b, o + k * sz + c, none⟩ = false := by
  have hc : c < sz := by rw [← E.len (l.getD k E.dft)]; exact (List.getElem?_eq_some_iff.1 hv).1
  rw [Nat.add_assoc]
  exact pts_split hs (by rw [cellsOf_at hk hc]; exact hv)
instance (priority := 1200) Cell.arr (b o k c : Nat) (l : List α) (v : Value) [h : Lt k l.length] [e : EncAt (l.getD k E.dft) c v] : Cell (arrP b o l) b (o + k * sz + c) v :=
  ⟨fun hs => (arr_cell hs h.lt e.at_).1, fun hs => (arr_cell hs h.lt e.at_).2⟩
instance (priority := 1210) Cell.arr0 (b o k : Nat) (l : List α) (v : Value) [h : Lt k l.length] [e : EncAt (l.getD k E.dft) 0 v] : Cell (arrP b o l) b (o + k * sz) v :=
  ⟨fun hs => (arr_cell hs h.lt e.at_).1, fun hs => (arr_cell hs h.lt e.at_).2⟩
theorem arr_upd {w0 w : World} {F : HP} {b o : Nat} {l : List α} (hs : Sat w0 w (arrP b o l * F)) {k c : Nat} {v : Value} {x' : α} (hk : k < l.length) (hc : c < sz) (h : E.enc x' = (E.enc (l.getD k E.dft)).set c v) :
    Sat w0 (w.setCell ⟨b, o + k * sz + c, none⟩ v) (arrP b o (l.set k x') * F) := by
  have hlt : k * sz + c < (cellsOf l).length := by
    rw [cellsOf_len]
    calc k * sz + c < k * sz + sz := by omega
      _ = (k + 1) * sz := by rw [Nat.add_mul]; omega
      _ ≤ l.length * sz := Nat.mul_le_mul_right _ hk
  have h3 := Sat.set (hs : Sat w0 w (pts b o (cellsOf l) * F)) (j := k * sz + c) hlt v
  rw [cellsOf_set hk hc h, ← Nat.add_assoc] at h3
  exact h3
instance (priority := 1200) Upd.arr (b o k c : Nat) (l : List α) (v : Value) (x' : α) [h : Lt k l.length] [e : EncSet (l.getD k E.dft) c v x'] : Upd (arrP b o l) b (o + k * sz + c) v (arrP b o (l.set k x')) :=
  ⟨fun hs => arr_upd hs h.lt e.lt e.set_⟩
instance (priority := 1210) Upd.arr0 (b o k : Nat) (l : List α) (v : Value) (x' : α) [h : Lt k l.length] [e : EncSet (l.getD k E.dft) 0 v x'] : Upd (arrP b o l) b (o + k * sz) v (arrP b o (l.set k x')) :=
  ⟨fun hs => arr_upd hs h.lt e.lt e.set_⟩
end

/-! ### Reading -/
/-- v reads as the records l. -/
class RdC (w : World) {α : Type} {sz : Nat} (E : Enc α sz) (v : Value) (l : outParam (List α)) : Prop where
  rd : @RdR α sz E w v l
class OldRec (w0 : World) {α : Type} {sz : Nat} (E : Enc α sz) (v : Value) (l : outParam (List α)) : Prop where
  old : @RdR α sz E w0 v l
section
variable {α : Type} {sz : Nat} [E : Enc α sz]
instance (priority := 1000) RdC.own (w0 w : World) (P : HP) (v : Value) (l : List α) (F : HP) [h : Sat w0 w P] [p : PullR P E v l F] : RdC w E v l := ⟨(h.perm p.eq).rdR⟩
instance (priority := 900) RdC.old (w0 w : World) (P : HP) (v : Value) (l : List α) [h : Sat w0 w P] [c : OldRec w0 E v l] : RdC w E v l := ⟨c.old.later h⟩
theorem rdr {w : World} {v : Value} {l : List α} [h : RdC w E v l] : RdR w v l := h.rd
end
/-- The cells xs are those of the records l. -/
class Cells {α : Type} {sz : Nat} (E : Enc α sz) (xs : List Value) (l : outParam (List α)) : Prop where
  eq : xs = @cellsOf α sz E l
instance (priority := 1100) RdC.lit {α : Type} {sz : Nat} [E : Enc α sz] (w : World) (xs : List Value) (x : α) (t : TypeId) (n : Nat) [h : Cells E xs [x]] [s : Size w n] : RdC (w.alloc (.cells xs.toArray t)) E (.slice (some ⟨n, 0, none⟩) 1 1) [x] :=
  ⟨s.eq ▸ rdR_lit [x] w t xs h.eq 1 rfl (by simp [maxLen])⟩

/-! ### append -/
/-- A slice type whose elements are records of type α. -/
class ElemR (P : Program) (t : TypeId) (α : outParam Type) (sz : outParam Nat) (E : outParam (Enc α sz)) (e bytes : outParam Nat) (z : outParam Value) : Prop where
  el : ElemT P t e sz bytes z
  le : bytes ≤ 100
section
variable {P : Program} {w0 w : World} {P0 F : HP} {α : Type} {sz : Nat} {E : Enc α sz} {t e bytes : Nat} {z : Value} {l l2 : List α} {o : Oper} {a : Act} {Q : Exit → Act → World → Prop} {s x : Operand} {ad sa : Option Addr} {m c sn sc : Nat}
theorem wp_append_recs {K : Act → World → Prop}
    (ho : o.op = .call { callee := .builtin .append, args := #[s, x], argTypes := #[t, t] }) [ET : ElemR P t α sz E e bytes z]
    (hv : a.eval s = .slice sa sn sc) (hx : a.eval x = .slice ad m c) [hs : Sat w0 w P0] [hp : PullR P0 E (.slice sa sn sc) l F] [hr : RdC w E (.slice ad m c) l2]
    (h63 : sn + m ≤ 1000000000)
    (h : ∀ a' cap' L w', Hid (L = l ++ l2) → L.length ≤ sn + m → sn + m ≤ L.length → Sat w0 w' (recsP (.slice a' L.length cap') L * F) → w.heap.size ≤ w'.heap.size → K (a.put o.dst (.slice a' L.length cap')) w') : o.wp P a w K Q := by
  have hn := hr.rd.news
  have hml : m = l2.length := hn.1
  have hsl : sn = l.length := (hs.perm hp.eq).rdR.caps.1
  have hs1 : Sat w0 w (recsP (.slice sa sn sc) l * F) := hs.perm hp.eq
  have hbb : (l.length + m) * bytes ≤ 140737488355328 := Nat.le_trans (Nat.mul_le_mul (show l.length + m ≤ 1000000000 by omega) ET.le) (by decide)
  refine wp_append_sat s x ho ET.el hv hs1 ad m c (cellsOf l2) hx (by rw [cellsOf_len, hml]) hn.2.1 hn.2.2 (cellsOf_one l2) (by unfold maxLen; omega) hbb ?_
  intro v' w' hs' hz
  have hs2 : Sat w0 w' (recsP v' (l ++ l2) * F) := by
    unfold recsP
    rw [List.length_append, cellsOf_append, ← hml]; exact hs'
  obtain ⟨a', cap', rfl⟩ := hs2.slice_form
  exact h a' cap' _ w' rfl (by simp; omega) (by simp; omega) hs2 hz
theorem wpList_append_recs {ops : Array Oper} {rest : List Oper} (hgd : o.guard = none)
    (ho : o.op = .call { callee := .builtin .append, args := #[s, x], argTypes := #[t, t] }) [ET : ElemR P t α sz E e bytes z]
    (hv : a.eval s = .slice sa sn sc) (hx : a.eval x = .slice ad m c) [hs : Sat w0 w P0] [hp : PullR P0 E (.slice sa sn sc) l F] [hr : RdC w E (.slice ad m c) l2]
    (h63 : sn + m ≤ 1000000000)
    (h : ∀ a' cap' L w', Hid (L = l ++ l2) → L.length ≤ sn + m → sn + m ≤ L.length → Sat w0 w' (recsP (.slice a' L.length cap') L * F) → w.heap.size ≤ w'.heap.size → wpList P ops Q rest (a.put o.dst (.slice a' L.length cap')) w') : wpList P ops Q (o :: rest) a w :=
  wpList_plain hgd fun _ hK => wp_append_recs ho hv hx h63 fun a' cap' L w' h1 h2 h3 h4 h5 => hK _ _ (h a' cap' L w' h1 h2 h3 h4 h5)
end

/-! ### Parts -/
class PartR {α : Type} {sz : Nat} (E : Enc α sz) (v : Value) (src : outParam Value) (l L : outParam (List α)) : Prop where
  part : ∀ w, @RdR α sz E w src l → @RdR α sz E w v L
instance (priority := 1050) RdC.part {α : Type} {sz : Nat} [E : Enc α sz] (w : World) (v src : Value) (l L : List α) [h : PartR E v src l L] [r : RdC w E src l] : RdC w E v L := ⟨h.part w r.rd⟩
section
variable {α : Type} {sz : Nat} [E : Enc α sz]
theorem RdR.cut {w : World} {ad : Option Addr} {n c : Nat} {l : List α} (h : RdR w (.slice ad n c) l) (i m c' : Nat) (hi : i + m ≤ l.length) (h1 : m ≤ c') (h2 : c' ≤ maxLen) :
    RdR w (.slice (ad.map (·.add (i * sz))) m c') ((l.drop i).take m) := by
  obtain ⟨a, cap, b, o, e, h3, h4, h5, h6⟩ := h
  simp only [Value.slice.injEq] at e
  obtain ⟨rfl, rfl, rfl⟩ := e
  have hl : ((l.drop i).take m).length = m := by simp; omega
  by_cases h0 : m = 0
  · subst h0
    exact ⟨_, c', 0, 0, by rw [hl], by rw [hl]; omega, h2, fun h => absurd (by simp) h, fun j u hj => by rw [List.take_zero, cellsOf_nil] at hj; cases hj⟩
  · have hb := h5 (by rintro rfl; simp at hi; omega)
    subst hb
    refine ⟨_, c', b, o + i * sz, by rw [hl], by rw [hl]; omega, h2, fun _ => by simp [Addr.add], fun j u hj => ?_⟩
    rw [cellsOf_take, cellsOf_drop] at hj
    have hj' := (List.getElem?_eq_some_iff.1 hj).1
    rw [List.length_take] at hj'
    rw [List.getElem?_take_of_lt (by omega), List.getElem?_drop] at hj
    have := h6 (i * sz + j) u hj
    rwa [← Nat.add_assoc] at this
theorem partR_sliced {ad : Option Addr} {n c : Nat} {l : List α} (lo hi : Nat) (h1 : lo ≤ hi) (h2 : hi ≤ l.length) : ∃ x, ∀ w, RdR w (.slice ad n c) l → sliced ad lo hi c sz = .slice x ((l.take hi).drop lo).length (c - lo) ∧ RdR w (.slice x ((l.take hi).drop lo).length (c - lo)) ((l.take hi).drop lo) := by
  have hl : ((l.take hi).drop lo).length = hi - lo := by simp; omega
  have he : (l.take hi).drop lo = (l.drop lo).take (hi - lo) := by rw [List.drop_take]
  by_cases hc : c = lo
  · refine ⟨ad, fun w hr => ⟨by simp [sliced, hc, hl], ?_⟩⟩
    have hq := hr.caps
    have hn : l.drop lo = [] := List.drop_eq_nil_of_le (by omega)
    rw [hl, he, hn, List.take_nil]
    exact ⟨ad, c - lo, 0, 0, by simp; omega, Nat.zero_le _, by omega, fun h => absurd rfl h, fun j u hj => by rw [cellsOf_nil] at hj; cases hj⟩
  · refine ⟨ad.map (·.add (lo * sz)), fun w hr => ⟨by simp [sliced, hc, hl], ?_⟩⟩
    have hq := hr.caps
    rw [hl, he]
    exact hr.cut lo (hi - lo) (c - lo) (by omega) (by omega) (by omega)
end
section
variable {P : Program} {w : World} {α : Type} {sz : Nat} {E : Enc α sz} {t e bytes : Nat} {z : Value} {l : List α} {ops : Array Oper} {rest : List Oper} {o : Oper} {a : Act} {Q : Exit → Act → World → Prop} {s lo hi : Operand} {sa : Option Addr} {sn sc : Nat} {i j : Int}
theorem slicedR_go (ET : ElemT P t e sz bytes z) : P.underlying t = some (.slice (P.elem t)) ∧ (sizeOf (P.elem t)).run P w = .ok sz w := by
  have he : P.elem t = e := by simp [Program.elem, ET.ht]
  obtain ⟨inf, h1, h2, h3, h4⟩ := info_parts ET.hi
  refine ⟨by rw [he]; exact ET.ht, ?_⟩
  rw [he]
  simp [sizeOf, typeInfo, h1, h3]
theorem wpList_sliceR_from (hgd : o.guard = none) (ho : o.op = .slice t s (some lo) none none) [ET : ElemR P t α sz E e bytes z] (hv : a.eval s = .slice sa sn sc) (hlo : a.eval lo = .int .i64 i) [hr : RdC w E (.slice sa sn sc) l] (h0 : 0 ≤ i) (h1 : i ≤ sn)
    (h : ∀ x c' L, PartR E (.slice x L.length c') (.slice sa sn sc) l L → Hid (L = l.drop i.toNat) → L.length + i.toNat ≤ sn → sn ≤ L.length + i.toNat → wpList P ops Q rest (a.put o.dst (.slice x L.length c')) w) : wpList P ops Q (o :: rest) a w := by
  refine wpList_plain hgd fun K hK => ?_
  obtain ⟨e1, e2⟩ := slicedR_go (w := w) ET.el
  have hq := hr.rd.caps
  have h1 : i ≤ l.length := by omega
  obtain ⟨x, hx⟩ := partR_sliced (ad := sa) (n := sn) (c := sc) (l := l) i.toNat l.length (by omega) (Nat.le_refl _)
  have hrun : (Instr.sliceAt t (.slice sa sn sc) (some (.int .i64 i)) none none).run P w = .ok (sliced sa i.toNat sn sc sz) w := by
    rw [run_sliceAt_slice w t _ _ _ _ e1, run_slice_l w t sa sn sc e1 .i64 i h0 (by omega), e2]; rfl
  unfold Oper.wp execOp
  simp only [ho, Option.map, hv, hlo, hrun, Sem.run_bind, Sem.run_pure, Result.andThen_ok]
  have hl : (l.take l.length).drop i.toNat = l.drop i.toNat := by rw [List.take_length]
  rw [hl] at hx
  have hx1 := (hx w hr.rd).1
  rw [← hq.1] at hx1
  rw [hx1]
  exact hK _ _ (h x (sc - i.toNat) (l.drop i.toNat) ⟨fun w hw => (hx w hw).2⟩ rfl (by simp; omega) (by simp; omega))
theorem wpList_sliceR_to (hgd : o.guard = none) (ho : o.op = .slice t s none (some hi) none) [ET : ElemR P t α sz E e bytes z] (hv : a.eval s = .slice sa sn sc) (hhi : a.eval hi = .int .i64 j) [hr : RdC w E (.slice sa sn sc) l] (h0 : 0 ≤ j) (h1 : j ≤ sn)
    (h : ∀ x c' L, PartR E (.slice x L.length c') (.slice sa sn sc) l L → Hid (L = l.take j.toNat) → L.length ≤ j.toNat → j.toNat ≤ L.length → wpList P ops Q rest (a.put o.dst (.slice x L.length c')) w) : wpList P ops Q (o :: rest) a w := by
  refine wpList_plain hgd fun K hK => ?_
  obtain ⟨e1, e2⟩ := slicedR_go (w := w) ET.el
  have hq := hr.rd.caps
  have h1 : j ≤ l.length := by omega
  obtain ⟨x, hx⟩ := partR_sliced (ad := sa) (n := sn) (c := sc) (l := l) 0 j.toNat (Nat.zero_le _) (by omega)
  have hrun : (Instr.sliceAt t (.slice sa sn sc) none (some (.int .i64 j)) none).run P w = .ok (sliced sa 0 j.toNat sc sz) w := by
    rw [run_sliceAt_slice w t _ _ _ _ e1, run_slice_h w t sa sn sc e1 .i64 j h0 (by omega), e2]; rfl
  unfold Oper.wp execOp
  simp only [ho, Option.map, hv, hhi, hrun, Sem.run_bind, Sem.run_pure, Result.andThen_ok]
  have hx1 := (hx w hr.rd).1
  have hl : (l.take j.toNat).drop 0 = l.take j.toNat := by rw [List.drop_zero]
  rw [hl] at hx hx1
  rw [hx1]
  exact hK _ _ (h x (sc - 0) (l.take j.toNat) ⟨fun w hw => (hx w hw).2⟩ rfl (by simp; omega) (by simp; omega))
end

section
variable {α : Type} {sz : Nat} [E : Enc α sz]
/-- The address of an owned slice that has elements. -/
theorem Sat.someR {w0 w : World} {P F : HP} {l : List α} (hs : Sat w0 w P) (a : Option Addr) (n c : Nat) [p : PullR P E (.slice a n c) l F] (h : 0 < l.length) : ∃ g off, a = some ⟨g, off, none⟩ := by
  rcases (hs.perm p.eq : Sat w0 w (recsP (.slice a n c) l * F)).slice_out with ⟨_, h0, _⟩ | ⟨g, off, cap, sp, e, _⟩
  · omega
  · simp only [Value.slice.injEq] at e
    exact ⟨g, off, e.1⟩
/-- Without its first element. -/
theorem Sat.recs_tail {w0 w : World} {F : HP} {g off n c : Nat} {x : α} {l : List α} (hs : Sat w0 w (recsP (.slice (some ⟨g, off, none⟩) n c) (x :: l) * F)) :
    Sat w0 w (recsP (.slice (some ⟨g, off + sz, none⟩) l.length (c - 1)) l * F) := by
  rcases hs.slice_out with ⟨e, _⟩ | ⟨g', off', cap, sp, e, h1, h2, hx, hsp, hs'⟩
  · cases e
  · simp only [Value.slice.injEq, Option.some.injEq, Addr.mk.injEq] at e
    obtain ⟨⟨rfl, rfl, _⟩, rfl, rfl⟩ := e
    simp only [List.length_cons] at h1 hsp
    rw [cellsOf_cons, List.append_assoc, pts_append, E.len] at hs'
    have h3 := (hs'.perm (by ac_rfl : _ = pts g off (E.enc x) * (pts g (off + sz) (cellsOf l ++ sp) * F))).drop
    exact Sat.slice_in (k := sz) h3 (by omega) (by omega) (cellsOf_len l) (by rw [hsp]; congr 1; omega)
end
end Go.Sx
