/-
  Owned memory as a product of pieces: the piece of a row of cells, the product, and what each step of a walk does to it. Nothing of any program stands here.
-/
import Derived.WalkKit
import Derived.ArgAppend
import Derived.Deep.Draws
import Derived.Laws.IdiomCopy
namespace Go.Sx
open Go.RowKit

theorem hid {p : Prop} (h : p) : Hid p := h

/-- A part of memory: cells by block and place. -/
def Hp : Type := Nat → Nat → Option Value
/-- What is said of a part of memory. -/
def HP : Type := Hp → Prop
theorem HP.same {P Q : HP} (h : ∀ x, P x ↔ Q x) : P = Q := funext fun x => propext (h x)

/-- Nothing. -/
def emp : HP := fun h => ∀ b o, h b o = none
/-- Both, apart from each other. -/
def star (P Q : HP) : HP := fun h => ∃ h1 h2 : Hp, (∀ b o, h1 b o = none ∨ h2 b o = none) ∧ (∀ b o, h b o = (h1 b o).or (h2 b o)) ∧ P h1 ∧ Q h2
instance : Mul HP := ⟨star⟩
theorem star_def (P Q : HP) : P * Q = star P Q := rfl

theorem star_comm (P Q : HP) : P * Q = Q * P := by
  have key : ∀ P Q : HP, ∀ h, star P Q h → star Q P h := fun P Q h ⟨h1, h2, hd, hu, p, q⟩ =>
    ⟨h2, h1, fun b o => (hd b o).symm, fun b o => by rw [hu]; rcases hd b o with e | e <;> simp [e], q, p⟩
  exact HP.same fun h => ⟨key P Q h, key Q P h⟩
theorem star_assoc (P Q R : HP) : P * Q * R = P * (Q * R) := by
  refine HP.same fun h => ⟨?_, ?_⟩
  · rintro ⟨h12, h3, hd, hu, ⟨h1, h2, hd', hu', p, q⟩, r⟩
    refine ⟨h1, fun b o => (h2 b o).or (h3 b o), fun b o => ?_, fun b o => ?_, p, h2, h3, fun b o => ?_, fun _ _ => rfl, q, r⟩
    · have := hd b o; have := hu' b o; have := hd' b o
      cases e1 : h1 b o <;> cases e2 : h2 b o <;> cases e3 : h3 b o <;> simp_all
    · rw [hu, hu', Option.or_assoc]
    · have := hd b o; have := hu' b o; have := hd' b o
      cases e1 : h1 b o <;> cases e2 : h2 b o <;> cases e3 : h3 b o <;> simp_all
  · rintro ⟨h1, h23, hd, hu, p, h2, h3, hd', hu', q, r⟩
    refine ⟨fun b o => (h1 b o).or (h2 b o), h3, fun b o => ?_, fun b o => ?_, ⟨h1, h2, fun b o => ?_, fun _ _ => rfl, p, q⟩, r⟩
    · have := hd b o; have := hu' b o; have := hd' b o
      cases e1 : h1 b o <;> cases e2 : h2 b o <;> cases e3 : h3 b o <;> simp_all
    · rw [hu, hu', Option.or_assoc]
    · have := hd b o; have := hu' b o; have := hd' b o
      cases e1 : h1 b o <;> cases e2 : h2 b o <;> cases e3 : h3 b o <;> simp_all
instance : Std.Associative (α := HP) (· * ·) := ⟨star_assoc⟩
instance : Std.Commutative (α := HP) (· * ·) := ⟨star_comm⟩
theorem emp_star (P : HP) : emp * P = P := by
  refine HP.same fun h => ⟨?_, fun p => ⟨fun _ _ => none, h, fun _ _ => .inl rfl, fun _ _ => rfl, fun _ _ => rfl, p⟩⟩
  rintro ⟨h1, h2, _, hu, e, p⟩
  have : h = h2 := funext fun b => funext fun o => by rw [hu, e]; rfl
  rwa [this]
theorem star_emp (P : HP) : P * emp = P := by rw [star_comm, emp_star]

/-- A row of cells from place o of block b on. -/
def pts (b o : Nat) (xs : List Value) : HP := fun h => ∀ b' o', h b' o' = if b' = b ∧ o ≤ o' then xs[o' - o]? else none
theorem pts_nil (b o : Nat) : pts b o [] = emp := HP.same fun h => by simp [pts, emp]
theorem pts_append (b o : Nat) (xs ys : List Value) : pts b o (xs ++ ys) = pts b o xs * pts b (o + xs.length) ys := by
  refine HP.same fun h => ⟨fun p => ?_, ?_⟩
  · refine ⟨fun b' o' => if b' = b ∧ o ≤ o' then xs[o' - o]? else none, fun b' o' => if b' = b ∧ o + xs.length ≤ o' then ys[o' - (o + xs.length)]? else none, fun b' o' => ?_, fun b' o' => ?_, fun _ _ => rfl, fun _ _ => rfl⟩
    · by_cases hb : b' = b
      · by_cases h1 : o + xs.length ≤ o'
        · left; simp only [hb, true_and]; split
          · exact List.getElem?_eq_none (by omega)
          · rfl
        · right; simp [h1]
      · left; simp [hb]
    · rw [p]
      by_cases hb : b' = b
      · subst hb
        by_cases h0 : o ≤ o'
        · by_cases h1 : o + xs.length ≤ o'
          · simp only [true_and, h0, h1, if_true]
            rw [List.getElem?_append_right (by omega), List.getElem?_eq_none (l := xs) (by omega), Option.none_or]
            congr 1; omega
          · simp only [true_and, h0, h1, if_true, if_false]
            rw [List.getElem?_append_left (by omega), Option.or_none]
        · simp only [true_and, h0, if_false]
          rw [if_neg (by omega)]; rfl
      · simp [hb]
  · rintro ⟨h1, h2, _, hu, p1, p2⟩ b' o'
    rw [hu, p1, p2]
    by_cases hb : b' = b
    · subst hb
      by_cases h0 : o ≤ o'
      · by_cases h1 : o + xs.length ≤ o'
        · simp only [true_and, h0, h1, if_true]
          rw [List.getElem?_append_right (by omega), List.getElem?_eq_none (l := xs) (by omega), Option.none_or]
          congr 1; omega
        · simp only [true_and, h0, h1, if_true, if_false]
          rw [List.getElem?_append_left (by omega), Option.or_none]
      · simp only [true_and, h0, if_false]
        rw [if_neg (by omega)]; rfl
    · simp [hb]
theorem pts_cons (b o : Nat) (x : Value) (xs : List Value) : pts b o (x :: xs) = pts b o [x] * pts b (o + 1) xs := pts_append b o [x] xs

/-- Some value of which .. -/
def ex {α : Type} (f : α → HP) : HP := fun h => ∃ a, f a h
/-- A plain fact. -/
def pur (p : Prop) : HP := fun h => p ∧ ∀ b o, h b o = none

/-- The world w: below the first blocks as w0 was, and P owns cells above them, none frozen. -/
class Sat (w0 : outParam World) (w : World) (P : outParam HP) : Prop where
  below : Below w0.heap.size w0 w
  own : ∃ h : Hp, P h ∧ ∀ b o v, h b o = some v → w0.heap.size ≤ b ∧ w.cell? ⟨b, o, none⟩ = some v ∧ w.frozen? ⟨b, o, none⟩ = false

section
variable {w0 w : World} {P Q F : HP} {b o : Nat} {xs : List Value}

theorem Sat.perm (hs : Sat w0 w P) (e : P = Q) : Sat w0 w Q := e ▸ hs
theorem Sat.wk (hs : Sat w0 w (P * F)) (e : ∀ h, P h → Q h) : Sat w0 w (Q * F) :=
  ⟨hs.below, let ⟨h, ⟨h1, h2, hd, hu, p, f⟩, k⟩ := hs.own; ⟨h, ⟨h1, h2, hd, hu, e _ p, f⟩, k⟩⟩
theorem Sat.start (w : World) : Sat w w emp := ⟨Below.refl _ _, fun _ _ => none, fun _ _ => rfl, fun _ _ _ h => by cases h⟩
theorem Sat.drop (hs : Sat w0 w (P * F)) : Sat w0 w F := by
  obtain ⟨h, ⟨h1, h2, hd, hu, p, f⟩, k⟩ := hs.own
  refine ⟨hs.below, h2, f, fun b o v hv => k b o v ?_⟩
  rw [hu]
  rcases hd b o with e | e
  · rw [e]; exact hv
  · rw [e] at hv; cases hv
theorem Sat.fst (hs : Sat w0 w (P * F)) : Sat w0 w P := (hs.perm (star_comm P F)).drop
theorem Sat.emp_in (hs : Sat w0 w F) : Sat w0 w (emp * F) := hs.perm (emp_star F).symm
theorem Sat.size (hs : Sat w0 w P) : w0.heap.size ≤ w.heap.size := hs.below.size
theorem Sat.old (hs : Sat w0 w P) {a : Addr} (h : a.block < w0.heap.size) : w.cell? a = w0.cell? a := hs.below.cell h

theorem Sat.of_same {w' : World} (hs : Sat w0 w P) (hh : w'.heap = w.heap) (ho : w'.os = w.os) (ht : w'.tape = w.tape) (hp : w'.output = w.output) : Sat w0 w' P := by
  obtain ⟨hb, h, p, k⟩ := hs
  refine ⟨⟨ho.trans hb.os, ht.trans hb.tape, hp.trans hb.output, by rw [hh]; exact hb.size, fun i hi => by rw [hh]; exact hb.block i hi⟩, h, p, fun b o v hv => ?_⟩
  have := k b o v hv
  simp only [World.cell?, World.frozen?, hh] at this ⊢
  exact this
theorem Sat.drew (hs : Sat w0 w P) : Sat w0 w.drew P := hs.of_same rfl rfl rfl rfl
theorem Sat.drewN (hs : Sat w0 w P) (n : Nat) : Sat w0 (w.drewN n) P := hs.of_same rfl rfl rfl rfl

theorem Sat.cell (hs : Sat w0 w (pts b o xs * F)) {j : Nat} {v : Value} (hj : xs[j]? = some v) : w.cell? ⟨b, o + j, none⟩ = some v := by
  obtain ⟨_, h, ⟨h1, h2, _, hu, p, _⟩, k⟩ := hs
  refine (k b (o + j) v ?_).2.1
  rw [hu, p, if_pos ⟨rfl, by omega⟩, show o + j - o = j by omega, hj]; rfl
theorem Sat.frz (hs : Sat w0 w (pts b o xs * F)) {j : Nat} (hj : j < xs.length) : w.frozen? ⟨b, o + j, none⟩ = false := by
  obtain ⟨_, h, ⟨h1, h2, _, hu, p, _⟩, k⟩ := hs
  refine (k b (o + j) xs[j] ?_).2.2
  rw [hu, p, if_pos ⟨rfl, by omega⟩, show o + j - o = j by omega, List.getElem?_eq_getElem hj]; rfl
theorem Sat.above (hs : Sat w0 w (pts b o xs * F)) (h0 : 0 < xs.length) : w0.heap.size ≤ b ∧ b < w.heap.size := by
  have hc := hs.cell (j := 0) (List.getElem?_eq_getElem h0)
  obtain ⟨_, h, ⟨h1, h2, _, hu, p, _⟩, k⟩ := hs
  refine ⟨(k b (o + 0) xs[0] ?_).1, World.block_lt_of_cell? w _ hc⟩
  rw [hu, p, if_pos ⟨rfl, by omega⟩, show o + 0 - o = 0 by omega, List.getElem?_eq_getElem h0]; rfl
theorem Sat.c0 {v : Value} (hs : Sat w0 w (pts b o (v :: xs) * F)) : w.cell? ⟨b, o, none⟩ = some v := hs.cell (j := 0) rfl
theorem Sat.f0 {v : Value} (hs : Sat w0 w (pts b o (v :: xs) * F)) : w.frozen? ⟨b, o, none⟩ = false := hs.frz (j := 0) (by simp)
theorem Sat.apart {ys : List Value} {b' o' : Nat} (hs : Sat w0 w (pts b o xs * (pts b' o' ys * F))) {j j' : Nat} (hj : j < xs.length) (hj' : j' < ys.length) : (⟨b, o + j, none⟩ : Addr) ≠ ⟨b', o' + j', none⟩ := by
  obtain ⟨_, h, ⟨h1, h2, hd, hu, p, ⟨h3, h4, hd', hu', q, _⟩⟩, k⟩ := hs
  intro e
  simp only [Addr.mk.injEq] at e
  obtain ⟨rfl, e, _⟩ := e
  have e1 : h1 b (o + j) = some xs[j] := by rw [p, if_pos ⟨rfl, by omega⟩, show o + j - o = j by omega, List.getElem?_eq_getElem hj]
  have e2 : h2 b (o + j) = some ys[j'] := by rw [hu', q, if_pos ⟨rfl, by omega⟩, e, show o' + j' - o' = j' by omega, List.getElem?_eq_getElem hj']; rfl
  rcases hd b (o + j) with e3 | e3
  · rw [e1] at e3; cases e3
  · rw [e2] at e3; cases e3

theorem Sat.set (hs : Sat w0 w (pts b o xs * F)) {j : Nat} (hj : j < xs.length) (v : Value) : Sat w0 (w.setCell ⟨b, o + j, none⟩ v) (pts b o (xs.set j v) * F) := by
  have hc := hs.cell (j := j) (List.getElem?_eq_getElem hj)
  have hab := hs.above (by omega)
  obtain ⟨hb, h, ⟨h1, h2, hd, hu, p, f⟩, k⟩ := hs
  have e1 : h1 b (o + j) = some xs[j] := by rw [p, if_pos ⟨rfl, by omega⟩, show o + j - o = j by omega, List.getElem?_eq_getElem hj]
  have e2 : h2 b (o + j) = none := by rcases hd b (o + j) with e | e; · rw [e1] at e; cases e
                                      · exact e
  refine ⟨hb.setCell (by simpa using hab.1) _, fun b' o' => if b' = b ∧ o' = o + j then some v else h b' o',
    ⟨fun b' o' => if b' = b ∧ o' = o + j then some v else h1 b' o', h2, fun b' o' => ?_, fun b' o' => ?_, fun b' o' => ?_, f⟩, fun b' o' u hv => ?_⟩
  · by_cases e : b' = b ∧ o' = o + j
    · obtain ⟨rfl, rfl⟩ := e; exact .inr e2
    · simp only [e, if_false]; exact hd b' o'
  · by_cases e : b' = b ∧ o' = o + j
    · simp [e]
    · simp only [e, if_false]; exact hu b' o'
  · by_cases e : b' = b ∧ o' = o + j
    · obtain ⟨rfl, rfl⟩ := e
      simp only [and_self, if_true]
      rw [if_pos ⟨trivial, by omega⟩, show o + j - o = j by omega, List.getElem?_set_self hj]
    · simp only [e, if_false]
      rw [p]
      by_cases hh : b' = b ∧ o ≤ o'
      · rw [if_pos hh, if_pos hh, List.getElem?_set_ne (by omega)]
      · rw [if_neg hh, if_neg hh]
  · by_cases e : b' = b ∧ o' = o + j
    · obtain ⟨rfl, rfl⟩ := e
      simp only [and_self, if_true, Option.some.injEq] at hv
      subst hv
      refine ⟨hab.1, World.cell?_setCell_same _ _ _ hc, ?_⟩
      rw [World.frozen?_setCell]
      exact (k b' (o + j) xs[j] (by rw [hu, e1]; rfl)).2.2
    · simp only [e, if_false] at hv
      obtain ⟨k1, k2, k3⟩ := k b' o' u hv
      refine ⟨k1, ?_, by rw [World.frozen?_setCell]; exact k3⟩
      rw [World.cell?_setCell_other _ _ _ _ (by intro h; simp only [Addr.mk.injEq] at h; exact e ⟨h.1.symm, h.2.1.symm⟩)]
      exact k2
theorem Sat.set0 {u : Value} (hs : Sat w0 w (pts b o (u :: xs) * F)) (v : Value) : Sat w0 (w.setCell ⟨b, o, none⟩ v) (pts b o (v :: xs) * F) := hs.set (j := 0) (by simp) v

theorem Sat.alloc (hs : Sat w0 w F) (c : Array Value) (t : TypeId) : Sat w0 (w.alloc (.cells c t)) (pts w.heap.size 0 c.toList * F) := by
  obtain ⟨hb, h, p, k⟩ := hs
  have old : ∀ b o, w.heap.size ≤ b → h b o = none := fun b o hbs => by
    cases e : h b o with
    | none => rfl
    | some v => have := World.block_lt_of_cell? w _ (k b o v e).2.1; simp at this; omega
  refine ⟨hb.alloc hb.size _, fun b' o' => if b' = w.heap.size then c[o']? else h b' o', ⟨fun b' o' => if b' = w.heap.size then c[o']? else none, h, fun b' o' => ?_, fun b' o' => ?_, fun b' o' => ?_, p⟩, fun b' o' v hv => ?_⟩
  · by_cases e : b' = w.heap.size
    · right; exact old b' o' (by omega)
    · left; simp [e]
  · by_cases e : b' = w.heap.size
    · simp only [e, if_true]; rw [old _ _ (Nat.le_refl _), Option.or_none]
    · simp [e]
  · by_cases e : b' = w.heap.size
    · simp [e]
    · simp [e]
  · by_cases e : b' = w.heap.size
    · subst e
      simp only [if_true] at hv
      refine ⟨hb.size, ?_, World.frozen?_alloc_new w c t o'⟩
      rw [World.cell?_alloc_new]; exact hv
    · simp only [e, if_false] at hv
      obtain ⟨k1, k2, k3⟩ := k b' o' v hv
      exact ⟨k1, by rw [World.cell?_alloc_old _ _ _ e]; exact k2, by rw [World.frozen?_alloc_old _ _ _ e]; exact k3⟩

theorem Sat.setCells : ∀ (vs : List Value) (w : World) (xs ys : List Value) (_ : Sat w0 w (pts b o (xs ++ ys) * F)) (_ : vs.length ≤ ys.length),
    Sat w0 (w.setCells b (o + xs.length) vs) (pts b o (xs ++ vs ++ ys.drop vs.length) * F)
  | [], w, xs, ys, hs, _ => by simpa [World.setCells] using hs
  | v :: vs, w, xs, y :: ys, hs, hl => by
    have h1 := hs.set (j := xs.length) (by simp) v
    have h2 := Sat.setCells vs _ (xs ++ [v]) ys (h1.perm (by simp)) (by simpa using hl)
    simpa [World.setCells, Nat.add_assoc] using h2

theorem Sat.ex_out {α : Type} {f : α → HP} (hs : Sat w0 w (ex f * F)) : ∃ a, Sat w0 w (f a * F) := by
  obtain ⟨hb, h, ⟨h1, h2, hd, hu, ⟨a, p⟩, q⟩, k⟩ := hs
  exact ⟨a, hb, h, ⟨h1, h2, hd, hu, p, q⟩, k⟩
theorem Sat.ex_in {α : Type} {f : α → HP} (a : α) (hs : Sat w0 w (f a * F)) : Sat w0 w (ex f * F) := hs.wk fun _ p => ⟨a, p⟩
theorem Sat.pur_out {p : Prop} (hs : Sat w0 w (pur p * F)) : p ∧ Sat w0 w F := by
  have := hs.drop
  obtain ⟨_, _, ⟨_, _, _, _, ⟨hp, _⟩, _⟩, _⟩ := hs
  exact ⟨hp, this⟩
theorem Sat.pur_in {p : Prop} (hp : p) (hs : Sat w0 w F) : Sat w0 w (pur p * F) := hs.emp_in.wk fun _ e => ⟨hp, e⟩
end

/-! ### Slices -/
/-- The slice value v owns n elements of k cells each: the cells xs, and what lies behind them up to the capacity. -/
def sliceP (k : Nat) (v : Value) (n : Nat) (xs : List Value) : HP := fun h =>
  (v = .slice none 0 0 ∧ n = 0 ∧ xs = [] ∧ ∀ b o, h b o = none) ∨
  ∃ g off cap sp, v = .slice (some ⟨g, off, none⟩) n cap ∧ n ≤ cap ∧ cap ≤ maxLen ∧ xs.length = n * k ∧ sp.length = (cap - n) * k ∧ pts g off (xs ++ sp) h

section
variable {w0 w : World} {P Q F : HP} {k : Nat} {v : Value} {n : Nat} {xs : List Value}
theorem Sat.slice_out (hs : Sat w0 w (sliceP k v n xs * F)) : (v = .slice none 0 0 ∧ n = 0 ∧ xs = [] ∧ Sat w0 w F) ∨
    ∃ g off cap sp, v = .slice (some ⟨g, off, none⟩) n cap ∧ n ≤ cap ∧ cap ≤ maxLen ∧ xs.length = n * k ∧ sp.length = (cap - n) * k ∧ Sat w0 w (pts g off (xs ++ sp) * F) := by
  have hd := hs.drop
  obtain ⟨hb, h, ⟨h1, h2, hd', hu, p, f⟩, kk⟩ := hs
  rcases p with ⟨e1, e2, e3, _⟩ | ⟨g, off, cap, sp, e1, e2, e3, e4, e5, p⟩
  · exact .inl ⟨e1, e2, e3, hd⟩
  · exact .inr ⟨g, off, cap, sp, e1, e2, e3, e4, e5, hb, h, ⟨h1, h2, hd', hu, p, f⟩, kk⟩
theorem Sat.slice_form (hs : Sat w0 w (sliceP k v n xs * F)) : ∃ a cap, v = .slice a n cap := by
  rcases hs.slice_out with ⟨rfl, rfl, _, _⟩ | ⟨g, off, cap, sp, rfl, _⟩
  · exact ⟨none, 0, rfl⟩
  · exact ⟨_, cap, rfl⟩
theorem Sat.slice_nil (k : Nat) (hs : Sat w0 w F) : Sat w0 w (sliceP k (.slice none 0 0) 0 [] * F) := hs.emp_in.wk fun _ e => .inl ⟨rfl, rfl, rfl, e⟩
theorem Sat.slice_in {g off cap : Nat} {sp : List Value} (hs : Sat w0 w (pts g off (xs ++ sp) * F)) (h1 : n ≤ cap) (h2 : cap ≤ maxLen) (h3 : xs.length = n * k) (h4 : sp.length = (cap - n) * k) :
    Sat w0 w (sliceP k (.slice (some ⟨g, off, none⟩) n cap) n xs * F) := hs.wk fun _ p => .inr ⟨g, off, cap, sp, rfl, h1, h2, h3, h4, p⟩

theorem size_setCells (b : Nat) : ∀ (vs : List Value) (o : Nat) (w : World), (w.setCells b o vs).heap.size = w.heap.size
  | [], _, _ => rfl
  | v :: r, o, w => by rw [World.setCells, size_setCells b r]; simp

/-- append onto an owned slice: it owns what was there and what came. -/
theorem append_sat {P : Program} (t ty e : TypeId) (i : TypeInfo) (z : Value) (size bytes : Nat) (ht : P.underlying t = some (.slice e)) (hi : P.info? e = some i) (hz : i.zero = some z)
    (hsize : i.size = size) (hby : i.bytes = bytes) (hzs : z.cells.size = size) (hs : Sat w0 w (sliceP size v n xs * F))
    (ad : Option Addr) (m c : Nat) (news : List Value) (hl : news.length = m * size) (had : ad = none → m = 0) (hnews : ∀ a, ad = some a → ∀ j u, news[j]? = some u → w.cell? (a.add j) = some u) (h1 : ∀ u ∈ news, u.oneCell' = true)
    (h63 : n + m ≤ maxLen) (hbytes : (n + m) * bytes ≤ 140737488355328) :
    ∃ v' w', (Builtin.append_ #[t, t] ty #[v, .slice ad m c]).run P w = .ok v' w' ∧ Sat w0 w' (sliceP size v' (n + m) (xs ++ news) * F) ∧ w.heap.size ≤ w'.heap.size := by
  subst hsize
  subst hby
  have hsmall : n + m ≤ 9223372036854775807 := by simp only [maxLen] at h63; omega
  by_cases hm : m = 0
  · subst hm
    have hn0 : news = [] := List.eq_nil_of_length_eq_zero (by simpa using hl)
    subst hn0
    refine ⟨v, w, ?_, by simpa using hs, Nat.le_refl _⟩
    rcases hs.slice_out with ⟨rfl, rfl, rfl, _⟩ | ⟨g, off, cap, sp, rfl, hc, _, hx, hsp, hs'⟩
    · cases ad <;> simp [Builtin.append_, run_underlying ht, sizeOf, typeInfo, hi, Builtin.lenOf, Builtin.firstCells, loadCells, loadCellsFrom]
    · cases ad <;> simp [Builtin.append_, run_underlying ht, sizeOf, typeInfo, hi, Builtin.lenOf, Builtin.firstCells, loadCells, loadCellsFrom, hc, storeCells]
  obtain ⟨a, rfl⟩ : ∃ a, ad = some a := by cases ad with | none => exact absurd (had rfl) hm | some a => exact ⟨a, rfl⟩
  have hnews' := hnews a rfl
  rcases hs.slice_out with ⟨rfl, rfl, rfl, hs'⟩ | ⟨g, off, cap, sp, rfl, hc, hcm, hx, hsp, hs'⟩
  · have hr := run_append_nil (P := P) w t ty e i z ht hi hz a m c news hl hnews' (by omega) (by omega) (by have hb := hbytes; simp only [Nat.zero_add] at hb; omega)
    refine ⟨_, _, hr, ?_, by simp⟩
    have hge := grownCap_ge w m 0 e
    have hcm : grownCap w m 0 e ≤ maxLen := grownCap_le_maxLen w m 0 e (by omega)
    have h2 := hs'.drew.alloc (news.toArray ++ Builtin.zeroCells z.cells (grownCap w m 0 e - m)) e
    have h3 := Sat.slice_in (w0 := w0) (g := w.heap.size) (off := 0) (F := F) (k := i.size) (n := m) (xs := news) (cap := grownCap w m 0 e) (sp := (Builtin.zeroCells z.cells (grownCap w m 0 e - m)).toList) (h2.perm (by simp)) hge hcm hl (by simp [size_zeroCells, hzs])
    simpa using h3
  · by_cases hroom : n + m ≤ cap
    · have hspl : m * i.size ≤ sp.length := by rw [hsp]; exact Nat.mul_le_mul_right _ (by omega)
      have hr := run_append_room_cells (P := P) w t ty e i ht hi g off n cap a m c news hl hnews' h1 hroom
        (fun j hj => by
          have := hs'.cell (j := n * i.size + j) (v := (xs ++ sp)[n * i.size + j]'(by simp; omega)) (List.getElem?_eq_getElem _)
          rw [← Nat.add_assoc] at this; rw [this]; rfl)
        (fun j hj => by
          have := hs'.frz (j := n * i.size + j) (by simp; omega)
          rwa [← Nat.add_assoc] at this)
      refine ⟨_, _, hr, ?_, by rw [size_setCells]; exact Nat.le_refl _⟩
      have h2 := Sat.setCells news w xs sp hs' (by omega)
      rw [hx] at h2
      exact Sat.slice_in h2 hroom hcm (by simp [hx, hl, Nat.add_mul]) (by simp [hsp, hl, ← Nat.sub_mul]; congr 1; omega)
    · have hr := run_append_grow (P := P) w t ty e i z ht hi hz ⟨g, off, none⟩ n cap xs hx (fun j u hj => by
          rw [Addr.add_lit]
          exact hs'.cell (by rw [List.getElem?_append_left (List.getElem?_eq_some_iff.1 hj).1]; exact hj)) a m c news hl hnews' (by omega) (by omega) (growslice_fits (by omega) hbytes)
      refine ⟨_, _, hr, ?_, by simp⟩
      have hge := grownCap_ge w (n + m) cap e
      have hcm : grownCap w (n + m) cap e ≤ maxLen := grownCap_le_maxLen w (n + m) cap e h63
      have h2 := hs'.drop.drew.alloc (xs.toArray ++ news.toArray ++ Builtin.zeroCells z.cells (grownCap w (n + m) cap e - (n + m))) e
      have h3 := Sat.slice_in (w0 := w0) (g := w.heap.size) (off := 0) (F := F) (k := i.size) (n := n + m) (xs := xs ++ news) (cap := grownCap w (n + m) cap e) (sp := (Builtin.zeroCells z.cells (grownCap w (n + m) cap e - (n + m))).toList) (h2.perm (by simp)) hge hcm (by simp [hx, hl, Nat.add_mul]) (by simp [size_zeroCells, hzs])
      simpa using h3
end
end Go.Sx
