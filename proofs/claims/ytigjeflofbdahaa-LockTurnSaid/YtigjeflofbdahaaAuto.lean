/-
  Owned memory that is found by itself: the pieces, cells and stores of a product, looked up by instances. Nothing of any program stands here.
-/
import Derived.Test.YtigjeflofbdahaaLawB
import Derived.Deep.QuietTactic
namespace Go.Sx
open Go.RowKit

/-- To let a walk stand at an operation: 'go_wp2_with (at_builtin; refine halt_here ?_)', then 'refine go_on ?_'. -/
def Halted (p : Prop) : Prop := p
theorem halt_here {p : Prop} (h : Halted p) : p := h
theorem go_on {p : Prop} (h : p) : Halted p := h
theorem own_it {w0 w : World} {P : HP} [h : Sat w0 w P] : Sat w0 w P := h

/-- P is Q and F. -/
class Pull (P Q : HP) (F : outParam HP) : Prop where
  eq : P = Q * F
instance (priority := 2000) Pull.here (Q F : HP) : Pull (Q * F) Q F := ⟨rfl⟩
instance (priority := 100) Pull.last (Q : HP) : Pull Q Q emp := ⟨(star_emp Q).symm⟩
instance (priority := 1000) Pull.right (A G Q F : HP) [h : Pull G Q F] : Pull (A * G) Q (A * F) := ⟨by rw [h.eq]; ac_rfl⟩
instance (priority := 900) Pull.left (A G Q F : HP) [h : Pull A Q F] : Pull (A * G) Q (F * G) := ⟨by rw [h.eq]; ac_rfl⟩
theorem Sat.pull {w0 w : World} {P Q F : HP} (hs : Sat w0 w P) [h : Pull P Q F] : Sat w0 w (Q * F) := hs.perm h.eq
/-- What is owned, the wanted piece first. -/
theorem own {w0 w : World} {P Q F : HP} [hs : Sat w0 w P] [h : Pull P Q F] : Sat w0 w (Q * F) := hs.perm h.eq

/-- k is below n. -/
class Lt (k n : Nat) : Prop where
  lt : k < n

/-- The cell at this place of this block holds v. -/
class Cell (P : HP) (b o : Nat) (v : outParam Value) : Prop where
  cell : ∀ {w0 w F}, Sat w0 w (P * F) → w.cell? ⟨b, o, none⟩ = some v
  free : ∀ {w0 w F}, Sat w0 w (P * F) → w.frozen? ⟨b, o, none⟩ = false
instance (priority := 2000) Cell.head (b o : Nat) (x : Value) (xs : List Value) : Cell (pts b o (x :: xs)) b o x := ⟨fun h => h.c0, fun h => h.f0⟩
instance (priority := 1500) Cell.tail (b o o' : Nat) (x v : Value) (xs : List Value) [h : Cell (pts b (o + 1) xs) b o' v] : Cell (pts b o (x :: xs)) b o' v :=
  ⟨fun {w0 w F} hs => h.cell (F := pts b o [x] * F) (hs.perm (by rw [pts_cons]; ac_rfl)), fun {w0 w F} hs => h.free (F := pts b o [x] * F) (hs.perm (by rw [pts_cons]; ac_rfl))⟩
instance (priority := 1000) Cell.left (A G : HP) (b o : Nat) (v : Value) [h : Cell A b o v] : Cell (A * G) b o v :=
  ⟨fun {w0 w F} hs => h.cell (F := G * F) (hs.perm (by ac_rfl)), fun {w0 w F} hs => h.free (F := G * F) (hs.perm (by ac_rfl))⟩
instance (priority := 900) Cell.right (A G : HP) (b o : Nat) (v : Value) [h : Cell G b o v] : Cell (A * G) b o v :=
  ⟨fun {w0 w F} hs => h.cell (F := A * F) (hs.perm (by ac_rfl)), fun {w0 w F} hs => h.free (F := A * F) (hs.perm (by ac_rfl))⟩

theorem getElem?_map_int (κ : IntKind) {l : List Int} {k : Nat} (h : k < l.length) : (l.map (Value.int κ))[k]? = some (.int κ (l.getD k 0)) := by simp [List.getD, h]
theorem getElem?_map_bool {l : List Bool} {k : Nat} (h : k < l.length) : (l.map Value.bool)[k]? = some (.bool (l.getD k false)) := by simp [List.getD, h]
theorem pts_split {w0 w : World} {F : HP} {b o : Nat} {xs : List Value} {k : Nat} {v : Value} (hs : Sat w0 w (pts b o xs * F)) (h : xs[k]? = some v) : w.cell? ⟨b, o + k, none⟩ = some v ∧ w.frozen? ⟨b, o + k, none⟩ = false :=
  ⟨hs.cell h, hs.frz (List.getElem?_eq_some_iff.1 h).1⟩
/-- Arrays of numbers, of truths. -/
instance (priority := 1200) Cell.num (κ : IntKind) (b o k : Nat) (l : List Int) [h : Lt k l.length] : Cell (pts b o (l.map (Value.int κ))) b (o + k) (.int κ (l.getD k 0)) :=
  ⟨fun hs => (pts_split hs (getElem?_map_int κ h.lt)).1, fun hs => (pts_split hs (getElem?_map_int κ h.lt)).2⟩
instance (priority := 1200) Cell.num0 (κ : IntKind) (b k : Nat) (l : List Int) [h : Lt k l.length] : Cell (pts b 0 (l.map (Value.int κ))) b k (.int κ (l.getD k 0)) :=
  ⟨fun hs => by have := (pts_split hs (getElem?_map_int κ h.lt)).1; rwa [Nat.zero_add] at this, fun hs => by have := (pts_split hs (getElem?_map_int κ h.lt)).2; rwa [Nat.zero_add] at this⟩
instance (priority := 1200) Cell.bln (b o k : Nat) (l : List Bool) [h : Lt k l.length] : Cell (pts b o (l.map Value.bool)) b (o + k) (.bool (l.getD k false)) :=
  ⟨fun hs => (pts_split hs (getElem?_map_bool h.lt)).1, fun hs => (pts_split hs (getElem?_map_bool h.lt)).2⟩
instance (priority := 1200) Cell.bln0 (b k : Nat) (l : List Bool) [h : Lt k l.length] : Cell (pts b 0 (l.map Value.bool)) b k (.bool (l.getD k false)) :=
  ⟨fun hs => by have := (pts_split hs (getElem?_map_bool h.lt)).1; rwa [Nat.zero_add] at this, fun hs => by have := (pts_split hs (getElem?_map_bool h.lt)).2; rwa [Nat.zero_add] at this⟩

theorem own_cell {w0 w : World} {P : HP} {b o : Nat} {v : Value} [h : Sat w0 w P] [c : Cell P b o v] : w.cell? ⟨b, o, none⟩ = some v := c.cell (F := emp) (h.perm (star_emp P).symm)
theorem own_free {w0 w : World} {P : HP} {b o : Nat} {v : Value} [h : Sat w0 w P] [c : Cell P b o v] : w.frozen? ⟨b, o, none⟩ = false := c.free (F := emp) (h.perm (star_emp P).symm)

/-- A store at this place. -/
class Upd (P : HP) (b o : Nat) (v : Value) (P' : outParam HP) : Prop where
  upd : ∀ {w0 w F}, Sat w0 w (P * F) → Sat w0 (w.setCell ⟨b, o, none⟩ v) (P' * F)
instance (priority := 2000) Upd.head (b o : Nat) (x v : Value) (xs : List Value) : Upd (pts b o (x :: xs)) b o v (pts b o (v :: xs)) := ⟨fun h => h.set0 v⟩
instance (priority := 1500) Upd.tail (b o o' : Nat) (x v : Value) (xs ys : List Value) [h : Upd (pts b (o + 1) xs) b o' v (pts b (o + 1) ys)] : Upd (pts b o (x :: xs)) b o' v (pts b o (x :: ys)) :=
  ⟨fun {w0 w F} hs => (h.upd (F := pts b o [x] * F) (hs.perm (by rw [pts_cons]; ac_rfl))).perm (by rw [pts_cons b o x ys]; ac_rfl)⟩
instance (priority := 1000) Upd.left (A A' G : HP) (b o : Nat) (v : Value) [h : Upd A b o v A'] : Upd (A * G) b o v (A' * G) :=
  ⟨fun {w0 w F} hs => (h.upd (F := G * F) (hs.perm (by ac_rfl))).perm (by ac_rfl)⟩
instance (priority := 900) Upd.right (A G G' : HP) (b o : Nat) (v : Value) [h : Upd G b o v G'] : Upd (A * G) b o v (A * G') :=
  ⟨fun {w0 w F} hs => (h.upd (F := A * F) (hs.perm (by ac_rfl))).perm (by ac_rfl)⟩
instance (priority := 1200) Upd.num (κ : IntKind) (b o k : Nat) (n : Int) (l : List Int) [h : Lt k l.length] : Upd (pts b o (l.map (Value.int κ))) b (o + k) (.int κ n) (pts b o ((l.set k n).map (Value.int κ))) :=
  ⟨fun hs => by rw [List.map_set]; exact hs.set (by rw [List.length_map]; exact h.lt) _⟩
instance (priority := 1200) Upd.num0 (κ : IntKind) (b k : Nat) (n : Int) (l : List Int) [h : Lt k l.length] : Upd (pts b 0 (l.map (Value.int κ))) b k (.int κ n) (pts b 0 ((l.set k n).map (Value.int κ))) :=
  ⟨fun {w0 w F} hs => by have := hs.set (j := k) (by rw [List.length_map]; exact h.lt) (.int κ n); rw [Nat.zero_add] at this; rw [List.map_set]; exact this⟩
instance (priority := 1200) Upd.bln (b o k : Nat) (n : Bool) (l : List Bool) [h : Lt k l.length] : Upd (pts b o (l.map Value.bool)) b (o + k) (.bool n) (pts b o ((l.set k n).map Value.bool)) :=
  ⟨fun hs => by rw [List.map_set]; exact hs.set (by rw [List.length_map]; exact h.lt) _⟩
instance (priority := 1200) Upd.bln0 (b k : Nat) (n : Bool) (l : List Bool) [h : Lt k l.length] : Upd (pts b 0 (l.map Value.bool)) b k (.bool n) (pts b 0 ((l.set k n).map Value.bool)) :=
  ⟨fun {w0 w F} hs => by have := hs.set (j := k) (by rw [List.length_map]; exact h.lt) (.bool n); rw [Nat.zero_add] at this; rw [List.map_set]; exact this⟩

/-- The number of the next block. -/
class Size (w : World) (n : outParam Nat) : Prop where
  eq : w.heap.size = n
instance (priority := 100) Size.base (w : World) : Size w w.heap.size := ⟨rfl⟩
instance (priority := 1000) Size.set (w : World) (a : Addr) (v : Value) (n : Nat) [h : Size w n] : Size (w.setCell a v) n := ⟨by rw [World.size_setCell]; exact h.eq⟩
instance (priority := 1000) Size.drew (w : World) (n : Nat) [h : Size w n] : Size w.drew n := ⟨h.eq⟩
instance (priority := 1000) Size.drewN (w : World) (k n : Nat) [h : Size w n] : Size (w.drewN k) n := ⟨h.eq⟩
instance (priority := 1000) Size.alloc (w : World) (o : Obj) (n : Nat) [h : Size w n] : Size (w.alloc o) (n + 1) := ⟨by simp [h.eq]⟩
instance Sat.iset (w0 w : World) (P P' : HP) (b o : Nat) (v : Value) [h : Sat w0 w P] [u : Upd P b o v P'] : Sat w0 (w.setCell ⟨b, o, none⟩ v) P' :=
  (u.upd (F := emp) (h.perm (star_emp P).symm)).perm (star_emp P')
instance Sat.idrew (w0 w : World) (P : HP) [h : Sat w0 w P] : Sat w0 w.drew P := h.drew
instance Sat.idrewN (w0 w : World) (P : HP) (n : Nat) [h : Sat w0 w P] : Sat w0 (w.drewN n) P := h.drewN n
instance Sat.ialloc (w0 w : World) (P : HP) (l : List Value) (t : TypeId) (n : Nat) [h : Sat w0 w P] [s : Size w n] : Sat w0 (w.alloc (.cells l.toArray t)) (pts n 0 l * P) := s.eq ▸ h.alloc l.toArray t

instance Sat.imk (w0 w : World) (P : HP) (n : Nat) [h : Sat w0 w P] : Sat w0 { heap := w.heap, tape := w.tape, drawn := n, os := w.os, output := w.output } P := h.of_same rfl rfl rfl rfl

/-! ### Anything -/
def any : HP := fun _ => True
theorem Sat.toAny {w0 w : World} {P F : HP} (hs : Sat w0 w (P * F)) : Sat w0 w (P * any) := ((hs.perm (star_comm P F)).wk fun _ _ => trivial).perm (star_comm any P)
/-! ### Slices of numbers -/
/-- P owns the slice v, that reads as l, and F. -/
class PullN (P : HP) (κ : IntKind) (v : Value) (l : outParam (List Int)) (F : outParam HP) : Prop where
  eq : P = numsP κ v l * F
instance (priority := 2000) PullN.here (κ : IntKind) (v : Value) (l : List Int) (F : HP) : PullN (numsP κ v l * F) κ v l F := ⟨rfl⟩
instance (priority := 100) PullN.last (κ : IntKind) (v : Value) (l : List Int) : PullN (numsP κ v l) κ v l emp := ⟨(star_emp _).symm⟩
instance (priority := 1000) PullN.right (A G F : HP) (κ : IntKind) (v : Value) (l : List Int) [h : PullN G κ v l F] : PullN (A * G) κ v l (A * F) := ⟨by rw [h.eq]; ac_rfl⟩
instance (priority := 900) PullN.left (A G F : HP) (κ : IntKind) (v : Value) (l : List Int) [h : PullN A κ v l F] : PullN (A * G) κ v l (F * G) := ⟨by rw [h.eq]; ac_rfl⟩
theorem Sat.nums_cell {w0 w : World} {F : HP} {κ : IntKind} {g off cap n : Nat} {l : List Int} (hs : Sat w0 w (numsP κ (.slice (some ⟨g, off, none⟩) n cap) l * F)) {k : Nat} (hk : k < l.length) :
    w.cell? ⟨g, off + k, none⟩ = some (.int κ (l.getD k 0)) ∧ w.frozen? ⟨g, off + k, none⟩ = false := by
  rcases hs.slice_out with ⟨e, _⟩ | ⟨g', off', cap', sp, e, _, _, hx, _, hs'⟩
  · cases e
  · simp only [Value.slice.injEq, Option.some.injEq, Addr.mk.injEq] at e
    obtain ⟨⟨rfl, rfl, _⟩, _, _⟩ := e
    exact pts_split hs' (by rw [List.getElem?_append_left (by simpa using hk)]; exact getElem?_map_int κ hk)
instance (priority := 1200) Cell.nums (κ : IntKind) (g off n cap k : Nat) (l : List Int) [h : Lt k l.length] : Cell (numsP κ (.slice (some ⟨g, off, none⟩) n cap) l) g (off + k) (.int κ (l.getD k 0)) :=
  ⟨fun hs => (hs.nums_cell h.lt).1, fun hs => (hs.nums_cell h.lt).2⟩
instance (priority := 1200) Cell.nums0 (κ : IntKind) (g off n cap : Nat) (l : List Int) [h : Lt 0 l.length] : Cell (numsP κ (.slice (some ⟨g, off, none⟩) n cap) l) g off (.int κ (l.getD 0 0)) :=
  ⟨fun hs => (hs.nums_cell (k := 0) h.lt).1, fun hs => (hs.nums_cell (k := 0) h.lt).2⟩
theorem Sat.nums_form {w0 w : World} {F : HP} {κ : IntKind} {v : Value} {l : List Int} (hs : Sat w0 w (numsP κ v l * F)) : ∃ g off cap, l.length ≤ cap ∧ cap ≤ maxLen ∧ (l ≠ [] → v = .slice (some ⟨g, off, none⟩) l.length cap) ∧ (l = [] → ∃ a, v = .slice a 0 cap) := by
  rcases hs.slice_out with ⟨rfl, h0, h1, _⟩ | ⟨g, off, cap, sp, rfl, hc, hcm, hx, hsp, hs'⟩
  · exact ⟨0, 0, 0, by omega, Nat.zero_le _, fun h => absurd (List.eq_nil_of_length_eq_zero h0) h, fun _ => ⟨_, rfl⟩⟩
  · exact ⟨g, off, cap, hc, hcm, fun _ => rfl, fun h => by subst h; exact ⟨_, rfl⟩⟩

/-! ### What was there at first and is read alone -/
/-- In the first world this cell holds v. -/
class Old (w0 : World) (b o : Nat) (v : outParam Value) : Prop where
  old : w0.cell? ⟨b, o, none⟩ = some v
theorem own_old {w0 w : World} {P : HP} {b o : Nat} {v : Value} [h : Sat w0 w P] [c : Old w0 b o v] : w.cell? ⟨b, o, none⟩ = some v := h.keep c.old
/-- So many numbers stand in the first world from there on. -/
class OldN (w0 : World) (κ : outParam IntKind) (b off : Nat) (l : outParam (List Int)) : Prop where
  old : ∀ j, j < l.length → w0.cell? ⟨b, off + j, none⟩ = some (.int κ (l.getD j 0))
instance Old.num (w0 : World) (κ : IntKind) (b off k : Nat) (l : List Int) [c : OldN w0 κ b off l] [h : Lt k l.length] : Old w0 b (off + k) (.int κ (l.getD k 0)) := ⟨c.old k h.lt⟩

/-! ### Anything else -/
/-- The wanted piece, and anything. -/
theorem own_some {w0 w : World} {P Q F : HP} [hs : Sat w0 w P] [h : Pull P Q F] : Sat w0 w (Q * any) := (hs.perm h.eq).toAny
/-- A fact and that it is hidden. -/
theorem RetV.sat {w0 w : World} {v : Value} {Q : HP} {e : Ending} (h : RetV w0 v Q e w) : Sat w0 w Q := h.2
theorem retV {w0 w : World} {v : Value} {P Q : HP} (hs : Sat w0 w P) (e : P = Q) : RetV w0 v Q (.returned v) w := ⟨rfl, hs.perm e⟩
attribute [go_sem] own_cell own_free own_old

/-- P owns the row xs there, and F. -/
class PullP (P : HP) (b o : Nat) (xs : outParam (List Value)) (F : outParam HP) : Prop where
  eq : P = pts b o xs * F
instance (priority := 2000) PullP.here (b o : Nat) (xs : List Value) (F : HP) : PullP (pts b o xs * F) b o xs F := ⟨rfl⟩
instance (priority := 100) PullP.last (b o : Nat) (xs : List Value) : PullP (pts b o xs) b o xs emp := ⟨(star_emp _).symm⟩
instance (priority := 1000) PullP.right (A G F : HP) (b o : Nat) (xs : List Value) [h : PullP G b o xs F] : PullP (A * G) b o xs (A * F) := ⟨by rw [h.eq]; ac_rfl⟩
instance (priority := 900) PullP.left (A G F : HP) (b o : Nat) (xs : List Value) [h : PullP A b o xs F] : PullP (A * G) b o xs (F * G) := ⟨by rw [h.eq]; ac_rfl⟩
/-- Of P at least F is left. -/
class Frm (P F : HP) : Prop where
  out : ∀ {w0 w Q}, Sat w0 w (Q * P) → Sat w0 w (Q * F)
instance (priority := 2000) Frm.refl (F : HP) : Frm F F := ⟨fun h => h⟩
instance (priority := 1000) Frm.right (A G F : HP) [h : Frm G F] : Frm (A * G) F := ⟨fun {w0 w Q} hs => h.out (hs.perm (by ac_rfl : _ = A * (Q * G))).drop⟩
instance (priority := 900) Frm.left (A G F : HP) [h : Frm A F] : Frm (A * G) F := ⟨fun {w0 w Q} hs => h.out (hs.perm (by ac_rfl : _ = G * (Q * A))).drop⟩
instance (priority := 1500) Frm.pull (P A F G : HP) [h : Pull P A F] [f : Frm F G] : Frm P (A * G) := ⟨fun {w0 w Q} hs => (f.out (Q := Q * A) (hs.perm (by rw [h.eq]; ac_rfl))).perm (by ac_rfl)⟩
instance (priority := 3000) Frm.any (P : HP) : Frm P any := ⟨fun hs => hs.toAny⟩
instance (priority := 2900) Frm.emp (P : HP) : Frm P emp := ⟨fun hs => hs.fst.perm (star_emp _).symm⟩
theorem Sat.frm {w0 w : World} {P Q F G : HP} (hs : Sat w0 w P) [h : Pull P Q G] [f : Frm G F] : Sat w0 w (Q * F) := f.out (hs.perm h.eq)
theorem Sat.left {w0 w : World} {P F : HP} (hs : Sat w0 w P) [f : Frm P F] : Sat w0 w F := (f.out (Q := emp) (hs.perm (emp_star P).symm)).perm (emp_star F)

theorem own_gen {w0 w wx : World} {P : HP} [h : Sat w0 w P] (e : w = wx) : Sat w0 wx P := e ▸ h
theorem own2 {w0 w : World} {P A B F1 F2 : HP} [hs : Sat w0 w P] [h : Pull P A F1] [h2 : Pull F1 B F2] : Sat w0 w (A * (B * F2)) := hs.perm (by rw [h.eq, h2.eq])
theorem own_any {w0 w : World} {P Q F : HP} [hs : Sat w0 w P] [h : Pull P Q F] : Sat w0 w (Q * any) := (hs.perm h.eq).toAny
theorem own_any2 {w0 w : World} {P A B F1 F2 : HP} [hs : Sat w0 w P] [h : Pull P A F1] [h2 : Pull F1 B F2] : Sat w0 w (A * (B * any)) :=
  ((hs.perm (by rw [h.eq, h2.eq, star_assoc] : P = A * B * F2)).toAny).perm (star_assoc _ _ _)
theorem own_left {w0 w : World} {P F : HP} [hs : Sat w0 w P] [f : Frm P F] : Sat w0 w F := hs.left

/-! ### Reading a list of numbers -/
/-- v reads as l. -/
class Rd (w : World) (κ : IntKind) (v : Value) (l : outParam (List Int)) : Prop where
  rd : RdN κ w v l
theorem rdNil (κ : IntKind) (w : World) : RdN κ w (.slice none 0 0) [] := ⟨none, 0, 0, 0, rfl, Nat.le_refl _, by decide, fun h => absurd rfl h, fun j hj => absurd hj (by simp)⟩
instance (priority := 1000) Rd.own (w0 w : World) (P : HP) (κ : IntKind) (v : Value) (l : List Int) (F : HP) [h : Sat w0 w P] [p : PullN P κ v l F] : Rd w κ v l := ⟨(h.perm p.eq).rdN⟩
instance (priority := 1100) Rd.one (w : World) (κ : IntKind) (x : Int) (t : TypeId) (n : Nat) [s : Size w n] : Rd (w.alloc (.cells [Value.int κ x].toArray t)) κ (.slice (some ⟨n, 0, none⟩) 1 1) [x] := ⟨s.eq ▸ rdN_lit κ [x] w t (by simp [maxLen])⟩
/-- So much reads in the first world. -/
class OldR (w0 : World) (κ : IntKind) (v : Value) (l : outParam (List Int)) : Prop where
  old : RdN κ w0 v l
instance (priority := 900) Rd.old (w0 w : World) (P : HP) (κ : IntKind) (v : Value) (l : List Int) [h : Sat w0 w P] [c : OldR w0 κ v l] : Rd w κ v l := ⟨c.old.later h⟩
theorem rd {w : World} {κ : IntKind} {v : Value} {l : List Int} [h : Rd w κ v l] : RdN κ w v l := h.rd

theorem numsP_nil (κ : IntKind) : numsP κ (.slice none 0 0) [] = emp := HP.same fun h => by
  constructor
  · intro p
    rcases p with ⟨_, _, _, e⟩ | ⟨g, off, cap, sp, e, _⟩
    · exact e
    · cases e
  · intro e
    exact Or.inl ⟨rfl, rfl, rfl, e⟩
theorem numsP_empty (κ : IntKind) (g o : Nat) : numsP κ (.slice (some ⟨g, o, none⟩) 0 0) [] = emp := HP.same fun h => by
  constructor
  · intro p
    rcases p with ⟨e, _⟩ | ⟨g', off, cap, sp, e, _, _, hx, hsp, p⟩
    · cases e
    · simp only [Value.slice.injEq] at e
      obtain ⟨_, _, rfl⟩ := e
      have h1 : ([] : List Int).map (Value.int κ) ++ sp = [] := by simpa using hsp
      rw [h1, pts_nil] at p
      exact p
  · intro e
    refine Or.inr ⟨g, o, 0, [], rfl, Nat.le_refl _, Nat.zero_le _, rfl, rfl, ?_⟩
    rw [show ([] : List Int).map (Value.int κ) ++ [] = [] from rfl, pts_nil]
    exact e
instance (priority := 50) PullN.nil (P : HP) (κ : IntKind) : PullN P κ (.slice none 0 0) [] P := ⟨by rw [numsP_nil, emp_star]⟩
instance (priority := 50) PullN.empty (P : HP) (κ : IntKind) (g o : Nat) : PullN P κ (.slice (some ⟨g, o, none⟩) 0 0) [] P := ⟨by rw [numsP_empty, emp_star]⟩

/-! ### append -/
theorem RdN.len_eq {κ : IntKind} {w : World} {ad : Option Addr} {n c : Nat} {l : List Int} (h : RdN κ w (.slice ad n c) l) : n = l.length := by
  obtain ⟨a, cap, b, o, e, _⟩ := h
  simp only [Value.slice.injEq] at e
  exact e.2.1
/-- A slice of numbers, or of truths: its element's size is one cell. -/
class Elem (P : Program) (t : TypeId) (κ : outParam IntKind) (e bytes : outParam Nat) (z : outParam Value) : Prop where
  el : ElemT P t e 1 bytes z
  le : bytes ≤ 8
theorem wp_append_nums {P : Program} {w0 w : World} {P0 F : HP} {t e bytes : Nat} {z : Value} {κ : IntKind} {l l2 : List Int} {K : Act → World → Prop} {o : Oper} {a : Act} {Q : Exit → Act → World → Prop} {s x : Operand} {ad sa : Option Addr} {m c sn sc : Nat}
    (ho : o.op = .call { callee := .builtin .append, args := #[s, x], argTypes := #[t, t] }) [E : Elem P t κ e bytes z]
    (hv : a.eval s = .slice sa sn sc) (hx : a.eval x = .slice ad m c) [hs : Sat w0 w P0] [hp : PullN P0 κ (.slice sa sn sc) l F] [hr : Rd w κ (.slice ad m c) l2]
    (h63 : sn + m ≤ 1000000000)
    (h : ∀ a' cap' L w', Hid (L = l ++ l2) → L.length ≤ sn + m → sn + m ≤ L.length → Sat w0 w' (numsP κ (.slice a' L.length cap') L * F) → w.heap.size ≤ w'.heap.size → K (a.put o.dst (.slice a' L.length cap')) w') : o.wp P a w K Q := by
  have hn := hr.rd.news
  have hml : m = l2.length := hn.1
  have hsl : sn = l.length := ((hs.perm hp.eq).rdN (F := F)).len_eq
  have hs1 : Sat w0 w (numsP κ (.slice sa sn sc) l * F) := hs.perm hp.eq
  have hbb : (l.length + m) * bytes ≤ 140737488355328 := Nat.le_trans (Nat.mul_le_mul (show l.length + m ≤ 1000000000 by omega) E.le) (by decide)
  refine wp_append_sat s x ho E.el hv hs1 ad m c (l2.map (Value.int κ)) hx (by simp [hml]) hn.2.1 hn.2.2 (oneCell_ints l2) (by unfold maxLen; omega) hbb ?_
  intro v' w' hs' hz
  have hs2 : Sat w0 w' (numsP κ v' (l ++ l2) * F) := by
    unfold numsP
    rw [List.length_append, List.map_append, ← hml]; exact hs'
  obtain ⟨a', cap', rfl⟩ := hs2.slice_form
  exact h a' cap' _ w' rfl (by simp; omega) (by simp; omega) hs2 hz

/-- The same, by the address. -/
class PullA (P : HP) (a : Option Addr) (κ : outParam IntKind) (n c : outParam Nat) (l : outParam (List Int)) (F : outParam HP) : Prop where
  eq : P = numsP κ (.slice a n c) l * F
instance (priority := 2000) PullA.here (κ : IntKind) (a : Option Addr) (n c : Nat) (l : List Int) (F : HP) : PullA (numsP κ (.slice a n c) l * F) a κ n c l F := ⟨rfl⟩
instance (priority := 100) PullA.last (κ : IntKind) (a : Option Addr) (n c : Nat) (l : List Int) : PullA (numsP κ (.slice a n c) l) a κ n c l emp := ⟨(star_emp _).symm⟩
instance (priority := 1000) PullA.right (A G F : HP) (κ : IntKind) (a : Option Addr) (n c : Nat) (l : List Int) [h : PullA G a κ n c l F] : PullA (A * G) a κ n c l (A * F) := ⟨by rw [h.eq]; ac_rfl⟩
instance (priority := 900) PullA.left (A G F : HP) (κ : IntKind) (a : Option Addr) (n c : Nat) (l : List Int) [h : PullA A a κ n c l F] : PullA (A * G) a κ n c l (F * G) := ⟨by rw [h.eq]; ac_rfl⟩
theorem Sat.someA {w0 w : World} {P F : HP} {κ : IntKind} {n c : Nat} {l : List Int} (hs : Sat w0 w P) (a : Option Addr) [p : PullA P a κ n c l F] (h : 0 < l.length) : ∃ g off, a = some ⟨g, off, none⟩ := by
  rcases (hs.perm p.eq).slice_out with ⟨_, h0, _⟩ | ⟨g, off, cap, sp, e, _⟩
  · omega
  · simp only [Value.slice.injEq] at e
    exact ⟨g, off, e.1⟩
theorem Sat.capA {w0 w : World} {P F : HP} {κ : IntKind} {n c : Nat} {l : List Int} (hs : Sat w0 w P) (a : Option Addr) [p : PullA P a κ n c l F] : n = l.length ∧ n ≤ c ∧ c ≤ maxLen := by
  rcases (hs.perm p.eq).slice_out with ⟨e, h0, _⟩ | ⟨g, off, cap, sp, e, h1, h2, _⟩
  · simp only [Value.slice.injEq] at e
    obtain ⟨_, rfl, rfl⟩ := e
    exact ⟨h0.symm, Nat.le_refl _, Nat.zero_le _⟩
  · simp only [Value.slice.injEq] at e
    obtain ⟨_, rfl, rfl⟩ := e
    exact ⟨rfl, h1, h2⟩
/-- A part of a slice. -/
theorem RdN.part {κ : IntKind} {w : World} {g off n c : Nat} {l : List Int} (h : RdN κ w (.slice (some ⟨g, off, none⟩) n c) l) (i m : Nat) (hi : i + m ≤ l.length) (c' : Nat) (h1 : m ≤ c') (h2 : c' ≤ maxLen) :
    RdN κ w (.slice (some ⟨g, off + i, none⟩) m c') ((l.drop i).take m) := by
  obtain ⟨a, cap, b, o, e, h3, h4, h5, h6⟩ := h
  simp only [Value.slice.injEq] at e
  obtain ⟨rfl, rfl, rfl⟩ := e
  have hl : ((l.drop i).take m).length = m := by simp; omega
  by_cases h0 : m = 0
  · subst h0
    exact ⟨_, c', g, off + i, by rw [hl], by rw [hl]; omega, h2, fun h => absurd (by simp) h, fun j hj => absurd hj (by simp)⟩
  · have hb := h5 (by rintro rfl; simp at hi; omega)
    simp only [Option.some.injEq, Addr.mk.injEq] at hb
    obtain ⟨rfl, rfl, _⟩ := hb
    refine ⟨_, c', g, off + i, by rw [hl], by rw [hl]; omega, h2, fun _ => rfl, fun j hj => ?_⟩
    rw [hl] at hj
    have := h6 (i + j) (by omega)
    rw [← Nat.add_assoc] at this
    rw [this]
    congr 2
    simp [List.getD, hj]

/-- k is at most n. -/
class Le (k n : Nat) : Prop where
  le : k ≤ n
instance (priority := 800) Rd.front (w0 w : World) (P : HP) (κ : IntKind) (g off n c m : Nat) (l : List Int) (F : HP) [h : Sat w0 w P] [p : PullA P (some ⟨g, off, none⟩) κ n c l F] [hm : Le m l.length] : Rd w κ (.slice (some ⟨g, off, none⟩) m c) (l.take m) :=
  ⟨by have hc := h.capA (some ⟨g, off, none⟩)
      have h1 := (h.perm p.eq).rdN.part 0 m (by have := hm.le; omega) c (by have := hm.le; omega) hc.2.2
      simpa using h1⟩

theorem wpList_append_nums {P : Program} {w0 w : World} {P0 F : HP} {t e bytes : Nat} {z : Value} {κ : IntKind} {l l2 : List Int} {ops : Array Oper} {rest : List Oper} {o : Oper} {a : Act} {Q : Exit → Act → World → Prop} {s x : Operand} {ad sa : Option Addr} {m c sn sc : Nat}
    (hgd : o.guard = none) (ho : o.op = .call { callee := .builtin .append, args := #[s, x], argTypes := #[t, t] }) [E : Elem P t κ e bytes z]
    (hv : a.eval s = .slice sa sn sc) (hx : a.eval x = .slice ad m c) [hs : Sat w0 w P0] [hp : PullN P0 κ (.slice sa sn sc) l F] [hr : Rd w κ (.slice ad m c) l2]
    (h63 : sn + m ≤ 1000000000)
    (h : ∀ a' cap' L w', Hid (L = l ++ l2) → L.length ≤ sn + m → sn + m ≤ L.length → Sat w0 w' (numsP κ (.slice a' L.length cap') L * F) → w.heap.size ≤ w'.heap.size → wpList P ops Q rest (a.put o.dst (.slice a' L.length cap')) w') : wpList P ops Q (o :: rest) a w :=
  wpList_plain hgd fun _ hK => wp_append_nums ho hv hx h63 fun a' cap' L w' h1 h2 h3 h4 h5 => hK _ _ (h a' cap' L w' h1 h2 h3 h4 h5)

/-! ### Parts of slices -/
/-- Wherever src reads as l, v reads as L. -/
class Part (κ : IntKind) (v : Value) (src : outParam Value) (l L : outParam (List Int)) : Prop where
  part : ∀ w, RdN κ w src l → RdN κ w v L
instance (priority := 1050) Rd.part (w : World) (κ : IntKind) (v src : Value) (l L : List Int) [h : Part κ v src l L] [r : Rd w κ src l] : Rd w κ v L := ⟨h.part w r.rd⟩
theorem RdN.cut {κ : IntKind} {w : World} {ad : Option Addr} {n c : Nat} {l : List Int} (h : RdN κ w (.slice ad n c) l) (i m c' : Nat) (hi : i + m ≤ l.length) (h1 : m ≤ c') (h2 : c' ≤ maxLen) :
    RdN κ w (.slice (ad.map (·.add i)) m c') ((l.drop i).take m) := by
  obtain ⟨a, cap, b, o, e, h3, h4, h5, h6⟩ := h
  simp only [Value.slice.injEq] at e
  obtain ⟨rfl, rfl, rfl⟩ := e
  have hl : ((l.drop i).take m).length = m := by simp; omega
  by_cases h0 : m = 0
  · subst h0
    exact ⟨_, c', 0, 0, by rw [hl], by rw [hl]; omega, h2, fun h => absurd (by simp) h, fun j hj => absurd hj (by simp)⟩
  · have hb := h5 (by rintro rfl; simp at hi; omega)
    subst hb
    refine ⟨_, c', b, o + i, by rw [hl], by rw [hl]; omega, h2, fun _ => by simp [Addr.add], fun j hj => ?_⟩
    rw [hl] at hj
    have := h6 (i + j) (by omega)
    rw [← Nat.add_assoc] at this
    rw [this]
    congr 2
    simp [List.getD, hj]
theorem RdN.caps {κ : IntKind} {w : World} {ad : Option Addr} {n c : Nat} {l : List Int} (h : RdN κ w (.slice ad n c) l) : n = l.length ∧ n ≤ c ∧ c ≤ maxLen := by
  obtain ⟨a, cap, b, o, e, h3, h4, _⟩ := h
  simp only [Value.slice.injEq] at e
  obtain ⟨rfl, rfl, rfl⟩ := e
  exact ⟨rfl, h3, h4⟩
theorem part_sliced {κ : IntKind} {ad : Option Addr} {n c : Nat} {l : List Int} (lo hi : Nat) (h1 : lo ≤ hi) (h2 : hi ≤ l.length) : ∃ x, ∀ w, RdN κ w (.slice ad n c) l → sliced ad lo hi c 1 = .slice x ((l.take hi).drop lo).length (c - lo) ∧ RdN κ w (.slice x ((l.take hi).drop lo).length (c - lo)) ((l.take hi).drop lo) := by
  have hl : ((l.take hi).drop lo).length = hi - lo := by simp; omega
  have he : (l.take hi).drop lo = (l.drop lo).take (hi - lo) := by rw [List.drop_take]
  by_cases hc : c = lo
  · refine ⟨ad, fun w hr => ⟨by simp [sliced, hc, hl], ?_⟩⟩
    have hq := hr.caps
    have hn : l.drop lo = [] := List.drop_eq_nil_of_le (by omega)
    rw [hl, he, hn, List.take_nil]
    exact ⟨ad, c - lo, 0, 0, by simp; omega, Nat.zero_le _, by omega, fun h => absurd rfl h, fun j hj => absurd hj (by simp)⟩
  · refine ⟨ad.map (·.add lo), fun w hr => ⟨by simp [sliced, hc, hl], ?_⟩⟩
    have hq := hr.caps
    rw [hl, he]
    exact hr.cut lo (hi - lo) (c - lo) (by omega) (by omega) (by omega)
section
variable {P : Program} {w : World} {t e bytes : Nat} {z : Value} {κ : IntKind} {l : List Int} {ops : Array Oper} {rest : List Oper} {o : Oper} {a : Act} {Q : Exit → Act → World → Prop} {s lo hi : Operand} {sa : Option Addr} {sn sc : Nat} {i j : Int}
theorem sliced_go (E : ElemT P t e 1 bytes z) : P.underlying t = some (.slice (P.elem t)) ∧ (sizeOf (P.elem t)).run P w = .ok 1 w := by
  have he : P.elem t = e := by simp [Program.elem, E.ht]
  obtain ⟨inf, h1, h2, h3, h4⟩ := info_parts E.hi
  refine ⟨by rw [he]; exact E.ht, ?_⟩
  rw [he]
  simp [sizeOf, typeInfo, h1, h3]
theorem wpList_slice_from (hgd : o.guard = none) (ho : o.op = .slice t s (some lo) none none) [E : Elem P t κ e bytes z] (hv : a.eval s = .slice sa sn sc) (hlo : a.eval lo = .int .i64 i) [hr : Rd w κ (.slice sa sn sc) l] (h0 : 0 ≤ i) (h1 : i ≤ sn)
    (h : ∀ x c' L, Part κ (.slice x L.length c') (.slice sa sn sc) l L → Hid (L = l.drop i.toNat) → L.length + i.toNat ≤ sn → sn ≤ L.length + i.toNat → wpList P ops Q rest (a.put o.dst (.slice x L.length c')) w) : wpList P ops Q (o :: rest) a w := by
  refine wpList_plain hgd fun K hK => ?_
  obtain ⟨e1, e2⟩ := sliced_go (w := w) E.el
  have hq := hr.rd.caps
  have h1 : i ≤ l.length := by omega
  obtain ⟨x, hx⟩ := part_sliced (κ := κ) (ad := sa) (n := sn) (c := sc) (l := l) i.toNat l.length (by omega) (Nat.le_refl _)
  have hrun : (Instr.sliceAt t (.slice sa sn sc) (some (.int .i64 i)) none none).run P w = .ok (sliced sa i.toNat sn sc 1) w := by
    rw [run_sliceAt_slice w t _ _ _ _ e1, run_slice_l w t sa sn sc e1 .i64 i h0 (by omega), e2]; rfl
  unfold Oper.wp execOp
  simp only [ho, Option.map, hv, hlo, hrun, Sem.run_bind, Sem.run_pure, Result.andThen_ok]
  have hl : (l.take l.length).drop i.toNat = l.drop i.toNat := by rw [List.take_length]
  rw [hl] at hx
  have hx1 := (hx w hr.rd).1
  rw [← hq.1] at hx1
  rw [hx1]
  exact hK _ _ (h x (sc - i.toNat) (l.drop i.toNat) ⟨fun w hw => (hx w hw).2⟩ rfl (by simp; omega) (by simp; omega))
theorem wpList_slice_to (hgd : o.guard = none) (ho : o.op = .slice t s none (some hi) none) [E : Elem P t κ e bytes z] (hv : a.eval s = .slice sa sn sc) (hhi : a.eval hi = .int .i64 j) [hr : Rd w κ (.slice sa sn sc) l] (h0 : 0 ≤ j) (h1 : j ≤ sn)
    (h : ∀ x c' L, Part κ (.slice x L.length c') (.slice sa sn sc) l L → Hid (L = l.take j.toNat) → L.length ≤ j.toNat → j.toNat ≤ L.length → wpList P ops Q rest (a.put o.dst (.slice x L.length c')) w) : wpList P ops Q (o :: rest) a w := by
  refine wpList_plain hgd fun K hK => ?_
  obtain ⟨e1, e2⟩ := sliced_go (w := w) E.el
  have hq := hr.rd.caps
  have h1 : j ≤ l.length := by omega
  obtain ⟨x, hx⟩ := part_sliced (κ := κ) (ad := sa) (n := sn) (c := sc) (l := l) 0 j.toNat (Nat.zero_le _) (by omega)
  have hrun : (Instr.sliceAt t (.slice sa sn sc) none (some (.int .i64 j)) none).run P w = .ok (sliced sa 0 j.toNat sc 1) w := by
    rw [run_sliceAt_slice w t _ _ _ _ e1, run_slice_h w t sa sn sc e1 .i64 j h0 (by omega), e2]; rfl
  unfold Oper.wp execOp
  simp only [ho, Option.map, hv, hhi, hrun, Sem.run_bind, Sem.run_pure, Result.andThen_ok]
  have hx1 := (hx w hr.rd).1
  have hl : (l.take j.toNat).drop 0 = l.take j.toNat := by rw [List.drop_zero]
  rw [hl] at hx hx1
  rw [hx1]
  exact hK _ _ (h x (sc - 0) (l.take j.toNat) ⟨fun w hw => (hx w hw).2⟩ rfl (by simp; omega) (by simp; omega))
end

theorem stays_in {w0 : World} {P F : HP} {κ : IntKind} {v : Value} {l : List Int} [h : PullN P κ v l F] : Stays w0 P κ v l := fun _ hs => (hs.perm h.eq).rdN
theorem stays_old {w0 : World} {P : HP} {κ : IntKind} {v : Value} {l : List Int} [h : OldR w0 κ v l] : Stays w0 P κ v l := h.old.stays P

/-! ### Calls that only read, in a region that only reads -/
theorem quiet_eq {P : Program} {f : FuncId} {args : Array Value} {w : World} {n : Nat} {v : Value}
    (h : Calls P f args (w.drewN n) fun e w' => e = .returned v ∧ w.drewN n = w') : Calls P f args (w.drewN n) fun e w'' => e = .returned v ∧ ∃ m, w'' = w.drewN m :=
  h.mono fun _ _ ⟨he, hm⟩ => ⟨he, n, hm.symm⟩
theorem quiet_drew {P : Program} {f : FuncId} {args : Array Value} {w : World} {n : Nat} {v : Value}
    (h : Calls P f args (w.drewN n) fun e w' => e = .returned v ∧ ∃ m, w' = (w.drewN n).drewN m) : Calls P f args (w.drewN n) fun e w'' => e = .returned v ∧ ∃ m, w'' = w.drewN m :=
  Calls.quiet_of h
/-- The world under a new name: all that is kept of it is what is owned. -/
theorem wp_gen {P : Program} {c : Code} {Q : Exit → Act → World → Prop} {a : Act} {w0 w : World} {R : HP} [h : Sat w0 w R] (k : ∀ wx, Sat w0 wx R → c.wp P Q a wx) : c.wp P Q a w := k w h
theorem wpList_gen {P : Program} {ops : Array Oper} {l : List Oper} {Q : Exit → Act → World → Prop} {a : Act} {w0 w : World} {R : HP} [h : Sat w0 w R] (k : ∀ wx, Sat w0 wx R → wpList P ops Q l a wx) : wpList P ops Q l a w := k w h
end Go.Sx
