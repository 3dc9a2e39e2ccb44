/-
  Audit: the reference's auditor in memory; the contracts of acts and posts.
-/
import Derived.Test.YtfphgcplpokigaaAuditN
namespace Go.Proofs.Ytfphgcplpokigaa
open Go.RowKit Go.Sx Go.Au
set_option linter.unusedSimpArgs false
set_option linter.unusedVariables false

/-- A task as the reference keeps it. -/
structure Tr where
  st : Int
  on : Int
  late : Int
  lev : Int
  job : Nat
def toTr (t : Tk) : Tr := ⟨t.st, t.on, t.late, t.lev - 1, t.job⟩
instance encTr : Enc Tr 5 where
  enc t := [.int .i64 t.st, .int .i64 t.on, .int .i64 t.late, .int .i64 t.lev, .int .u32 t.job]
  len _ := rfl
  one t := by intro u hu; simp at hu; rcases hu with rfl | rfl | rfl | rfl | rfl <;> rfl
  dft := toTr tk0
  pos := by decide
class SetR (x : Tk) (c : Nat) (v : Value) (x' : outParam Tk) : Prop where
  set_ : encTr.enc (toTr x') = (encTr.enc (toTr x)).set c v
  lt : c < 5
instance (x : Tk) (n : Int) : SetR x 0 (.int .i64 n) { x with st := n } := ⟨rfl, by decide⟩
instance (x : Tk) (n : Nat) : SetR x 1 (.int .i64 n) { x with on := n } := ⟨rfl, by decide⟩
instance (x : Tk) (n : Int) : SetR x 2 (.int .i64 n) { x with late := n } := ⟨rfl, by decide⟩
instance (x : Tk) (n : Int) : SetR x 3 (.int .i64 n) { x with lev := n + 1 } := ⟨by show [_, _, _, Value.int .i64 (n + 1 - 1), _] = _; rw [Int.add_sub_cancel]; rfl, by decide⟩
instance (x : Tk) (n : Nat) : SetR x 4 (.int .u32 n) { x with job := n } := ⟨rfl, by decide⟩
theorem trAt {l : List Tk} {k : Nat} (h : k < l.length) : (l.map toTr).getD k encTr.dft = toTr (tkg l k) := by
  unfold tkg; simp [List.getD, h]
theorem tr_cell {g off n cap k c : Nat} {l : List Tk} {v : Value} (h : k < l.length) (hc : (encTr.enc (toTr (tkg l k)))[c]? = some v) {w0 w : World} {F : HP} (hs : Sat w0 w (recsP (.slice (some ⟨g, off, none⟩) n cap) (l.map toTr) * F)) : w.cell? ⟨g, off + k * 5 + c, none⟩ = some v ∧ w.frozen? ⟨g, off + k * 5 + c, none⟩ = false :=
  hs.recs_cell (by simpa using h) (by rw [trAt h]; exact hc)
theorem tr_upd {g off n cap k c : Nat} {l : List Tk} {x' : Tk} {v : Value} (h : k < l.length) (e : SetR (tkg l k) c v x') {w0 w : World} {F : HP} (hs : Sat w0 w (recsP (.slice (some ⟨g, off, none⟩) n cap) (l.map toTr) * F)) : Sat w0 (w.setCell ⟨g, off + k * 5 + c, none⟩ v) (recsP (.slice (some ⟨g, off, none⟩) n cap) ((l.set k x').map toTr) * F) := by
  have := recs_upd hs (k := k) (c := c) (v := v) (x' := toTr x') (by simpa using h) e.lt (by rw [trAt h]; exact e.set_)
  rwa [← List.map_set] at this
section
variable (g off n cap k : Nat) (l : List Tk) (x x' : Tk) (v : Value) (c : Nat)
instance (priority := 1300) [h : Lt k l.length] : Cell (recsP (.slice (some ⟨g, off, none⟩) n cap) (l.map toTr)) g (off + k * 5) (.int .i64 (tkg l k).st) := ⟨fun hs => (tr_cell (c := 0) h.lt rfl hs).1, fun hs => (tr_cell (c := 0) h.lt rfl hs).2⟩
instance (priority := 1300) [h : Lt k l.length] : Cell (recsP (.slice (some ⟨g, off, none⟩) n cap) (l.map toTr)) g (off + k * 5 + 1) (.int .i64 (tkg l k).on) := ⟨fun hs => (tr_cell h.lt rfl hs).1, fun hs => (tr_cell h.lt rfl hs).2⟩
instance (priority := 1300) [h : Lt k l.length] : Cell (recsP (.slice (some ⟨g, off, none⟩) n cap) (l.map toTr)) g (off + k * 5 + 2) (.int .i64 (tkg l k).late) := ⟨fun hs => (tr_cell h.lt rfl hs).1, fun hs => (tr_cell h.lt rfl hs).2⟩
instance (priority := 1300) [h : Lt k l.length] : Cell (recsP (.slice (some ⟨g, off, none⟩) n cap) (l.map toTr)) g (off + k * 5 + 3) (.int .i64 ((tkg l k).lev - 1)) := ⟨fun hs => (tr_cell h.lt rfl hs).1, fun hs => (tr_cell h.lt rfl hs).2⟩
instance (priority := 1300) [h : Lt k l.length] : Cell (recsP (.slice (some ⟨g, off, none⟩) n cap) (l.map toTr)) g (off + k * 5 + 4) (.int .u32 (tkg l k).job) := ⟨fun hs => (tr_cell h.lt rfl hs).1, fun hs => (tr_cell h.lt rfl hs).2⟩
theorem tkg_set (h : k < l.length) : tkg (l.set k x) k = x := by unfold tkg; exact getD_set_self h x tk0
instance (priority := 1400) [h : Lt k l.length] : Cell (recsP (.slice (some ⟨g, off, none⟩) n cap) ((l.set k x).map toTr)) g (off + k * 5) (.int .i64 x.st) := ⟨fun hs => (tr_cell (c := 0) (by rw [List.length_set]; exact h.lt) (by rw [tkg_set _ _ _ h.lt]; rfl) hs).1, fun hs => (tr_cell (c := 0) (by rw [List.length_set]; exact h.lt) (by rw [tkg_set _ _ _ h.lt]; rfl) hs).2⟩
instance (priority := 1400) [h : Lt k l.length] : Cell (recsP (.slice (some ⟨g, off, none⟩) n cap) ((l.set k x).map toTr)) g (off + k * 5 + 1) (.int .i64 x.on) := ⟨fun hs => (tr_cell (by rw [List.length_set]; exact h.lt) (by rw [tkg_set _ _ _ h.lt]; rfl) hs).1, fun hs => (tr_cell (by rw [List.length_set]; exact h.lt) (by rw [tkg_set _ _ _ h.lt]; rfl) hs).2⟩
instance (priority := 1400) [h : Lt k l.length] : Cell (recsP (.slice (some ⟨g, off, none⟩) n cap) ((l.set k x).map toTr)) g (off + k * 5 + 2) (.int .i64 x.late) := ⟨fun hs => (tr_cell (by rw [List.length_set]; exact h.lt) (by rw [tkg_set _ _ _ h.lt]; rfl) hs).1, fun hs => (tr_cell (by rw [List.length_set]; exact h.lt) (by rw [tkg_set _ _ _ h.lt]; rfl) hs).2⟩
instance (priority := 1300) [h : Lt k l.length] [e : SetR (tkg l k) c v x'] : Upd (recsP (.slice (some ⟨g, off, none⟩) n cap) (l.map toTr)) g (off + k * 5 + c) v (recsP (.slice (some ⟨g, off, none⟩) n cap) ((l.set k x').map toTr)) := ⟨fun hs => tr_upd h.lt e hs⟩
instance (priority := 1310) [h : Lt k l.length] [e : SetR (tkg l k) 0 v x'] : Upd (recsP (.slice (some ⟨g, off, none⟩) n cap) (l.map toTr)) g (off + k * 5) v (recsP (.slice (some ⟨g, off, none⟩) n cap) ((l.set k x').map toTr)) := ⟨fun hs => tr_upd h.lt e hs⟩
theorem tr_upd2 (h : k < l.length) (e : SetR x c v x') {w0 w : World} {F : HP} (hs : Sat w0 w (recsP (.slice (some ⟨g, off, none⟩) n cap) ((l.set k x).map toTr) * F)) : Sat w0 (w.setCell ⟨g, off + k * 5 + c, none⟩ v) (recsP (.slice (some ⟨g, off, none⟩) n cap) ((l.set k x').map toTr) * F) := by
  have := tr_upd (l := l.set k x) (k := k) (c := c) (v := v) (x' := x') (by rw [List.length_set]; exact h) (by rw [tkg_set _ _ _ h]; exact e) hs
  rwa [List.set_set] at this
instance (priority := 1400) [h : Lt k l.length] [e : SetR x c v x'] : Upd (recsP (.slice (some ⟨g, off, none⟩) n cap) ((l.set k x).map toTr)) g (off + k * 5 + c) v (recsP (.slice (some ⟨g, off, none⟩) n cap) ((l.set k x').map toTr)) := ⟨fun hs => tr_upd2 _ _ _ _ _ _ _ _ _ _ h.lt e hs⟩
instance (priority := 1410) [h : Lt k l.length] [e : SetR x 0 v x'] : Upd (recsP (.slice (some ⟨g, off, none⟩) n cap) ((l.set k x).map toTr)) g (off + k * 5) v (recsP (.slice (some ⟨g, off, none⟩) n cap) ((l.set k x').map toTr)) := ⟨fun hs => tr_upd2 _ _ _ _ _ _ _ _ _ _ h.lt e hs⟩
end
/-- Owners as the reference keeps them: one less. -/
def dn (l : List Int) : List Value := l.map fun o => .int .i64 (o - 1)
theorem dn_get {l : List Int} {k : Nat} (h : k < l.length) : (dn l)[k]? = some (.int .i64 (owg l k - 1)) := by
  unfold dn owg; simp [List.getD, h]
theorem dn_set (l : List Int) (k : Nat) (n : Int) : (dn l).set k (.int .i64 n) = dn (l.set k (n + 1)) := by
  unfold dn; rw [List.map_set, Int.add_sub_cancel]
instance (priority := 1300) (b o k : Nat) (l : List Int) [h : Lt k l.length] : Cell (pts b o (dn l)) b (o + k) (.int .i64 (owg l k - 1)) := ⟨fun hs => (pts_split hs (dn_get h.lt)).1, fun hs => (pts_split hs (dn_get h.lt)).2⟩
instance (priority := 1300) (b o k : Nat) (n : Int) (l : List Int) [h : Lt k l.length] : Upd (pts b o (dn l)) b (o + k) (.int .i64 n) (pts b o (dn (l.set k (n + 1)))) :=
  ⟨fun hs => by rw [← dn_set]; exact hs.set (by unfold dn; rw [List.length_map]; exact h.lt) _⟩
def rn (r : Int) : Int := if r = 0 then 255 else r - 1
abbrev duEv (d : Du) : Ev := ⟨d.k, 0, 0, d.a, d.b, 0⟩
/-- The reference's auditor at the front of block b, its tasks in v. -/
def rfV (b : Nat) (A : Au) (v : Value) : HP :=
  pts b 0 [v] * (recsP v (A.ts.map toTr) * (pts b 1 (dn A.ow) * (pts b 33 (A.pn.map Value.bool) * (pts b 49 [.int .i64 (A.isr - 1), .int .i64 (rn A.run)] * (pts b 51 (evCells A.last) * (pts b 57 (evCells (duEv A.due)) * pts b 63 [.int .i64 A.seen, .bool false]))))))
def rfP (b : Nat) (A : Au) : HP := ex fun v => rfV b A v
theorem rfP_out {w0 w : World} {F : HP} {b : Nat} {A : Au} (hA : AOk A) (hs : Sat w0 w (rfP b A * F)) : ∃ g off cap, 64 ≤ cap ∧ cap ≤ 9223372036854775807 ∧
    Sat w0 w (pts b 0 [.slice (some ⟨g, off, none⟩) 64 cap] * (recsP (.slice (some ⟨g, off, none⟩) 64 cap) (A.ts.map toTr) * (pts b 1 (dn A.ow) * (pts b 33 (A.pn.map Value.bool) * (pts b 49 [.int .i64 (A.isr - 1), .int .i64 (rn A.run)] * (pts b 51 (evCells A.last) * (pts b 57 (evCells (duEv A.due)) * (pts b 63 [.int .i64 A.seen, .bool false] * F)))))))) := by
  obtain ⟨v, hs⟩ := hs.ex_out
  have h1 : Sat w0 w (recsP v (A.ts.map toTr) * (pts b 0 [v] * (pts b 1 (dn A.ow) * (pts b 33 (A.pn.map Value.bool) * (pts b 49 [.int .i64 (A.isr - 1), .int .i64 (rn A.run)] * (pts b 51 (evCells A.last) * (pts b 57 (evCells (duEv A.due)) * (pts b 63 [.int .i64 A.seen, .bool false] * F)))))))) := hs.perm (by unfold rfV; ac_rfl)
  obtain ⟨a, c, rfl⟩ := h1.recs_form
  have hl : (A.ts.map toTr).length = 64 := by rw [List.length_map, hA.lt]
  have hc := h1.rdR.caps
  obtain ⟨g, off, rfl⟩ := Sat.someR (E := encTr) h1 a (A.ts.map toTr).length c (by omega)
  rw [hl] at h1 hc
  unfold maxLen at hc
  exact ⟨g, off, c, hc.2.1, by omega, h1.perm (by ac_rfl)⟩
theorem rfP_of {w0 w : World} {F : HP} {b : Nat} {A : Au} {v : Value} (hs : Sat w0 w (pts b 0 [v] * (recsP v (A.ts.map toTr) * (pts b 1 (dn A.ow) * (pts b 33 (A.pn.map Value.bool) * (pts b 49 [.int .i64 (A.isr - 1), .int .i64 (rn A.run)] * (pts b 51 (evCells A.last) * (pts b 57 (evCells (duEv A.due)) * (pts b 63 [.int .i64 A.seen, .bool false] * F))))))))) : Sat w0 w (rfP b A * F) :=
  Sat.ex_in (f := fun v => rfV b A v) v (hs.perm (by unfold rfV; ac_rfl))

theorem rn_eq {r : Int} (h : 0 ≤ r ∧ r ≤ 64) {x : Nat} (hx : x < 64) : (rn r == (x : Int)) = decide (r = (x : Int) + 1) := by
  unfold rn; rw [Bool.eq_iff_iff, beq_iff_eq, decide_eq_true_eq]; split <;> omega
set_option maxRecDepth 100000 in
set_option maxHeartbeats 4000000 in
theorem rfActs (b : Nat) (A : Au) (x : Nat) (w0 w : World) (F : HP) (hs : Sat w0 w (rfP b A * F)) (hA : AOk A) (hx : x < 80) :
    Calls Try.prog 101 #[.pointer (some ⟨b, 0, none⟩), .int .i64 x] w fun e w' => e = .returned (.bool (acts A x)) ∧ w = w' := by
  obtain ⟨g, off, cap, c1, c2, hs⟩ := rfP_out hA hs
  have Hl := hid hA.lt
  have hi := hA.isr
  have hr := hA.run
  by_cases h1 : x < 64
  · have d1 : (x : Int) < 64 := by omega
    have d1' : decide ((x : Int) < 64) = true := by simp; omega
    haveI : Lt x A.ts.length := ⟨by have := Hl.out; omega⟩
    have Hres : Hid (acts A x = (decide (A.isr = 0) && decide (A.run = (x : Int) + 1) && decide ((tkg A.ts x).st = 1))) := by unfold Hid acts; rw [if_pos h1]; rfl
    have hrn := rn_eq hr h1
    have Hr := hid hr
    have Hi := hid hi
    clear hi hr
    by_cases h2 : A.isr = 0
    · have d2 : decide (A.isr - 1 < 0) = true := by simp; omega
      rw [decide_eq_true h2, Bool.true_and] at Hres
      clear h2
      by_cases h3 : A.run = (x : Int) + 1
      · rw [decide_eq_true h3] at hrn Hres
        clear h3
        go_enter Try.func101, Try.ntmps101
        go_wp2
        go_ret
        exact ⟨retB (by rw [Hres.out, Bool.eq_iff_iff]; simp), rfl⟩
      · rw [decide_eq_false h3] at hrn Hres
        clear h3
        go_enter Try.func101, Try.ntmps101
        go_wp2
        go_ret
        exact ⟨retB (by rw [Hres.out]; rfl), rfl⟩
    · have d2 : decide (A.isr - 1 < 0) = false := by have := Hi.out; simp; omega
      rw [decide_eq_false h2, Bool.false_and] at Hres
      clear h2
      go_enter Try.func101, Try.ntmps101
      go_wp2
      go_ret
      exact ⟨retB (by rw [Hres.out]; rfl), rfl⟩
  · have d1 : ¬ (x : Int) < 64 := by omega
    have d1' : decide ((x : Int) < 64) = false := by simp; omega
    have d3 : decide ((x : Int) < 80) = true := by simp; omega
    have Hres : Hid (acts A x = decide (A.isr = (x : Int) - 63)) := by unfold Hid acts; rw [if_neg h1, if_pos hx]
    go_enter Try.func101, Try.ntmps101
    go_wp2
    go_ret
    exact ⟨retB (by rw [Hres.out, Bool.eq_iff_iff]; simp; omega), rfl⟩
theorem rfActsX (b : Nat) (A : Au) (a : Nat) (x : Bool) (hx : acts A a = x) (w0 w : World) (F : HP) (hs : Sat w0 w (rfP b A * F)) (hA : AOk A) (ha : a < 80) :
    Calls Try.prog 101 #[.pointer (some ⟨b, 0, none⟩), .int .i64 a] w fun e w' => e = .returned (.bool x) ∧ w = w' := by
  subst hx; exact rfActs b A a w0 w F hs hA ha
end Go.Proofs.Ytfphgcplpokigaa
