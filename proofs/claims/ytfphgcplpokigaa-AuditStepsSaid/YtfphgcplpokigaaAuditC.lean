/-
  Audit: an auditor in memory; the contracts of acts and mutex.
-/
import Derived.Test.YtfphgcplpokigaaAuditA
namespace Go.Proofs.Ytfphgcplpokigaa
open Go.RowKit Go.Sx Go.Au
set_option linter.unusedSimpArgs false
set_option linter.unusedVariables false

instance encTk : Enc Tk 5 where
  enc t := [.int .i64 t.st, .int .i64 t.late, .int .u32 t.on, .int .u32 t.job, .int .i64 t.lev]
  len _ := rfl
  one t := by intro u hu; simp at hu; rcases hu with rfl | rfl | rfl | rfl | rfl <;> rfl
  dft := tk0
  pos := by decide
instance (x : Tk) : EncAt x 0 (.int .i64 x.st) := ⟨rfl⟩
instance (x : Tk) : EncAt x 1 (.int .i64 x.late) := ⟨rfl⟩
instance (x : Tk) : EncAt x 2 (.int .u32 x.on) := ⟨rfl⟩
instance (x : Tk) : EncAt x 3 (.int .u32 x.job) := ⟨rfl⟩
instance (x : Tk) : EncAt x 4 (.int .i64 x.lev) := ⟨rfl⟩
instance (x : Tk) (n : Int) : EncSet x 0 (.int .i64 n) { x with st := n } := ⟨rfl, by decide⟩
instance (x : Tk) (n : Int) : EncSet x 1 (.int .i64 n) { x with late := n } := ⟨rfl, by decide⟩
instance (x : Tk) (n : Nat) : EncSet x 2 (.int .u32 n) { x with on := n } := ⟨rfl, by decide⟩
instance (x : Tk) (n : Nat) : EncSet x 3 (.int .u32 n) { x with job := n } := ⟨rfl, by decide⟩
instance (x : Tk) (n : Int) : EncSet x 4 (.int .i64 n) { x with lev := n } := ⟨rfl, by decide⟩
instance ltSet {α : Type} (l : List α) (k j : Nat) (x : α) [h : Lt k l.length] : Lt k (l.set j x).length := ⟨by rw [List.length_set]; exact h.lt⟩

instance (priority := 1300) (b o k : Nat) (l : List Tk) [h : Lt k l.length] : Cell (arrP b o l) b (o + k * 5) (.int .i64 (tkg l k).st) := Cell.arr0 b o k l _
instance (priority := 1300) (b o k : Nat) (l : List Tk) [h : Lt k l.length] : Cell (arrP b o l) b (o + k * 5 + 1) (.int .i64 (tkg l k).late) := Cell.arr b o k 1 l _
instance (priority := 1300) (b o k : Nat) (l : List Tk) [h : Lt k l.length] : Cell (arrP b o l) b (o + k * 5 + 2) (.int .u32 (tkg l k).on) := Cell.arr b o k 2 l _
instance (priority := 1300) (b o k : Nat) (l : List Tk) [h : Lt k l.length] : Cell (arrP b o l) b (o + k * 5 + 3) (.int .u32 (tkg l k).job) := Cell.arr b o k 3 l _
instance (priority := 1300) (b o k : Nat) (l : List Tk) [h : Lt k l.length] : Cell (arrP b o l) b (o + k * 5 + 4) (.int .i64 (tkg l k).lev) := Cell.arr b o k 4 l _
theorem getD_set_self {α : Type} {l : List α} {k : Nat} (h : k < l.length) (x d : α) : (l.set k x).getD k d = x := by simp [List.getD, h]
theorem arr_set_cell {b o k c : Nat} {l : List Tk} {x : Tk} {v : Value} (h : k < l.length) (hc : (encTk.enc x)[c]? = some v) {w0 w : World} {F : HP} (hs : Sat w0 w (arrP b o (l.set k x) * F)) : w.cell? ⟨b, o + k * 5 + c, none⟩ = some v ∧ w.frozen? ⟨b, o + k * 5 + c, none⟩ = false :=
  arr_cell hs (by rw [List.length_set]; exact h) (by rw [getD_set_self h]; exact hc)
instance (priority := 1400) (b o k : Nat) (l : List Tk) (x : Tk) [h : Lt k l.length] : Cell (arrP b o (l.set k x)) b (o + k * 5) (.int .i64 x.st) := ⟨fun hs => (arr_set_cell (c := 0) h.lt rfl hs).1, fun hs => (arr_set_cell (c := 0) h.lt rfl hs).2⟩
instance (priority := 1400) (b o k : Nat) (l : List Tk) (x : Tk) [h : Lt k l.length] : Cell (arrP b o (l.set k x)) b (o + k * 5 + 1) (.int .i64 x.late) := ⟨fun hs => (arr_set_cell h.lt rfl hs).1, fun hs => (arr_set_cell h.lt rfl hs).2⟩
instance (priority := 1400) (b o k : Nat) (l : List Tk) (x : Tk) [h : Lt k l.length] : Cell (arrP b o (l.set k x)) b (o + k * 5 + 2) (.int .u32 x.on) := ⟨fun hs => (arr_set_cell h.lt rfl hs).1, fun hs => (arr_set_cell h.lt rfl hs).2⟩
instance (priority := 1400) (b o k : Nat) (l : List Tk) (x : Tk) [h : Lt k l.length] : Cell (arrP b o (l.set k x)) b (o + k * 5 + 3) (.int .u32 x.job) := ⟨fun hs => (arr_set_cell h.lt rfl hs).1, fun hs => (arr_set_cell h.lt rfl hs).2⟩
instance (priority := 1400) (b o k : Nat) (l : List Tk) (x : Tk) [h : Lt k l.length] : Cell (arrP b o (l.set k x)) b (o + k * 5 + 4) (.int .i64 x.lev) := ⟨fun hs => (arr_set_cell h.lt rfl hs).1, fun hs => (arr_set_cell h.lt rfl hs).2⟩
theorem arr_set_upd {b o k c : Nat} {l : List Tk} {x x' : Tk} {v : Value} (h : k < l.length) (e : EncSet x c v x') {w0 w : World} {F : HP} (hs : Sat w0 w (arrP b o (l.set k x) * F)) : Sat w0 (w.setCell ⟨b, o + k * 5 + c, none⟩ v) (arrP b o (l.set k x') * F) := by
  have := arr_upd hs (k := k) (c := c) (v := v) (x' := x') (by rw [List.length_set]; exact h) e.lt (by rw [getD_set_self h]; exact e.set_)
  rwa [List.set_set] at this
instance (priority := 1400) (b o k c : Nat) (l : List Tk) (x x' : Tk) (v : Value) [h : Lt k l.length] [e : EncSet x c v x'] : Upd (arrP b o (l.set k x)) b (o + k * 5 + c) v (arrP b o (l.set k x')) := ⟨fun hs => arr_set_upd h.lt e hs⟩
instance (priority := 1410) (b o k : Nat) (l : List Tk) (x x' : Tk) (v : Value) [h : Lt k l.length] [e : EncSet x 0 v x'] : Upd (arrP b o (l.set k x)) b (o + k * 5) v (arrP b o (l.set k x')) := ⟨fun hs => arr_set_upd h.lt e hs⟩
instance (priority := 1300) (b o k : Nat) (l : List Tk) (x' : Tk) (c : Nat) (v : Value) [h : Lt k l.length] [e : EncSet (tkg l k) c v x'] : Upd (arrP b o l) b (o + k * 5 + c) v (arrP b o (l.set k x')) := ⟨fun hs => arr_upd hs h.lt e.lt e.set_⟩
instance (priority := 1310) (b o k : Nat) (l : List Tk) (x' : Tk) (v : Value) [h : Lt k l.length] [e : EncSet (tkg l k) 0 v x'] : Upd (arrP b o l) b (o + k * 5) v (arrP b o (l.set k x')) := ⟨fun hs => arr_upd hs h.lt e.lt e.set_⟩
instance (priority := 1300) (b o k : Nat) (l : List Int) [h : Lt k l.length] : Cell (pts b o (l.map (Value.int .i64))) b (o + k) (.int .i64 (owg l k)) := Cell.num .i64 b o k l
abbrev evCells (e : Ev) : List Value := [.int .i64 e.k, .int .u64 e.cy, .int .u64 e.co, .int .u32 e.a, .int .u32 e.b, .int .u32 e.v]
abbrev duCells (d : Du) : List Value := [.int .i64 d.k, .int .u32 d.a, .int .u32 d.b]
def evV (e : Ev) : Value := .agg #[.int .i64 e.k, .int .u64 e.cy, .int .u64 e.co, .int .u32 e.a, .int .u32 e.b, .int .u32 e.v]
/-- An auditor at the front of block b. -/
def auP (b : Nat) (A : Au) : HP :=
  pts b 0 [.int .i64 A.seen, .bool false] * (pts b 2 (evCells A.last) * (pts b 8 (duCells A.due) * (arrP b 11 A.ts * (pts b 331 (A.ow.map (Value.int .i64)) * (pts b 363 (A.pn.map Value.bool) * pts b 379 [.int .i64 A.isr, .int .i64 A.run])))))
theorem auP_out {w0 w : World} {F : HP} {b : Nat} {A : Au} (hs : Sat w0 w (auP b A * F)) :
    Sat w0 w (pts b 0 [.int .i64 A.seen, .bool false] * (pts b 2 (evCells A.last) * (pts b 8 (duCells A.due) * (arrP b 11 A.ts * (pts b 331 (A.ow.map (Value.int .i64)) * (pts b 363 (A.pn.map Value.bool) * (pts b 379 [.int .i64 A.isr, .int .i64 A.run] * F))))))) := hs.perm (by unfold auP; ac_rfl)
theorem auP_of {w0 w : World} {F : HP} {b : Nat} {A : Au} (hs : Sat w0 w (pts b 0 [.int .i64 A.seen, .bool false] * (pts b 2 (evCells A.last) * (pts b 8 (duCells A.due) * (arrP b 11 A.ts * (pts b 331 (A.ow.map (Value.int .i64)) * (pts b 363 (A.pn.map Value.bool) * (pts b 379 [.int .i64 A.isr, .int .i64 A.run] * F)))))))) : Sat w0 w (auP b A * F) := hs.perm (by unfold auP; ac_rfl)

theorem auActs (b : Nat) (A : Au) (x : Nat) (w0 w : World) (F : HP) (hs : Sat w0 w (auP b A * F)) (hA : AOk A) (hx : x < 4294967296) :
    Calls Try.prog 92 #[.pointer (some ⟨b, 0, none⟩), .int .u32 x] w fun e w' => e = .returned (.bool (acts A x)) ∧ w = w' := by
  have hs := auP_out hs
  have hl := hA.lt
  have Hl := hid hl
  have hi := hA.isr
  have hr := hA.run
  by_cases h1 : x < 64
  · have d1 : decide (x < 64) = true := by simp; omega
    haveI : Lt x A.ts.length := ⟨by omega⟩
    have Hres : Hid (acts A x = (decide (A.isr = 0) && decide (A.run = (x : Int) + 1) && decide ((tkg A.ts x).st = 1))) := by unfold Hid acts; rw [if_pos h1]; rfl
    by_cases h2 : A.isr = 0
    · have d2 : (A.isr == 0) = true := by simp [h2]
      have d2' : decide (A.isr = 0) = true := by simp [h2]
      rw [d2'] at Hres
      clear d2' h2 hl
      by_cases h3 : A.run = (x : Int) + 1
      · have d3 : (A.run == (x : Int) + 1) = true := by simp [h3]
        have d3' : decide (A.run = (x : Int) + 1) = true := by simp [h3]
        rw [d3'] at Hres
        clear d3' h3
        go_enter Try.func92, Try.ntmps92
        go_wp2
        go_ret
        exact ⟨retB (by rw [Hres.out, Bool.eq_iff_iff]; simp), rfl⟩
      · have d3 : (A.run == (x : Int) + 1) = false := by simp [h3]
        have d3' : decide (A.run = (x : Int) + 1) = false := by simp [h3]
        rw [d3'] at Hres
        clear d3' h3
        go_enter Try.func92, Try.ntmps92
        go_wp2
        go_ret
        exact ⟨retB (by rw [Hres.out, Bool.eq_iff_iff]; simp), rfl⟩
    · have d2 : (A.isr == 0) = false := by simp [h2]
      have d2' : decide (A.isr = 0) = false := by simp [h2]
      rw [d2'] at Hres
      clear d2' h2 hl
      go_enter Try.func92, Try.ntmps92
      go_wp2
      go_ret
      exact ⟨retB (by rw [Hres.out, Bool.eq_iff_iff]; simp), rfl⟩
  · have d1 : decide ((x : Int) < 64) = false := by simp; omega
    by_cases h2 : x < 80
    · have Hres : Hid (acts A x = decide (A.isr = (x : Int) - 63)) := by simp [Hid, acts, h1, h2]
      clear hl
      go_enter Try.func92, Try.ntmps92
      go_wp2
      go_ret
      exact ⟨retB (by rw [Hres.out, Bool.eq_iff_iff]; simp; omega), rfl⟩
    · have Hres : Hid (acts A x = decide (A.last.k = 18)) := by simp [Hid, acts, h1, h2]
      clear hl
      go_enter Try.func92, Try.ntmps92
      go_wp2
      go_ret
      exact ⟨retB (by rw [Hres.out, Bool.eq_iff_iff]; simp), rfl⟩
theorem retM {x x' : Int} {p p' : Bool} (h1 : x = x') (h2 : p = p') : Ending.returned (.tuple #[.int .u32 x, .bool p]) = Ending.returned (.tuple #[.int .u32 x', .bool p']) := by rw [h1, h2]
theorem auMutex (y : Nat) (hy : y < 160) (w : World) : Calls Try.prog 106 #[.int .u32 y] w fun e w' => (∃ z : Nat, e = .returned (.tuple #[.int .u32 z, .bool (isMu y)]) ∧ (isMu y = true → z = y - 32)) ∧ w = w' := by
  by_cases h : 32 ≤ y
  · have d : decide ((32 : Int) ≤ (y : Int)) = true := by simp; omega
    go_enter Try.func106, Try.ntmps106
    go_wp2
    go_ret2
    exact ⟨⟨(((y : Int) - 32) % 4294967296).toNat, retM (by omega) (by rw [Bool.eq_iff_iff]; simp [isMu, h]; try omega), fun _ => by omega⟩, rfl⟩
  · have d : decide ((32 : Int) ≤ (y : Int)) = false := by simp; omega
    go_enter Try.func106, Try.ntmps106
    go_wp2
    go_ret2
    exact ⟨⟨(((y : Int) - 32) % 4294967296).toNat, retM (by omega) (by rw [Bool.eq_iff_iff]; simp [isMu, h]; try omega), fun h' => by simp [isMu, h] at h'⟩, rfl⟩
end Go.Proofs.Ytfphgcplpokigaa
