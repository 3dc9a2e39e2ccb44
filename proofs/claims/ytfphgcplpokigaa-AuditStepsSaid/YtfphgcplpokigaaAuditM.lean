/-
  Audit, plainly: what an auditor knows keeps to its ranges.
-/
import Derived.Test.YtfphgcplpokigaaAuditP
namespace Go.Au
set_option linter.unusedSimpArgs false
set_option linter.unusedVariables false

structure TkOk (t : Tk) : Prop where
  st : 0 ≤ t.st ∧ t.st ≤ 3
  late : 0 ≤ t.late ∧ t.late ≤ 255
  on : t.on < 160
  job : t.job < 4294967296
  lev : 0 ≤ t.lev ∧ t.lev ≤ 32
theorem AOk.tk {A : Au} (h : AOk A) : ∀ t ∈ A.ts, TkOk t := fun t ht => ⟨h.st t ht, h.late t ht, h.on t ht, h.job t ht, h.lev t ht⟩
theorem tk0_ok : TkOk tk0 := ⟨by decide, by decide, by decide, by decide, by decide⟩
theorem AOk.at_ {A : Au} (h : AOk A) (x : Nat) : TkOk (tkAt A x) := by
  unfold tkAt tkg
  by_cases hx : x < A.ts.length
  · have e : A.ts.getD x tk0 = A.ts[x] := by simp [List.getD, hx]
    rw [e]; exact h.tk _ (List.getElem_mem hx)
  · have e : A.ts.getD x tk0 = tk0 := by simp [List.getD, List.getElem?_eq_none (by omega : A.ts.length ≤ x)]
    rw [e]; exact tk0_ok
theorem AOk.setT {A : Au} (h : AOk A) (x : Nat) {t : Tk} (ht : TkOk t) : AOk (setT A x t) := by
  have hm : ∀ u ∈ A.ts.set x t, TkOk u := fun u hu => by
    rcases List.mem_or_eq_of_mem_set hu with h1 | rfl
    · exact h.tk u h1
    · exact ht
  exact ⟨by simp [Au.setT, h.lt], h.lo, h.lp, fun u hu => (hm u hu).st, fun u hu => (hm u hu).late, fun u hu => (hm u hu).on, fun u hu => (hm u hu).job, fun u hu => (hm u hu).lev, h.own, h.isr, h.run, h.co, h.cy, h.dk, h.da, h.db, h.dz⟩
theorem AOk.setDue {A : Au} (h : AOk A) {d : Du} (h1 : 1 ≤ d.k ∧ d.k ≤ 24) (h2 : d.a < 256) (h3 : d.b < 256) : AOk { A with due := d } :=
  ⟨h.lt, h.lo, h.lp, h.st, h.late, h.on, h.job, h.lev, h.own, h.isr, h.run, h.co, h.cy, ⟨Int.le_trans (by decide) h1.1, h1.2⟩, h2, h3, fun (e : d.k = 0) => by omega⟩
theorem AOk.noDue {A : Au} (h : AOk A) : AOk { A with due := du0 } :=
  ⟨h.lt, h.lo, h.lp, h.st, h.late, h.on, h.job, h.lev, h.own, h.isr, h.run, h.co, h.cy, show (0 : Int) ≤ 0 ∧ (0 : Int) ≤ 24 by decide, show (0 : Nat) < 256 by decide, show (0 : Nat) < 256 by decide, fun _ => rfl⟩
theorem AOk.setOw {A : Au} (h : AOk A) (y : Nat) {o : Int} (ho : 0 ≤ o ∧ o ≤ 64) : AOk { A with ow := A.ow.set y o } :=
  ⟨h.lt, by simp [h.lo], h.lp, h.st, h.late, h.on, h.job, h.lev, fun x hx => by
    rcases List.mem_or_eq_of_mem_set hx with h1 | rfl
    · exact h.own x h1
    · exact ho, h.isr, h.run, h.co, h.cy, h.dk, h.da, h.db, h.dz⟩
theorem AOk.setPn {A : Au} (h : AOk A) (y : Nat) (x : Bool) : AOk { A with pn := A.pn.set y x } :=
  ⟨h.lt, h.lo, by simp [h.lp], h.st, h.late, h.on, h.job, h.lev, h.own, h.isr, h.run, h.co, h.cy, h.dk, h.da, h.db, h.dz⟩
theorem AOk.setIsr {A : Au} (h : AOk A) {x : Int} (hx : 0 ≤ x ∧ x ≤ 16) : AOk { A with isr := x } :=
  ⟨h.lt, h.lo, h.lp, h.st, h.late, h.on, h.job, h.lev, h.own, hx, h.run, h.co, h.cy, h.dk, h.da, h.db, h.dz⟩
theorem AOk.setRun {A : Au} (h : AOk A) {x : Int} (hx : 0 ≤ x ∧ x ≤ 64) : AOk { A with run := x } :=
  ⟨h.lt, h.lo, h.lp, h.st, h.late, h.on, h.job, h.lev, h.own, h.isr, hx, h.co, h.cy, h.dk, h.da, h.db, h.dz⟩

theorem aok_learn {A : Au} (h : AOk A) (k a b v : Nat) (hk : 1 ≤ k ∧ k ≤ 24) (hok : okN k a b v = true) (hv : v < 4294967296) : AOk (learn A k a b v) := by
  have ht := h.at_ a
  have hk' : k = 1 ∨ k = 2 ∨ k = 3 ∨ k = 4 ∨ k = 5 ∨ k = 6 ∨ k = 7 ∨ k = 8 ∨ k = 9 ∨ k = 10 ∨ k = 11 ∨ k = 12 ∨ k = 13 ∨ k = 14 ∨ k = 15 ∨ k = 16 ∨ k = 17 ∨ k = 18 ∨ k = 19 ∨ k = 20 ∨ k = 21 ∨ k = 22 ∨ k = 23 ∨ k = 24 := by omega
  rcases hk' with rfl | rfl | rfl | rfl | rfl | rfl | rfl | rfl | rfl | rfl | rfl | rfl | rfl | rfl | rfl | rfl | rfl | rfl | rfl | rfl | rfl | rfl | rfl | rfl
  · exact h.setPn a true
  · exact h
  · have ha : a < 16 := by simp [okN, shp, win] at hok; omega
    exact (h.setPn a false).setIsr (x := (a : Int) + 1) (by omega)
  · exact h.setIsr (x := 0) (by omega)
  · have ha : a < 64 ∨ a = 255 := by simp [okN, shp, win] at hok; omega
    exact h.setRun (x := if a = 255 then 0 else (a : Int) + 1) (by split <;> omega)
  · have hl := ht.late
    exact h.setT a ⟨show (0 : Int) ≤ 1 ∧ (1 : Int) ≤ 3 by decide, show 0 ≤ max ((tkAt A a).late - 1) 0 ∧ max ((tkAt A a).late - 1) 0 ≤ 255 by omega, ht.on, hv, ht.lev⟩
  · have hv : v ≤ 255 := by simp [okN, shp, win] at hok; omega
    exact h.setT a ⟨ht.st, show (0 : Int) ≤ v ∧ (v : Int) ≤ 255 by omega, ht.on, ht.job, ht.lev⟩
  · have ha : a < 64 := by simp [okN, shp, win] at hok; omega
    have h1 : AOk (setT A a { tkAt A a with st := 0 }) := h.setT a ⟨show (0 : Int) ≤ 0 ∧ (0 : Int) ≤ 3 by decide, ht.late, ht.on, ht.job, ht.lev⟩
    by_cases hl : (tkAt A a).late > 0
    · have e : learn A 8 a b v = { setT A a { tkAt A a with st := 0 } with due := ⟨6, a, 0⟩ } := by simp only [learn]; rw [if_pos hl]
      rw [e]
      exact h1.setDue (d := ⟨6, a, 0⟩) (show (1 : Int) ≤ 6 ∧ (6 : Int) ≤ 24 by decide) (by show a < 256; omega) (show (0 : Nat) < 256 by decide)
    · have e : learn A 8 a b v = setT A a { tkAt A a with st := 0 } := by simp only [learn]; rw [if_neg hl]; rfl
      rw [e]; exact h1
  · have hb : b < 160 := by simp [okN, shp, win] at hok; omega
    exact h.setT a ⟨show (0 : Int) ≤ 2 ∧ (2 : Int) ≤ 3 by decide, ht.late, hb, ht.job, ht.lev⟩
  · have ha : a < 64 := by simp [okN, shp, win] at hok; omega
    have h1 : AOk (setT A a { tkAt A a with st := 1 }) := h.setT a ⟨show (0 : Int) ≤ 1 ∧ (1 : Int) ≤ 3 by decide, ht.late, ht.on, ht.job, ht.lev⟩
    by_cases hl : isMu (tkAt A a).on = true
    · have e : learn A 10 a b v = { setT A a { tkAt A a with st := 1 } with due := ⟨12, a, (tkAt A a).on - 32⟩ } := by simp only [learn]; rw [if_pos hl]
      rw [e]
      have := ht.on
      exact h1.setDue (d := ⟨12, a, (tkAt A a).on - 32⟩) (show (1 : Int) ≤ 12 ∧ (12 : Int) ≤ 24 by decide) (by show a < 256; omega) (by show (tkAt A a).on - 32 < 256; omega)
    · have e : learn A 10 a b v = setT A a { tkAt A a with st := 1 } := by simp only [learn]; rw [if_neg hl]; rfl
      rw [e]; exact h1
  · have hb : b < 32 := by simp [okN, shp, win] at hok; omega
    exact h.setT a ⟨ht.st, ht.late, ht.on, ht.job, show (0 : Int) ≤ (b : Int) + 1 ∧ (b : Int) + 1 ≤ 32 by omega⟩
  · have ha : a < 64 := by simp [okN, shp, win] at hok; omega
    exact h.setOw b (o := (a : Int) + 1) (by omega)
  · exact h.setOw b (o := 0) (by omega)
  · exact h
  · exact h
  · exact h
  · exact h
  · exact h
  · exact h
  · exact h
  · have ha : a < 80 := by simp [okN, shp, win] at hok; omega
    by_cases hl : a < 64
    · have e : learn A 21 a b v = setT A a { tkAt A a with st := 3 } := by simp only [learn]; rw [if_pos hl]
      rw [e]
      exact h.setT a ⟨show (0 : Int) ≤ 3 ∧ (3 : Int) ≤ 3 by decide, ht.late, ht.on, ht.job, ht.lev⟩
    · have e : learn A 21 a b v = { A with due := ⟨4, a - 64, 0⟩ } := by simp only [learn]; rw [if_neg hl]
      rw [e]
      exact h.setDue (d := ⟨4, a - 64, 0⟩) (show (1 : Int) ≤ 4 ∧ (4 : Int) ≤ 24 by decide) (by show a - 64 < 256; omega) (show (0 : Nat) < 256 by decide)
  · exact h.setT a ⟨show (0 : Int) ≤ 3 ∧ (3 : Int) ≤ 3 by decide, ht.late, ht.on, ht.job, ht.lev⟩
  · exact h
  · exact h

structure EvOk (e : Ev) : Prop where
  a : e.a < 4294967296
  b : e.b < 4294967296
  v : e.v < 4294967296
  cy : 0 ≤ e.cy ∧ e.cy < 18446744073709551616
  co : 0 ≤ e.co ∧ e.co < 18446744073709551616
theorem keeps_ok {A : Au} {e : Ev} (h : keepsR A e = true) : okE e = true := by
  unfold keepsR inTime at h
  simp only [Bool.and_eq_true] at h
  exact h.1.1.1.1.1
theorem okE_nat {e : Ev} (h : okE e = true) : 1 ≤ e.k.toNat ∧ e.k.toNat ≤ 24 ∧ e.k = e.k.toNat ∧ okN e.k.toNat e.a e.b e.v = true := by
  unfold okE at h
  simp only [Bool.and_eq_true, decide_eq_true_eq] at h
  exact ⟨by omega, by omega, by omega, h.2⟩
theorem aok_step {A : Au} {e : Ev} (h : AOk A) (he : EvOk e) (hk : keepsR A e = true) : AOk (stepA A e) := by
  obtain ⟨h1, h2, h3, h4⟩ := okE_nat (keeps_ok hk)
  have h5 := aok_learn h.noDue e.k.toNat e.a e.b e.v ⟨h1, h2⟩ h4 he.v
  exact ⟨h5.lt, h5.lo, h5.lp, h5.st, h5.late, h5.on, h5.job, h5.lev, h5.own, h5.isr, h5.run, he.co, he.cy, h5.dk, h5.da, h5.db, h5.dz⟩
theorem aok0 : AOk au0 := by
  refine ⟨rfl, rfl, rfl, ?_, ?_, ?_, ?_, ?_, ?_, by decide, by decide, by decide, by decide, by decide, by decide, by decide, fun _ => rfl⟩ <;>
    (intro t ht; obtain rfl := List.eq_of_mem_replicate ht; decide)
theorem step_seen (A : Au) (e : Ev) : (stepA A e).seen = A.seen + 1 := rfl

/-! ### The first that breaks the rules -/
def chkI (l : List Ev) : Int := match chk au0 l with
  | some k => k
  | none => -1
theorem nxt_yes {A : Au} {e : Ev} (h : keepsR A e = true) : nxt A e = some (stepA A e) := by unfold nxt; rw [if_pos h]
theorem nxt_no {A : Au} {e : Ev} (h : keepsR A e = false) : nxt A e = none := by unfold nxt; rw [if_neg (by rw [h]; decide)]
/-- Behind the first k events, which kept them, A is known. -/
def Run (l : List Ev) (k : Nat) (A : Au) : Prop := ∀ r : List Ev, chk au0 (l.take k ++ r) = (chk A r).map (· + k)
theorem run0 (l : List Ev) : Run l 0 au0 := fun r => by simp
theorem run_next {l : List Ev} {k : Nat} {A : Au} (hk : k < l.length) (h : Run l k A) {e : Ev} (he : l[k] = e) (hkp : keepsR A e = true) : Run l (k + 1) (stepA A e) := by
  intro r
  rw [List.take_succ_eq_append_getElem hk, List.append_assoc, h, he]
  simp only [List.singleton_append, chk, nxt_yes hkp, Option.map_map]
  congr 1; funext x; simp only [Function.comp]; omega
theorem run_break {l : List Ev} {k : Nat} {A : Au} (hk : k < l.length) (h : Run l k A) {e : Ev} (he : l[k] = e) (hkp : keepsR A e = false) : chk au0 l = some k := by
  have h1 := h (l.drop k)
  rw [List.take_append_drop, List.drop_eq_getElem_cons hk, he] at h1
  simpa [chk, nxt_no hkp] using h1
theorem run_end {l : List Ev} {A : Au} (h : Run l l.length A) : chk au0 l = none := by
  have h1 := h []
  simpa [chk] using h1
end Go.Au
