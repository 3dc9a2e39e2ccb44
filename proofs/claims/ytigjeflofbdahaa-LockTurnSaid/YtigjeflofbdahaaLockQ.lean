/-
  Locks, plainly: the levels by going through all that wait again and again.
-/
import Derived.Test.YtigjeflofbdahaaLockN
namespace Go.Lk
open Go.Proofs.Ytigjeflofbdahaa (lg_set rg rg_set reach_cons wNow)
set_option linter.unusedVariables false

def edgeStep (o : Int) (now : List Int) (w : Int) : List Int := if lg now w.toNat < lg now o.toNat then now.set o.toNat (lg now w.toNat) else now
def rowPass (o : Int) (now r : List Int) : List Int := r.foldl (edgeStep o) now
def passM (ow : List Int) (rows : List (List Int)) (now : List Int) : Nat → List Int
  | 0 => now
  | m + 1 => rowPass (lg ow m) (passM ow rows now m) (rg rows m)
def passes (ow : List Int) (rows : List (List Int)) (own : List Int) : Nat → List Int
  | 0 => own
  | k + 1 => passM ow rows (passes ow rows own k) ow.length
/-- The reference's levels. -/
def refLv (own ow : List Int) (rows : List (List Int)) : List Int := passes ow rows own own.length

/-- What holds at any time of going through. -/
structure PInv (L : Lk) (now : List Int) : Prop where
  len : now.length = L.own.length
  up : ∀ t, t < L.own.length → lg now t ≤ ownAt L t
  att : ∀ t, t < L.own.length → ∃ s, s < L.own.length ∧ Go.Lk.Reach L s t ∧ lg now t = ownAt L s
/-- It falls. -/
def Falls (L : Lk) (a b : List Int) : Prop := ∀ t, t < L.own.length → lg b t ≤ lg a t
theorem Falls.refl (L : Lk) (a : List Int) : Falls L a a := fun _ _ => Int.le_refl _
theorem Falls.trans {L : Lk} {a b c : List Int} (h : Falls L a b) (k : Falls L b c) : Falls L a c := fun t ht => Int.le_trans (k t ht) (h t ht)
theorem pinv_start {L : Lk} : PInv L L.own := ⟨rfl, fun _ _ => Int.le_refl _, fun t ht => ⟨t, ht, .refl, rfl⟩⟩
theorem row_in {L : Lk} (hf : Fit L) {m : Nat} (hm : m < L.ow.length) {w : Int} (hw : w ∈ rg L.rows m) : ∃ u : Nat, w = u ∧ u < L.own.length ∧ onAt L u = m ∧ nx L u = (lg L.ow m).toNat ∧ (lg L.ow m).toNat < L.own.length := by
  have h1 := ((hf.row m hm).2 w).1 hw
  obtain ⟨u, rfl⟩ := Int.eq_ofNat_of_zero_le h1.1
  have h2 : onAt L u = m := h1.2.2
  have hu : u < L.own.length := by omega
  have h3 : nx L u = (lg L.ow m).toNat := by
    unfold nx; rw [h2]; rfl
  exact ⟨u, rfl, hu, h2, h3, h3 ▸ nx_lt hf hu (by omega)⟩
theorem edge_inv {L : Lk} (hf : Fit L) {m : Nat} (hm : m < L.ow.length) {w : Int} (hw : w ∈ rg L.rows m) {now : List Int} (h : PInv L now) : PInv L (edgeStep (lg L.ow m) now w) ∧ Falls L now (edgeStep (lg L.ow m) now w) ∧ lg (edgeStep (lg L.ow m) now w) (lg L.ow m).toNat ≤ lg now w.toNat := by
  obtain ⟨u, rfl, hu, hon, hnx, hol⟩ := row_in hf hm hw
  unfold edgeStep
  rw [show ((u : Int)).toNat = u by omega]
  have hlen : (lg L.ow m).toNat < now.length := by rw [h.len]; exact hol
  split
  · rename_i hlt
    refine ⟨⟨by rw [List.length_set]; exact h.len, fun t ht => ?_, fun t ht => ?_⟩, fun t ht => ?_, ?_⟩
    · rw [lg_set hlen]; split
      · rename_i e; subst e
        exact Int.le_trans (Int.le_of_lt hlt) (h.up _ ht)
      · exact h.up t ht
    · rw [lg_set hlen]; split
      · rename_i e; subst e
        obtain ⟨s, hs, hr, e⟩ := h.att u hu
        exact ⟨s, hs, hnx ▸ .step hr (by omega), e⟩
      · exact h.att t ht
    · rw [lg_set hlen]; split
      · rename_i e; subst e; exact Int.le_of_lt hlt
      · exact Int.le_refl _
    · rw [lg_set hlen, if_pos rfl]; exact Int.le_refl _
  · rename_i hge
    exact ⟨h, Falls.refl _ _, by omega⟩
theorem row_inv {L : Lk} (hf : Fit L) {m : Nat} (hm : m < L.ow.length) : ∀ (r : List Int) (now : List Int) (_ : ∀ w ∈ r, w ∈ rg L.rows m) (_ : PInv L now),
    PInv L (rowPass (lg L.ow m) now r) ∧ Falls L now (rowPass (lg L.ow m) now r) ∧ ∀ w ∈ r, lg (rowPass (lg L.ow m) now r) (lg L.ow m).toNat ≤ lg now w.toNat
  | [], now, _, h => ⟨h, Falls.refl _ _, fun w hw => by cases hw⟩
  | x :: r, now, hr, h => by
    obtain ⟨a, b, c⟩ := edge_inv hf hm (hr x (by simp)) h
    obtain ⟨d, e, f⟩ := row_inv hf hm r _ (fun w hw => hr w (by simp [hw])) a
    refine ⟨d, b.trans e, fun w hw => ?_⟩
    obtain ⟨u, rfl, hu, hon, hnx, hol⟩ := row_in hf hm (hr w hw)
    rw [show ((u : Int)).toNat = u by omega]
    rcases List.mem_cons.1 hw with hx | hx
    · have h1 := e (lg L.ow m).toNat hol
      subst hx
      rw [show ((u : Int)).toNat = u by omega] at c
      exact Int.le_trans h1 c
    · have h1 := f _ hx
      rw [show ((u : Int)).toNat = u by omega] at h1
      exact Int.le_trans h1 (b u hu)
theorem passM_inv {L : Lk} (hf : Fit L) (now : List Int) (h : PInv L now) : ∀ M, M ≤ L.ow.length →
    PInv L (passM L.ow L.rows now M) ∧ Falls L now (passM L.ow L.rows now M) ∧ ∀ m, m < M → ∀ w ∈ rg L.rows m, lg (passM L.ow L.rows now M) (lg L.ow m).toNat ≤ lg now w.toNat
  | 0, _ => ⟨h, Falls.refl _ _, fun m hm => absurd hm (by omega)⟩
  | M + 1, hM => by
    obtain ⟨a, b, c⟩ := passM_inv hf now h M (by omega)
    obtain ⟨d, e, f⟩ := row_inv hf (show M < L.ow.length by omega) (rg L.rows M) _ (fun w hw => hw) a
    refine ⟨d, b.trans e, fun m hm w hw => ?_⟩
    by_cases hmM : m = M
    · subst hmM
      obtain ⟨u, rfl, hu, _, _, hol⟩ := row_in hf (by omega) hw
      have := f _ hw
      rw [show ((u : Int)).toNat = u by omega] at this ⊢
      exact Int.le_trans this (b u hu)
    · obtain ⟨u, rfl, hu, _, _, hol⟩ := row_in hf (show m < L.ow.length by omega) hw
      exact Int.le_trans (e _ hol) (c m (by omega) _ hw)
theorem pass_edge {L : Lk} (hf : Fit L) {now : List Int} (h : PInv L now) {t : Nat} (ht : t < L.own.length) (ho : 0 ≤ onAt L t) : lg (passM L.ow L.rows now L.ow.length) (nx L t) ≤ lg now t := by
  obtain ⟨m, hm⟩ := Int.eq_ofNat_of_zero_le ho
  have hml : m < L.ow.length := by
    rcases hf.onr t ht with e | ⟨_, h2, _, _⟩
    · omega
    · omega
  have hw : (t : Int) ∈ rg L.rows m := ((hf.row m hml).2 t).2 ⟨by omega, by omega, by rw [show ((t : Int)).toNat = t by omega]; exact hm⟩
  have h1 := (passM_inv hf now h L.ow.length (Nat.le_refl _)).2.2 m hml _ hw
  have h2 : nx L t = (lg L.ow m).toNat := by unfold nx; rw [hm]; rfl
  rw [show ((t : Int)).toNat = t by omega] at h1
  rw [h2]; exact h1
theorem passes_inv {L : Lk} (hf : Fit L) : ∀ k, PInv L (passes L.ow L.rows L.own k)
  | 0 => pinv_start
  | k + 1 => (passM_inv hf _ (passes_inv hf k) _ (Nat.le_refl _)).1
theorem passes_falls {L : Lk} (hf : Fit L) : ∀ j k, Falls L (passes L.ow L.rows L.own j) (passes L.ow L.rows L.own (j + k))
  | j, 0 => Falls.refl _ _
  | j, k + 1 => (passes_falls hf j k).trans (passM_inv hf _ (passes_inv hf _) _ (Nat.le_refl _)).2.1
/-- Along a chain of so many steps. -/
inductive ReachN (L : Lk) (s : Nat) : Nat → Nat → Prop
  | refl : ReachN L s 0 s
  | step {k t : Nat} : ReachN L s k t → 0 ≤ onAt L t → ReachN L s (k + 1) (nx L t)
theorem reachN_of {L : Lk} {s t : Nat} (h : Go.Lk.Reach L s t) : ∃ k, ReachN L s k t := by
  induction h with
  | refl => exact ⟨0, .refl⟩
  | step _ ho ih => obtain ⟨k, h⟩ := ih; exact ⟨k + 1, .step h ho⟩
theorem reachN_lt {L : Lk} (hf : Fit L) {s k t : Nat} (hs : s < L.own.length) (h : ReachN L s k t) : t < L.own.length := by
  induction h with
  | refl => exact hs
  | step _ ho ih => exact nx_lt hf ih ho
theorem passes_reach {L : Lk} (hf : Fit L) {s k t : Nat} (hs : s < L.own.length) (h : ReachN L s k t) : lg (passes L.ow L.rows L.own k) t ≤ ownAt L s := by
  induction h with
  | refl => exact Int.le_refl _
  | step hr ho ih => exact Int.le_trans (pass_edge hf (passes_inv hf _) (reachN_lt hf hs hr) ho) ih
/-- How many are of a lesser rank. -/
def below (rk : Nat → Nat) (n t : Nat) : Nat := (List.range n).countP fun x => decide (rk x < rk t)
theorem countP_lt {p q : Nat → Bool} (h : ∀ x, p x = true → q x = true) {y : Nat} : ∀ (l : List Nat), y ∈ l → p y = false → q y = true → l.countP p < l.countP q
  | [], hy, _, _ => by cases hy
  | x :: l, hy, h1, h2 => by
    have hle : l.countP p ≤ l.countP q := List.countP_mono_left fun z _ => h z
    by_cases e : y = x
    · subst e
      rw [List.countP_cons, List.countP_cons, h1, h2]
      simp; omega
    · have := countP_lt h l ((List.mem_cons.1 hy).resolve_left e) h1 h2
      rw [List.countP_cons, List.countP_cons]
      cases hp : p x
      · simp; split <;> omega
      · rw [h x hp]; simp; omega
theorem below_lt (rk : Nat → Nat) {n s t : Nat} (hs : s < n) (h : rk s < rk t) : below rk n s < below rk n t :=
  countP_lt (y := s) (fun x hx => by simp at hx ⊢; omega) _ (by simpa using hs) (by simp) (by simpa using h)
theorem below_le (rk : Nat → Nat) (n t : Nat) (ht : t < n) : below rk n t < n := by
  have := countP_lt (p := fun x => decide (rk x < rk t)) (q := fun _ => true) (fun _ _ => rfl) (y := t) (List.range n) (by simpa using ht) (by simp) rfl
  simpa [below] using this
theorem reachN_short {L : Lk} (hf : Fit L) {s k t : Nat} (hs : s < L.own.length) (h : ReachN L s k t) : k < L.own.length := by
  obtain ⟨rk, hk⟩ := hf.rank
  have : k + below rk L.own.length t ≤ below rk L.own.length s := by
    induction h with
    | refl => omega
    | step hr ho ih =>
      have h1 := reachN_lt hf hs hr
      have h2 := below_lt rk (nx_lt hf h1 ho) (hk _ h1 ho)
      omega
  have h2 := below_le rk _ s hs
  omega
theorem refLv_lev {L : Lk} (hf : Fit L) : Lev (wNow L (refLv L.own L.ow L.rows)) := by
  have hp := passes_inv hf L.own.length
  refine ⟨hp.up, fun t ht ho => ?_, fun t ht => ?_⟩
  · obtain ⟨s, hs, hr, e⟩ := hp.att t ht
    obtain ⟨k, hk⟩ := reachN_of (hr.step ho)
    have h1 := passes_reach hf hs hk
    have h2 := reachN_short hf hs hk
    have h3 := passes_falls hf k (L.own.length - k) (nx L t) (nx_lt hf ht ho)
    rw [show k + (L.own.length - k) = L.own.length by omega] at h3
    show lg (passes L.ow L.rows L.own L.own.length) (nx L t) ≤ lg (passes L.ow L.rows L.own L.own.length) t
    rw [e]
    exact Int.le_trans h3 h1
  · obtain ⟨s, hs, hr, e⟩ := hp.att t ht
    refine ⟨s, hs, ?_, e⟩
    clear e
    induction hr with
    | refl => exact .refl
    | step hr' ho ih => exact .step (L := wNow L _) (ih (reach_lt hf hs hr')) ho
theorem lg_ext {a b : List Int} (hl : a.length = b.length) (h : ∀ t, t < a.length → lg a t = lg b t) : a = b := by
  refine List.ext_getElem hl fun i h1 h2 => ?_
  have := h i h1
  simpa [lg, List.getD, h1, h2] using this
theorem fit_wNow {L : Lk} (hf : Fit L) {now : List Int} (hl : now.length = L.own.length) (hr : ∀ t, t < L.own.length → 0 ≤ lg now t ∧ lg now t < 32) : Fit (wNow L now) :=
  ⟨hf.n, hl, hf.lo, hf.m, hf.lr, hf.ownr, hr, hf.onr, hf.owr, hf.row, hf.rank⟩
/-- The levels are what the reference reckons. -/
theorem good_now {L : Lk} (h : Go.Proofs.Ytigjeflofbdahaa.Good L) : L.now = refLv L.own L.ow L.rows := by
  have hp := passes_inv h.fit L.own.length
  have hl : (refLv L.own L.ow L.rows).length = L.own.length := hp.len
  refine lg_ext (by rw [h.fit.ln, hl]) fun t ht => ?_
  rw [h.fit.ln] at ht
  have hfw : Fit (wNow L (refLv L.own L.ow L.rows)) := fit_wNow h.fit hl fun t ht => by
    obtain ⟨s, hs, _, e⟩ := hp.att t ht
    have e : lg (refLv L.own L.ow L.rows) t = ownAt L s := e
    rw [e]; exact h.fit.ownr s hs
  refine Int.le_antisymm ?_ ?_
  · exact lev_unique h.fit (K := wNow L (refLv L.own L.ow L.rows)) rfl rfl rfl h.lev (refLv_lev h.fit) ht
  · exact lev_unique hfw (K := L) rfl rfl rfl (refLv_lev h.fit) h.lev ht
end Go.Lk
