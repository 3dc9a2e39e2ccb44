/-
  Locks in plain Lean: who has what, who waits for it, how urgent all are. Nothing of any program stands here.
-/
import Derived.Test.YtigjeflofbdahaaWait
namespace Go.Lk

structure Lk where
  own : List Int
  now : List Int
  on : List Int
  ow : List Int
  rows : List (List Int)
def lg (l : List Int) (k : Nat) : Int := l.getD k 0
def onAt (L : Lk) (t : Nat) : Int := lg L.on t
def ownAt (L : Lk) (t : Nat) : Int := lg L.own t
def nowAt (L : Lk) (t : Nat) : Int := lg L.now t
def owAt (L : Lk) (m : Nat) : Int := lg L.ow m
def rowAt (L : Lk) (m : Nat) : List Int := L.rows.getD m []
/-- The owner of what a task waits for. -/
def nx (L : Lk) (t : Nat) : Nat := (owAt L (onAt L t).toNat).toNat
/-- Along the chain of owners. -/
inductive Reach (L : Lk) (s : Nat) : Nat → Prop
  | refl : Reach L s s
  | step {t : Nat} : Reach L s t → 0 ≤ onAt L t → Reach L s (nx L t)
/-- What holds of who has and waits, levels aside. -/
structure Fit (L : Lk) : Prop where
  n : L.own.length ≤ 64
  ln : L.now.length = L.own.length
  lo : L.on.length = L.own.length
  m : L.ow.length ≤ 32
  lr : L.rows.length = L.ow.length
  ownr : ∀ t, t < L.own.length → 0 ≤ ownAt L t ∧ ownAt L t < 32
  nowr : ∀ t, t < L.own.length → 0 ≤ nowAt L t ∧ nowAt L t < 32
  onr : ∀ t, t < L.own.length → onAt L t = -1 ∨ 0 ≤ onAt L t ∧ onAt L t < L.ow.length ∧ 0 ≤ owAt L (onAt L t).toNat ∧ owAt L (onAt L t).toNat < L.own.length
  owr : ∀ m, m < L.ow.length → owAt L m = 255 ∨ 0 ≤ owAt L m ∧ owAt L m < L.own.length
  row : ∀ m, m < L.ow.length → (rowAt L m).Nodup ∧ ∀ t, t ∈ rowAt L m ↔ 0 ≤ t ∧ t < L.own.length ∧ onAt L t.toNat = m
  rank : ∃ rk : Nat → Nat, ∀ t, t < L.own.length → 0 ≤ onAt L t → rk (nx L t) < rk t
/-- The levels are as urgent as they should be. -/
structure Lev (L : Lk) : Prop where
  up : ∀ t, t < L.own.length → nowAt L t ≤ ownAt L t
  edge : ∀ t, t < L.own.length → 0 ≤ onAt L t → nowAt L (nx L t) ≤ nowAt L t
  att : ∀ t, t < L.own.length → ∃ s, s < L.own.length ∧ Reach L s t ∧ nowAt L t = ownAt L s

theorem nx_lt {L : Lk} (h : Fit L) {t : Nat} (ht : t < L.own.length) (ho : 0 ≤ onAt L t) : nx L t < L.own.length := by
  rcases h.onr t ht with e | ⟨_, _, h3, h4⟩
  · omega
  · unfold nx; omega
theorem reach_lt {L : Lk} (h : Fit L) {s t : Nat} (hs : s < L.own.length) (hr : Reach L s t) : t < L.own.length := by
  induction hr with
  | refl => exact hs
  | step _ ho ih => exact nx_lt h ih ho
theorem Reach.trans {L : Lk} {r s t : Nat} (h1 : Reach L r s) (h2 : Reach L s t) : Reach L r t := by
  induction h2 with
  | refl => exact h1
  | step _ ho ih => exact .step ih ho
theorem lev_reach {L : Lk} (h : Fit L) (hl : Lev L) {s t : Nat} (hs : s < L.own.length) (hr : Reach L s t) : nowAt L t ≤ nowAt L s := by
  induction hr with
  | refl => exact Int.le_refl _
  | step hr' ho ih => exact Int.le_trans (hl.edge _ (reach_lt h hs hr') ho) ih
/-- Along the chain the rank falls. -/
theorem rank_le {L : Lk} (h : Fit L) {rk : Nat → Nat} (hk : ∀ t, t < L.own.length → 0 ≤ onAt L t → rk (nx L t) < rk t) {s t : Nat} (hs : s < L.own.length) (hr : Reach L s t) : rk t ≤ rk s := by
  induction hr with
  | refl => exact Nat.le_refl _
  | step hr' ho ih => exact Nat.le_of_lt (Nat.lt_of_lt_of_le (hk _ (reach_lt h hs hr') ho) ih)

/-- Levels that are right are the same, whatever list keeps them. -/
theorem lev_unique {L K : Lk} (hL : Fit L) (h1 : K.own = L.own) (h2 : K.on = L.on) (h3 : K.ow = L.ow) (a : Lev L) (b : Lev K) {t : Nat} (ht : t < L.own.length) : nowAt L t ≤ nowAt K t := by
  have hr : ∀ {s t}, Reach K s t → Reach L s t := by
    intro s t h
    have e1 : ∀ x, onAt K x = onAt L x := fun x => by unfold onAt; rw [h2]
    have e2 : ∀ x, nx K x = nx L x := fun x => by unfold nx owAt; rw [e1, h3]
    induction h with
    | refl => exact .refl
    | step _ ho ih => rw [e2]; rw [e1] at ho; exact .step ih ho
  obtain ⟨s, hs, hrs, e⟩ := b.att t (by rw [h1]; exact ht)
  rw [h1] at hs
  have e3 : ownAt K s = ownAt L s := by unfold ownAt; rw [h1]
  rw [e, e3]
  exact Int.le_trans (lev_reach hL a hs (hr hrs)) (a.up s hs)

/-! ### Raising along a chain -/
/-- The edges out of tasks below K are right. -/
structure LevK (L : Lk) (K : Nat) : Prop where
  up : ∀ t, t < L.own.length → nowAt L t ≤ ownAt L t
  edge : ∀ t, t < L.own.length → t < K → 0 ≤ onAt L t → nowAt L (nx L t) ≤ nowAt L t
  att : ∀ t, t < L.own.length → ∃ s, s < L.own.length ∧ Reach L s t ∧ nowAt L t = ownAt L s
theorem LevK.lev {L : Lk} {K : Nat} (h : LevK L K) (hK : L.own.length ≤ K) : Lev L := ⟨h.up, fun t ht ho => h.edge t ht (by omega) ho, h.att⟩
/-- They are but perhaps the one out of t. -/
structure Near (L : Lk) (K t : Nat) : Prop where
  up : ∀ x, x < L.own.length → nowAt L x ≤ ownAt L x
  edge : ∀ x, x < L.own.length → x < K → x ≠ t → 0 ≤ onAt L x → nowAt L (nx L x) ≤ nowAt L x
  att : ∀ x, x < L.own.length → ∃ s, s < L.own.length ∧ Reach L s x ∧ nowAt L x = ownAt L s
def setNow (L : Lk) (x : Nat) (v : Int) : Lk := { L with now := L.now.set x v }
theorem nowAt_set {L : Lk} {x y : Nat} (hx : x < L.now.length) (v : Int) : nowAt (setNow L x v) y = if y = x then v else nowAt L y := by
  unfold nowAt setNow lg
  by_cases h : y = x
  · subst h; rw [if_pos rfl]; simp [List.getD, hx]
  · rw [if_neg h]; simp [List.getD, List.getElem?_set_ne (Ne.symm h)]
theorem reach_set {L : Lk} {x : Nat} {v : Int} {s t : Nat} (h : Reach L s t) : Reach (setNow L x v) s t := by
  induction h with
  | refl => exact .refl
  | step _ ho ih => exact .step (L := setNow L x v) ih ho
theorem fit_setNow {L : Lk} (h : Fit L) {x : Nat} (hx : x < L.own.length) {v : Int} (hv : 0 ≤ v ∧ v < 32) : Fit (setNow L x v) :=
  ⟨h.n, by unfold setNow; rw [List.length_set]; exact h.ln, h.lo, h.m, h.lr, h.ownr, fun t ht => by
    rw [nowAt_set (by rw [h.ln]; exact hx)]
    split
    · exact hv
    · exact h.nowr t ht, h.onr, h.owr, h.row, h.rank⟩
/-- The raise stops: all is right. -/
theorem near_start {L : Lk} {K : Nat} (h : LevK L K) : Near L (K + 1) K := ⟨h.up, fun x hx hk hne ho => h.edge x hx (by omega) ho, h.att⟩
theorem near_stop {L : Lk} {K t : Nat} (h : Near L K t) (he : 0 ≤ onAt L t → nowAt L (nx L t) ≤ nowAt L t) : LevK L K :=
  ⟨h.up, fun x hx hk ho => by
    by_cases e : x = t
    · subst e; exact he ho
    · exact h.edge x hx hk e ho, h.att⟩
/-- The raise goes on: the owner is as urgent as t now. -/
theorem near_next {L : Lk} (hf : Fit L) {K t : Nat} (ht : t < L.own.length) (h : Near L K t) (ho : 0 ≤ onAt L t) (hlt : nowAt L t < nowAt L (nx L t)) (hne : nx L t ≠ t) : Near (setNow L (nx L t) (nowAt L t)) K (nx L t) := by
  have hn := nx_lt hf ht ho
  have hl : nx L t < L.now.length := by rw [hf.ln]; exact hn
  refine ⟨fun x hx => ?_, fun x hx hxk hxt hox => ?_, fun x hx => ?_⟩
  · rw [nowAt_set hl]
    split
    · rename_i e; subst e
      exact Int.le_trans (Int.le_of_lt hlt) (h.up _ hn)
    · exact h.up x hx
  · have hox' : 0 ≤ onAt L x := hox
    show nowAt (setNow L (nx L t) (nowAt L t)) (nx L x) ≤ _
    rw [nowAt_set hl, nowAt_set hl, if_neg hxt]
    by_cases e : x = t
    · subst e; rw [if_pos rfl]; exact Int.le_refl _
    · have h1 := h.edge x hx hxk e hox'
      split
      · rename_i e2; rw [e2] at h1; omega
      · exact h1
  · rw [nowAt_set hl]
    split
    · rename_i e; subst e
      obtain ⟨s, hs, hr, e⟩ := h.att t ht
      exact ⟨s, hs, reach_set (.step hr ho), e⟩
    · obtain ⟨s, hs, hr, e⟩ := h.att x hx
      exact ⟨s, hs, reach_set hr, e⟩
theorem nx_ne {L : Lk} (hf : Fit L) {t : Nat} (ht : t < L.own.length) (ho : 0 ≤ onAt L t) : nx L t ≠ t := by
  obtain ⟨rk, hk⟩ := hf.rank
  intro e
  have := hk t ht ho
  rw [e] at this
  omega
end Go.Lk
