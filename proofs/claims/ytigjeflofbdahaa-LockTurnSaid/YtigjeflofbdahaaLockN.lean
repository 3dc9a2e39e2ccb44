/-
  Locks: the contracts of Waiting, Held; Lock and Unlock in one piece each.
-/
import Derived.Test.YtigjeflofbdahaaLockM
import Derived.Test.YtigjeflofbdahaaLockJ
namespace Go.Proofs.Ytigjeflofbdahaa
open Go.RowKit Go.Sx Go.Lk
set_option linter.unusedSimpArgs false
set_option linter.unusedVariables false

def rowOf (L : Lk) (m : Int) : List Int := if 0 ≤ m ∧ m < L.ow.length then rg L.rows m.toNat else []
def heldK (ow : List Int) (t : Int) (k : Nat) : List Int := ((List.range k).filter fun i => lg ow i == t).map fun (i : Nat) => (i : Int)
theorem heldK_next (ow : List Int) (t : Int) (k : Nat) : heldK ow t (k + 1) = heldK ow t k ++ if lg ow k = t then [(k : Int)] else [] := by
  unfold heldK
  rw [List.range_succ, List.filter_append, List.map_append]
  congr 1
  by_cases h : lg ow k = t
  · simp [h]
  · simp [h]
theorem heldK_len (ow : List Int) (t : Int) (k : Nat) : (heldK ow t k).length ≤ k := by
  unfold heldK
  rw [List.length_map]
  exact Nat.le_trans (List.length_filter_le _ _) (by simp)
def heldOf (L : Lk) (t : Int) : List Int := if 0 ≤ t ∧ t < L.own.length then heldK L.ow t L.ow.length else []
set_option maxRecDepth 100000 in
set_option maxHeartbeats 4000000 in
theorem lkWaiting (b : Nat) (L : Lk) (m : Int) (w0 w : World) (F : HP) (hs : Sat w0 w (lkP b L * F)) (hL : Fit L) :
    Calls Try.prog 6 #[.pointer (some ⟨b, 0, none⟩), .int .i64 m] w (Ret w0 fun v => numsP .i64 v (rowOf L m) * (lkP b L * F)) := by
  by_cases h : 0 ≤ m ∧ m < L.ow.length
  · have e : rowOf L m = rg L.rows m.toNat := if_pos h
    rw [e]
    obtain ⟨k, rfl⟩ := Int.eq_ofNat_of_zero_le h.1
    rw [show Int.toNat (k : Int) = k by omega]
    have hk : k < L.ow.length := by omega
    have j1 : (k : Int) < (L.ow.length : Int) := by omega
    have j2 : decide (k < L.ow.length) = true := by simp; omega
    have hn64 := hL.m
    have Hrow := hid (rowOk_len (row_ok hL hk))
    have HL := hid hL
    go_enter Try.func6, Try.ntmps6
    go_wp2_with fail
    refine (lkHasX b L k true (decide_eq_true h) w0 _ F hs hL).mono ?_
    rintro en w1 ⟨rfl, hs1⟩
    obtain ⟨a0, c0, a1, c1, a2, c2, g, off, cap, hp, hs1⟩ := lkP_out hs1 hL
    have Hmr := hid (mutR_at g off k L.ow L.rows hk hL.lr)
    clear hs h e hL hp
    rw [Hmr.out] at hs1
    go_wp2_with fail
    refine (rowAll g (off + k * 2 + 1) (rg L.rows k) w0 _ _ own (by have := Hrow.out; omega)).mono ?_
    rintro en w2 ⟨v, rfl, hs2⟩
    obtain ⟨av, cv, rfl⟩ := hs2.slice_form
    go_wp2_with fail
    go_ret
    refine ⟨_, rfl, ?_⟩
    have h3 : Sat w0 w2 (lkP b L * (numsP .i64 (.slice av (rg L.rows k).length cv) (rg L.rows k) * F)) := lkP_of (v0 := .slice a0 L.own.length c0) (v1 := .slice a1 L.own.length c1) (v2 := .slice a2 L.own.length c2) (g := g) (off := off) (cap := cap) (by rw [Hmr.out]; exact hs2.perm (by ac_rfl))
    exact h3.perm (by ac_rfl)
  · have e : rowOf L m = [] := if_neg h
    rw [e]
    go_enter Try.func6, Try.ntmps6
    go_wp2_with fail
    refine (lkHasX b L m false (decide_eq_false h) w0 _ F hs hL).mono ?_
    rintro en w1 ⟨rfl, hs1⟩
    go_wp2_with fail
    go_ret
    exact ⟨_, rfl, hs1.slice_nil 1⟩
open Classical in
/-- What Lock answers, and makes (the levels aside). -/
noncomputable def lockR (L : Lk) (t m : Int) : Bool × Int × Lk :=
  if ¬ (0 ≤ t ∧ t < L.own.length) then (false, 1, L)
  else if 0 ≤ lg L.on t.toNat then (false, 1, L)
  else if ¬ (0 ≤ m ∧ m < L.ow.length) then (false, 15, L)
  else if lg L.ow m.toNat = t then (false, 10, L)
  else if lg L.ow m.toNat = 255 then (true, 0, takeL L m.toNat t.toNat)
  else if Go.Lk.Reach L (lg L.ow m.toNat).toNat t.toNat then (false, 11, L)
  else (false, 0, waitL L m.toNat t.toNat)
/-- What Unlock answers, and makes (the levels aside). -/
def unlockR (L : Lk) (t m : Int) : Int × Int × Lk :=
  if ¬ (0 ≤ t ∧ t < L.own.length) then (255, 1, L)
  else if ¬ (0 ≤ m ∧ m < L.ow.length) then (255, 15, L)
  else if lg L.ow m.toNat ≠ t then (255, 10, L)
  else if rg L.rows m.toNat = [] then (255, 0, freeL L m.toNat)
  else (bestOf L.now (rg L.rows m.toNat), 0, giveL L m.toNat (bestOf L.now (rg L.rows m.toNat)).toNat)
def wNow (L : Lk) (now : List Int) : Lk := { L with now := now }
theorem wNow_self (L : Lk) : wNow L L.now = L := rfl
/-- All that holds of locks at any time. -/
structure Good (L : Lk) : Prop where
  fit : Fit L
  lev : Lev L
theorem lkLock (b : Nat) (L : Lk) (t m : Int) (w0 w : World) (F : HP) (hs : Sat w0 w (lkP b L * F)) (hL : Good L) :
    Calls Try.prog 12 #[.pointer (some ⟨b, 0, none⟩), .int .i64 t, .int .i64 m] w fun en w' => en = .returned (.tuple #[.bool (lockR L t m).1, .int .i64 (lockR L t m).2.1]) ∧ ∃ now', Good (wNow (lockR L t m).2.2 now') ∧ Sat w0 w' (lkP b (wNow (lockR L t m).2.2 now') * F) := by
  have stay : ∀ {en : Ending} {v : Value} {w' : World}, RetV w0 v (lkP b L * F) en w' → en = .returned v ∧ ∃ now', Good (wNow L now') ∧ Sat w0 w' (lkP b (wNow L now') * F) := fun h => ⟨h.1, L.now, hL, h.2⟩
  unfold lockR
  by_cases h1 : 0 ≤ t ∧ t < L.own.length
  · rw [if_neg (Classical.not_not.2 h1)]
    obtain ⟨t, rfl⟩ := Int.eq_ofNat_of_zero_le h1.1
    have ht : t < L.own.length := by omega
    rw [show Int.toNat (t : Int) = t by omega]
    by_cases h2 : 0 ≤ lg L.on t
    · rw [if_pos h2]
      exact (lkLock_waits b L t m w0 w F hs hL.fit ht h2).mono fun en w' h => stay h
    · rw [if_neg h2]
      have ho : lg L.on t = -1 := by
        rcases hL.fit.onr t ht with e | e
        · exact e
        · exact absurd e.1 h2
      by_cases h3 : 0 ≤ m ∧ m < L.ow.length
      · rw [if_neg (Classical.not_not.2 h3)]
        obtain ⟨m, rfl⟩ := Int.eq_ofNat_of_zero_le h3.1
        have hm : m < L.ow.length := by omega
        rw [show Int.toNat (m : Int) = m by omega]
        by_cases h4 : lg L.ow m = t
        · rw [if_pos h4]
          exact (lkLock_own b L t m w0 w F hs hL.fit ht ho hm h4).mono fun en w' h => stay h
        · rw [if_neg h4]
          by_cases h5 : lg L.ow m = 255
          · rw [if_pos h5]
            exact (lkLock_take b L t m w0 w F hs hL.fit ht ho hm h5).mono fun en w' h => ⟨h.1, L.now, ⟨fit_take hL.fit hm h5 ht, lev_take hL.fit hL.lev hm h5⟩, h.2⟩
          · rw [if_neg h5]
            by_cases h6 : Go.Lk.Reach L (lg L.ow m).toNat t
            · rw [if_pos h6]
              exact (lkLock_circle b L t m w0 w F hs hL.fit ht ho hm h5 h4 h6).mono fun en w' h => stay h
            · rw [if_neg h6]
              exact (lkLock_wait b L t m w0 w F hs hL.fit hL.lev ht ho hm h5 h4 h6).mono fun en w' ⟨h, now', a, b, c⟩ => ⟨h, now', ⟨a, b⟩, c⟩
      · rw [if_pos h3]
        exact (lkLock_none b L t m w0 w F hs hL.fit ht ho h3).mono fun en w' h => stay h
  · rw [if_pos h1]
    exact (lkLock_task b L t m w0 w F hs hL.fit h1).mono fun en w' h => stay h
theorem lkUnlock (b : Nat) (L : Lk) (t m : Int) (w0 w : World) (F : HP) (hs : Sat w0 w (lkP b L * F)) (hL : Good L) :
    Calls Try.prog 9 #[.pointer (some ⟨b, 0, none⟩), .int .i64 t, .int .i64 m] w fun en w' => en = .returned (.tuple #[.int .i64 (unlockR L t m).1, .int .i64 (unlockR L t m).2.1]) ∧ ∃ now', Good (wNow (unlockR L t m).2.2 now') ∧ Sat w0 w' (lkP b (wNow (unlockR L t m).2.2 now') * F) := by
  have stay : ∀ {en : Ending} {v : Value} {w' : World}, RetV w0 v (lkP b L * F) en w' → en = .returned v ∧ ∃ now', Good (wNow L now') ∧ Sat w0 w' (lkP b (wNow L now') * F) := fun h => ⟨h.1, L.now, hL, h.2⟩
  unfold unlockR
  by_cases h1 : 0 ≤ t ∧ t < L.own.length
  · rw [if_neg (Classical.not_not.2 h1)]
    by_cases h3 : 0 ≤ m ∧ m < L.ow.length
    · rw [if_neg (Classical.not_not.2 h3)]
      obtain ⟨m, rfl⟩ := Int.eq_ofNat_of_zero_le h3.1
      have hm : m < L.ow.length := by omega
      rw [show Int.toNat (m : Int) = m by omega]
      by_cases h4 : lg L.ow m = t
      · rw [if_neg (Classical.not_not.2 h4)]
        obtain ⟨t, rfl⟩ := Int.eq_ofNat_of_zero_le h1.1
        have ht : t < L.own.length := by omega
        by_cases h5 : rg L.rows m = []
        · rw [if_pos h5]
          exact (lkUnlock_free b L t m w0 w F hs hL.fit ht hm h4 h5).mono fun en w' ⟨h, now', a, b, c⟩ => ⟨h, now', ⟨a, b⟩, c⟩
        · rw [if_neg h5]
          refine (lkUnlock_give b L t m w0 w F hs hL.fit ht hm h4 h5).mono ?_
          rintro en w' ⟨x, hx, rfl, now', a, c, d⟩
          rw [hx]
          exact ⟨rfl, now', ⟨a, c⟩, d⟩
      · rw [if_pos h4]
        exact (lkUnlock_other b L t m w0 w F hs hL.fit h1 hm h4).mono fun en w' h => stay h
    · rw [if_pos h3]
      exact (lkUnlock_none b L t m w0 w F hs hL.fit h1 h3).mono fun en w' h => stay h
  · rw [if_pos h1]
    exact (lkUnlock_task b L t m w0 w F hs hL.fit h1).mono fun en w' h => stay h
theorem good_new (l : List Int) (M : Nat) (hl : l.length ≤ 64) (hM : M ≤ 32) (h : LvOk l) : Good (newL l M) := by
  have hon : ∀ t, ¬ 0 ≤ onAt (newL l M) t ∨ l.length ≤ t := fun t => by
    by_cases ht : t < l.length
    · left
      show ¬ 0 ≤ lg (List.replicate l.length (-1)) t
      simp [lg, List.getD, ht]
    · right; omega
  have hr : ∀ t, t < l.length → 0 ≤ lg l t ∧ lg l t < 32 := fun t ht => h _ (by simp [lg, List.getD, ht])
  refine ⟨⟨hl, rfl, by simp [newL], by simpa [newL] using hM, by simp [newL], hr, hr, fun t ht => .inl ?_, fun m hm => .inl ?_, fun m hm => ⟨?_, fun t => ?_⟩, ⟨fun _ => 0, fun t ht ho => ?_⟩⟩, ⟨fun t ht => Int.le_refl _, fun t ht ho => ?_, fun t ht => ⟨t, ht, .refl, rfl⟩⟩⟩
  · have ht' : t < l.length := ht
    show lg (List.replicate l.length (-1)) t = -1
    simp [lg, List.getD, ht']
  · have hm' : m < M := by simpa [newL] using hm
    show lg (List.replicate M 255) m = 255
    simp [lg, List.getD, hm']
  · have hm' : m < M := by simpa [newL] using hm
    have : Go.Lk.rowAt (newL l M) m = [] := by simp [Go.Lk.rowAt, newL, List.getD, hm']
    rw [this]; simp
  · have hm' : m < M := by simpa [newL] using hm
    have : Go.Lk.rowAt (newL l M) m = [] := by simp [Go.Lk.rowAt, newL, List.getD, hm']
    rw [this]
    constructor
    · intro h; cases h
    · rintro ⟨a, b, c⟩
      have hb : t < l.length := b
      have e : onAt (newL l M) t.toNat = -1 := by
        show lg (List.replicate l.length (-1)) t.toNat = -1
        simp [lg, List.getD, show t.toNat < l.length by omega]
      omega
  · rcases hon t with h | h
    · exact absurd ho h
    · exact absurd ht (Nat.not_lt.2 h)
  · rcases hon t with h | h
    · exact absurd ho h
    · exact absurd ht (Nat.not_lt.2 h)
end Go.Proofs.Ytigjeflofbdahaa
