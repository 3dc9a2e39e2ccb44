/-
  Locks, plainly: a mutex is given back: it is free, or handed on.
-/
import Derived.Test.YtigjeflofbdahaaLockE
namespace Go.Lk
open Go.Proofs.Ytigjeflofbdahaa (lg_set rg rg_set)
def freeL (L : Lk) (m : Nat) : Lk := { L with ow := L.ow.set m 255 }
theorem free_ow {L : Lk} {m : Nat} (hm : m < L.ow.length) (k : Nat) : owAt (freeL L m) k = if k = m then 255 else owAt L k := lg_set hm 255 k
theorem none_waits {L : Lk} (hf : Fit L) {m : Nat} (hm : m < L.ow.length) (hr : rowAt L m = []) {x : Nat} (hx : x < L.own.length) (hox : 0 ≤ onAt L x) : (onAt L x).toNat ≠ m := by
  intro e
  have h := ((hf.row m hm).2 (x : Int)).2 ⟨by omega, by omega, by rw [show ((x : Int)).toNat = x by omega]; omega⟩
  rw [hr] at h
  cases h
theorem fit_free {L : Lk} (hf : Fit L) {m : Nat} (hm : m < L.ow.length) (hr : rowAt L m = []) : Fit (freeL L m) := by
  have hlen : (freeL L m).ow.length = L.ow.length := by unfold freeL; rw [List.length_set]
  have hnx : ∀ x, x < L.own.length → 0 ≤ onAt L x → nx (freeL L m) x = nx L x := fun x hx hox => by
    unfold nx
    show (owAt (freeL L m) (onAt L x).toNat).toNat = _
    rw [free_ow hm, if_neg (none_waits hf hm hr hx hox)]
  refine ⟨hf.n, hf.ln, hf.lo, by rw [hlen]; exact hf.m, by rw [hlen]; exact hf.lr, hf.ownr, hf.nowr, fun x hx => ?_, fun k hk => ?_, fun k hk => ?_, ?_⟩
  · rcases hf.onr x hx with e | ⟨h1, h2, h3, h4⟩
    · exact .inl e
    · have hne := none_waits hf hm hr hx h1
      refine .inr ⟨h1, by rw [hlen]; exact h2, ?_, ?_⟩
      · show 0 ≤ owAt (freeL L m) (onAt L x).toNat
        rw [free_ow hm, if_neg hne]; exact h3
      · show owAt (freeL L m) (onAt L x).toNat < _
        rw [free_ow hm, if_neg hne]; exact h4
  · rw [hlen] at hk
    rw [free_ow hm]
    split
    · exact .inl rfl
    · exact hf.owr k hk
  · rw [hlen] at hk; exact hf.row k hk
  · obtain ⟨rk, hk⟩ := hf.rank
    exact ⟨rk, fun x hx hox => by rw [hnx x hx hox]; exact hk x hx hox⟩

def giveL (L : Lk) (m w : Nat) : Lk := { L with ow := L.ow.set m w, on := L.on.set w (-1), rows := L.rows.set m ((rg L.rows m).erase w) }
theorem fit_give {L : Lk} (hf : Fit L) {m w : Nat} (hm : m < L.ow.length) (hw : (w : Int) ∈ rowAt L m) : Fit (giveL L m w) := by
  have hmr : m < L.rows.length := by rw [hf.lr]; exact hm
  obtain ⟨_, hw2, hw3⟩ := ((hf.row m hm).2 w).1 hw
  rw [show ((w : Int)).toNat = w by omega] at hw3
  have hwl : w < L.own.length := by omega
  have hwo : w < L.on.length := by rw [hf.lo]; exact hwl
  have hlen : (giveL L m w).ow.length = L.ow.length := by unfold giveL; rw [List.length_set]
  have hon : ∀ x, onAt (giveL L m w) x = if x = w then -1 else onAt L x := fun x => lg_set hwo (-1) x
  have how : ∀ k, owAt (giveL L m w) k = if k = m then (w : Int) else owAt L k := fun k => lg_set hm (w : Int) k
  refine ⟨hf.n, hf.ln, by unfold giveL; rw [List.length_set]; exact hf.lo, by rw [hlen]; exact hf.m, by unfold giveL; rw [List.length_set, List.length_set]; exact hf.lr, hf.ownr, hf.nowr, fun x hx => ?_, fun k hk => ?_, fun k hk => ?_, ?_⟩
  · rw [hon]
    by_cases e : x = w
    · rw [if_pos e]; exact .inl rfl
    · rw [if_neg e]
      rcases hf.onr x hx with h | ⟨h1, h2, h3, h4⟩
      · exact .inl h
      · refine .inr ⟨h1, by rw [hlen]; exact h2, ?_, ?_⟩
        · rw [how]; split
          · omega
          · exact h3
        · rw [how]; split
          · show (w : Int) < (L.own.length : Int); omega
          · exact h4
  · rw [hlen] at hk
    rw [how]
    split
    · exact .inr ⟨by omega, by show (w : Int) < (L.own.length : Int); omega⟩
    · exact hf.owr k hk
  · rw [hlen] at hk
    have hr := hf.row k hk
    have hrow : rowAt (giveL L m w) k = if k = m then (rg L.rows m).erase w else rowAt L k := rg_set hmr _ k
    rw [hrow]
    by_cases e : k = m
    · subst e
      rw [if_pos rfl]
      refine ⟨hr.1.erase _, fun z => ?_⟩
      have hnd : (rg L.rows k).Nodup := hr.1
      have h1 : z ∈ (rg L.rows k).erase (w : Int) ↔ z ≠ w ∧ z ∈ rg L.rows k := List.Nodup.mem_erase_iff hnd
      have h2 : z ∈ rg L.rows k ↔ _ := hr.2 z
      rw [h1, h2, hon]
      show _ ↔ 0 ≤ z ∧ z < (L.own.length : Int) ∧ _
      by_cases ez : z.toNat = w
      · rw [if_pos ez]
        constructor
        · rintro ⟨a, b, c, d⟩; exact absurd (show z = (w : Int) by omega) a
        · rintro ⟨a, b, c⟩; omega
      · rw [if_neg ez]
        constructor
        · rintro ⟨a, b⟩; exact b
        · intro b; exact ⟨by rintro rfl; exact ez (by omega), b⟩
    · rw [if_neg e]
      refine ⟨hr.1, fun z => ?_⟩
      rw [hr.2 z, hon]
      show _ ↔ 0 ≤ z ∧ z < (L.own.length : Int) ∧ _
      by_cases ez : z.toNat = w
      · rw [if_pos ez, ez, hw3]
        constructor
        · rintro ⟨a, b, c⟩; omega
        · rintro ⟨a, b, c⟩; omega
      · rw [if_neg ez]
  · obtain ⟨rk, hk⟩ := hf.rank
    refine ⟨fun x => if x = w then 0 else rk x + 1, fun x hx hox => ?_⟩
    rw [hon] at hox
    by_cases e : x = w
    · rw [if_pos e] at hox; omega
    · rw [if_neg e] at hox
      have h1 := hk x hx hox
      have h2 : nx (giveL L m w) x = if (onAt L x).toNat = m then w else nx L x := by
        unfold nx
        rw [hon, if_neg e, how]
        split <;> rfl
      rw [h2]
      dsimp only
      rw [if_neg e]
      split
      · rw [if_pos rfl]; omega
      · split <;> omega
end Go.Lk
