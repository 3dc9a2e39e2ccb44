/-
  Locks, plainly: a free mutex is taken; a task begins to wait.
-/
import Derived.Test.YtigjeflofbdahaaLockB
namespace Go.Lk
open Go.Proofs.Ytigjeflofbdahaa (lg_set rg rg_set reach_cons)
theorem reach_map {L L' : Lk} (hf : Fit L) (h : ∀ x, x < L.own.length → 0 ≤ onAt L x → 0 ≤ onAt L' x ∧ nx L' x = nx L x) {s t : Nat} (hs : s < L.own.length) (hr : Go.Lk.Reach L s t) : Go.Lk.Reach L' s t := by
  induction hr with
  | refl => exact .refl
  | step hr' ho ih =>
    obtain ⟨h1, h2⟩ := h _ (reach_lt hf hs hr') ho
    rw [← h2]
    exact .step ih h1
def takeL (L : Lk) (m t : Nat) : Lk := { L with ow := L.ow.set m t }
theorem take_ow {L : Lk} {m t : Nat} (hm : m < L.ow.length) (k : Nat) : owAt (takeL L m t) k = if k = m then (t : Int) else owAt L k := lg_set hm t k
theorem take_nx {L : Lk} (hf : Fit L) {m t : Nat} (hm : m < L.ow.length) (ho : owAt L m = 255) {x : Nat} (hx : x < L.own.length) (hox : 0 ≤ onAt L x) : nx (takeL L m t) x = nx L x := by
  have hne : (onAt L x).toNat ≠ m := by
    rcases hf.onr x hx with e | ⟨_, _, _, h4⟩
    · omega
    · intro e; rw [e, ho] at h4; have := hf.n; omega
  unfold nx
  show (owAt (takeL L m t) (onAt L x).toNat).toNat = _
  rw [take_ow hm, if_neg hne]
theorem fit_take {L : Lk} (hf : Fit L) {m t : Nat} (hm : m < L.ow.length) (ho : owAt L m = 255) (ht : t < L.own.length) : Fit (takeL L m t) := by
  have hlen : (takeL L m t).ow.length = L.ow.length := by unfold takeL; rw [List.length_set]
  refine ⟨hf.n, hf.ln, hf.lo, by rw [hlen]; exact hf.m, by rw [hlen]; exact hf.lr, hf.ownr, hf.nowr, fun x hx => ?_, fun k hk => ?_, fun k hk => ?_, ?_⟩
  · have hne : 0 ≤ onAt L x → (onAt L x).toNat ≠ m := fun hox => by
      rcases hf.onr x hx with e | ⟨_, _, _, h4⟩
      · omega
      · intro e; rw [e, ho] at h4; have := hf.n; omega
    rcases hf.onr x hx with e | ⟨h1, h2, h3, h4⟩
    · exact .inl e
    · refine .inr ⟨h1, by rw [hlen]; exact h2, ?_, ?_⟩
      · show 0 ≤ owAt (takeL L m t) (onAt L x).toNat
        rw [take_ow hm, if_neg (hne h1)]; exact h3
      · show owAt (takeL L m t) (onAt L x).toNat < _
        rw [take_ow hm, if_neg (hne h1)]; exact h4
  · rw [hlen] at hk
    rw [take_ow hm]
    split
    · exact .inr ⟨by omega, by show (t : Int) < (L.own.length : Int); omega⟩
    · exact hf.owr k hk
  · rw [hlen] at hk; exact hf.row k hk
  · obtain ⟨rk, hk⟩ := hf.rank
    exact ⟨rk, fun x hx hox => by rw [take_nx hf hm ho hx hox]; exact hk x hx hox⟩
theorem lev_take {L : Lk} (hf : Fit L) (hl : Lev L) {m t : Nat} (hm : m < L.ow.length) (ho : owAt L m = 255) : Lev (takeL L m t) :=
  ⟨hl.up, fun x hx hox => by rw [take_nx hf hm ho hx hox]; exact hl.edge x hx hox, fun x hx => by
    obtain ⟨s, hs, hr, e⟩ := hl.att x hx
    exact ⟨s, hs, reach_map (L' := takeL L m t) hf (fun y hy hoy => ⟨hoy, take_nx hf hm ho hy hoy⟩) hs hr, e⟩⟩

def waitL (L : Lk) (m t : Nat) : Lk := { L with on := L.on.set t m, rows := L.rows.set m (rg L.rows m ++ [(t : Int)]) }
theorem wait_on {L : Lk} {m t : Nat} (ht : t < L.on.length) (x : Nat) : onAt (waitL L m t) x = if x = t then (m : Int) else onAt L x := lg_set ht m x
theorem wait_nx {L : Lk} {m t : Nat} (ht : t < L.on.length) {x : Nat} (hx : x ≠ t) : nx (waitL L m t) x = nx L x := by
  unfold nx
  rw [wait_on ht, if_neg hx]; rfl
theorem wait_nxt {L : Lk} {m t : Nat} (ht : t < L.on.length) : nx (waitL L m t) t = (owAt L m).toNat := by
  unfold nx
  rw [wait_on ht, if_pos rfl]; rfl
theorem fit_wait {L : Lk} (hf : Fit L) {m t : Nat} (hm : m < L.ow.length) (ht : t < L.own.length) (hot : onAt L t = -1) (h0 : 0 ≤ owAt L m ∧ owAt L m < L.own.length) (hno : ¬ Go.Lk.Reach L (owAt L m).toNat t) : Fit (waitL L m t) := by
  have hlo : t < L.on.length := by rw [hf.lo]; exact ht
  have hmr : m < L.rows.length := by rw [hf.lr]; exact hm
  refine ⟨hf.n, hf.ln, by unfold waitL; rw [List.length_set]; exact hf.lo, hf.m, by unfold waitL; rw [List.length_set]; exact hf.lr, hf.ownr, hf.nowr, fun x hx => ?_, hf.owr, fun k hk => ?_, ?_⟩
  · by_cases e : x = t
    · subst e
      right
      rw [wait_on hlo, if_pos rfl]
      exact ⟨by omega, by show (m : Int) < (L.ow.length : Int); omega, h0.1, h0.2⟩
    · rw [wait_on hlo, if_neg e]; exact hf.onr x hx
  · have hr := hf.row k hk
    have hrow : rowAt (waitL L m t) k = if k = m then rg L.rows m ++ [(t : Int)] else rowAt L k := rg_set hmr _ k
    rw [hrow]
    have hmem : ∀ z : Int, (0 ≤ z ∧ z < (waitL L m t).own.length ∧ onAt (waitL L m t) z.toNat = k) ↔ ((0 ≤ z ∧ z < L.own.length ∧ onAt L z.toNat = k) ∨ (z = t ∧ k = m)) := fun z => by
      rw [wait_on hlo]
      show (0 ≤ z ∧ z < (L.own.length : Int) ∧ _) ↔ _
      by_cases e : z.toNat = t
      · rw [if_pos e]
        constructor
        · rintro ⟨a, b, c⟩; right; omega
        · rintro (⟨a, b, c⟩ | ⟨a, b⟩)
          · rw [e, hot] at c; omega
          · omega
      · rw [if_neg e]
        constructor
        · exact .inl
        · rintro (h | ⟨a, b⟩)
          · exact h
          · omega
    by_cases e : k = m
    · subst e
      rw [if_pos rfl]
      have hnot : (t : Int) ∉ rg L.rows k := fun h => by
        have := ((hr.2 t).1 h).2.2
        rw [show ((t : Int)).toNat = t by omega, hot] at this; omega
      refine ⟨?_, fun z => ?_⟩
      · rw [List.nodup_append]
        refine ⟨hr.1, by simp, fun a ha b hb => ?_⟩
        rw [List.mem_singleton] at hb
        subst hb
        rintro rfl; exact hnot ha
      · rw [List.mem_append, List.mem_singleton, hmem z]
        have h2 := hr.2 z
        constructor
        · rintro (h | h)
          · exact .inl (h2.1 h)
          · exact .inr ⟨h, rfl⟩
        · rintro (h | ⟨h, _⟩)
          · exact .inl (h2.2 h)
          · exact .inr h
    · rw [if_neg e]
      refine ⟨hr.1, fun z => ?_⟩
      rw [hmem z, hr.2 z]
      exact ⟨.inl, fun h => h.resolve_right fun hh => e hh.2⟩
  · obtain ⟨rk, hk⟩ := hf.rank
    classical
    refine ⟨fun x => if Go.Lk.Reach L x t then rk x + rk (owAt L m).toNat + 1 else rk x, fun x hx hox => ?_⟩
    by_cases e : x = t
    · subst e
      rw [wait_nxt hlo]; dsimp only; rw [if_neg hno, if_pos .refl]; omega
    · rw [wait_nx hlo e]
      rw [wait_on hlo, if_neg e] at hox
      have h1 := hk x hx hox
      dsimp only
      by_cases hr : Go.Lk.Reach L (nx L x) t
      · rw [if_pos hr, if_pos (reach_cons hox hr)]; omega
      · rw [if_neg hr]
        split <;> omega
theorem near_wait {L : Lk} (hf : Fit L) (hl : Lev L) {m t : Nat} (ht : t < L.own.length) (hot : onAt L t = -1) : Near (waitL L m t) L.own.length t := by
  have hlo : t < L.on.length := by rw [hf.lo]; exact ht
  refine ⟨hl.up, fun x hx hxk hxt hox => ?_, fun x hx => ?_⟩
  · rw [wait_nx hlo hxt]
    rw [wait_on hlo, if_neg hxt] at hox
    exact hl.edge x hx hox
  · obtain ⟨s, hs, hr, e⟩ := hl.att x hx
    refine ⟨s, hs, reach_map hf (fun y hy hoy => ?_) hs hr, e⟩
    have hyt : y ≠ t := by rintro rfl; omega
    rw [wait_on hlo, if_neg hyt]
    exact ⟨hoy, wait_nx hlo hyt⟩
end Go.Lk
