/-
  The reference's list of clocks: Left, From, Put, Cancel, Tick.
-/
import Derived.Test.YtfphgcplpokigaaDeltaI
namespace Go.Proofs.Ytfphgcplpokigaa
open Go.RowKit Go.Sx Go.Dl

def rlP (b : Nat) (L : List Ck) : HP := ex fun v => pts b 0 [v] * recsP v L
section
variable {w0 w : World} {P F F1 F2 : HP} {b : Nat} {L D : List Ck} {v : Value}
theorem rlP_out (hs : Sat w0 w (rlP b L * F)) : ∃ a c, Sat w0 w (pts b 0 [.slice a L.length c] * (recsP (.slice a L.length c) L * F)) := by
  obtain ⟨v, hs⟩ := hs.ex_out
  obtain ⟨a, c, rfl⟩ := (hs.pull (Q := recsP v L)).recs_form
  exact ⟨a, c, hs.perm (by ac_rfl)⟩
theorem rlP_of (hs : Sat w0 w P) [h0 : PullP P b 0 [v] F1] [h1 : PullR F1 encCk v D F2] [h3 : Frm F2 F] (hD : D = L) : Sat w0 w (rlP b L * F) := by
  subst hD
  have h6 : Sat w0 w ((pts b 0 [v] * recsP v D) * F2) := hs.perm (by rw [h0.eq, h1.eq]; ac_rfl)
  exact Sat.ex_in (f := fun v => pts b 0 [v] * recsP v D) v (h3.out h6)
end

set_option maxRecDepth 100000 in
set_option maxHeartbeats 4000000 in
theorem refLeft (b : Nat) (S : List Ck) (id : Int) (w0 w : World) (F : HP) (hs : Sat w0 w (rlP b S * F)) (hnd : (S.map Prod.fst).Nodup) (hl : S.length ≤ 256) :
    Calls Try.prog 46 #[.pointer (some ⟨b, 0, none⟩), .int .i64 id] w (RetV w0 (.int .i64 (Go.Dl.leftOf S id)) (rlP b S * F)) := by
  have hnd := hid hnd
  obtain ⟨a, c, hs⟩ := rlP_out hs
  go_enter Try.func46, Try.ntmps46
  go_wp2_with fail
  go_loopw [5] (fun i wr => ∃ k : Nat, k ≤ S.length ∧ i = .int .i64 k ∧ (∀ y ∈ S.take k, ¬ y.1 = id) ∧ Sat w0 wr (pts b 0 [.slice a S.length c] * (recsP (.slice a S.length c) S * F))) (fun i _ => S.length - (intOf i).toNat)
  case atStart => exact ⟨0, Nat.zero_le _, rfl, by simp, hs⟩
  case round =>
    obtain ⟨k, hk, rfl, hno, hs2⟩ := hrel
    clear hs
    have Hno := hid hno
    clear hno
    by_cases hlt : k < S.length
    · obtain ⟨g, off, rfl⟩ := hs2.someR (E := encCk) a S.length c (show 0 < S.length by omega)
      haveI : Lt k S.length := ⟨hlt⟩
      have hmem : S.getD k (0, 0) ∈ S := by simp [List.getD, hlt]
      have Ht1 : Hid (S.take (k + 1) = S.take k ++ [S.getD k (0, 0)]) := by
        rw [Hid, List.take_add_one, List.getD_eq_getElem?_getD, List.getElem?_eq_getElem hlt]; rfl
      have hlm := left_mem hnd.out hmem
      obtain ⟨⟨i1, l1⟩, hy⟩ : ∃ y, S.getD k (0, 0) = y := ⟨_, rfl⟩
      haveI e0 : EncAt (S.getD k (0, 0)) 0 (.int .i64 i1) := ⟨by rw [hy]; rfl⟩
      haveI e1 : EncAt (S.getD k (0, 0)) 1 (.int .i64 l1) := ⟨by rw [hy]; rfl⟩
      rw [hy] at hlm Ht1
      dsimp only at hlm
      have Hlm := hid hlm
      clear hlm hy hmem
      by_cases hi : i1 = id
      · subst hi
        go_wp2_with fail
        go_ret
        refine ⟨?_, rlP_of own_it rfl⟩
        rw [Hlm.out]; rfl
      · have hb : (i1 == id) = false := by simp [hi]
        go_wp2_with fail
        go_roundw
        case rel =>
          refine ⟨k + 1, by omega, by go_num, ?_, own_left⟩
          rw [Ht1.out]
          intro y hy
          rcases List.mem_append.1 hy with h | h
          · exact Hno.out y h
          · rw [List.mem_singleton] at h; subst h; exact hi
        case measure => simp [intOf]; omega
    · have Hl0 : Hid (Go.Dl.leftOf S id = 0) := left_none fun h => by
        obtain ⟨x, hx, e⟩ := List.mem_map.1 h
        have h2 := Hno.out x
        rw [List.take_of_length_le (by omega)] at h2
        exact h2 hx e
      go_wp2_with fail
      go_ret
      refine ⟨?_, rlP_of own_it rfl⟩
      rw [Hl0.out]; rfl

set_option maxRecDepth 100000 in
set_option maxHeartbeats 4000000 in
theorem refFrom (b : Nat) (S : List Ck) (id : Int) (w0 w : World) (F : HP) (hs : Sat w0 w (rlP b S * F)) (hl : S.length ≤ 256) :
    Calls Try.prog 48 #[.pointer (some ⟨b, 0, none⟩), .int .i64 id] w (RetV w0 (.int .i64 (fromOf S id)) (rlP b S * F)) := by
  obtain ⟨a, c, hs⟩ := rlP_out hs
  go_enter Try.func48, Try.ntmps48
  go_wp2_with fail
  go_loopw [5, 6] (fun n i wr => ∃ (k : Nat), k ≤ S.length ∧ i = .int .i64 k ∧ n = .int .i64 (fromOf (S.take k) id) ∧ Sat w0 wr (pts b 0 [.slice a S.length c] * (recsP (.slice a S.length c) S * F))) (fun _ i _ => S.length - (intOf i).toNat)
  case atStart => exact ⟨0, Nat.zero_le _, rfl, rfl, hs⟩
  case round =>
    obtain ⟨k, hk, rfl, rfl, hs2⟩ := hrel
    clear hs
    have hn := from_le (S.take k) id
    rw [List.length_take] at hn
    have hn1 : fromOf (S.take k) id ≤ 256 := by omega
    have hn0 := hn.1
    clear hn
    by_cases hlt : k < S.length
    · obtain ⟨g, off, rfl⟩ := hs2.someR (E := encCk) a S.length c (show 0 < S.length by omega)
      haveI : Lt k S.length := ⟨hlt⟩
      have Ht1 : Hid (fromOf (S.take (k + 1)) id = fromOf (S.take k) id + if id ≤ (S.getD k (0, 0)).1 then 1 else 0) := by
        rw [Hid, List.take_add_one, List.getElem?_eq_getElem hlt, List.getD_eq_getElem?_getD, List.getElem?_eq_getElem hlt]; exact from_snoc _ _ id
      obtain ⟨⟨i1, l1⟩, hy⟩ : ∃ y, S.getD k (0, 0) = y := ⟨_, rfl⟩
      haveI e0 : EncAt (S.getD k (0, 0)) 0 (.int .i64 i1) := ⟨by rw [hy]; rfl⟩
      rw [hy] at Ht1
      generalize fromOf (S.take k) id = m at *
      dsimp only at Ht1
      clear hy
      by_cases hi : id ≤ i1
      · rw [if_pos hi] at Ht1
        have hd : decide (id ≤ i1) = true := by simp [hi]
        go_wp2_with fail
        go_roundw
        case rel => exact ⟨k + 1, by omega, by go_num, by rw [Ht1.out], own_left⟩
        case measure => simp [intOf]; omega
      · rw [if_neg hi] at Ht1
        have hd : decide (id ≤ i1) = false := by simp [hi]
        go_wp2_with fail
        go_roundw
        case rel => exact ⟨k + 1, by omega, by go_num, by rw [Ht1.out, Int.add_zero], own_left⟩
        case measure => simp [intOf]; omega
    · have hkS : Hid (S.take k = S) := List.take_of_length_le (by omega)
      rw [hkS.out] at *
      go_wp2_with fail
      go_ret
      exact ⟨rfl, rlP_of own_it rfl⟩

end Go.Proofs.Ytfphgcplpokigaa
