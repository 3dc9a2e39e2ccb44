/-
  The walk of Ints.
-/
import Derived.Test.YtigjeflofbdahaaWaitD
namespace Go.Proofs.Ytigjeflofbdahaa
open Go.RowKit Go.Sx

theorem ints_next {l m : List Int} (hlen : l.length = m.length) {k : Nat} (hk : k < l.length) (h : l.take k = m.take k) (e : l.getD k 0 = m.getD k 0) : l.take (k + 1) = m.take (k + 1) := by
  rw [List.take_succ_eq_append_getElem hk, List.take_succ_eq_append_getElem (by omega), h]
  have e1 : l.getD k 0 = l[k] := by simp [List.getD, hk]
  have e2 : m.getD k 0 = m[k] := by simp [List.getD, show k < m.length by omega]
  rw [← e1, ← e2, e]

theorem ints (v u : Value) (l m : List Int) (w : World) (h : RdN .i64 w v l) (hm : RdN .i64 w u m) :
    Calls Try.prog 13 #[v, u] w (Drawn (.bool (decide (l = m))) w) := by
  obtain ⟨a, cap, b, off, rfl, hcap, hbig, ha, hc⟩ := h
  obtain ⟨la, lcap, lb, loff, rfl, hlcap, hlbig, hla, hlc⟩ := hm
  unfold maxLen at hbig hlbig
  by_cases hlen : l.length = m.length
  · have hb : ((l.length : Int) != (m.length : Int)) = false := by simp [hlen]
    have hlen' := hid hlen
    clear hlen
    go_enter Try.func13, Try.ntmps13
    go_wp2_with fail
    go_loopw [5] (fun i wr => ∃ k n : Nat, k ≤ l.length ∧ i = .int .i64 k ∧ l.take k = m.take k ∧ wr = w.drewN n) (fun i _ => l.length - (intOf i).toNat)
    case atStart => exact ⟨0, 0, Nat.zero_le _, rfl, rfl, rfl⟩
    case round =>
      obtain ⟨k, n, hk, rfl, heq, rfl⟩ := hrel
      have heq := hid heq
      by_cases hlt : k < l.length
      · have hlt2 : k < m.length := by have := hlen'.out; omega
        obtain rfl := ha (by intro h; simp [h] at hlt)
        obtain rfl := hla (by intro h; simp [h] at hlt2)
        have c1 := hc k hlt
        have c2 := hlc k hlt2
        have hnext := hid (fun e => ints_next hlen'.out hlt heq.out e)
        have hne : Hid (l.getD k 0 ≠ m.getD k 0 → l ≠ m) := fun h e => h (by rw [e])
        generalize l.getD k 0 = x at c1 hnext hne
        generalize m.getD k 0 = y at c2 hnext hne
        clear hc hlc ha hla
        by_cases hxy : x = y
        · have hb2 : (x != y) = false := by simp [hxy]
          have hxy := hid hxy
          go_wp2_with fail
          go_quiet (fail)
          go_wp2
          go_roundw
          case rel => exact ⟨k + 1, _, by omega, by go_num, hnext.out hxy.out, rfl⟩
          case measure => simp [intOf]; omega
        · have hb2 : (x != y) = true := by simp [hxy]
          have hd : decide (l = m) = false := decide_eq_false (hne.out hxy)
          go_wp2_with fail
          go_quiet (fail)
          go_wp2
          go_ret
          exact ⟨by rw [hd]; rfl, n + nq, by simp⟩
      · have hd : decide (l = m) = true := decide_eq_true (by have h1 := heq.out; rw [List.take_of_length_le (by omega), List.take_of_length_le (by have := hlen'.out; omega)] at h1; exact h1)
        clear hc hlc ha hla
        go_wp2_with fail
        go_ret
        exact ⟨by rw [hd]; rfl, _, rfl⟩
  · have hb : ((l.length : Int) != (m.length : Int)) = true := by simp; omega
    have hd : decide (l = m) = false := decide_eq_false (fun e => hlen (by rw [e]))
    clear hc hlc ha hla
    go_enter Try.func13, Try.ntmps13
    go_wp2_with fail
    go_ret
    exact ⟨by rw [hd]; rfl, 0, rfl⟩

theorem intsS (v u : Value) (l m : List Int) (w0 w : World) (P : HP) (hs : Sat w0 w P) (h : RdN .i64 w v l) (hm : RdN .i64 w u m) :
    Calls Try.prog 13 #[v, u] w (RetV w0 (.bool (decide (l = m))) P) :=
  (ints v u l m w h hm).mono (by rintro e w' ⟨rfl, n, rfl⟩; exact ⟨rfl, hs.drewN n⟩)
end Go.Proofs.Ytigjeflofbdahaa
