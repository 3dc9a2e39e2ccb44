/-
  Delta lists: both comparisons; a new list; awake.
-/
import Derived.Test.YtfphgcplpokigaaDeltaD
import Derived.Test.YtfphgcplpokigaaDeltaE
import Derived.Test.YtfphgcplpokigaaDeltaF
namespace Go.Proofs.Ytfphgcplpokigaa
open Go.RowKit Go.Sx Go.Dl

def Drawn (v : Value) (w : World) (e : Ending) (w' : World) : Prop := e = .returned v ∧ ∃ n, w' = w.drewN n
theorem ints_next {l m : List Int} (hlen : l.length = m.length) {k : Nat} (hk : k < l.length) (h : l.take k = m.take k) (e : l.getD k 0 = m.getD k 0) : l.take (k + 1) = m.take (k + 1) := by
  rw [List.take_succ_eq_append_getElem hk, List.take_succ_eq_append_getElem (by omega), h]
  have e1 : l.getD k 0 = l[k] := by simp [List.getD, hk]
  have e2 : m.getD k 0 = m[k] := by simp [List.getD, show k < m.length by omega]
  rw [← e1, ← e2, e]

theorem ints (v u : Value) (l m : List Int) (w : World) (h : RdN .i64 w v l) (hm : RdN .i64 w u m) :
    Calls Try.prog 33 #[v, u] w (Drawn (.bool (decide (l = m))) w) := by
  obtain ⟨a, cap, b, off, rfl, hcap, hbig, ha, hc⟩ := h
  obtain ⟨la, lcap, lb, loff, rfl, hlcap, hlbig, hla, hlc⟩ := hm
  unfold maxLen at hbig hlbig
  by_cases hlen : l.length = m.length
  · have hb : ((l.length : Int) != (m.length : Int)) = false := by simp [hlen]
    have hlen' := hid hlen
    clear hlen
    go_enter Try.func33, Try.ntmps33
    go_wp2_with fail
    go_loopw [5] (fun i wr => ∃ k n : Nat, k ≤ l.length ∧ i = .int .i64 k ∧ l.take k = m.take k ∧ wr = w.drewN n) (fun i _ => l.length - (intOf i).toNat)
    case atStart => exact ⟨0, 0, Nat.zero_le _, rfl, rfl, rfl⟩
    case round =>
      obtain ⟨k, n, hk, rfl, heq, rfl⟩ := hrel
      have heq := hid heq
      by_cases hlt : k < l.length
      · have hlt2 : k < m.length := by have := hlen'.out; omega
        obtain rfl := ha (by intro h; simp [h] at hlt)
        obtain rfl := hla (by intro h; simp [h] at hlt2)
        have c1 := hc k hlt
        have c2 := hlc k hlt2
        have hnext := hid (fun e => ints_next hlen'.out hlt heq.out e)
        have hne : Hid (l.getD k 0 ≠ m.getD k 0 → l ≠ m) := fun h e => h (by rw [e])
        generalize l.getD k 0 = x at c1 hnext hne
        generalize m.getD k 0 = y at c2 hnext hne
        clear hc hlc ha hla
        by_cases hxy : x = y
        · have hb2 : (x != y) = false := by simp [hxy]
          have hxy := hid hxy
          go_wp2_with fail
          go_quiet (fail)
          go_wp2
          go_roundw
          case rel => exact ⟨k + 1, _, by omega, by go_num, hnext.out hxy.out, rfl⟩
          case measure => simp [intOf]; omega
        · have hb2 : (x != y) = true := by simp [hxy]
          have hd : decide (l = m) = false := decide_eq_false (hne.out hxy)
          go_wp2_with fail
          go_quiet (fail)
          go_wp2
          go_ret
          exact ⟨by rw [hd]; rfl, n + nq, by simp⟩
      · have hd : decide (l = m) = true := decide_eq_true (by have h1 := heq.out; rw [List.take_of_length_le (by omega), List.take_of_length_le (by have := hlen'.out; omega)] at h1; exact h1)
        clear hc hlc ha hla
        go_wp2_with fail
        go_ret
        exact ⟨by rw [hd]; rfl, _, rfl⟩
  · have hb : ((l.length : Int) != (m.length : Int)) = true := by simp; omega
    have hd : decide (l = m) = false := decide_eq_false (fun e => hlen (by rw [e]))
    clear hc hlc ha hla
    go_enter Try.func33, Try.ntmps33
    go_wp2_with fail
    go_ret
    exact ⟨by rw [hd]; rfl, 0, rfl⟩

theorem cks_next {l m : List Ck} (hlen : l.length = m.length) {k : Nat} (hk : k < l.length) (h : l.take k = m.take k) (e : l.getD k (0, 0) = m.getD k (0, 0)) : l.take (k + 1) = m.take (k + 1) := by
  rw [List.take_succ_eq_append_getElem hk, List.take_succ_eq_append_getElem (by omega), h]
  have e1 : l.getD k (0, 0) = l[k] := by simp [List.getD, hk]
  have e2 : m.getD k (0, 0) = m[k] := by simp [List.getD, show k < m.length by omega]
  rw [← e1, ← e2, e]
theorem rdR_cks {w : World} {v : Value} {l : List Ck} (h : RdR w v l) : ∃ a cap b off, v = .slice a l.length cap ∧ l.length ≤ 9223372036854775807 ∧ (l ≠ [] → a = some ⟨b, off, none⟩) ∧ ∀ k, k < l.length → w.cell? ⟨b, off + k * 2, none⟩ = some (.int .i64 (l.getD k (0, 0)).1) ∧ w.cell? ⟨b, off + k * 2 + 1, none⟩ = some (.int .i64 (l.getD k (0, 0)).2) := by
  obtain ⟨a, cap, b, off, h1, h2, h3, h4, h5⟩ := h
  refine ⟨a, cap, b, off, h1, by unfold maxLen at h3; omega, h4, fun k hk => ⟨?_, ?_⟩⟩
  · exact h5 (k * 2) _ (by have := cellsOf_at (E := encCk) (l := l) (k := k) (c := 0) hk (by decide); rw [Nat.add_zero] at this; rw [this]; rfl)
  · have := h5 (k * 2 + 1) _ (by rw [cellsOf_at (E := encCk) (l := l) (k := k) (c := 1) hk (by decide)]; rfl)
    rwa [← Nat.add_assoc] at this

set_option maxHeartbeats 4000000 in
theorem delSame (v u : Value) (l m : List Ck) (w : World) (h : RdR w v l) (hm : RdR w u m) :
    Calls Try.prog 29 #[v, u] w (Drawn (.bool (decide (l = m))) w) := by
  obtain ⟨a, cap, b, off, rfl, hbig, ha, hc⟩ := rdR_cks h
  obtain ⟨la, lcap, lb, loff, rfl, hlbig, hla, hlc⟩ := rdR_cks hm
  clear h hm
  by_cases hlen : l.length = m.length
  · have hb : ((l.length : Int) != (m.length : Int)) = false := by simp [hlen]
    have hlen' := hid hlen
    clear hlen
    go_enter Try.func29, Try.ntmps29
    go_wp2_with fail
    go_loopw [5] (fun i wr => ∃ k n : Nat, k ≤ l.length ∧ i = .int .i64 k ∧ l.take k = m.take k ∧ wr = w.drewN n) (fun i _ => l.length - (intOf i).toNat)
    case atStart => exact ⟨0, 0, Nat.zero_le _, rfl, rfl, rfl⟩
    case round =>
      obtain ⟨k, n, hk, rfl, heq, rfl⟩ := hrel
      have heq := hid heq
      by_cases hlt : k < l.length
      · have hlt2 : k < m.length := by have := hlen'.out; omega
        obtain rfl := ha (by intro h; simp [h] at hlt)
        obtain rfl := hla (by intro h; simp [h] at hlt2)
        have c1 := (hc k hlt).1
        have c2 := (hlc k hlt2).1
        have c3 := (hc k hlt).2
        have c4 := (hlc k hlt2).2
        have hnext := hid (fun e => cks_next hlen'.out hlt heq.out e)
        have hne : Hid (l.getD k (0, 0) ≠ m.getD k (0, 0) → l ≠ m) := fun h e => h (by rw [e])
        generalize l.getD k (0, 0) = x at c1 c3 hnext hne
        generalize m.getD k (0, 0) = y at c2 c4 hnext hne
        clear hc hlc ha hla
        obtain ⟨x1, x2⟩ := x
        obtain ⟨y1, y2⟩ := y
        dsimp only at c1 c2 c3 c4
        by_cases hxy : x1 = y1
        · subst hxy
          by_cases hxy2 : x2 = y2
          · subst hxy2
            go_wp2_with fail
            go_quiet (fail)
            go_wp2
            go_roundw
            case rel => exact ⟨k + 1, _, by omega, by go_num, hnext.out trivial, rfl⟩
            case measure => simp [intOf]; omega
          · have hb2 : (x2 == y2) = false := by simp [hxy2]
            have hd : decide (l = m) = false := decide_eq_false (hne.out fun e => hxy2 (Prod.mk.inj e).2)
            go_wp2_with fail
            go_quiet (fail)
            go_wp2
            go_ret
            exact ⟨by rw [hd]; rfl, n + nq, by simp⟩
        · have hb2 : (x1 == y1) = false := by simp [hxy]
          have hd : decide (l = m) = false := decide_eq_false (hne.out fun e => hxy (Prod.mk.inj e).1)
          go_wp2_with fail
          go_quiet (fail)
          go_wp2
          go_ret
          exact ⟨by rw [hd]; rfl, n + nq, by simp⟩
      · have hd : decide (l = m) = true := decide_eq_true (by have h1 := heq.out; rw [List.take_of_length_le (by omega), List.take_of_length_le (by have := hlen'.out; omega)] at h1; exact h1)
        clear hc hlc ha hla
        go_wp2_with fail
        go_ret
        exact ⟨by rw [hd]; rfl, _, rfl⟩
  · have hb : ((l.length : Int) != (m.length : Int)) = true := by simp; omega
    have hd : decide (l = m) = false := decide_eq_false (fun e => hlen (by rw [e]))
    clear hc hlc ha hla
    go_enter Try.func29, Try.ntmps29
    go_wp2_with fail
    go_ret
    exact ⟨by rw [hd]; rfl, 0, rfl⟩

def zeroL : Array Value := #[.slice none 0 0, .bool false, .bool false, .bool false, .bool false, .bool false, .bool false, .bool false, .bool false, .bool false, .bool false, .bool false, .bool false, .bool false, .bool false, .bool false, .bool false, .bool false, .bool false, .bool false, .bool false, .bool false, .bool false, .bool false, .bool false, .bool false, .bool false, .bool false, .bool false, .bool false, .bool false, .bool false, .bool false, .bool false, .bool false, .bool false, .bool false, .bool false, .bool false, .bool false, .bool false, .bool false, .bool false, .bool false, .bool false, .bool false, .bool false, .bool false, .bool false, .bool false, .bool false, .bool false, .bool false, .bool false, .bool false, .bool false, .bool false, .bool false, .bool false, .bool false, .bool false, .bool false, .bool false, .bool false, .bool false, .bool false, .bool false, .bool false, .bool false, .bool false, .bool false, .bool false, .bool false, .bool false, .bool false, .bool false, .bool false, .bool false, .bool false, .bool false, .bool false, .bool false, .bool false, .bool false, .bool false, .bool false, .bool false, .bool false, .bool false, .bool false, .bool false, .bool false, .bool false, .bool false, .bool false, .bool false, .bool false, .bool false, .bool false, .bool false, .bool false, .bool false, .bool false, .bool false, .bool false, .bool false, .bool false, .bool false, .bool false, .bool false, .bool false, .bool false, .bool false, .bool false, .bool false, .bool false, .bool false, .bool false, .bool false, .bool false, .bool false, .bool false, .bool false, .bool false, .bool false, .bool false, .bool false, .bool false, .bool false, .bool false, .bool false, .bool false, .bool false, .bool false, .bool false, .bool false, .bool false, .bool false, .bool false, .bool false, .bool false, .bool false, .bool false, .bool false, .bool false, .bool false, .bool false, .bool false, .bool false, .bool false, .bool false, .bool false, .bool false, .bool false, .bool false, .bool false, .bool false, .bool false, .bool false, .bool false, .bool false, .bool false, .bool false, .bool false, .bool false, .bool false, .bool false, .bool false, .bool false, .bool false, .bool false, .bool false, .bool false, .bool false, .bool false, .bool false, .bool false, .bool false, .bool false, .bool false, .bool false, .bool false, .bool false, .bool false, .bool false, .bool false, .bool false, .bool false, .bool false, .bool false, .bool false, .bool false, .bool false, .bool false, .bool false, .bool false, .bool false, .bool false, .bool false, .bool false, .bool false, .bool false, .bool false, .bool false, .bool false, .bool false, .bool false, .bool false, .bool false, .bool false, .bool false, .bool false, .bool false, .bool false, .bool false, .bool false, .bool false, .bool false, .bool false, .bool false, .bool false, .bool false, .bool false, .bool false, .bool false, .bool false, .bool false, .bool false, .bool false, .bool false, .bool false, .bool false, .bool false, .bool false, .bool false, .bool false, .bool false, .bool false, .bool false, .bool false, .bool false, .bool false, .bool false, .bool false, .bool false, .bool false, .bool false, .bool false, .bool false, .bool false, .bool false, .bool false, .bool false, .bool false, .bool false, .bool false, .bool false]
set_option maxRecDepth 100000 in
theorem zeroList (w : World) : Sem.run Try.prog (zeroValue 27) w = .ok (.agg zeroL) w := by kernel_rfl
theorem zeroL_size : zeroL.size = 257 := by kernel_rfl
theorem zeroL_ne : zeroL ≠ #[] := fun h => by have := zeroL_size; rw [h] at this; exact absurd this (by decide)
theorem zeroL_list : zeroL.toList = [.slice none 0 0] ++ (runsOf []).map Value.bool := by kernel_rfl
theorem delP_new {w0 w : World} {F : HP} (hs : Sat w0 w F) (t : TypeId) : Sat w0 (w.alloc (.cells zeroL t)) (delP w.heap.size [] * F) := by
  have h1 := hs.alloc zeroL t
  rw [zeroL_list, pts_append] at h1
  have h2 : Sat w0 (w.alloc (.cells zeroL t)) (pts w.heap.size 0 [.slice none 0 0] * (pts w.heap.size 1 ((runsOf []).map Value.bool) * F)) := h1.perm (by simp only [List.length_singleton, Nat.zero_add]; ac_rfl)
  exact delP_of h2 rfl rfl
end Go.Proofs.Ytfphgcplpokigaa
