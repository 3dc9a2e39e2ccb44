/-
  Contracts of the mail queue's functions.
-/
import Derived.Test.YtbnfkfbebnkdnaaMail
import Derived.BigQuiet
namespace Go.Proofs.Ytbnfkfbebnkdnaa
open Go.RowKit Go.Sx

theorem mqP_new {w0 w : World} {F : HP} (room : Nat) (hs : Sat w0 w F) (t : TypeId) :
    Sat w0 (w.alloc (.cells #[.int .u32 0, .int .u32 0, .int .u32 0, .int .u32 0, .int .u32 0, .int .u32 0, .int .u32 0, .int .u32 0, .int .u32 0, .int .u32 0, .int .u32 0, .int .u32 0, .int .u32 0, .int .u32 0, .int .u32 0, .int .u32 0, .int .u32 0, .int .u32 0, .int .u32 0, .int .u32 0, .int .u32 0, .int .u32 0, .int .u32 0, .int .u32 0, .int .u32 0, .int .u32 0, .int .u32 0, .int .u32 0, .int .u32 0, .int .u32 0, .int .u32 0, .int .u32 0, .int .u32 0, .int .u32 0, .int .u32 0, .int .u32 0, .int .u32 0, .int .u32 0, .int .u32 0, .int .u32 0, .int .u32 0, .int .u32 0, .int .u32 0, .int .u32 0, .int .u32 0, .int .u32 0, .int .u32 0, .int .u32 0, .int .u32 0, .int .u32 0, .int .u32 0, .int .u32 0, .int .u32 0, .int .u32 0, .int .u32 0, .int .u32 0, .int .u32 0, .int .u32 0, .int .u32 0, .int .u32 0, .int .u32 0, .int .u32 0, .int .u32 0, .int .u32 0, .int .i64 0, .int .i64 0, .int .i64 room, .slice none 0 0, .slice none 0 0, .int .u32 0, .int .u32 0, .int .u32 0, .int .u32 0, .int .u32 0, .int .u32 0, .int .u32 0, .int .u32 0, .int .u32 0, .int .u32 0, .int .u32 0, .int .u32 0, .int .u32 0, .int .u32 0, .int .u32 0, .int .u32 0, .int .u32 0, .int .u32 0, .int .u32 0, .int .u32 0, .int .u32 0, .int .u32 0, .int .u32 0, .int .u32 0, .int .u32 0, .int .u32 0, .int .u32 0, .int .u32 0, .int .u32 0, .int .u32 0, .int .u32 0, .int .u32 0, .int .u32 0, .int .u32 0, .int .u32 0, .int .u32 0, .int .u32 0, .int .u32 0, .int .u32 0, .int .u32 0, .int .u32 0, .int .u32 0, .int .u32 0, .int .u32 0, .int .u32 0, .int .u32 0, .int .u32 0, .int .u32 0, .int .u32 0, .int .u32 0, .int .u32 0, .int .u32 0, .int .u32 0, .int .u32 0, .int .u32 0, .int .u32 0, .int .u32 0, .int .u32 0, .int .u32 0, .int .u32 0, .int .u32 0, .int .u32 0, .int .u32 0, .int .u32 0] t)) (mqP w.heap.size ⟨List.replicate 64 0, 0, 0, room, [], [], List.replicate 64 0⟩ * F) := by
  have h1 : Sat w0 _ (pts w.heap.size 0 ((List.replicate 64 0).map (Value.int .u32) ++ ([.int .i64 0, .int .i64 0, .int .i64 room] ++ ([.slice none 0 0] ++ ([.slice none 0 0] ++ (List.replicate 64 0).map (Value.int .u32))))) * F) := hs.alloc #[.int .u32 0, .int .u32 0, .int .u32 0, .int .u32 0, .int .u32 0, .int .u32 0, .int .u32 0, .int .u32 0, .int .u32 0, .int .u32 0, .int .u32 0, .int .u32 0, .int .u32 0, .int .u32 0, .int .u32 0, .int .u32 0, .int .u32 0, .int .u32 0, .int .u32 0, .int .u32 0, .int .u32 0, .int .u32 0, .int .u32 0, .int .u32 0, .int .u32 0, .int .u32 0, .int .u32 0, .int .u32 0, .int .u32 0, .int .u32 0, .int .u32 0, .int .u32 0, .int .u32 0, .int .u32 0, .int .u32 0, .int .u32 0, .int .u32 0, .int .u32 0, .int .u32 0, .int .u32 0, .int .u32 0, .int .u32 0, .int .u32 0, .int .u32 0, .int .u32 0, .int .u32 0, .int .u32 0, .int .u32 0, .int .u32 0, .int .u32 0, .int .u32 0, .int .u32 0, .int .u32 0, .int .u32 0, .int .u32 0, .int .u32 0, .int .u32 0, .int .u32 0, .int .u32 0, .int .u32 0, .int .u32 0, .int .u32 0, .int .u32 0, .int .u32 0, .int .i64 0, .int .i64 0, .int .i64 room, .slice none 0 0, .slice none 0 0, .int .u32 0, .int .u32 0, .int .u32 0, .int .u32 0, .int .u32 0, .int .u32 0, .int .u32 0, .int .u32 0, .int .u32 0, .int .u32 0, .int .u32 0, .int .u32 0, .int .u32 0, .int .u32 0, .int .u32 0, .int .u32 0, .int .u32 0, .int .u32 0, .int .u32 0, .int .u32 0, .int .u32 0, .int .u32 0, .int .u32 0, .int .u32 0, .int .u32 0, .int .u32 0, .int .u32 0, .int .u32 0, .int .u32 0, .int .u32 0, .int .u32 0, .int .u32 0, .int .u32 0, .int .u32 0, .int .u32 0, .int .u32 0, .int .u32 0, .int .u32 0, .int .u32 0, .int .u32 0, .int .u32 0, .int .u32 0, .int .u32 0, .int .u32 0, .int .u32 0, .int .u32 0, .int .u32 0, .int .u32 0, .int .u32 0, .int .u32 0, .int .u32 0, .int .u32 0, .int .u32 0, .int .u32 0, .int .u32 0, .int .u32 0, .int .u32 0, .int .u32 0, .int .u32 0, .int .u32 0, .int .u32 0, .int .u32 0, .int .u32 0, .int .u32 0] t
  rw [pts_append, pts_append, pts_append, pts_append] at h1
  have h1 : Sat w0 _ (pts w.heap.size 0 ((List.replicate 64 0).map (Value.int .u32)) * (pts w.heap.size 64 [.int .i64 0, .int .i64 0, .int .i64 room] * (pts w.heap.size 67 [.slice none 0 0] * (pts w.heap.size 68 [.slice none 0 0] * pts w.heap.size 69 ((List.replicate 64 0).map (Value.int .u32))))) * F) := h1
  generalize w.heap.size = b at *
  have h2 := (h1.slice_nil 1).perm (by ac_rfl : _ = pts b 67 [.slice none 0 0] * (sliceP 1 (.slice none 0 0) 0 [] * (pts b 0 ((List.replicate 64 0).map (Value.int .u32)) * (pts b 64 [.int .i64 0, .int .i64 0, .int .i64 room] * (pts b 68 [.slice none 0 0] * pts b 69 ((List.replicate 64 0).map (Value.int .u32)))) * F)))
  have h3 := rowP_in (v := .slice none 0 0) (l := []) h2
  have h4 := (h3.slice_nil 1).perm (by ac_rfl : _ = pts b 68 [.slice none 0 0] * (sliceP 1 (.slice none 0 0) 0 [] * (pts b 0 ((List.replicate 64 0).map (Value.int .u32)) * (pts b 64 [.int .i64 0, .int .i64 0, .int .i64 room] * (rowP b 67 [] * pts b 69 ((List.replicate 64 0).map (Value.int .u32)))) * F)))
  have h5 := rowP_in (v := .slice none 0 0) (l := []) h4
  exact h5.perm (by unfold mqP; dsimp only [Int.natCast_zero]; ac_rfl)

theorem mqOk_new {room : Nat} (h : 1 ≤ room ∧ room ≤ 64) : MqOk ⟨List.replicate 64 0, 0, 0, room, [], [], List.replicate 64 0⟩ :=
  ⟨by simp, by simp, (by decide : 0 < 64), Nat.zero_le _, h.1, h.2, rowOk_nil, rowOk_nil, fun _ => rfl, fun _ => rfl⟩
theorem mailNew_no (u : Int) (w : World) (h : ¬ (1 ≤ u ∧ u ≤ 64)) :
    Calls Try.prog 40 #[.int .i64 u] w fun e w' => e = .returned (.tuple #[.pointer none, .int .i64 1]) ∧ w = w' := by
  by_cases h1 : u < 1
  · have d : decide (u < 1) = true := by simp [h1]
    go_enter Try.func40, Try.ntmps40
    go_wp2
    go_ret2
    exact ⟨rfl, rfl⟩
  · have d : decide (u < 1) = false := by simp; omega
    have d2 : decide ((64 : Int) < u) = true := by simp; omega
    go_enter Try.func40, Try.ntmps40
    go_wp2
    go_ret2
    exact ⟨rfl, rfl⟩
/-- The zero value of a queue, its cells. -/
def zeroQ : Array Value := #[.int .u32 0, .int .u32 0, .int .u32 0, .int .u32 0, .int .u32 0, .int .u32 0, .int .u32 0, .int .u32 0, .int .u32 0, .int .u32 0, .int .u32 0, .int .u32 0, .int .u32 0, .int .u32 0, .int .u32 0, .int .u32 0, .int .u32 0, .int .u32 0, .int .u32 0, .int .u32 0, .int .u32 0, .int .u32 0, .int .u32 0, .int .u32 0, .int .u32 0, .int .u32 0, .int .u32 0, .int .u32 0, .int .u32 0, .int .u32 0, .int .u32 0, .int .u32 0, .int .u32 0, .int .u32 0, .int .u32 0, .int .u32 0, .int .u32 0, .int .u32 0, .int .u32 0, .int .u32 0, .int .u32 0, .int .u32 0, .int .u32 0, .int .u32 0, .int .u32 0, .int .u32 0, .int .u32 0, .int .u32 0, .int .u32 0, .int .u32 0, .int .u32 0, .int .u32 0, .int .u32 0, .int .u32 0, .int .u32 0, .int .u32 0, .int .u32 0, .int .u32 0, .int .u32 0, .int .u32 0, .int .u32 0, .int .u32 0, .int .u32 0, .int .u32 0, .int .i64 0, .int .i64 0, .int .i64 0, .slice none 0 0, .slice none 0 0, .int .u32 0, .int .u32 0, .int .u32 0, .int .u32 0, .int .u32 0, .int .u32 0, .int .u32 0, .int .u32 0, .int .u32 0, .int .u32 0, .int .u32 0, .int .u32 0, .int .u32 0, .int .u32 0, .int .u32 0, .int .u32 0, .int .u32 0, .int .u32 0, .int .u32 0, .int .u32 0, .int .u32 0, .int .u32 0, .int .u32 0, .int .u32 0, .int .u32 0, .int .u32 0, .int .u32 0, .int .u32 0, .int .u32 0, .int .u32 0, .int .u32 0, .int .u32 0, .int .u32 0, .int .u32 0, .int .u32 0, .int .u32 0, .int .u32 0, .int .u32 0, .int .u32 0, .int .u32 0, .int .u32 0, .int .u32 0, .int .u32 0, .int .u32 0, .int .u32 0, .int .u32 0, .int .u32 0, .int .u32 0, .int .u32 0, .int .u32 0, .int .u32 0, .int .u32 0, .int .u32 0, .int .u32 0, .int .u32 0, .int .u32 0, .int .u32 0, .int .u32 0, .int .u32 0, .int .u32 0, .int .u32 0, .int .u32 0, .int .u32 0, .int .u32 0]
set_option maxRecDepth 100000 in
theorem zeroQueue (w : World) : Sem.run Try.prog (zeroValue 92) w = .ok (.agg zeroQ) w := by kernel_rfl
theorem zeroQ_size : zeroQ.size = 133 := by kernel_rfl
theorem zeroQ_ne : zeroQ ≠ #[] := fun h => by have := zeroQ_size; rw [h] at this; exact absurd this (by decide)
attribute [local simp, local go_sem] zeroQueue zeroQ_size zeroQ_ne
set_option maxRecDepth 100000 in
theorem mqP_new' {w0 w : World} {F : HP} (room : Nat) (u : Int) (e : (room : Int) = u) (hs : Sat w0 w F) (t : TypeId) :
    Sat w0 (w.alloc (.cells (zeroQ.setIfInBounds 66 (.int .i64 u)) t)) (mqP w.heap.size ⟨List.replicate 64 0, 0, 0, room, [], [], List.replicate 64 0⟩ * F) := by
  subst e
  exact mqP_new room hs t
theorem mailNew_yes (room : Nat) (u : Int) (e : (room : Int) = u) (w0 w : World) (F : HP) (hs : Sat w0 w F) (h : 1 ≤ u ∧ u ≤ 64) :
    Calls Try.prog 40 #[.int .i64 u] w (RetV w0 (.tuple #[.pointer (some ⟨w.heap.size, 0, none⟩), .int .i64 0]) (mqP w.heap.size ⟨List.replicate 64 0, 0, 0, room, [], [], List.replicate 64 0⟩ * F)) := by
  have d : decide (u < 1) = false := by simp; omega
  have d2 : decide ((64 : Int) < u) = false := by simp; omega
  have hs1 := mqP_new' room u e hs 92
  clear e
  go_enter Try.func40, Try.ntmps40
  go_wp2
  go_ret2
  exact ⟨rfl, hs1⟩

/-! What a queue answers, and has. -/
def Mq.sendT (lv : List Int) (q : Mq) : Int := if q.R ≠ [] then bestOf lv q.R else 255
def Mq.sendE (q : Mq) : Int := if q.R ≠ [] then 0 else if q.n = q.room then 7 else 0
def Mq.send (lv : List Int) (q : Mq) (v : Int) : Mq := if q.R ≠ [] then { q with R := q.R.erase (bestOf lv q.R) } else if q.n = q.room then q else q.push v
theorem mqOk_push {q : Mq} (h : MqOk q) (hn : q.n < q.room) (hr : q.R = []) (v : Int) : MqOk (q.push v) :=
  ⟨by simp [Mq.push, h.c], h.h, h.f, by simp [Mq.push]; omega, h.lo, h.hi, h.s, h.r, fun h' => h.full hn, fun _ => hr⟩
theorem mqOk_send {q : Mq} (h : MqOk q) (lv : List Int) (v : Int) : MqOk (q.send lv v) := by
  unfold Mq.send
  split
  · rename_i hr
    exact ⟨h.c, h.h, h.f, h.n, h.lo, h.hi, h.s, rowOk_erase h.r _, h.full, fun h' => absurd (h.some h') hr⟩
  · rename_i hr
    split
    · exact h
    · have := h.n
      exact mqOk_push h (by omega) (Decidable.of_not_not hr) v

theorem mailSend (b : Nat) (q : Mq) (v : Int) (lv : Value) (levels : List Int) (w0 w : World) (F : HP) (hs : Sat w0 w (mqP b q * F)) (hlv : RdN .i64 w lv levels) (hok : MqOk q) :
    Calls Try.prog 42 #[.pointer (some ⟨b, 0, none⟩), .int .u32 v, lv] w (RetV w0 (.tuple #[.int .i64 (q.sendT levels), .int .i64 q.sendE]) (mqP b (q.send levels v) * F)) := by
  obtain ⟨C, f, n, room, S, R, H⟩ := q
  have hs1 := hs.perm (by unfold mqP; ac_rfl : _ = rowP b 68 R * (pts b 0 (C.map (Value.int .u32)) * (pts b 64 [.int .i64 f, .int .i64 n, .int .i64 room] * (rowP b 67 S * pts b 69 (H.map (Value.int .u32)))) * F))
  have hr := hok.r
  have hn := hok.n
  have hhi := hok.hi
  dsimp only at hr hn hhi
  unfold Mq.sendT Mq.sendE Mq.send
  dsimp only
  by_cases h : R = []
  · subst h
    simp only [ne_eq, not_true_eq_false, if_false]
    by_cases hx : n = room
    · subst hx
      rw [if_pos rfl, if_pos rfl]
      go_enter Try.func42, Try.ntmps42
      go_wp2_with fail
      refine (rowBest b 68 [] lv levels w0 _ _ hs1 hlv hr).mono ?_
      rintro e w' ⟨rfl, k, rfl⟩
      have hs2 := (hs1.drewN k).perm (by ac_rfl : _ = pts b 64 [.int .i64 f, .int .i64 n, .int .i64 n] * (pts b 0 (C.map (Value.int .u32)) * (rowP b 67 S * (rowP b 68 [] * pts b 69 (H.map (Value.int .u32)))) * F))
      have c1 : World.cell? _ ⟨b, 65, none⟩ = some (.int .i64 n) := hs2.cell (j := 1) rfl
      have c2 : World.cell? _ ⟨b, 66, none⟩ = some (.int .i64 n) := hs2.cell (j := 2) rfl
      clear hlv hs1 hs
      generalize w.drewN k = w1 at *
      go_wp2_with fail
      go_quiet (fail)
      go_wp2_with fail
      go_ret2
      exact ⟨rfl, (hs2.drewN _).perm (by unfold mqP; ac_rfl)⟩
    · rw [if_neg hx, if_neg hx]
      have d : ((n : Int) == (room : Int)) = false := by simp; omega
      have d2 : decide (n = room) = false := by simp [hx]
      have d3 : (n == room) = false := by simp [hx]
      go_enter Try.func42, Try.ntmps42
      go_wp2_with fail
      refine (rowBest b 68 [] lv levels w0 _ _ hs1 hlv hr).mono ?_
      rintro e w' ⟨rfl, k, rfl⟩
      have hs2 := (hs1.drewN k).perm (by ac_rfl : _ = pts b 64 [.int .i64 f, .int .i64 n, .int .i64 room] * (pts b 0 (C.map (Value.int .u32)) * (rowP b 67 S * (rowP b 68 [] * pts b 69 (H.map (Value.int .u32)))) * F))
      have c1 : World.cell? _ ⟨b, 65, none⟩ = some (.int .i64 n) := hs2.cell (j := 1) rfl
      have c2 : World.cell? _ ⟨b, 66, none⟩ = some (.int .i64 room) := hs2.cell (j := 2) rfl
      clear hlv hs1 hs
      generalize w.drewN k = w1 at *
      have hs3 : Sat w0 w1 (mqP b ⟨C, f, n, room, S, [], H⟩ * F) := hs2.perm (by unfold mqP; ac_rfl)
      go_wp2_with fail
      go_quiet (fail)
      go_wp2_with fail
      refine (mailPush b _ v w0 _ _ (hs3.drewN _) hok.pushOk (by show n < 64; omega)).mono ?_
      rintro e w' ⟨rfl, hs4⟩
      go_wp2_with fail
      go_ret2
      exact ⟨rfl, hs4⟩
  · simp only [ne_eq, h, not_false_eq_true, if_true]
    have hd : decide (R ≠ []) = true := by simp [h]
    go_enter Try.func42, Try.ntmps42
    go_wp2_with fail
    refine (rowBest b 68 R lv levels w0 _ _ hs1 hlv hr).mono ?_
    rintro e w' ⟨rfl, k, rfl⟩
    rw [hd]
    have hs2 := hs1.drewN k
    clear hs1 hs hlv hd
    go_wp2_with fail
    refine (rowRemove b 68 R _ w0 _ _ hs2 hr).mono ?_
    rintro e w' ⟨rfl, hs3⟩
    go_wp2_with fail
    go_ret2
    exact ⟨rfl, hs3.perm (by unfold mqP; ac_rfl)⟩
theorem mailSend_nil (v : Int) (lv : Value) (w : World) :
    Calls Try.prog 42 #[.pointer none, .int .u32 v, lv] w fun e w' => e = .returned (.tuple #[.int .i64 255, .int .i64 16]) ∧ w = w' := by
  go_enter Try.func42, Try.ntmps42
  go_wp2
  go_ret2
  exact ⟨rfl, rfl⟩

theorem mailWaits (b : Nat) (q : Mq) (t : Int) (w0 w : World) (F : HP) (hs : Sat w0 w (mqP b q * F)) :
    Calls Try.prog 61 #[.pointer (some ⟨b, 0, none⟩), .int .i64 t] w fun e w' => e = .returned (.bool (decide (t ∈ q.S ∨ t ∈ q.R))) ∧ w = w' := by
  obtain ⟨C, f, n, room, S, R, H⟩ := q
  have hs1 := hs.perm (by unfold mqP; ac_rfl : _ = rowP b 67 S * (pts b 0 (C.map (Value.int .u32)) * (pts b 64 [.int .i64 f, .int .i64 n, .int .i64 room] * (rowP b 68 R * pts b 69 (H.map (Value.int .u32)))) * F))
  have hs2 := hs.perm (by unfold mqP; ac_rfl : _ = rowP b 68 R * (pts b 0 (C.map (Value.int .u32)) * (pts b 64 [.int .i64 f, .int .i64 n, .int .i64 room] * (rowP b 67 S * pts b 69 (H.map (Value.int .u32)))) * F))
  dsimp only
  by_cases h : t ∈ S
  · rw [decide_eq_true (.inl h : t ∈ S ∨ t ∈ R)]
    have hd := decide_eq_true h
    go_enter Try.func61, Try.ntmps61
    go_wp2_with fail
    refine (rowHas b 67 S t w0 _ _ hs1).mono ?_
    rintro e w' ⟨rfl, rfl⟩
    rw [hd]
    go_wp2_with fail
    go_ret
    exact ⟨rfl, rfl⟩
  · rw [show decide (t ∈ S ∨ t ∈ R) = decide (t ∈ R) by simp [h]]
    have hd := decide_eq_false h
    go_enter Try.func61, Try.ntmps61
    go_wp2_with fail
    refine (rowHas b 67 S t w0 _ _ hs1).mono ?_
    rintro e w' ⟨rfl, rfl⟩
    rw [hd]
    clear hd
    go_wp2_with fail
    refine (rowHas b 68 R t w0 _ _ hs2).mono ?_
    rintro e w' ⟨rfl, rfl⟩
    go_wp2_with fail
    go_ret
    exact ⟨rfl, rfl⟩


theorem mailSenders (b : Nat) (q : Mq) (w0 w : World) (F : HP) (hs : Sat w0 w (mqP b q * F)) (hok : MqOk q) :
    Calls Try.prog 49 #[.pointer (some ⟨b, 0, none⟩)] w (Ret w0 fun v' => numsP .i64 v' q.S * (mqP b q * F)) := by
  obtain ⟨C, f, n, room, S, R, H⟩ := q
  have hs1 := hs.perm (by unfold mqP; ac_rfl : _ = rowP b 67 S * (pts b 0 (C.map (Value.int .u32)) * (pts b 64 [.int .i64 f, .int .i64 n, .int .i64 room] * (rowP b 68 R * pts b 69 (H.map (Value.int .u32)))) * F))
  have hr := rowOk_len hok.s
  dsimp only at hr
  go_enter Try.func49, Try.ntmps49
  go_wp2_with fail
  refine (rowAll b 67 S w0 _ _ hs1 (by omega)).mono ?_
  rintro e w' ⟨v, rfl, hs2⟩
  go_wp2_with fail
  go_ret
  exact ⟨v, rfl, hs2.perm (by unfold mqP; ac_rfl)⟩
theorem mailSenders_nil (w0 w : World) (F : HP) (hs : Sat w0 w F) :
    Calls Try.prog 49 #[.pointer none] w (Ret w0 fun v' => numsP .i64 v' [] * F) := by
  go_enter Try.func49, Try.ntmps49
  go_wp2
  go_ret
  exact ⟨_, rfl, hs.slice_nil 1⟩


theorem mailReceivers (b : Nat) (q : Mq) (w0 w : World) (F : HP) (hs : Sat w0 w (mqP b q * F)) (hok : MqOk q) :
    Calls Try.prog 55 #[.pointer (some ⟨b, 0, none⟩)] w (Ret w0 fun v' => numsP .i64 v' q.R * (mqP b q * F)) := by
  obtain ⟨C, f, n, room, S, R, H⟩ := q
  have hs1 := hs.perm (by unfold mqP; ac_rfl : _ = rowP b 68 R * (pts b 0 (C.map (Value.int .u32)) * (pts b 64 [.int .i64 f, .int .i64 n, .int .i64 room] * (rowP b 67 S * pts b 69 (H.map (Value.int .u32)))) * F))
  have hr := rowOk_len hok.r
  dsimp only at hr
  go_enter Try.func55, Try.ntmps55
  go_wp2_with fail
  refine (rowAll b 68 R w0 _ _ hs1 (by omega)).mono ?_
  rintro e w' ⟨v, rfl, hs2⟩
  go_wp2_with fail
  go_ret
  exact ⟨v, rfl, hs2.perm (by unfold mqP; ac_rfl)⟩
theorem mailReceivers_nil (w0 w : World) (F : HP) (hs : Sat w0 w F) :
    Calls Try.prog 55 #[.pointer none] w (Ret w0 fun v' => numsP .i64 v' [] * F) := by
  go_enter Try.func55, Try.ntmps55
  go_wp2
  go_ret
  exact ⟨_, rfl, hs.slice_nil 1⟩

end Go.Proofs.Ytbnfkfbebnkdnaa
