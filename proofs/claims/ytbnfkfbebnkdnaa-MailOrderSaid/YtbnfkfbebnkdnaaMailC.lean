/-
  Contracts of the mail queue's functions: Hold, Await, Cancel, Recv, List.
-/
import Derived.Test.YtbnfkfbebnkdnaaMailB
namespace Go.Proofs.Ytbnfkfbebnkdnaa
open Go.RowKit Go.Sx

def Mq.waits (q : Mq) (t : Int) : Prop := t ∈ q.S ∨ t ∈ q.R
instance (q : Mq) (t : Int) : Decidable (q.waits t) := inferInstanceAs (Decidable (_ ∨ _))
def Mq.holdE (q : Mq) (t : Int) : Int := if q.n < q.room ∨ q.waits t then 1 else addE q.S t
def Mq.hold (q : Mq) (t v : Int) : Mq := if q.n < q.room ∨ q.waits t then q else if addOk q.S t then { q with S := addOne q.S t, H := q.H.set t.toNat v } else q
def Mq.awaitE (q : Mq) (t : Int) : Int := if 0 < q.n ∨ q.waits t then 1 else addE q.R t
def Mq.await (q : Mq) (t : Int) : Mq := if 0 < q.n ∨ q.waits t then q else { q with R := addOne q.R t }
def Mq.cancel (q : Mq) (t : Int) : Mq := if t ∈ q.S then { q with S := q.S.erase t } else { q with R := q.R.erase t }
theorem mqOk_hold {q : Mq} (h : MqOk q) (t v : Int) : MqOk (q.hold t v) := by
  unfold Mq.hold
  split
  · exact h
  · rename_i hc
    split
    · exact ⟨h.c, by simp [h.h], h.f, h.n, h.lo, h.hi, addOne_ok h.s t, h.r, fun h' => absurd (.inl h') hc, h.some⟩
    · exact h
theorem mqOk_await {q : Mq} (h : MqOk q) (t : Int) : MqOk (q.await t) := by
  unfold Mq.await
  split
  · exact h
  · rename_i hc
    exact ⟨h.c, h.h, h.f, h.n, h.lo, h.hi, h.s, addOne_ok h.r t, h.full, fun h' => absurd (.inl h') hc⟩
theorem mqOk_cancel {q : Mq} (h : MqOk q) (t : Int) : MqOk (q.cancel t) := by
  unfold Mq.cancel
  split
  · exact ⟨h.c, h.h, h.f, h.n, h.lo, h.hi, rowOk_erase h.s t, h.r, fun h' => by show q.S.erase t = []; rw [h.full h']; rfl, h.some⟩
  · exact ⟨h.c, h.h, h.f, h.n, h.lo, h.hi, h.s, rowOk_erase h.r t, h.full, fun h' => by show q.R.erase t = []; rw [h.some h']; rfl⟩

theorem mailCancel (b : Nat) (q : Mq) (t : Int) (w0 w : World) (F : HP) (hs : Sat w0 w (mqP b q * F)) (hok : MqOk q) :
    Calls Try.prog 46 #[.pointer (some ⟨b, 0, none⟩), .int .i64 t] w (RetV w0 (.bool (decide (q.waits t))) (mqP b (q.cancel t) * F)) := by
  obtain ⟨C, f, n, room, S, R, H⟩ := q
  have hs1 := hs.perm (by unfold mqP; ac_rfl : _ = rowP b 67 S * (pts b 0 (C.map (Value.int .u32)) * (pts b 64 [.int .i64 f, .int .i64 n, .int .i64 room] * (rowP b 68 R * pts b 69 (H.map (Value.int .u32)))) * F))
  have hS := hok.s
  have hR := hok.r
  dsimp only at hS hR
  unfold Mq.cancel
  dsimp only
  by_cases h : t ∈ S
  · have hW : Mq.waits ⟨C, f, n, room, S, R, H⟩ t := .inl h
    rw [if_pos h, decide_eq_true hW]
    clear hW
    have hd := decide_eq_true h
    clear hs
    go_enter Try.func46, Try.ntmps46
    go_wp2_with fail
    refine (rowRemove b 67 S t w0 _ _ hs1 hS).mono ?_
    rintro e w' ⟨rfl, hs2⟩
    rw [hd]
    go_wp2_with fail
    go_ret
    exact ⟨rfl, hs2.perm (by unfold mqP; ac_rfl)⟩
  · rw [if_neg h, show decide (Mq.waits ⟨C, f, n, room, S, R, H⟩ t) = decide (t ∈ R) by simp [Mq.waits, h]]
    have hd := decide_eq_false h
    have he := List.erase_of_not_mem h
    clear hs
    go_enter Try.func46, Try.ntmps46
    go_wp2_with fail
    refine (rowRemove b 67 S t w0 _ _ hs1 hS).mono ?_
    rintro e w' ⟨rfl, hs2⟩
    rw [hd]
    rw [he] at hs2
    clear hd he
    have hs3 := hs2.perm (by ac_rfl : _ = rowP b 68 R * (pts b 0 (C.map (Value.int .u32)) * (pts b 64 [.int .i64 f, .int .i64 n, .int .i64 room] * (rowP b 67 S * pts b 69 (H.map (Value.int .u32)))) * F))
    go_wp2_with fail
    refine (rowRemove b 68 R t w0 _ _ hs3 hR).mono ?_
    rintro e w' ⟨rfl, hs4⟩
    go_wp2_with fail
    go_ret
    exact ⟨rfl, hs4.perm (by unfold mqP; ac_rfl)⟩
theorem mailCancel_nil (t : Int) (w : World) :
    Calls Try.prog 46 #[.pointer none, .int .i64 t] w fun e w' => e = .returned (.bool false) ∧ w = w' := by
  go_enter Try.func46, Try.ntmps46
  go_wp2
  go_ret
  exact ⟨rfl, rfl⟩

theorem mailAwait (b : Nat) (q : Mq) (t : Int) (w0 w : World) (F : HP) (hs : Sat w0 w (mqP b q * F)) (hok : MqOk q) :
    Calls Try.prog 45 #[.pointer (some ⟨b, 0, none⟩), .int .i64 t] w (RetV w0 (.int .i64 (q.awaitE t)) (mqP b (q.await t) * F)) := by
  obtain ⟨C, f, n, room, S, R, H⟩ := q
  have hs1 := hs.perm (by unfold mqP; ac_rfl : _ = pts b 64 [.int .i64 f, .int .i64 n, .int .i64 room] * (pts b 0 (C.map (Value.int .u32)) * (rowP b 67 S * (rowP b 68 R * pts b 69 (H.map (Value.int .u32)))) * F))
  have c1 : World.cell? _ ⟨b, 65, none⟩ = some (.int .i64 n) := hs1.cell (j := 1) rfl
  have hs2 := hs.perm (by unfold mqP; ac_rfl : _ = rowP b 68 R * (pts b 0 (C.map (Value.int .u32)) * (pts b 64 [.int .i64 f, .int .i64 n, .int .i64 room] * (rowP b 67 S * pts b 69 (H.map (Value.int .u32)))) * F))
  have hR := hok.r
  dsimp only at hR
  unfold Mq.awaitE Mq.await
  dsimp only
  clear hs1
  by_cases h : 0 < n
  · rw [if_pos (.inl h), if_pos (.inl h)]
    have d : decide ((0 : Int) < (n : Int)) = true := by simp; omega
    have d2 : decide (0 < n) = true := by simp; omega
    go_enter Try.func45, Try.ntmps45
    go_wp2_with fail
    go_ret
    exact ⟨rfl, hs⟩
  · have d : decide ((0 : Int) < (n : Int)) = false := by simp; omega
    have d2 : decide (0 < n) = false := by simp; omega
    by_cases hw : Mq.waits ⟨C, f, n, room, S, R, H⟩ t
    · rw [if_pos (.inr hw), if_pos (.inr hw)]
      have hd : decide (t ∈ S ∨ t ∈ R) = true := decide_eq_true hw
      go_enter Try.func45, Try.ntmps45
      go_wp2_with fail
      refine (mailWaits b _ t w0 _ _ hs).mono ?_
      rintro e w' ⟨rfl, rfl⟩
      dsimp only
      rw [hd]
      go_wp2_with fail
      go_ret
      exact ⟨rfl, hs⟩
    · have hc : ¬ (0 < n ∨ Mq.waits ⟨C, f, n, room, S, R, H⟩ t) := by simp [h, hw]
      rw [if_neg hc, if_neg hc]
      have hd : decide (t ∈ S ∨ t ∈ R) = false := decide_eq_false hw
      clear hc hw
      go_enter Try.func45, Try.ntmps45
      go_wp2_with fail
      refine (mailWaits b _ t w0 _ _ hs).mono ?_
      rintro e w' ⟨rfl, rfl⟩
      dsimp only
      rw [hd]
      clear hd
      go_wp2_with fail
      refine (rowAddE b 68 R t w0 _ _ hs2 hR).mono ?_
      rintro e w' ⟨rfl, hs4⟩
      go_wp2_with fail
      go_ret
      exact ⟨rfl, hs4.perm (by unfold mqP; ac_rfl)⟩
theorem mailAwait_nil (t : Int) (w : World) :
    Calls Try.prog 45 #[.pointer none, .int .i64 t] w fun e w' => e = .returned (.int .i64 16) ∧ w = w' := by
  go_enter Try.func45, Try.ntmps45
  go_wp2
  go_ret
  exact ⟨rfl, rfl⟩

set_option linter.unusedSimpArgs false in
set_option maxHeartbeats 4000000 in
theorem mailHold (b : Nat) (q : Mq) (t v : Int) (w0 w : World) (F : HP) (hs : Sat w0 w (mqP b q * F)) (hok : MqOk q) :
    Calls Try.prog 43 #[.pointer (some ⟨b, 0, none⟩), .int .i64 t, .int .u32 v] w (RetV w0 (.int .i64 (q.holdE t)) (mqP b (q.hold t v) * F)) := by
  obtain ⟨C, f, n, room, S, R, H⟩ := q
  have hs1 := hs.perm (by unfold mqP; ac_rfl : _ = pts b 64 [.int .i64 f, .int .i64 n, .int .i64 room] * (pts b 0 (C.map (Value.int .u32)) * (rowP b 67 S * (rowP b 68 R * pts b 69 (H.map (Value.int .u32)))) * F))
  have c1 : World.cell? _ ⟨b, 65, none⟩ = some (.int .i64 n) := hs1.cell (j := 1) rfl
  have c2 : World.cell? _ ⟨b, 66, none⟩ = some (.int .i64 room) := hs1.cell (j := 2) rfl
  have hs2 := hs.perm (by unfold mqP; ac_rfl : _ = rowP b 67 S * (pts b 0 (C.map (Value.int .u32)) * (pts b 64 [.int .i64 f, .int .i64 n, .int .i64 room] * (rowP b 68 R * pts b 69 (H.map (Value.int .u32)))) * F))
  have hS := hok.s
  have hh := hok.h
  dsimp only at hS hh
  unfold Mq.holdE Mq.hold
  dsimp only
  clear hs1
  by_cases h : n < room
  · rw [if_pos (.inl h), if_pos (.inl h)]
    have d : decide ((n : Int) < (room : Int)) = true := by simp; omega
    have d2 : decide (n < room) = true := by simp; omega
    go_enter Try.func43, Try.ntmps43
    go_wp2_with fail
    refine wp_region_early (fun w' => w'.cell? ⟨b, 65, none⟩ = some (.int .i64 n) ∧ w'.cell? ⟨b, 66, none⟩ = some (.int .i64 room)) [(0, true), (1, true), (2, true), (3, true), (4, true), (5, true), (6, true), (7, true), (8, true), (9, true), (10, true), (11, true), (12, false), (13, true), (14, true)] (by kernel_rfl) (by kernel_rfl) (fun _ _ _ _ h => h) ⟨c1, c2⟩ ?_
    iterate 12 (refine early_read (fun K hK => ?_); simp only [List.getElem?_cons_succ, List.getElem?_cons_zero]; (first | (rw [if_pos (by rfl)]; apply Exists.intro; refine ⟨fun w hSw => ?_, hK _ ?_⟩; (focus ((try dsimp only at hSw); obtain ⟨hSw, hSw2⟩ := hSw; go_simp; try with_reducible rfl))) | (rw [if_neg (ne_true_of_eq_false (by rfl))]; refine hK _ ?_)); clear hK K; simp only [Act.put, List.setIfInBounds_toArray, List.set_cons_zero, List.set_cons_succ])
    refine early_run (fun K hK => ?_)
    simp only [List.getElem?_cons_succ, List.getElem?_cons_zero]
    rw [if_neg (ne_true_of_eq_false (by rfl))]
    refine hK _ _ ⟨⟨c1, c2⟩, ?_⟩
    clear hK K
    simp only [Act.put, List.setIfInBounds_toArray, List.set_cons_zero, List.set_cons_succ]
    iterate 2 (refine early_read (fun K hK => ?_); simp only [List.getElem?_cons_succ, List.getElem?_cons_zero]; (first | (rw [if_pos (by rfl)]; apply Exists.intro; refine ⟨fun w hSw => ?_, hK _ ?_⟩; (focus ((try dsimp only at hSw); obtain ⟨hSw, hSw2⟩ := hSw; go_simp; try with_reducible rfl))) | (rw [if_neg (ne_true_of_eq_false (by rfl))]; refine hK _ ?_)); clear hK K; simp only [Act.put, List.setIfInBounds_toArray, List.set_cons_zero, List.set_cons_succ])
    refine early_done ?_
    go_wp2_with fail
    go_ret
    exact ⟨rfl, hs.drew⟩
  · have d : decide ((n : Int) < (room : Int)) = false := by simp; omega
    have d2 : decide (n < room) = false := by simp; omega
    by_cases hw : Mq.waits ⟨C, f, n, room, S, R, H⟩ t
    · rw [if_pos (.inr hw), if_pos (.inr hw)]
      have hd : decide (t ∈ S ∨ t ∈ R) = true := decide_eq_true hw
      go_enter Try.func43, Try.ntmps43
      go_wp2_with fail
      refine wp_region_early (fun w' => w'.cell? ⟨b, 65, none⟩ = some (.int .i64 n) ∧ w'.cell? ⟨b, 66, none⟩ = some (.int .i64 room)) [(0, true), (1, true), (2, true), (3, true), (4, true), (5, true), (6, true), (7, true), (8, true), (9, true), (10, true), (11, true), (12, false), (13, true), (14, true)] (by kernel_rfl) (by kernel_rfl) (fun _ _ _ _ h => h) ⟨c1, c2⟩ ?_
      iterate 12 (refine early_read (fun K hK => ?_); simp only [List.getElem?_cons_succ, List.getElem?_cons_zero]; (first | (rw [if_pos (by rfl)]; apply Exists.intro; refine ⟨fun w hSw => ?_, hK _ ?_⟩; (focus ((try dsimp only at hSw); obtain ⟨hSw, hSw2⟩ := hSw; go_simp; try with_reducible rfl))) | (rw [if_neg (ne_true_of_eq_false (by rfl))]; refine hK _ ?_)); clear hK K; simp only [Act.put, List.setIfInBounds_toArray, List.set_cons_zero, List.set_cons_succ])
      refine early_run (fun K hK => ?_)
      simp only [List.getElem?_cons_succ, List.getElem?_cons_zero]
      rw [if_pos (by rfl)]
      go_wp2_with fail
      refine (mailWaits b _ t w0 _ _ hs.drew).mono ?_
      rintro e w' ⟨rfl, rfl⟩
      dsimp only
      rw [hd]
      go_wp2_with fail
      refine ⟨⟨c1, c2⟩, ?_⟩
      iterate 2 (refine early_read (fun K hK => ?_); simp only [List.getElem?_cons_succ, List.getElem?_cons_zero]; (first | (rw [if_pos (by rfl)]; apply Exists.intro; refine ⟨fun w hSw => ?_, hK _ ?_⟩; (focus ((try dsimp only at hSw); obtain ⟨hSw, hSw2⟩ := hSw; go_simp; try with_reducible rfl))) | (rw [if_neg (ne_true_of_eq_false (by rfl))]; refine hK _ ?_)); clear hK K; simp only [Act.put, List.setIfInBounds_toArray, List.set_cons_zero, List.set_cons_succ])
      refine early_done ?_
      go_wp2_with fail
      go_ret
      exact ⟨rfl, hs.drew⟩
    · have hc : ¬ (n < room ∨ Mq.waits ⟨C, f, n, room, S, R, H⟩ t) := by simp [h, hw]
      rw [if_neg hc, if_neg hc]
      have hd : decide (t ∈ S ∨ t ∈ R) = false := decide_eq_false hw
      have hsd := hs.drew
      have hs2 := hs2.drew
      clear hc
      by_cases ho : addOk S t
      · rw [if_pos ho]
        have he : addE S t = 0 := if_pos ho
        rw [he]
        obtain ⟨a1, a2, a3⟩ := ho
        obtain ⟨m, rfl⟩ := Int.eq_ofNat_of_zero_le a1
        have he := hid he
        go_enter Try.func43, Try.ntmps43
        go_wp2_with fail
        refine wp_region_early (fun w' => w'.cell? ⟨b, 65, none⟩ = some (.int .i64 n) ∧ w'.cell? ⟨b, 66, none⟩ = some (.int .i64 room)) [(0, true), (1, true), (2, true), (3, true), (4, true), (5, true), (6, true), (7, true), (8, true), (9, true), (10, true), (11, true), (12, false), (13, true), (14, true)] (by kernel_rfl) (by kernel_rfl) (fun _ _ _ _ h => h) ⟨c1, c2⟩ ?_
        iterate 12 (refine early_read (fun K hK => ?_); simp only [List.getElem?_cons_succ, List.getElem?_cons_zero]; (first | (rw [if_pos (by rfl)]; apply Exists.intro; refine ⟨fun w hSw => ?_, hK _ ?_⟩; (focus ((try dsimp only at hSw); obtain ⟨hSw, hSw2⟩ := hSw; go_simp; try with_reducible rfl))) | (rw [if_neg (ne_true_of_eq_false (by rfl))]; refine hK _ ?_)); clear hK K; simp only [Act.put, List.setIfInBounds_toArray, List.set_cons_zero, List.set_cons_succ])
        refine early_run (fun K hK => ?_)
        simp only [List.getElem?_cons_succ, List.getElem?_cons_zero]
        rw [if_pos (by rfl)]
        go_wp2_with fail
        refine (mailWaits b _ m w0 _ _ hsd).mono ?_
        rintro e w' ⟨rfl, rfl⟩
        dsimp only
        rw [hd]
        clear hd
        go_wp2_with fail
        refine ⟨⟨c1, c2⟩, ?_⟩
        iterate 2 (refine early_read (fun K hK => ?_); simp only [List.getElem?_cons_succ, List.getElem?_cons_zero]; (first | (rw [if_pos (by rfl)]; apply Exists.intro; refine ⟨fun w hSw => ?_, hK _ ?_⟩; (focus ((try dsimp only at hSw); obtain ⟨hSw, hSw2⟩ := hSw; go_simp; try with_reducible rfl))) | (rw [if_neg (ne_true_of_eq_false (by rfl))]; refine hK _ ?_)); clear hK K; simp only [Act.put, List.setIfInBounds_toArray, List.set_cons_zero, List.set_cons_succ])
        refine early_done ?_
        clear c1 c2 hs
        generalize w.drew = w1 at *
        go_wp2_with fail
        refine (rowAddE b 67 S m w0 _ _ hs2 hS).mono ?_
        rintro e w' ⟨rfl, hs4⟩
        rw [he.out]
        have hs5 := hs4.perm (by ac_rfl : _ = pts b 69 (H.map (Value.int .u32)) * (pts b 0 (C.map (Value.int .u32)) * (pts b 64 [.int .i64 f, .int .i64 n, .int .i64 room] * (rowP b 67 (addOne S m) * rowP b 68 R)) * F))
        have hm : m < 64 := by omega
        have d64 : decide (m < 64) = true := by simp [hm]
        have c5 := hs5.cell (j := m) (v := .int .u32 (H.getD m 0)) (by simp [List.getD, hh, hm])
        have f5 := hs5.frz (j := m) (by rw [List.length_map, hh]; omega)
        have hs6 := hs5.set (j := m) (by rw [List.length_map, hh]; omega) (.int .u32 v)
        rw [← List.map_set] at hs6
        clear hs2 hs4 hs5
        go_wp2_with fail
        go_ret
        exact ⟨rfl, hs6.perm (by unfold mqP; simp only [Int.toNat_natCast]; ac_rfl)⟩
      · rw [if_neg ho]
        have he : addE S t = 1 := if_neg ho
        have hl : addOne S t = S := if_neg ho
        rw [he]
        have he := hid he
        have hl := hid hl
        go_enter Try.func43, Try.ntmps43
        go_wp2_with fail
        refine wp_region_early (fun w' => w'.cell? ⟨b, 65, none⟩ = some (.int .i64 n) ∧ w'.cell? ⟨b, 66, none⟩ = some (.int .i64 room)) [(0, true), (1, true), (2, true), (3, true), (4, true), (5, true), (6, true), (7, true), (8, true), (9, true), (10, true), (11, true), (12, false), (13, true), (14, true)] (by kernel_rfl) (by kernel_rfl) (fun _ _ _ _ h => h) ⟨c1, c2⟩ ?_
        iterate 12 (refine early_read (fun K hK => ?_); simp only [List.getElem?_cons_succ, List.getElem?_cons_zero]; (first | (rw [if_pos (by rfl)]; apply Exists.intro; refine ⟨fun w hSw => ?_, hK _ ?_⟩; (focus ((try dsimp only at hSw); obtain ⟨hSw, hSw2⟩ := hSw; go_simp; try with_reducible rfl))) | (rw [if_neg (ne_true_of_eq_false (by rfl))]; refine hK _ ?_)); clear hK K; simp only [Act.put, List.setIfInBounds_toArray, List.set_cons_zero, List.set_cons_succ])
        refine early_run (fun K hK => ?_)
        simp only [List.getElem?_cons_succ, List.getElem?_cons_zero]
        rw [if_pos (by rfl)]
        go_wp2_with fail
        refine (mailWaits b _ t w0 _ _ hsd).mono ?_
        rintro e w' ⟨rfl, rfl⟩
        dsimp only
        rw [hd]
        clear hd
        go_wp2_with fail
        refine ⟨⟨c1, c2⟩, ?_⟩
        iterate 2 (refine early_read (fun K hK => ?_); simp only [List.getElem?_cons_succ, List.getElem?_cons_zero]; (first | (rw [if_pos (by rfl)]; apply Exists.intro; refine ⟨fun w hSw => ?_, hK _ ?_⟩; (focus ((try dsimp only at hSw); obtain ⟨hSw, hSw2⟩ := hSw; go_simp; try with_reducible rfl))) | (rw [if_neg (ne_true_of_eq_false (by rfl))]; refine hK _ ?_)); clear hK K; simp only [Act.put, List.setIfInBounds_toArray, List.set_cons_zero, List.set_cons_succ])
        refine early_done ?_
        clear c1 c2 hs
        generalize w.drew = w1 at *
        go_wp2_with fail
        refine (rowAddE b 67 S t w0 _ _ hs2 hS).mono ?_
        rintro e w' ⟨rfl, hs4⟩
        rw [he.out]
        rw [hl.out] at hs4
        go_wp2_with fail
        go_ret
        exact ⟨rfl, hs4.perm (by unfold mqP; ac_rfl)⟩
theorem mailHold_nil (t v : Int) (w : World) :
    Calls Try.prog 43 #[.pointer none, .int .i64 t, .int .u32 v] w fun e w' => e = .returned (.int .i64 16) ∧ w = w' := by
  go_enter Try.func43, Try.ntmps43
  go_wp2
  go_ret
  exact ⟨rfl, rfl⟩
end Go.Proofs.Ytbnfkfbebnkdnaa
