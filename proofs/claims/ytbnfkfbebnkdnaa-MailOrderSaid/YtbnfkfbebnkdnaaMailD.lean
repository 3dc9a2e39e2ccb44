/-
  Contracts of the mail queue's functions: Recv, List.
-/
import Derived.Test.YtbnfkfbebnkdnaaMailC
namespace Go.Proofs.Ytbnfkfbebnkdnaa
open Go.RowKit Go.Sx

theorem elemW : ElemT Try.prog 66 67 1 4 (.int .u32 0) := ⟨by kernel_rfl, by kernel_rfl, rfl⟩
theorem msgs_take (q : Mq) {k : Nat} (hk : k < q.n) : (msgs q).take (k + 1) = (msgs q).take k ++ [q.C.getD ((q.f + k) % 64) 0] := by
  have h : k < (msgs q).length := by simp [msgs, hk]
  rw [List.take_succ_eq_append_getElem h]
  simp [msgs]
theorem msgs_len (q : Mq) : (msgs q).length = q.n := by simp [msgs]

set_option maxHeartbeats 2000000 in
theorem mailList (b : Nat) (q : Mq) (w0 w : World) (F : HP) (hs : Sat w0 w (mqP b q * F)) (hok : MqOk q) :
    Calls Try.prog 48 #[.pointer (some ⟨b, 0, none⟩)] w (Ret w0 fun v' => numsP .u32 v' (msgs q) * (mqP b q * F)) := by
  have hC := hok.c
  have hf := hok.f
  have hn := hok.n
  have hhi := hok.hi
  have hml := msgs_len q
  have hnext := fun k (h : k < q.n) => msgs_take q h
  generalize hM : msgs q = M at *
  clear hok hM
  obtain ⟨C, f, n, room, S, R, H⟩ := q
  dsimp only at hC hf hn hhi hml hnext
  have c1 : World.cell? _ ⟨b, 65, none⟩ = some (.int .i64 n) := (hs.perm (by unfold mqP; ac_rfl : _ = pts b 64 [.int .i64 f, .int .i64 n, .int .i64 room] * (pts b 0 (C.map (Value.int .u32)) * (rowP b 67 S * (rowP b 68 R * pts b 69 (H.map (Value.int .u32)))) * F))).cell (j := 1) rfl
  go_enter Try.func48, Try.ntmps48
  go_wp2_with fail
  go_loopw [3, 11] (fun lv i wr => ∃ k : Nat, k ≤ n ∧ i = .int .i64 k ∧ Sat w0 wr (numsP .u32 lv (M.take k) * (mqP b ⟨C, f, n, room, S, R, H⟩ * F))) (fun _ i _ => n - (intOf i).toNat)
  case atStart => exact ⟨0, Nat.zero_le _, rfl, hs.slice_nil 1⟩
  case round =>
    obtain ⟨k, hk, rfl, hs3⟩ := hrel
    clear hs c1
    by_cases hlt : k < n
    · have hnx := hid (hnext k hlt)
      have hs4 := hs3.perm (by unfold mqP; ac_rfl : _ = pts b 64 [.int .i64 f, .int .i64 n, .int .i64 room] * (pts b 0 (C.map (Value.int .u32)) * (rowP b 67 S * (rowP b 68 R * pts b 69 (H.map (Value.int .u32)))) * (numsP .u32 u3 (M.take k) * F)))
      have c0 : World.cell? _ ⟨b, 64, none⟩ = some (.int .i64 f) := hs4.cell (j := 0) rfl
      have hx : (f + k) % 64 < 64 := Nat.mod_lt _ (by decide)
      have c5 := (hs3.perm (by unfold mqP; ac_rfl : _ = pts b 0 (C.map (Value.int .u32)) * (pts b 64 [.int .i64 f, .int .i64 n, .int .i64 room] * (rowP b 67 S * (rowP b 68 R * pts b 69 (H.map (Value.int .u32)))) * (numsP .u32 u3 (M.take k) * F)))).cell (j := (f + k) % 64) (v := .int .u32 (C.getD ((f + k) % 64) 0)) (by simp [List.getD, hC, hx])
      have hrem : Int.tmod (IntKind.i64.wrap ((f : Int) + (k : Int))) 64 = (((f + k) % 64 : Nat) : Int) := by
        rw [show IntKind.i64.wrap ((f : Int) + (k : Int)) = ((f + k : Nat) : Int) by rw [IntKind.wrap_i64]; omega, rem64]
      have csq : ∀ (w' : World) (F' : HP), Sat w0 w' (mqP b ⟨C, f, n, room, S, R, H⟩ * F') → w'.cell? ⟨b, 64, none⟩ = some (.int .i64 f) ∧ w'.cell? ⟨b, (f + k) % 64, none⟩ = some (.int .u32 (C.getD ((f + k) % 64) 0)) := by
        intro w' F' h'
        have h2 := h'.perm (by unfold mqP; ac_rfl : _ = pts b 64 [.int .i64 f, .int .i64 n, .int .i64 room] * (pts b 0 (C.map (Value.int .u32)) * (rowP b 67 S * (rowP b 68 R * pts b 69 (H.map (Value.int .u32)))) * F'))
        have h3 := (h'.perm (by unfold mqP; ac_rfl : _ = pts b 0 (C.map (Value.int .u32)) * (pts b 64 [.int .i64 f, .int .i64 n, .int .i64 room] * (rowP b 67 S * (rowP b 68 R * pts b 69 (H.map (Value.int .u32)))) * F'))).cell (j := (f + k) % 64) (v := .int .u32 (C.getD ((f + k) % 64) 0)) (by simp [List.getD, hC, hx])
        rw [Nat.zero_add] at h3
        exact ⟨h2.cell (j := 0) rfl, h3⟩
      generalize (f + k) % 64 = m at *
      generalize C.getD m 0 = x at *
      rw [Nat.zero_add] at c5
      have d64 : decide (m < 64) = true := by simp [hx]
      have hxI : (m : Int) < 64 := by omega
      have hlen : (M.take k).length = k := by rw [List.length_take, hml]; omega
      have hlen := hid hlen
      clear hnext hs4
      have hs5 := hs3.drew
      have cs : ∀ w' : World, (∃ F', Sat w0 w' (mqP b ⟨C, f, n, room, S, R, H⟩ * F')) → w'.cell? ⟨b, 64, none⟩ = some (.int .i64 f) ∧ w'.cell? ⟨b, m, none⟩ = some (.int .u32 x) := by
        rintro w' ⟨F', h'⟩
        exact csq w' F' h'
      go_wp2_with fail
      refine wp_region_early (fun w' => w'.cell? ⟨b, 64, none⟩ = some (.int .i64 f) ∧ w'.cell? ⟨b, m, none⟩ = some (.int .u32 x)) [(0, true), (1, true), (2, true), (3, true), (4, true), (5, true), (6, true), (7, true), (8, true), (9, true), (10, true), (11, true), (12, true), (13, false), (14, false), (15, true)] (by kernel_rfl) (by kernel_rfl) (fun _ _ _ _ h => h) ⟨c0, c5⟩ ?_
      iterate 13 (refine early_read (fun K hK => ?_); simp only [List.getElem?_cons_succ, List.getElem?_cons_zero]; (first | (rw [if_pos (by rfl)]; apply Exists.intro; refine ⟨fun w hSw => ?_, hK _ ?_⟩; (focus ((try dsimp only at hSw); obtain ⟨hSw, hSw2⟩ := hSw; go_simp; try with_reducible rfl))) | (rw [if_neg (ne_true_of_eq_false (by rfl))]; refine hK _ ?_)); clear hK K; simp only [Act.put, List.setIfInBounds_toArray, List.set_cons_zero, List.set_cons_succ])
      clear c0 c5 hs3 csq
      generalize wr.drew = w1 at *
      refine early_run (fun K hK => ?_)
      simp only [List.getElem?_cons_succ, List.getElem?_cons_zero]
      rw [if_pos (by rfl)]
      go_wp2_with fail
      refine ⟨cs _ ⟨_, (hs5.alloc _ _).drop.perm (by ac_rfl : _ = mqP b ⟨C, f, n, room, S, R, H⟩ * (numsP .u32 u3 (M.take k) * F))⟩, ?_⟩
      refine early_run (fun K hK => ?_)
      simp only [List.getElem?_cons_succ, List.getElem?_cons_zero]
      rw [if_pos (by rfl)]
      refine wp_append_new (.tmp 14) (.tmp 27) (by rfl) elemW (by rfl) hs5 (by rfl) (by rfl) (by simp [Value.oneCell']) (by rw [hlen.out]; unfold maxLen; omega) (by rw [hlen.out]; omega) ?_
      intro v' w3 hs9 _
      refine hK _ _ ⟨cs _ ⟨_, hs9.perm (by ac_rfl : _ = mqP b ⟨C, f, n, room, S, R, H⟩ * (sliceP 1 v' ((M.take k).length + 1) ((M.take k).map (Value.int .u32) ++ [Value.int .u32 x]) * F))⟩, ?_⟩
      clear hK K hs5
      simp only [Act.put, List.setIfInBounds_toArray, List.set_cons_zero, List.set_cons_succ]
      iterate 1 (refine early_read (fun K hK => ?_); simp only [List.getElem?_cons_succ, List.getElem?_cons_zero]; (first | (rw [if_pos (by rfl)]; apply Exists.intro; refine ⟨fun w hSw => ?_, hK _ ?_⟩; (focus ((try dsimp only at hSw); obtain ⟨hSw, hSw2⟩ := hSw; go_simp; try with_reducible rfl))) | (rw [if_neg (ne_true_of_eq_false (by rfl))]; refine hK _ ?_)); clear hK K; simp only [Act.put, List.setIfInBounds_toArray, List.set_cons_zero, List.set_cons_succ])
      refine early_done ?_
      clear cs
      go_wp2_with fail
      go_roundw
      case rel =>
        refine ⟨k + 1, by omega, by go_num, ?_⟩
        rw [hnx.out]
        unfold numsP
        rw [List.length_append, List.map_append]
        exact hs9
      case measure => simp [intOf]; omega
    · have hk' : M.take k = M := List.take_of_length_le (by omega)
      rw [hk'] at hs3
      go_wp2_with fail
      go_ret
      exact ⟨_, rfl, hs3⟩
theorem mailList_nil (w0 w : World) (F : HP) (hs : Sat w0 w F) :
    Calls Try.prog 48 #[.pointer none] w (Ret w0 fun v' => numsP .u32 v' [] * F) := by
  go_enter Try.func48, Try.ntmps48
  go_wp2
  go_ret
  exact ⟨_, rfl, hs.slice_nil 1⟩
end Go.Proofs.Ytbnfkfbebnkdnaa
