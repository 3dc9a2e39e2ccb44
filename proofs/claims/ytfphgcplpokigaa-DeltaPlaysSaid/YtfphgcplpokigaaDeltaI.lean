/-
  Delta lists: the contracts in one piece each; two lists of which one lacks a clock.
-/
import Derived.Test.YtfphgcplpokigaaDeltaH
namespace Go.Proofs.Ytfphgcplpokigaa
open Go.RowKit Go.Sx Go.Dl

theorem delPut (b : Nat) (S : List Ck) (id t : Int) (w0 w : World) (F : HP) (hs : Sat w0 w (delP b S * F)) (hok : SOk S) :
    Calls Try.prog 21 #[.pointer (some ⟨b, 0, none⟩), .int .i64 id, .int .i64 t] w (RetV w0 (.int .i64 (putE S id t)) (delP b (putS S id t) * F)) := by
  unfold putE putS
  by_cases h : putOk S id t
  · rw [if_pos h, if_pos h]; exact delPut_yes b S id t w0 w F hs hok h
  · rw [if_neg h, if_neg h]; exact delPut_no b S id t w0 w F hs h
theorem delCancel (b : Nat) (S : List Ck) (id : Int) (w0 w : World) (F : HP) (hs : Sat w0 w (delP b S * F)) (hok : SOk S) :
    Calls Try.prog 28 #[.pointer (some ⟨b, 0, none⟩), .int .i64 id] w (RetV w0 (.bool (decide (has S id))) (delP b (delS id S) * F)) := by
  by_cases h : has S id
  · rw [decide_eq_true h]; exact delCancel_yes b S id w0 w F hs hok h
  · rw [decide_eq_false h, del_none h]; exact delCancel_no b S id w0 w F hs h
theorem delTick (b : Nat) (S : List Ck) (w0 w : World) (F : HP) (hs : Sat w0 w (delP b S * F)) (hok : SOk S) :
    Calls Try.prog 22 #[.pointer (some ⟨b, 0, none⟩)] w (Ret w0 fun v => numsP .i64 v (overS S) * (delP b (tickS S) * F)) := by
  cases S with
  | nil => exact delTick_none b w0 w F hs
  | cons x S => exact delTick_some b x S w0 w F hs hok

theorem putOk_del {S : List Ck} {id i t : Int} (h : i ≠ id) : putOk (delS id S) i t ↔ putOk S i t := by
  unfold putOk
  rw [has_del]
  constructor
  · rintro ⟨a, b, c, d, e⟩; exact ⟨a, b, c, d, fun h' => e ⟨h, h'⟩⟩
  · rintro ⟨a, b, c, d, e⟩; exact ⟨a, b, c, d, fun h' => e h'.2⟩
theorem del_put {S : List Ck} (hok : SOk S) (id i t : Int) : delS id (putS S i t) = if i = id then delS id S else putS (delS id S) i t := by
  unfold putS
  by_cases hi : i = id
  · rw [if_pos hi]
    split
    · unfold delS
      rw [filter_ins _ _ hok.up, if_neg (by simp [hi])]
    · rfl
  · rw [if_neg hi]
    by_cases h : putOk S i t
    · rw [if_pos h, if_pos ((putOk_del hi).2 h)]
      unfold delS
      rw [filter_ins _ _ hok.up, if_pos (by simp [hi])]
    · rw [if_neg h, if_neg (fun h' => h ((putOk_del hi).1 h'))]
theorem del_comm (S : List Ck) (i j : Int) : delS i (delS j S) = delS j (delS i S) := by
  unfold delS
  rw [List.filter_filter, List.filter_filter]
  congr 1
  funext x
  exact Bool.and_comm _ _
theorem del_idem (S : List Ck) (i : Int) : delS i (delS i S) = delS i S := by
  unfold delS
  rw [List.filter_filter]
  congr 1
  funext x
  exact Bool.and_self _
theorem del_tick (S : List Ck) (i : Int) : tickS (delS i S) = delS i (tickS S) := by
  unfold delS tickS
  rw [List.filter_map, List.filter_filter, List.filter_filter]
  congr 2
  funext x
  exact Bool.and_comm _ _
end Go.Proofs.Ytfphgcplpokigaa
