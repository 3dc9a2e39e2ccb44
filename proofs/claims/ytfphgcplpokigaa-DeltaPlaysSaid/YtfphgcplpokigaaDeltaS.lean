/-
  The reference's list of clocks: Put, Cancel, Tick.
-/
import Derived.Test.YtfphgcplpokigaaDeltaR
namespace Go.Proofs.Ytfphgcplpokigaa
open Go.RowKit Go.Sx Go.Dl

def rputS (L : List Ck) (id t : Int) : List Ck := if putOk (srt L) id t then L ++ [(id, t)] else L
theorem srt_rput (L : List Ck) (id t : Int) : srt (rputS L id t) = putS (srt L) id t := by
  unfold rputS putS
  split
  · rw [srt_snoc]
  · rfl

set_option maxRecDepth 100000 in
set_option maxHeartbeats 4000000 in
theorem refPut (b : Nat) (L : List Ck) (id t : Int) (w0 w : World) (F : HP) (hs : Sat w0 w (rlP b L * F)) (hok : SOk (srt L)) :
    Calls Try.prog 42 #[.pointer (some ⟨b, 0, none⟩), .int .i64 id, .int .i64 t] w (RetV w0 (.bool (decide (putOk (srt L) id t))) (rlP b (rputS L id t) * F)) := by
  have hl := sok_len hok
  rw [(srt_perm L).length_eq] at hl
  have hnd : (L.map Prod.fst).Nodup := ((srt_perm L).map _).nodup_iff.1 hok.nd
  have hleft : 0 < Go.Dl.leftOf L id ↔ has (srt L) id := by rw [left_perm (srt_perm L).symm hnd id]; exact left_pos hok id
  unfold rputS
  by_cases hp : putOk (srt L) id t
  · rw [decide_eq_true hp, if_pos hp]
    obtain ⟨p1, p2, p3, p4, p5⟩ := hp
    have d1 : decide (id < 0) = false := by simp; omega
    have d2 : decide (255 < id) = false := by simp; omega
    have d3 : decide (t < 1) = false := by simp; omega
    have d4 : decide (4294967295 < t) = false := by simp; omega
    have d5 : decide (0 < Go.Dl.leftOf L id) = false := decide_eq_false fun h => p5 (hleft.1 h)
    clear hleft p5 hok
    go_enter Try.func42, Try.ntmps42
    go_wp2_with fail
    refine (refLeft b L id w0 _ F hs hnd hl).mono ?_
    rintro e w1 ⟨rfl, hs1⟩
    obtain ⟨a, c, hs1⟩ := rlP_out hs1
    go_wp2_with (at_builtin; refine wpList_append_recs rfl rfl rfl rfl (by omega) ?_; intro ap ac aL aw ahL ah1 ah2 ahs _)
    go_ret
    exact ⟨rfl, rlP_of own_it ahL.out⟩
  · rw [decide_eq_false hp, if_neg hp]
    by_cases c1 : id < 0
    · have d1 : decide (id < 0) = true := by simp [c1]
      clear hleft hok
      go_enter Try.func42, Try.ntmps42
      go_wp2_with fail
      go_ret
      exact ⟨rfl, hs⟩
    · have d1 : decide (id < 0) = false := by simp; omega
      by_cases c2 : 255 < id
      · have d2 : decide (255 < id) = true := by simp [c2]
        clear hleft hok
        go_enter Try.func42, Try.ntmps42
        go_wp2_with fail
        go_ret
        exact ⟨rfl, hs⟩
      · have d2 : decide (255 < id) = false := by simp; omega
        by_cases c3 : t < 1
        · have d3 : decide (t < 1) = true := by simp [c3]
          clear hleft hok
          go_enter Try.func42, Try.ntmps42
          go_wp2_with fail
          go_ret
          exact ⟨rfl, hs⟩
        · have d3 : decide (t < 1) = false := by simp; omega
          by_cases c4 : 4294967295 < t
          · have d4 : decide (4294967295 < t) = true := by simp [c4]
            clear hleft hok
            go_enter Try.func42, Try.ntmps42
            go_wp2_with fail
            go_ret
            exact ⟨rfl, hs⟩
          · have d4 : decide (4294967295 < t) = false := by simp; omega
            have hh : has (srt L) id := Decidable.byContradiction fun h => hp ⟨by omega, by omega, by omega, by omega, h⟩
            have d5 : decide (0 < Go.Dl.leftOf L id) = true := decide_eq_true (hleft.2 hh)
            clear hleft hok hh
            go_enter Try.func42, Try.ntmps42
            go_wp2_with fail
            refine (refLeft b L id w0 _ F hs hnd hl).mono ?_
            rintro e w1 ⟨rfl, hs1⟩
            go_wp2_with fail
            go_ret
            exact ⟨rfl, hs1⟩

theorem del_snoc (L : List Ck) (y : Ck) (id : Int) : delS id (L ++ [y]) = delS id L ++ if y.1 = id then [] else [y] := by
  unfold delS
  rw [List.filter_append]
  congr 1
  by_cases h : y.1 = id <;> simp [h]
theorem del_lt (L : List Ck) (id : Int) : (delS id L).length < L.length ↔ has L id := by
  unfold delS has
  rw [List.length_filter_lt_length_iff_exists, List.mem_map]
  constructor
  · rintro ⟨x, h1, h2⟩; exact ⟨x, h1, by simpa using h2⟩
  · rintro ⟨x, h1, h2⟩; exact ⟨x, h1, by simpa using h2⟩
theorem take_snoc {L : List Ck} {k : Nat} (h : k < L.length) : L.take (k + 1) = L.take k ++ [L.getD k (0, 0)] := by
  rw [List.take_add_one, List.getD_eq_getElem?_getD, List.getElem?_eq_getElem h]; rfl

set_option maxRecDepth 100000 in
set_option maxHeartbeats 4000000 in
theorem refCancel (b : Nat) (L : List Ck) (id : Int) (w0 w : World) (F : HP) (hs : Sat w0 w (rlP b L * F)) (hl : L.length ≤ 256) :
    Calls Try.prog 43 #[.pointer (some ⟨b, 0, none⟩), .int .i64 id] w (RetV w0 (.bool (decide (has L id))) (rlP b (delS id L) * F)) := by
  obtain ⟨a, c, hs⟩ := rlP_out hs
  go_enter Try.func43, Try.ntmps43
  go_wp2_with fail
  go_loopw [5, 6] (fun kv i wr => ∃ (k : Nat), k ≤ L.length ∧ i = .int .i64 k ∧ Sat w0 wr (recsP kv (delS id (L.take k)) * (pts b 0 [.slice a L.length c] * (recsP (.slice a L.length c) L * F)))) (fun _ i _ => L.length - (intOf i).toNat)
  case atStart =>
    refine ⟨0, Nat.zero_le _, rfl, ?_⟩
    rw [List.take_zero, show delS id [] = [] from rfl, recsP_empty, emp_star]
    exact own_left
  case round =>
    obtain ⟨k, hk, rfl, hs2⟩ := hrel
    clear hs
    obtain ⟨a3, c3, rfl⟩ := (hs2.pull (Q := recsP u5 (delS id (L.take k)))).recs_form
    have hKl : (delS id (L.take k)).length ≤ k := by
      have := List.length_filter_le (fun x : Ck => x.1 != id) (L.take k)
      rw [List.length_take] at this
      unfold delS
      omega
    by_cases hlt : k < L.length
    · obtain ⟨g, off, rfl⟩ := hs2.someR (E := encCk) a L.length c (by omega)
      haveI : Lt k L.length := ⟨hlt⟩
      have Hd : Hid (delS id (L.take (k + 1)) = delS id (L.take k) ++ if (L.getD k (0, 0)).1 = id then [] else [L.getD k (0, 0)]) := by
        rw [Hid, take_snoc hlt, del_snoc]
      obtain ⟨⟨i1, l1⟩, hy⟩ : ∃ y, L.getD k (0, 0) = y := ⟨_, rfl⟩
      haveI e0 : EncAt (L.getD k (0, 0)) 0 (.int .i64 i1) := ⟨by rw [hy]; rfl⟩
      haveI e1 : EncAt (L.getD k (0, 0)) 1 (.int .i64 l1) := ⟨by rw [hy]; rfl⟩
      rw [hy] at Hd
      dsimp only at Hd
      clear hy
      generalize delS id (L.take k) = K at *
      by_cases hi : i1 = id
      · subst hi
        rw [if_pos rfl, List.append_nil] at Hd
        have hb : (i1 != i1) = false := by simp
        go_wp2_with fail
        go_roundw
        case rel => exact ⟨k + 1, by omega, by go_num, by rw [Hd.out]; exact own_left⟩
        case measure => simp [intOf]; omega
      · rw [if_neg hi] at Hd
        have hb : (i1 != id) = true := by simp [hi]
        go_wp2_with (at_builtin; refine wpList_append_recs rfl rfl rfl rfl (by omega) ?_; intro ap ac aL aw ahL ah1 ah2 ahs _)
        go_roundw
        case rel =>
          refine ⟨k + 1, by omega, by go_num, ?_⟩
          rw [Hd.out]
          obtain rfl := ahL.out
          exact own_left
        case measure => simp [intOf]; omega
    · have hkS : L.take k = L := List.take_of_length_le (by omega)
      rw [hkS] at hs2 hKl ⊢
      have hd : decide ((delS id L).length < L.length) = decide (has L id) := decide_eq_decide.2 (del_lt L id)
      have Hd := hid hd
      clear hd hkS
      generalize delS id L = K at *
      go_wp2_with fail
      go_ret
      refine ⟨?_, rlP_of own_it rfl⟩
      rw [← Hd.out]; rfl

theorem over_snoc (L : List Ck) (y : Ck) : overS (L ++ [y]) = overS L ++ if y.2 = 1 then [y.1] else [] := by
  unfold overS
  rw [List.filter_append, List.map_append]
  congr 1
  by_cases h : y.2 = 1 <;> simp [h]
theorem tick_snoc (L : List Ck) (y : Ck) : tickS (L ++ [y]) = tickS L ++ if y.2 = 1 then [] else [(y.1, y.2 - 1)] := by
  unfold tickS
  rw [List.filter_append, List.map_append]
  congr 1
  by_cases h : y.2 = 1 <;> simp [h, dec]
theorem over_le (L : List Ck) : (overS L).length ≤ L.length := by
  unfold overS; rw [List.length_map]; exact List.length_filter_le _ _
theorem tick_le (L : List Ck) : (tickS L).length ≤ L.length := by
  unfold tickS; rw [List.length_map]; exact List.length_filter_le _ _

set_option maxRecDepth 100000 in
set_option maxHeartbeats 4000000 in
theorem refTick (b : Nat) (L : List Ck) (w0 w : World) (F : HP) (hs : Sat w0 w (rlP b L * F)) (hl : L.length ≤ 256) (hf : ∀ x ∈ L, 1 ≤ x.2 ∧ x.2 < 4294967296) :
    Calls Try.prog 44 #[.pointer (some ⟨b, 0, none⟩)] w (Ret w0 fun v => numsP .i64 v (overS L) * (rlP b (tickS L) * F)) := by
  obtain ⟨a, c, hs⟩ := rlP_out hs
  have Hf := hid hf
  clear hf
  go_enter Try.func44, Try.ntmps44
  go_wp2_with fail
  go_loopw [3, 4, 5] (fun ov nv i wr => ∃ (k : Nat), k ≤ L.length ∧ i = .int .i64 k ∧ Sat w0 wr (numsP .i64 ov (overS (L.take k)) * (recsP nv (tickS (L.take k)) * (pts b 0 [.slice a L.length c] * (recsP (.slice a L.length c) L * F))))) (fun _ _ i _ => L.length - (intOf i).toNat)
  case atStart =>
    refine ⟨0, Nat.zero_le _, rfl, ?_⟩
    rw [List.take_zero, show tickS [] = [] from rfl, show overS [] = [] from rfl, recsP_empty, numsP_empty, emp_star, emp_star]
    exact own_left
  case round =>
    obtain ⟨k, hk, rfl, hs2⟩ := hrel
    clear hs
    obtain ⟨a3, c3, rfl⟩ := (hs2.pull (Q := numsP .i64 u3 (overS (L.take k)))).slice_form
    obtain ⟨a4, c4, rfl⟩ := (hs2.pull (Q := recsP u4 (tickS (L.take k)))).recs_form
    have ho := over_le (L.take k)
    have ht := tick_le (L.take k)
    rw [List.length_take] at ho ht
    by_cases hlt : k < L.length
    · obtain ⟨g, off, rfl⟩ := hs2.someR (E := encCk) a L.length c (by omega)
      haveI : Lt k L.length := ⟨hlt⟩
      have Ho : Hid (overS (L.take (k + 1)) = overS (L.take k) ++ if (L.getD k (0, 0)).2 = 1 then [(L.getD k (0, 0)).1] else []) := by
        rw [Hid, take_snoc hlt, over_snoc]
      have Ht : Hid (tickS (L.take (k + 1)) = tickS (L.take k) ++ if (L.getD k (0, 0)).2 = 1 then [] else [((L.getD k (0, 0)).1, (L.getD k (0, 0)).2 - 1)]) := by
        rw [Hid, take_snoc hlt, tick_snoc]
      have hf := Hf.out (L.getD k (0, 0)) (by simp [List.getD, hlt])
      obtain ⟨⟨i1, l1⟩, hy⟩ : ∃ y, L.getD k (0, 0) = y := ⟨_, rfl⟩
      haveI e0 : EncAt (L.getD k (0, 0)) 0 (.int .i64 i1) := ⟨by rw [hy]; rfl⟩
      haveI e1 : EncAt (L.getD k (0, 0)) 1 (.int .i64 l1) := ⟨by rw [hy]; rfl⟩
      rw [hy] at Ho Ht hf
      dsimp only at Ho Ht hf
      obtain ⟨f1, f2⟩ := hf
      clear hy
      generalize overS (L.take k) = O at *
      generalize tickS (L.take k) = N at *
      by_cases hi : l1 = 1
      · subst hi
        rw [if_pos rfl] at Ho Ht
        rw [List.append_nil] at Ht
        go_wp2_with (at_builtin; refine wpList_append_nums rfl rfl rfl rfl (by omega) ?_; intro ap ac aL aw ahL ah1 ah2 ahs _)
        go_roundw
        case rel =>
          refine ⟨k + 1, by omega, by go_num, ?_⟩
          rw [Ho.out, Ht.out]
          obtain rfl := ahL.out
          exact own_left
        case measure => simp [intOf]; omega
      · rw [if_neg hi] at Ho Ht
        rw [List.append_nil] at Ho
        have hb : (l1 - 1 == 0) = false := by simp; omega
        go_wp2_with (at_builtin; refine wpList_append_recs rfl rfl rfl rfl (by omega) ?_; intro ap ac aL aw ahL ah1 ah2 ahs _)
        go_roundw
        case rel =>
          refine ⟨k + 1, by omega, by go_num, ?_⟩
          rw [Ho.out, Ht.out]
          obtain rfl := ahL.out
          exact own_left
        case measure => simp [intOf]; omega
    · have hkS : L.take k = L := List.take_of_length_le (by omega)
      rw [hkS] at hs2 ho ht ⊢
      clear hkS
      go_wp2_with fail
      go_ret
      refine ⟨_, rfl, ?_⟩
      show Sat w0 _ (numsP .i64 (.slice a3 (overS L).length c3) (overS L) * (rlP b (tickS L) * F))
      refine Sat.perm (P := rlP b (tickS L) * (numsP .i64 (.slice a3 (overS L).length c3) (overS L) * F)) ?_ (by ac_rfl)
      exact rlP_of own_it rfl
end Go.Proofs.Ytfphgcplpokigaa
