/-
  The reference's list of clocks: Dues.
-/
import Derived.Test.YtfphgcplpokigaaDeltaS
namespace Go.Proofs.Ytfphgcplpokigaa
open Go.RowKit Go.Sx Go.Dl

set_option maxRecDepth 100000 in
set_option maxHeartbeats 4000000 in
theorem refDues (b : Nat) (L : List Ck) (w0 w : World) (F : HP) (hs : Sat w0 w (rlP b L * F)) (hl : L.length ≤ 256) :
    Calls Try.prog 45 #[.pointer (some ⟨b, 0, none⟩)] w (Ret w0 fun v => recsP v (srt L) * (rlP b L * F)) := by
  obtain ⟨a, c, hs⟩ := rlP_out hs
  go_enter Try.func45, Try.ntmps45
  go_wp2_with fail
  go_loopw [3, 4] (fun ov i wr => ∃ (k : Nat), k ≤ L.length ∧ i = .int .i64 k ∧ Sat w0 wr (recsP ov (srt (L.take k)) * (pts b 0 [.slice a L.length c] * (recsP (.slice a L.length c) L * F)))) (fun _ i _ => L.length - (intOf i).toNat)
  case atStart =>
    refine ⟨0, Nat.zero_le _, rfl, ?_⟩
    rw [List.take_zero, show srt [] = [] from rfl, recsP_empty, emp_star]
    exact own_left
  case round =>
    obtain ⟨k, hk, rfl, hs2⟩ := hrel
    clear hs
    obtain ⟨a3, c3, rfl⟩ := (hs2.pull (Q := recsP u3 (srt (L.take k)))).recs_form
    have hO := (srt_perm (L.take k)).length_eq
    rw [List.length_take] at hO
    by_cases hlt : k < L.length
    · obtain ⟨g, off, rfl⟩ := hs2.someR (E := encCk) a L.length c (by omega)
      haveI : Lt k L.length := ⟨hlt⟩
      have Hins : Hid (srt (L.take (k + 1)) = insS (L.getD k (0, 0)) (srt (L.take k))) := by
        rw [Hid, take_snoc hlt, srt_snoc]
      have hup := srt_up (L.take k)
      obtain ⟨⟨i1, l1⟩, hy⟩ : ∃ y, L.getD k (0, 0) = y := ⟨_, rfl⟩
      haveI e0 : EncAt (L.getD k (0, 0)) 0 (.int .i64 i1) := ⟨by rw [hy]; rfl⟩
      haveI e1 : EncAt (L.getD k (0, 0)) 1 (.int .i64 l1) := ⟨by rw [hy]; rfl⟩
      rw [hy] at Hins
      have Hup := hid hup
      clear hy hup
      generalize srt (L.take k) = O at *
      have hO2 : O.length ≤ 256 := by omega
      clear hO
      go_wp2_with fail
      go_loopw [5] (fun at_ wr => ∃ j : Nat, j ≤ O.length ∧ at_ = .int .i64 j ∧ (∀ y ∈ O.drop j, l1 < y.2) ∧ Sat w0 wr (recsP (.slice a3 O.length c3) O * (pts b 0 [.slice (some ⟨g, off, none⟩) L.length c] * (recsP (.slice (some ⟨g, off, none⟩) L.length c) L * F)))) (fun at_ _ => (intOf at_).toNat)
      case atStart => exact ⟨O.length, Nat.le_refl _, rfl, by rw [List.drop_eq_nil_of_le (Nat.le_refl _)]; simp, own_left⟩
      case round =>
        clear hs2
        obtain ⟨j, hj, rfl, hgt, hs2⟩ := hrel
        have Hj := hid hgt
        clear hgt
        by_cases hj0 : 0 < j
        · obtain ⟨g3, o3, rfl⟩ := hs2.someR (E := encCk) a3 O.length c3 (by omega)
          haveI : Lt (j - 1) O.length := ⟨by omega⟩
          have d0 : decide (0 < j) = true := by simp [hj0]
          have q1 : IntKind.i64.wrap ((j : Int) - 1) = (j : Int) - 1 := by rw [IntKind.wrap_i64]; omega
          have q2 : (0 : Int) ≤ (j : Int) - 1 := by omega
          have q5 : (1 : Int) ≤ (j : Int) := by omega
          have q3 : ((j : Int) - 1).toNat = j - 1 := by omega
          have q4 : (j : Int) - 1 < (O.length : Int) := by omega
          obtain ⟨⟨i2, l2⟩, hy⟩ : ∃ y, O.getD (j - 1) (0, 0) = y := ⟨_, rfl⟩
          haveI e3 : EncAt (O.getD (j - 1) (0, 0)) 1 (.int .i64 l2) := ⟨by rw [hy]; rfl⟩
          by_cases hc : l1 < l2
          · have d1 : decide (l1 < l2) = true := by simp [hc]
            have Hn : Hid (∀ y ∈ O.drop (j - 1), l1 < y.2) := fun y hy2 => by
              rw [List.drop_eq_getElem_cons (by omega), show j - 1 + 1 = j by omega] at hy2
              rcases List.mem_cons.1 hy2 with rfl | h
              · have : O[j - 1] = (i2, l2) := by rw [← hy]; simp [List.getD, show j - 1 < O.length by omega]
                rw [this]; exact hc
              · exact Hj.out y h
            clear hy
            go_wp2_with fail
            go_quiet (fail)
            go_wp2_with fail
            go_roundw
            case rel => exact ⟨j - 1, by omega, by go_num, Hn.out, own_left⟩
            case measure => simp [intOf]; omega
          · have d1 : decide (l1 < l2) = false := by simp; omega
            have Hlow : ∀ y ∈ O.take j, y.2 ≤ l1 := fun y hy2 => by
              have h1 := Hup.out
              have h2 : O.take j = O.take (j - 1) ++ [O.getD (j - 1) (0, 0)] := by
                have := take_snoc (L := O) (k := j - 1) (by omega)
                rwa [show j - 1 + 1 = j by omega] at this
              have h3 : (O.take j).Pairwise fun a b => a.2 ≤ b.2 := h1.sublist (List.take_sublist _ _)
              rw [h2, hy, List.pairwise_append] at h3
              rw [h2, hy] at hy2
              rcases List.mem_append.1 hy2 with h | h
              · have := h3.2.2 y h (i2, l2) (by simp)
                have h5 : y.2 ≤ l2 := this
                omega
              · rw [List.mem_singleton] at h; subst h
                show l2 ≤ l1
                omega
            clear hy
            go_wp2_with fail
            go_quiet (fail)
            have Hin : Hid (srt (L.take (k + 1)) = O.take j ++ (i1, l1) :: O.drop j) := by
              have hsp := insS_split (i1, l1) (O.take j) (O.drop j) Hlow (fun y hy => Hj.out y (List.mem_of_mem_head? hy))
              rw [List.take_append_drop] at hsp
              rw [Hid, Hins.out, hsp]
            go_wp2_with (first | (at_builtin; refine wpList_append_recs rfl rfl rfl rfl (by omega) ?_; intro ap ac aL aw ahL ah1 ah2 ahs _) | (refine wpList_sliceR_from rfl rfl rfl rfl (by omega) (by omega) ?_; intro px pc pL php phL ph1 ph2) | (refine wpList_sliceR_to rfl rfl rfl rfl (by omega) (by omega) ?_; intro px pc pL php phL ph1 ph2))
            go_roundw
            case rel =>
              refine ⟨k + 1, by omega, by go_num, ?_⟩
              rw [Hin.out]
              unfold Hid at *
              subst_vars
              simp only [List.nil_append, Int.toNat_natCast, List.append_assoc, List.singleton_append] at ahs ⊢
              exact own_left
            case measure => simp [intOf]; omega
        · have d0 : decide (0 < j) = false := by simp; omega
          have Hlow : ∀ y ∈ O.take j, y.2 ≤ l1 := fun y hy2 => by
            rw [show j = 0 by omega, List.take_zero] at hy2
            cases hy2
          go_wp2_with fail
          go_quiet (fail)
          have Hin : Hid (srt (L.take (k + 1)) = O.take j ++ (i1, l1) :: O.drop j) := by
            have hsp := insS_split (i1, l1) (O.take j) (O.drop j) Hlow (fun y hy => Hj.out y (List.mem_of_mem_head? hy))
            rw [List.take_append_drop] at hsp
            rw [Hid, Hins.out, hsp]
          go_wp2_with (first | (at_builtin; refine wpList_append_recs rfl rfl rfl rfl (by omega) ?_; intro ap ac aL aw ahL ah1 ah2 ahs _) | (refine wpList_sliceR_from rfl rfl rfl rfl (by omega) (by omega) ?_; intro px pc pL php phL ph1 ph2) | (refine wpList_sliceR_to rfl rfl rfl rfl (by omega) (by omega) ?_; intro px pc pL php phL ph1 ph2))
          go_roundw
          case rel =>
            refine ⟨k + 1, by omega, by go_num, ?_⟩
            rw [Hin.out]
            unfold Hid at *
            subst_vars
            simp only [List.nil_append, Int.toNat_natCast, List.append_assoc, List.singleton_append] at ahs ⊢
            exact own_left
          case measure => simp [intOf]; omega
    · have hkS : L.take k = L := List.take_of_length_le (by omega)
      rw [hkS] at hs2 ⊢
      clear hkS
      go_wp2_with fail
      go_ret
      refine ⟨_, rfl, ?_⟩
      show Sat w0 _ (recsP (.slice a3 (srt L).length c3) (srt L) * (rlP b L * F))
      refine Sat.perm (P := rlP b L * (recsP (.slice a3 (srt L).length c3) (srt L) * F)) ?_ (by ac_rfl)
      exact rlP_of own_it rfl
end Go.Proofs.Ytfphgcplpokigaa
