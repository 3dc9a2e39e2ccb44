/-
  Audit: the reference's New.
-/
import Derived.Test.YtfphgcplpokigaaAuditQ
namespace Go.Proofs.Ytfphgcplpokigaa
open Go.RowKit Go.Sx Go.Au
set_option linter.unusedSimpArgs false
set_option linter.unusedVariables false

instance : ElemR Try.prog 93 Tr 5 encTr 124 40 (.agg #[.int .i64 0, .int .i64 0, .int .i64 0, .int .i64 0, .int .u32 0]) := ⟨⟨by kernel_rfl, by kernel_rfl, rfl⟩, by decide⟩
instance : Cells encTr [.int .i64 0, .int .i64 0, .int .i64 0, .int .i64 (-1), .int .u32 0] [toTr tk0] := ⟨rfl⟩
theorem dn_zero {l : List Int} (h : l.length = 32) (h0 : ∀ j, j < 32 → owg l j = 0) : l = List.replicate 32 0 := by
  refine List.eq_replicate_iff.2 ⟨h, fun x hx => ?_⟩
  obtain ⟨j, hj, rfl⟩ := List.getElem_of_mem hx
  have := h0 j (by omega)
  unfold owg at this
  simpa [List.getD, hj] using this
theorem owg_set {l : List Int} {k j : Nat} (h : k < l.length) (x : Int) : owg (l.set k x) j = if j = k then x else owg l j := by
  unfold owg
  by_cases e : j = k
  · subst e; rw [if_pos rfl]; exact getD_set_self h x 0
  · rw [if_neg e]; simp [List.getD, List.getElem?_set_ne (Ne.symm e)]

def zeroR : List Value := [.slice none 0 0] ++ (dn (List.replicate 32 1) ++ ((List.replicate 16 false).map Value.bool ++ ([.int .i64 (-1), .int .i64 255] ++ (evCells ev0 ++ (evCells ev0 ++ [.int .i64 0, .bool false])))))
theorem zeroR_eq : (Try.zeroCells95.setIfInBounds 49 (Value.int .i64 (-1))).setIfInBounds 50 (Value.int .i64 255) = zeroR.toArray := by kernel_rfl
set_option maxRecDepth 100000 in
set_option maxHeartbeats 8000000 in
theorem rfNew (w0 w : World) (F : HP) (hs : Sat w0 w F) :
    Calls Try.prog 52 #[] w fun en w' => ∃ b, en = .returned (.pointer (some ⟨b, 0, none⟩)) ∧ Sat w0 w' (rfP b au0 * F) := by
  have hB := hs.alloc zeroR.toArray 95
  rw [← zeroR_eq] at hB
  have Hlist : Hid (((Try.zeroCells95.setIfInBounds 49 (Value.int .i64 (-1))).setIfInBounds 50 (Value.int .i64 255)).toList = zeroR) := by unfold Hid; rw [zeroR_eq]
  rw [Hlist.out] at hB
  go_enter Try.func52, Try.ntmps52
  go_wp2_with fail
  refine wp_gen (w0 := w0) ?_
  intro wx hsx
  generalize w.heap.size = b at *
  have h1 : Sat w0 wx (pts b 0 zeroR * F) := hsx
  unfold zeroR at h1
  rw [pts_append, pts_append, pts_append, pts_append, pts_append, pts_append] at h1
  have h2 : Sat w0 wx (pts b 0 [.slice none 0 0] * (pts b 1 (dn (List.replicate 32 1)) * (pts b 33 ((List.replicate 16 false).map Value.bool) * (pts b 49 [.int .i64 (-1), .int .i64 255] * (pts b 51 (evCells ev0) * (pts b 57 (evCells ev0) * pts b 63 [.int .i64 0, .bool false]))))) * F) := h1
  clear h1 hsx hB
  have h3 : Sat w0 wx (pts b 0 [.slice none 0 0] * (recsP (.slice none 0 0) ([] : List Tr) * (pts b 1 (dn (List.replicate 32 1)) * (pts b 33 ((List.replicate 16 false).map Value.bool) * (pts b 49 [.int .i64 (-1), .int .i64 255] * (pts b 51 (evCells ev0) * (pts b 57 (evCells ev0) * (pts b 63 [.int .i64 0, .bool false] * F)))))))) := h2.perm (by rw [recsP_nil, emp_star]; ac_rfl)
  clear h2 hs
  go_loopw [2] (fun i wr => ∃ (k : Nat) (v : Value), k ≤ 64 ∧ i = .int .i64 k ∧ Sat w0 wr (pts b 0 [v] * (recsP v ((List.replicate k tk0).map toTr) * (pts b 1 (dn (List.replicate 32 1)) * (pts b 33 ((List.replicate 16 false).map Value.bool) * (pts b 49 [.int .i64 (-1), .int .i64 255] * (pts b 51 (evCells ev0) * (pts b 57 (evCells ev0) * (pts b 63 [.int .i64 0, .bool false] * F))))))))) (fun i _ => 64 - (intOf i).toNat)
  case atStart => exact ⟨0, _, by omega, rfl, h3⟩
  case round =>
    obtain ⟨k, v, hk, rfl, hs4⟩ := hrel
    clear h3
    obtain ⟨a, c, rfl⟩ := (hs4.pull (Q := recsP v ((List.replicate k tk0).map toTr))).recs_form
    rw [List.length_map, List.length_replicate] at hs4
    by_cases hk64 : k < 64
    · have i1 : (k : Int) < 64 := by omega
      have Hrep : Hid ((List.replicate k tk0).map toTr ++ [toTr tk0] = (List.replicate (k + 1) tk0).map toTr) := by
        unfold Hid; rw [List.replicate_succ', List.map_append]; rfl
      generalize hL : (List.replicate k tk0).map toTr = L at *
      have HL := hid hL
      clear hL
      go_wp2_with (first | (at_builtin; refine wpList_append_recs rfl rfl rfl rfl (by omega) ?_; intro ap ac aL aw ahL ah1 ah2 ahs _) | (refine wpList_sliceR_from rfl rfl rfl rfl (by omega) (by omega) ?_; intro px pc pL php phL ph1 ph2) | (refine wpList_sliceR_to rfl rfl rfl rfl (by omega) (by omega) ?_; intro px pc pL php phL ph1 ph2))
      go_roundw
      case rel =>
        refine ⟨k + 1, .slice ap aL.length ac, by omega, by go_num, ?_⟩
        rw [← Hrep.out, ← ahL.out]
        exact own_left
      case measure => simp [intOf]; omega
    · obtain rfl : k = 64 := by omega
      have i1 : ¬ ((64 : Int) < 64) := by omega
      generalize hL : (List.replicate 64 tk0).map toTr = L at *
      have HL := hid hL
      clear hL
      go_wp2_with fail
      go_loopw [3] (fun i wr => ∃ (j : Nat) (l : List Int), j ≤ 32 ∧ i = .int .i64 j ∧ l.length = 32 ∧ (∀ m, m < j → owg l m = 0) ∧ Sat w0 wr (pts b 0 [.slice a 64 c] * (recsP (.slice a 64 c) L * (pts b 1 (dn l) * (pts b 33 ((List.replicate 16 false).map Value.bool) * (pts b 49 [.int .i64 (-1), .int .i64 255] * (pts b 51 (evCells ev0) * (pts b 57 (evCells ev0) * (pts b 63 [.int .i64 0, .bool false] * F))))))))) (fun i _ => 32 - (intOf i).toNat)
      case atStart => exact ⟨0, List.replicate 32 1, by omega, rfl, rfl, fun m hm => absurd hm (by omega), hs4⟩
      case round =>
        obtain ⟨j, l, hj, rfl, hl, hz, hs5⟩ := hrel
        clear hs4
        have Hz := hid hz
        have Hll := hid hl
        clear hz hl
        by_cases hj32 : j < 32
        · have i2 : (j : Int) < 32 := by omega
          have i3 : decide (j < 32) = true := by simp; omega
          haveI : Lt j l.length := ⟨by have := Hll.out; omega⟩
          go_wp2_with fail
          go_roundw
          case rel =>
            refine ⟨j + 1, l.set j (-1 + 1), by omega, by go_num, by rw [List.length_set]; exact Hll.out, fun m hm => ?_, own_left⟩
            rw [owg_set this.lt]
            split
            · rfl
            · exact Hz.out m (by omega)
          case measure => simp [intOf]; omega
        · obtain rfl : j = 32 := by omega
          have i2 : ¬ ((32 : Int) < 32) := by omega
          have hd := dn_zero Hll.out Hz.out
          subst hd
          go_wp2_with fail
          go_ret
          refine ⟨b, rfl, rfP_of (v := .slice a 64 c) ?_⟩
          have h6 : au0.ts.map toTr = L := HL.out
          rw [h6]
          have h7 : Sat w0 _ (pts b 0 [.slice a 64 c] * (recsP (.slice a 64 c) L * (pts b 1 (dn (List.replicate 32 0)) * (pts b 33 ((List.replicate 16 false).map Value.bool) * (pts b 49 [.int .i64 (-1), .int .i64 255] * (pts b 51 (evCells ev0) * (pts b 57 (evCells ev0) * (pts b 63 [.int .i64 0, .bool false] * F)))))))) := own_left (w := wr)
          exact h7
end Go.Proofs.Ytfphgcplpokigaa
