/-
  The package slices at clocks: IndexFunc, Delete.
-/
import Derived.Test.YtfphgcplpokigaaDeltaA
import Derived.Shelf.Abstract
namespace Go.Proofs.Ytfphgcplpokigaa
open Go.RowKit Go.Sx Go.Dl

theorem sameClock (c x id : Int) (cb : Nat) (w0 w : World) (F : HP) (hs : Sat w0 w (pts cb 0 [.int .i64 id] * F)) :
    Calls Try.prog 62 #[.agg #[.int .i64 c, .int .i64 x], .pointer (some ⟨cb, 0, none⟩)] w (RetV w0 (.bool (c == id)) (pts cb 0 [.int .i64 id] * F)) := by
  go_enter Try.func62, Try.ntmps62
  go_wp2_with fail
  go_ret
  exact ⟨rfl, own_left⟩

theorem at_next {D : List Ck} {k : Nat} {id : Int} (hk : k < D.length) (hn : ∀ x ∈ D.take k, x.1 ≠ id) (h : (D.getD k (0, 0)).1 ≠ id) : ∀ x ∈ D.take (k + 1), x.1 ≠ id := by
  intro x hx
  rw [List.take_succ_eq_append_getElem hk, List.mem_append] at hx
  rcases hx with hx | hx
  · exact hn x hx
  · obtain rfl : x = D[k] := by simpa using hx
    simpa [List.getD, hk] using h

set_option maxHeartbeats 1000000 in
theorem slicesIndexFunc (v : Value) (D : List Ck) (id : Int) (cb : Nat) (w0 w : World) (F : HP) (hs : Sat w0 w (recsP v D * (pts cb 0 [.int .i64 id] * F))) (hi : has D id) (hl : D.length ≤ 256) :
    Calls Try.prog 61 #[v, .func (.func 62) #[] #[.pointer (some ⟨cb, 0, none⟩)]] w (RetV w0 (.int .i64 (at_ D id)) (recsP v D * (pts cb 0 [.int .i64 id] * F))) := by
  have eg : ∀ args w, (callFunc 62 args).run Try.prog w = .ok (.enter 62 args) w := Go.Proofs.enters_of Try.func62 (by kernel_rfl) rfl
  have hat := at_lt hi
  have hidx : ∀ D' : List Ck, (∀ x ∈ D', x.1 ≠ id) → ¬ has D' id := fun D' h h' => by obtain ⟨x, hx, hxe⟩ := List.mem_map.1 h'; exact h x hx hxe
  have hidx := hid (hidx D)
  have Hi := hid hi
  obtain ⟨a, cap, rfl⟩ := hs.recs_form
  rcases hs.slice_out with ⟨_, h0, _, _⟩ | ⟨g, off, cap', sp, e, -, -, -, -, -⟩
  · omega
  simp only [Value.slice.injEq] at e
  obtain ⟨rfl, -, rfl⟩ := e
  go_enter Try.func61, Try.ntmps61
  go_wp2_with fail
  go_loopw [5, 8] (fun _ i wr => ∃ k : Nat, k < D.length ∧ i = .int .i64 k ∧ (∀ x ∈ D.take k, x.1 ≠ id) ∧ Sat w0 wr (recsP (.slice (some ⟨g, off, none⟩) D.length cap) D * (pts cb 0 [.int .i64 id] * F))) (fun _ i _ => D.length - (intOf i).toNat)
  case atStart => exact ⟨0, by omega, rfl, by simp, hs⟩
  case round =>
    obtain ⟨k, hk, rfl, hn, hs2⟩ := hrel
    have hnx := hid (at_next (id := id) hk hn)
    have hfi := hid (at_first (id := id) hk)
    generalize hDk : D.getD k (0, 0) = p at *
    obtain ⟨c, x⟩ := p
    haveI : Lt k D.length := ⟨hk⟩
    haveI e0 : EncAt (D.getD k (0, 0)) 0 (.int .i64 c) := ⟨by rw [hDk]; rfl⟩
    haveI e1 : EncAt (D.getD k (0, 0)) 1 (.int .i64 x) := ⟨by rw [hDk]; rfl⟩
    have Hn := hid hn
    have Hdk := hid hDk
    clear hn hDk hs hi
    have hkd : decide (k < D.length) = true := by simp [hk]
    go_wp2_with fail
    refine (sameClock c x id cb w0 _ _ own).mono ?_
    rintro e w2 ⟨rfl, hs3⟩
    by_cases hc : c = id
    · have hb : (c == id) = true := by simp [hc]
      rw [hb]
      have hres := hid (hfi.out hc Hn.out)
      clear hc hb
      go_wp2_with fail
      go_ret
      exact ⟨by rw [hres.out]; rfl, own_left⟩
    · have hb : (c == id) = false := by simp [hc]
      rw [hb]
      have hn2 := hid (hnx.out hc)
      have hk2 : k + 1 < D.length := by
        refine Nat.lt_of_le_of_ne hk fun e => ?_
        have h1 := hn2.out
        rw [List.take_of_length_le (by omega)] at h1
        exact hidx.out h1 Hi.out
      clear hc hb
      go_wp2_with fail
      go_roundw
      case rel => exact ⟨k + 1, hk2, by go_num, hn2.out, own_left⟩
      case measure => simp [intOf]; omega

set_option maxRecDepth 100000 in
set_option maxHeartbeats 2000000 in
theorem slicesDeleteC (v : Value) (D : List Ck) (k : Nat) (k1 : Int) (hk1 : k1 = k + 1) (w0 w : World) (F : HP) (hs : Sat w0 w (recsP v D * F)) (hk : k < D.length) (hl : D.length ≤ 256) :
    Calls Try.prog 63 #[v, .int .i64 k, .int .i64 k1] w (Ret w0 fun v' => recsP v' (D.eraseIdx k) * F) := by
  rcases hs.slice_out with ⟨_, h0, _, _⟩ | ⟨g, off, cap, sp, rfl, hc, hcm, hx, hsp, hs'⟩
  · omega
  unfold maxLen at hcm
  subst hk1
  have e0 : cellsOf D ++ sp = cellsOf (D.take k) ++ ([.int .i64 (D.getD k (0, 0)).1, .int .i64 (D.getD k (0, 0)).2] ++ (cellsOf (D.drop (k + 1)) ++ sp)) := by
    have h1 : D = D.take k ++ D.getD k (0, 0) :: D.drop (k + 1) := by simp [List.getD, hk]
    conv => lhs; rw [h1]
    rw [cellsOf_append, cellsOf_cons, List.append_assoc, List.append_assoc]; rfl
  have hfin : cellsOf (D.eraseIdx k) = cellsOf (D.take k) ++ cellsOf (D.drop (k + 1)) := by rw [List.eraseIdx_eq_take_drop_succ, cellsOf_append]
  have hfl : (D.eraseIdx k).length = D.length - 1 := by simp [List.length_eraseIdx, hk]
  have hlt : (cellsOf (D.take k)).length = k * 2 := by rw [cellsOf_len, List.length_take, Nat.min_eq_left (Nat.le_of_lt hk)]
  have hld1 : (cellsOf (D.drop (k + 1))).length = (D.length - (k + 1)) * 2 := by rw [cellsOf_len, List.length_drop]
  generalize hA : cellsOf (D.take k) = A at *
  generalize hB : cellsOf (D.drop (k + 1)) = B at *
  have hBo : ∀ u ∈ B, u.oneCell' = true := fun u hu => cellsOf_one _ u (hB ▸ hu)
  generalize hy : ([.int .i64 (D.getD k (0, 0)).1, .int .i64 (D.getD k (0, 0)).2] : List Value) = Y at *
  have hyl : Y.length = 2 := by rw [← hy]; rfl
  have hsA : Sat w0 w.drew (pts g off (A ++ (Y ++ (B ++ sp))) * F) := hs'.drew.perm (by rw [e0])
  clear e0 hs hs' hA hB hy
  have hnews : ∀ j u, B[j]? = some u → w.drew.cell? ((⟨g, off + (k + 1) * 2, none⟩ : Addr).add j) = some u := fun j u hj => by
    rw [Addr.add_lit, show off + (k + 1) * 2 + j = off + (A.length + (Y.length + j)) by omega]
    refine hsA.cell ?_
    have hj' := (List.getElem?_eq_some_iff.1 hj).1
    rw [List.getElem?_append_right (by omega), Nat.add_sub_cancel_left, List.getElem?_append_right (by omega), Nat.add_sub_cancel_left, List.getElem?_append_left hj']
    exact hj
  have hsp' : ∀ j, j < B.length → (w.drew.cell? ⟨g, off + k * 2 + j, none⟩).isSome = true ∧ w.drew.frozen? ⟨g, off + k * 2 + j, none⟩ = false := fun j hj => by
    rw [Nat.add_assoc]
    refine ⟨?_, hsA.frz (by simp; omega)⟩
    rw [hsA.cell (j := k * 2 + j) (List.getElem?_eq_getElem (by simp; omega))]; rfl
  have hs2 := Sat.setCells B w.drew A (Y ++ (B ++ sp)) hsA (by simp; omega)
  have hT : (Y ++ (B ++ sp)).drop B.length = (Y ++ B).drop B.length ++ sp := by
    rw [← List.append_assoc, List.drop_append_of_le_length (by simp)]
  rw [hT] at hs2
  have hyl2 : ((Y ++ B).drop B.length).length = 1 * 2 := by simp; omega
  generalize (Y ++ B).drop B.length = Y2 at *
  have hAB : (A ++ B).length = (D.length - 1) * 2 := by simp; omega
  have hs3 := hs2.perm (congrArg (· * F) (pts_append _ _ _ _))
  have hs4 := hs3.perm (congrArg (fun x => _ * x * F) (pts_append _ _ _ _))
  rw [hAB, hlt, hyl2] at hs4
  have hs5 := hs4.perm (by ac_rfl : _ = pts g (off + (D.length - 1) * 2) Y2 * (pts g off (A ++ B) * (pts g (off + (D.length - 1) * 2 + 1 * 2) sp * F)))
  clear hs2 hs3 hs4 hT
  have e0 : (Builtin.zeroCells (Value.agg #[.int .i64 0, .int .i64 0]).cells 1).toList = [Value.int .i64 0, Value.int .i64 0] := by kernel_rfl
  have hone : ∀ u ∈ (Builtin.zeroCells (Value.agg #[.int .i64 0, .int .i64 0]).cells 1).toList, u.oneCell' = true := by rw [e0]; simp [Value.oneCell']
  have fin : ∀ (w' : World) (cp : Nat), Sat w0 w' (pts g (off + (D.length - 1) * 2) (Builtin.zeroCells (Value.agg #[.int .i64 0, .int .i64 0]).cells 1).toList * (pts g off (A ++ B) * (pts g (off + (D.length - 1) * 2 + 1 * 2) sp * F))) →
      D.length ≤ cp → cp ≤ maxLen → sp.length = (cp - D.length) * 2 → Sat w0 w' (recsP (.slice (some ⟨g, off, none⟩) (D.length - 1) cp) (D.eraseIdx k) * F) := fun w' cp h h1 h2 h3 => by
    rw [e0] at h
    have e1 : pts g off (A ++ B ++ ([Value.int .i64 0, Value.int .i64 0] ++ sp)) = pts g off (A ++ B) * (pts g (off + (D.length - 1) * 2) [Value.int .i64 0, Value.int .i64 0] * pts g (off + (D.length - 1) * 2 + 1 * 2) sp) := by
      rw [pts_append g off (A ++ B), pts_append g _ [Value.int .i64 0, Value.int .i64 0] sp, hAB]; rfl
    have h4 : Sat w0 w' (pts g off (A ++ B ++ ([Value.int .i64 0, Value.int .i64 0] ++ sp)) * F) := by
      rw [e1]; exact h.perm (by ac_rfl)
    unfold recsP
    rw [hfl, hfin]
    exact Sat.slice_in h4 (by omega) h2 hAB (by simp; omega)
  have hkc : k ≤ cap := by omega
  have hkl : k + 1 ≤ D.length := by omega
  have hkI : (k : Int) + 1 ≤ (D.length : Int) := by omega
  have hk0 : (0 : Int) ≤ (k : Int) + 1 := by omega
  have hk00 : (k : Int) ≤ (k : Int) + 1 := by omega
  have hlk1 : D.length - 1 ≤ D.length := by omega
  have hsz : 0 < D.length := by omega
  have hq : k + (D.length - (k + 1)) = D.length - 1 := by omega
  have hq1 : D.length - (D.length - 1) = 1 := by omega
  by_cases hne : cap = k + 1
  · subst hne
    have hl1 : D.length - (k + 1) = 0 := by omega
    have hnil : B = [] := List.eq_nil_of_length_eq_zero (by omega)
    subst hnil
    go_enter Try.func63, Try.ntmps63
    go_wp2_with fail
    go_still_tail 6, (by kernel_rfl)
    change wpList _ _ _ _ _ w.drew
    refine wpList_append_room (by rfl) (.tmp 22) (.tmp 25) (by rfl) elemC g off k (k + 1) (by rfl) _ 0 _ [] (by rfl) rfl (fun j u h => by cases h) (fun u h => by cases h) (by omega) (fun j h => absurd h (Nat.not_lt_zero _)) ?_
    rw [show k + 0 = D.length - 1 by omega]
    generalize w.drew.setCells g (off + k * 2) [] = w1 at hs5 ⊢
    clear hsp' hnews hsA
    go_wp2_with (refine wpList_clear (o := ⟨none, _, _, _, _, _⟩) (by rfl) (.tmp 31) (by rfl) elemC (b := g) (off := off + (D.length - 1) * 2) (n := 1) (cap := k + 1 - (D.length - 1)) (by rfl) (by decide) hs5 hyl2 hone ?_; intro w' hs')
    go_wp2
    go_ret
    exact ⟨_, rfl, fin _ _ hs' (by omega) (by unfold maxLen; omega) (by omega)⟩
  · go_enter Try.func63, Try.ntmps63
    go_wp2_with fail
    go_still_tail 6, (by kernel_rfl)
    change wpList _ _ _ _ _ w.drew
    refine wpList_append_room (by rfl) (.tmp 22) (.tmp 25) (by rfl) elemC g off k cap (by rfl) _ (D.length - (k + 1)) _ B (by rfl) hld1 hnews hBo (by omega) hsp' ?_
    rw [hq]
    generalize w.drew.setCells g (off + k * 2) B = w1 at hs5 ⊢
    clear hsp' hnews hsA
    go_wp2_with (refine wpList_clear (o := ⟨none, _, _, _, _, _⟩) (by rfl) (.tmp 31) (by rfl) elemC (b := g) (off := off + (D.length - 1) * 2) (n := 1) (cap := cap - (D.length - 1)) (by rfl) (by decide) hs5 hyl2 hone ?_; intro w' hs')
    go_wp2
    go_ret
    exact ⟨_, rfl, fin _ _ hs' (by omega) (by unfold maxLen; omega) (by omega)⟩
end Go.Proofs.Ytfphgcplpokigaa
