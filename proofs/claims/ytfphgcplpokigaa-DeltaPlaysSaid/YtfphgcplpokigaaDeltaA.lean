/-
  The package slices at clocks: Insert, Delete, IndexFunc.
-/
import Derived.Test.YtfphgcplpokigaaProg
import Derived.Test.YtfphgcplpokigaaCopy
import Derived.Test.YtfphgcplpokigaaDeltaP
import Derived.Test.YtfphgcplpokigaaRegionB
import Derived.Deep.QuietTactic
import Derived.BigQuiet
import Derived.WalkSpells
import Derived.StillTailTactics
import Derived.Deep.DeepCutAuto
import Derived.Deep.CutBlock
import Derived.Laws.Externs
namespace Go.Proofs.Ytfphgcplpokigaa
open Go.RowKit Go.Sx Go.Dl

instance encCk : Enc Ck 2 where
  enc := fun x => [.int .i64 x.1, .int .i64 x.2]
  len := fun _ => rfl
  one := fun x u hu => by
    simp only [List.mem_cons, List.not_mem_nil, or_false] at hu
    rcases hu with rfl | rfl <;> rfl
  dft := (0, 0)
  pos := by decide
instance (x : Ck) : EncAt x 0 (.int .i64 x.1) := ⟨rfl⟩
instance (x : Ck) : EncAt x 1 (.int .i64 x.2) := ⟨rfl⟩
instance (x : Ck) (n : Int) : EncSet x 0 (.int .i64 n) (n, x.2) := ⟨rfl, by decide⟩
instance (x : Ck) (n : Int) : EncSet x 1 (.int .i64 n) (x.1, n) := ⟨rfl, by decide⟩
theorem elemC : ElemT Try.prog 24 100 2 16 (.agg #[.int .i64 0, .int .i64 0]) := ⟨by kernel_rfl, by kernel_rfl, rfl⟩
instance : ElemR Try.prog 24 Ck 2 encCk 100 16 (.agg #[.int .i64 0, .int .i64 0]) := ⟨elemC, by decide⟩
instance (x y : Int) : Cells encCk [.int .i64 x, .int .i64 y] [(x, y)] := ⟨rfl⟩

theorem overlaps_no (w0 w : World) (F : HP) (g b o m vc lb cb : Nat) (x : Ck) (xs : List Value) (hw : Whole w g 2) (hs : Sat w0 w (pts g 0 [.int .i64 x.1, .int .i64 x.2] * (pts b o xs * F))) (hx : 0 < xs.length) (o' : Nat) :
    g ≠ b ∧ (callFunc 82 #[.slice (some ⟨g, 0, none⟩) m vc, .slice (some ⟨b, o', none⟩) lb cb]).run Try.prog w = .ok (.value (.bool false)) w := by
  have hs2 := hs.pull (Q := pts b o xs)
  have hc := hs2.cell (j := 0) (List.getElem?_eq_getElem hx)
  have hne : g ≠ b := by
    intro e
    subst e
    have hlt := hw.lt hc
    have := hs.apart (j := o) (j' := 0) hlt hx
    exact this (by simp)
  refine ⟨hne, ?_⟩
  obtain ⟨tA, hsa, hfe⟩ := hw
  obtain ⟨tB, kB, hsb, hkB⟩ := shape_of_cell hc
  rw [run_callFunc_extern Try.func82 (by kernel_rfl) (by kernel_rfl) (by kernel_rfl) (e := Extern.SlicesOverlaps.overlaps #[24, 24] #[4]) (by kernel_rfl),
    Lib.run_overlaps_apart w 24 4 100 elemC.ht 2 (fun w => by kernel_rfl) ⟨g, 0, none⟩ ⟨b, o', none⟩ m vc lb cb hne tA tB 2 kB hsa hsb hkB hs.f0 hfe]
  rfl

set_option maxHeartbeats 4000000 in
set_option maxRecDepth 100000 in
theorem slicesInsert (v : Value) (D : List Ck) (k g : Nat) (x1 x2 : Int) (w0 w : World) (F : HP) (hs : Sat w0 w (recsP v D * (pts g 0 [.int .i64 x1, .int .i64 x2] * F))) (hw : Whole w g 2) (hk : k ≤ D.length) (hl : D.length ≤ 256) :
    Calls Try.prog 57 #[v, .int .i64 k, .slice (some ⟨g, 0, none⟩) 1 1] w (Ret w0 fun v' => recsP v' (D.take k ++ (x1, x2) :: D.drop k) * F) := by
  by_cases hke : k = D.length
  · subst hke
    obtain ⟨a, cap, rfl⟩ := hs.recs_form
    have hrx : RdR w (.slice (some ⟨g, 0, none⟩) 1 1) [(x1, x2)] := ⟨_, 1, g, 0, rfl, Nat.le_refl _, by simp [maxLen], fun _ => rfl, fun j u hj => (hs.pull (Q := pts g 0 [.int .i64 x1, .int .i64 x2])).cell (b := g) (o := 0) hj⟩
    haveI : RdC w encCk (.slice (some ⟨g, 0, none⟩) 1 1) [(x1, x2)] := ⟨hrx⟩
    have hq := hs.rdR.caps
    have hcm : cap ≤ maxLen := hq.2.2
    unfold maxLen at hcm
    have hD : D.take D.length ++ (x1, x2) :: D.drop D.length = D ++ [(x1, x2)] := by simp
    rw [hD]
    have hn1 : D.length ≤ cap := hq.2.1
    by_cases hcz : cap = D.length
    · subst hcz
      go_enter Try.func57, Try.ntmps57
      go_wp2_with (at_builtin; refine wpList_append_recs rfl rfl rfl rfl (by omega) ?_; intro ap ac aL aw ahL ah1 ah2 ahs _)
      go_ret
      refine ⟨_, rfl, ?_⟩
      obtain rfl := ahL.out
      have h2 : Sat w0 aw (recsP (.slice ap (D ++ [(x1, x2)]).length ac) (D ++ [(x1, x2)]) * F) := own_left
      exact h2
    · go_enter Try.func57, Try.ntmps57
      go_wp2_with (at_builtin; refine wpList_append_recs rfl rfl rfl rfl (by omega) ?_; intro ap ac aL aw ahL ah1 ah2 ahs _)
      go_ret
      refine ⟨_, rfl, ?_⟩
      obtain rfl := ahL.out
      have h2 : Sat w0 aw (recsP (.slice ap (D ++ [(x1, x2)]).length ac) (D ++ [(x1, x2)]) * F) := own_left
      exact h2
  · have hkl : k < D.length := by omega
    rcases hs.slice_out with ⟨_, h0, _, _⟩ | ⟨b, off, cap, sp, rfl, hc, hcm, hx, hsp, hs'⟩
    · omega
    unfold maxLen at hcm
    have hk1 : (k : Int) + 1 ≤ (D.length : Int) := by omega
    have hneI : ((k : Int) == (D.length : Int)) = false := beq_eq_false_iff_ne.2 (by omega)
    have hkc : ¬ cap = k := by omega
    have e0 : cellsOf D ++ sp = cellsOf (D.take k) ++ ([.int .i64 (D.getD k (0, 0)).1, .int .i64 (D.getD k (0, 0)).2] ++ (cellsOf (D.drop (k + 1)) ++ sp)) := by
      have h1 : D = D.take k ++ D.getD k (0, 0) :: D.drop (k + 1) := by simp [List.getD, hkl]
      conv => lhs; rw [h1]
      rw [cellsOf_append, cellsOf_cons, List.append_assoc, List.append_assoc]; rfl
    have hlt : (cellsOf (D.take k)).length = k * 2 := by rw [cellsOf_len, List.length_take, Nat.min_eq_left hk]
    have hld : (cellsOf (D.drop k)).length = (D.length - k) * 2 := by rw [cellsOf_len, List.length_drop]
    have hld1 : (cellsOf (D.drop (k + 1))).length = (D.length - (k + 1)) * 2 := by rw [cellsOf_len, List.length_drop]
    have hed : cellsOf (D.drop k) = [.int .i64 (D.getD k (0, 0)).1, .int .i64 (D.getD k (0, 0)).2] ++ cellsOf (D.drop (k + 1)) := by
      have h1 : D.drop k = D.getD k (0, 0) :: D.drop (k + 1) := by rw [List.drop_eq_getElem_cons hkl]; simp [List.getD, hkl]
      rw [h1, cellsOf_cons]; rfl
    have hfin : cellsOf (D.take k ++ (x1, x2) :: D.drop k) = cellsOf (D.take k) ++ [.int .i64 x1, .int .i64 x2] ++ cellsOf (D.drop k) := by
      rw [cellsOf_append, cellsOf_cons, ← List.append_assoc]; rfl
    have hfl : (D.take k ++ (x1, x2) :: D.drop k).length = D.length + 1 := by simp; omega
    generalize hA : cellsOf (D.take k) = A at *
    generalize hB : cellsOf (D.drop (k + 1)) = B at *
    generalize hC : cellsOf (D.drop k) = C at *
    have hCo : ∀ u ∈ C, u.oneCell' = true := fun u hu => cellsOf_one _ u (hC ▸ hu)
    have hXo : ∀ u ∈ ([.int .i64 x1, .int .i64 x2] : List Value), u.oneCell' = true := encCk.one (x1, x2)
    have hsA : Sat w0 w (pts b off (A ++ [.int .i64 (D.getD k (0, 0)).1, .int .i64 (D.getD k (0, 0)).2] ++ (B ++ sp)) * (pts g 0 [.int .i64 x1, .int .i64 x2] * F)) := hs'.perm (by rw [e0, ← List.append_assoc])
    generalize hy : ([.int .i64 (D.getD k (0, 0)).1, .int .i64 (D.getD k (0, 0)).2] : List Value) = Y at *
    have hyl : Y.length = 2 := by rw [← hy]; rfl
    have hCl : C = Y ++ B := hed
    obtain ⟨hgb, -⟩ := overlaps_no w0 w F g b off 1 1 0 0 (x1, x2) (A ++ Y ++ (B ++ sp)) hw (hsA.perm (by ac_rfl)) (by simp; omega) 0
    have hov : ∀ lb cb o', (callFunc 82 #[.slice (some ⟨g, 0, none⟩) 1 1, .slice (some ⟨b, o', none⟩) lb cb]).run Try.prog w = .ok (.value (.bool false)) w := fun lb cb o' =>
      (overlaps_no w0 w F g b off 1 1 lb cb (x1, x2) (A ++ Y ++ (B ++ sp)) hw (hsA.perm (by ac_rfl)) (by simp; omega) o').2
    clear e0 hed hs hs' hy hA hB hC
    by_cases hroom : D.length + 1 ≤ cap
    · have hk1c : ¬ cap = k + 1 := by omega
      have hsp2 : 2 ≤ sp.length := by rw [hsp]; omega
      have hnr : decide (cap < D.length + 1) = false := by rw [decide_eq_false_iff_not]; omega
      have hnr' : decide ((cap : Int) < (D.length : Int) + 1) = false := by rw [decide_eq_false_iff_not]; omega
      go_enter Try.func57, Try.ntmps57
      go_wp2_with (simp only [hov])
      have hsd := hsA.drew
      have hq1 : (0 : Int) ≤ (k : Int) + 1 := by omega
      have hq2 : (k : Int) + 1 ≤ (D.length : Int) + 1 := by omega
      have hq3 : (k : Int) ≤ (D.length : Int) + 1 := by omega
      have hq4 : IntKind.i64.wrap ((k : Int) + 1) = (k : Int) + 1 := by rw [IntKind.wrap_i64]; omega
      have hq5 : ((k : Int) + 1).toNat = k + 1 := by omega
      go_still_tail 8, (by kernel_rfl)
      change wpList _ _ _ _ _ w.drew
      clear hq4 hq5
      refine wpList_copy_cells (cs := C) (xs := A ++ Y) (ys := B ++ sp) (o0 := off) rfl rfl elemC rfl rfl (by rw [hld]; simp only [Nat.min_def]; split <;> omega) ?_ hCo hsd (by rw [List.length_append, hlt, hyl]; omega) (by rw [List.length_append, hld, hld1, hsp]; omega) ?_
      · intro j u hj
        rw [Addr.add_lit]
        have hj' := (List.getElem?_eq_some_iff.1 hj).1
        rw [show off + k * 2 + j = off + (A.length + j) by omega]
        refine (hsd.perm (by rw [List.append_assoc, ← List.append_assoc Y B sp, ← hCl])).cell ?_
        rw [List.getElem?_append_right (by omega), Nat.add_sub_cancel_left, List.getElem?_append_left hj']
        exact hj
      intro w1 hs1 hz1
      have hdr : (B ++ sp).drop C.length = sp.drop 2 := by
        rw [List.drop_append, List.drop_eq_nil_of_le (by omega), List.nil_append]
        congr 1
        omega
      rw [hdr] at hs1
      have hs2 : Sat w0 w1 (pts b off (A ++ (Y ++ (C ++ sp.drop 2))) * (pts g 0 [.int .i64 x1, .int .i64 x2] * F)) := hs1.perm (by simp only [List.append_assoc])
      clear hsd hs1 hsA hov
      have hm1 : ([.int .i64 x1, .int .i64 x2] : List Value).length = Nat.min 1 (D.length + 1 - k) * 2 := by
        simp only [Nat.min_def]; split <;> (simp; try omega)
      have hsr : ∀ j u, ([.int .i64 x1, .int .i64 x2] : List Value)[j]? = some u → w1.cell? ((⟨g, 0, none⟩ : Addr).add j) = some u := fun j u hj => by
        rw [Addr.add_lit]
        exact (hs2.pull (Q := pts g 0 [.int .i64 x1, .int .i64 x2])).cell hj
      have hy3 : ([.int .i64 x1, .int .i64 x2] : List Value).length ≤ (Y ++ (C ++ sp.drop 2)).length := by simp; omega
      have HC := hid hCl
      clear hCl hdr
      go_wp2_with (refine wpList_copy_cells (cs := [.int .i64 x1, .int .i64 x2]) (xs := A) (ys := Y ++ (C ++ sp.drop 2)) (o0 := off) rfl rfl elemC rfl rfl hm1 hsr hXo hs2 (by rw [hlt]) hy3 ?_; intro w2 hs3 hz2)
      go_wp2_with fail
      go_ret
      refine ⟨_, rfl, ?_⟩
      have hd2 : (Y ++ (C ++ sp.drop 2)).drop ([.int .i64 x1, .int .i64 x2] : List Value).length = C ++ sp.drop 2 := by
        show (Y ++ (C ++ sp.drop 2)).drop 2 = _
        rw [List.drop_append, List.drop_eq_nil_of_le (by omega), List.nil_append, hyl]; rfl
      rw [hd2] at hs3
      have h4 : Sat w0 w2 (recsP (.slice (some ⟨b, off, none⟩) (D.length + 1) cap) (D.take k ++ (x1, x2) :: D.drop k) * (pts g 0 [.int .i64 x1, .int .i64 x2] * F)) := by
        unfold recsP
        rw [hfl, hfin]
        exact Sat.slice_in (sp := sp.drop 2) (hs3.perm (by simp only [List.append_assoc])) hroom (by unfold maxLen; omega) (by simp; omega) (by rw [List.length_drop, hsp]; omega)
      have h5 : Sat w0 w2 (recsP (.slice (some ⟨b, off, none⟩) (D.length + 1) cap) (D.take k ++ (x1, x2) :: D.drop k) * F) := own_left
      exact h5
    · have hcn : cap = D.length := by omega
      subst hcn
      have hsp0 : sp = [] := List.eq_nil_of_length_eq_zero (by omega)
      subst hsp0
      have hnr : decide (D.length < D.length + 1) = true := by simp
      go_enter Try.func57, Try.ntmps57
      go_wp2_with (at_builtin; refine halt_here ?_)
      refine go_on ?_
      refine wpList_append_zeros (k := D.length + 1 - k) (m := D.length + 1) (olds := A) rfl rfl elemC (kn := .i64) (by kernel_rfl) rfl rfl (by omega) (by omega) hsA (by rw [hlt]) ?_ (by omega) (by decide) (by omega) (by omega) (by decide) ?_
      · intro j u hj
        rw [Addr.add_lit]
        have hj' := (List.getElem?_eq_some_iff.1 hj).1
        refine hsA.cell ?_
        rw [List.append_assoc, List.getElem?_append_left hj']
        exact hj
      intro w1 gc sp' hg1 hg2 hspl hs1 hz1
      unfold maxLen at hg2
      have hgk : ¬ gc = k := by omega
      have hgk1 : ¬ gc = k + 1 := by omega
      have hzl : (Builtin.zeroCells (Value.agg #[.int .i64 0, .int .i64 0]).cells (D.length + 1 - k)).toList.length = (D.length + 1 - k) * 2 := by
        have := size_zeroCells (Value.agg #[.int .i64 0, .int .i64 0]).cells (D.length + 1 - k)
        rw [Array.length_toList, this]; rfl
      generalize (Builtin.zeroCells (Value.agg #[.int .i64 0, .int .i64 0]).cells (D.length + 1 - k)).toList = Z at *
      generalize w.heap.size = hb at *
      have hs2 : Sat w0 w1 (pts hb 0 (A ++ (Z ++ sp')) * (pts b off (A ++ Y ++ (B ++ [])) * (pts g 0 [.int .i64 x1, .int .i64 x2] * F))) := hs1.perm (by rw [List.append_assoc])
      have hm1 : ([.int .i64 x1, .int .i64 x2] : List Value).length = Nat.min 1 (D.length + 1 - k) * 2 := by
        simp only [Nat.min_def]; split <;> (simp; try omega)
      have hsr : ∀ j u, ([.int .i64 x1, .int .i64 x2] : List Value)[j]? = some u → w1.cell? ((⟨g, 0, none⟩ : Addr).add j) = some u := fun j u hj => by
        rw [Addr.add_lit]
        exact (hs2.pull (Q := pts g 0 [.int .i64 x1, .int .i64 x2])).cell hj
      have hy3 : ([.int .i64 x1, .int .i64 x2] : List Value).length ≤ (Z ++ sp').length := by simp; omega
      have HC := hid hCl
      clear hCl hs1 hsA hov hgb
      go_wp2_with (refine wpList_copy_cells (cs := [.int .i64 x1, .int .i64 x2]) (xs := A) (ys := Z ++ sp') (o0 := 0) rfl rfl elemC rfl rfl hm1 hsr hXo hs2 (by rw [hlt, Nat.zero_add]) hy3 ?_; intro w2 hs3 hz2)
      have hs4 : Sat w0 w2 (pts hb 0 (A ++ [.int .i64 x1, .int .i64 x2] ++ (Z ++ sp').drop 2) * (pts b off (A ++ Y ++ (B ++ [])) * (pts g 0 [.int .i64 x1, .int .i64 x2] * F))) := hs3
      have hsd := hs4.drew
      have hq1 : (0 : Int) ≤ (k : Int) + 1 := by omega
      have hq2 : (k : Int) + 1 ≤ (D.length : Int) + 1 := by omega
      have hq3 : (k : Int) ≤ (D.length : Int) + 1 := by omega
      have hq4 : IntKind.i64.wrap ((k : Int) + 1) = (k : Int) + 1 := by rw [IntKind.wrap_i64]; omega
      have hq5 : ((k : Int) + 1).toNat = k + 1 := by omega
      clear hs2 hs3 hs4 hsr
      go_wp2_with fail
      go_still_tail 8, (by kernel_rfl)
      change wpList _ _ _ _ _ w2.drew
      clear hq4 hq5
      refine wpList_copy_cells (cs := C) (xs := A ++ [.int .i64 x1, .int .i64 x2]) (ys := (Z ++ sp').drop 2) (o0 := 0) rfl rfl elemC rfl rfl (by rw [hld]; simp only [Nat.min_def]; split <;> omega) ?_ hCo hsd (by rw [List.length_append, hlt]; show _ = 0 + (k * 2 + 2); omega) (by rw [List.length_drop, List.length_append, hld, hzl]; omega) ?_
      · intro j u hj
        rw [Addr.add_lit]
        have hj' := (List.getElem?_eq_some_iff.1 hj).1
        rw [show off + k * 2 + j = off + (A.length + j) by omega]
        refine ((hsd.pull (Q := pts b off (A ++ Y ++ (B ++ [])))).perm (by rw [List.append_nil, List.append_assoc, ← HC.out])).cell ?_
        rw [List.getElem?_append_right (by omega), Nat.add_sub_cancel_left]
        exact hj
      intro w3 hs5 hz3
      go_wp2_with fail
      go_ret
      refine ⟨_, rfl, ?_⟩
      have h4 : Sat w0 w3 (recsP (.slice (some ⟨hb, 0, none⟩) (D.length + 1) gc) (D.take k ++ (x1, x2) :: D.drop k) * (pts b off (A ++ Y ++ (B ++ [])) * (pts g 0 [.int .i64 x1, .int .i64 x2] * F))) := by
        unfold recsP
        rw [hfl, hfin]
        exact Sat.slice_in (sp := ((Z ++ sp').drop 2).drop C.length) (hs5.perm (by simp only [List.append_assoc])) hg1 (by unfold maxLen; omega) (by simp; omega) (by rw [List.length_drop, List.length_drop, List.length_append]; omega)
      have h5 : Sat w0 w3 (recsP (.slice (some ⟨hb, 0, none⟩) (D.length + 1) gc) (D.take k ++ (x1, x2) :: D.drop k) * F) := own_left
      exact h5
end Go.Proofs.Ytfphgcplpokigaa
