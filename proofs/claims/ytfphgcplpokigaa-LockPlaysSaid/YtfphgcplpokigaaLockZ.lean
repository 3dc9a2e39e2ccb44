/-
  The reference's locks: the contract of New.
-/
import Derived.Test.YtfphgcplpokigaaLockX
namespace Go.Proofs.Ytfphgcplpokigaa
open Go.RowKit Go.Sx Go.Lk
set_option linter.unusedSimpArgs false
set_option linter.unusedVariables false

theorem elemRow : ElemT Try.prog 116 22 1 24 (.slice none 0 0) := ⟨by kernel_rfl, by kernel_rfl, rfl⟩
set_option maxRecDepth 100000 in
set_option maxHeartbeats 8000000 in
theorem lrNew_no (v : Value) (l : List Int) (M : Int) (w0 w : World) (F : HP) (hs : Sat w0 w F) (hv : OldR w0 .i64 v l) (h : 64 < l.length ∨ M < 0 ∨ 32 < M) :
    Calls Try.prog 36 #[v, .int .i64 M] w (RetV w0 (.tuple #[.pointer none, .bool false]) F) := by
  obtain ⟨a, cap, b, off, rfl, hcap, hbig, ha, hc⟩ := hv.old
  unfold maxLen at hbig
  by_cases d1 : 64 < l.length
  · have e1 : decide ((64 : Int) < (l.length : Int)) = true := by simp; omega
    clear h d1
    go_enter Try.func36, Try.ntmps36
    go_wp2_with fail
    go_ret2
    exact ⟨rfl, hs⟩
  · have e1 : decide ((64 : Int) < (l.length : Int)) = false := by simp; omega
    by_cases d2 : M < 0
    · have e2 : decide (M < 0) = true := decide_eq_true d2
      clear h d1 d2
      go_enter Try.func36, Try.ntmps36
      go_wp2_with fail
      go_ret2
      exact ⟨rfl, hs⟩
    · have e2 : decide (M < 0) = false := decide_eq_false d2
      have e3 : decide ((32 : Int) < M) = true := decide_eq_true (by omega)
      clear h d1 d2
      go_enter Try.func36, Try.ntmps36
      go_wp2_with fail
      go_ret2
      exact ⟨rfl, hs⟩
theorem newL_own (l : List Int) (M : Nat) : (newL l M).own = l := rfl
set_option maxRecDepth 100000 in
set_option maxHeartbeats 16000000 in
theorem lrNew (v : Value) (l : List Int) (M : Nat) (w0 w : World) (F : HP) (hs : Sat w0 w F) (hv : OldR w0 .i64 v l) (hl : l.length ≤ 64) (hM : M ≤ 32) :
    Calls Try.prog 36 #[v, .int .i64 M] w fun en w' => (LvOk l → ∃ b, en = .returned (.tuple #[.pointer (some ⟨b, 0, none⟩), .bool true]) ∧ Sat w0 w' (lrP b (newL l M) * F)) ∧
      (¬ LvOk l → en = .returned (.tuple #[.pointer none, .bool false]) ∧ Sat w0 w' F) := by
  obtain ⟨a, cap, b, off, rfl, hcap, hbig, ha, hc⟩ := hv.old
  unfold maxLen at hbig
  have e1 : decide ((64 : Int) < (l.length : Int)) = false := by simp; omega
  have e2 : decide ((M : Int) < 0) = false := by simp
  have e3 : decide ((32 : Int) < (M : Int)) = false := by simp; omega
  go_enter Try.func36, Try.ntmps36
  go_wp2_with (first | (at_builtin; refine wpList_append_nums rfl rfl rfl rfl (by omega) ?_; intro ap ac aL aw ahL ah1 ah2 ahs _) | (refine wpList_slice_from rfl rfl rfl rfl (by omega) (by omega) ?_; intro px pc pL php phL ph1 ph2) | (refine wpList_slice_to rfl rfl rfl rfl (by omega) (by omega) ?_; intro px pc pL php phL ph1 ph2))
  have Hal : Hid (aL = l) := by unfold Hid; rw [ahL.out]; rfl
  clear ahL hs
  refine wp_gen (w0 := w0) ?_
  intro w1 hs1
  clear ahs
  generalize hpb : aw.heap.size = pb at *
  clear hpb
  go_loopw [7] (fun i wr => ∃ k : Nat, k ≤ l.length ∧ i = .int .i64 k ∧ Hid (∀ x ∈ l.take k, 0 ≤ x ∧ x < 32) ∧ Sat w0 wr (pts pb 0 [.slice ap aL.length ac, .slice none 0 0, .slice none 0 0] * (numsP .i64 (.slice ap aL.length ac) aL * F))) (fun i _ => l.length - natOf i)
  case atStart => exact ⟨0, Nat.zero_le _, rfl, by intro x hx; simp at hx, own_left⟩
  case round =>
    obtain ⟨k, hk, rfl, hok, hs2⟩ := hrel
    clear hs1
    by_cases hlt : k < l.length
    · obtain rfl := ha (by intro h; rw [h] at hlt; simp at hlt)
      have i1 : (k : Int) < (l.length : Int) := by omega
      have i2 : decide (k < l.length) = true := by simp; omega
      haveI : Old w0 b (off + k) (.int .i64 (lg l k)) := ⟨hc k hlt⟩
      have hbad : Hid (¬ (0 ≤ lg l k ∧ lg l k < 32) → ¬ LvOk l) := fun h h2 => h (h2 _ (lgMem hlt))
      have hnext : Hid ((0 ≤ lg l k ∧ lg l k < 32) → ∀ x ∈ l.take (k + 1), 0 ≤ x ∧ x < 32) := fun h x hx => by
        rw [List.take_succ_eq_append_getElem hlt] at hx
        rcases List.mem_append.1 hx with h1 | h1
        · exact hok.out x h1
        · have : x = lg l k := by simpa [lg, List.getD, hlt] using h1
          rw [this]; exact h
      clear hc ha
      generalize lg l k = z at *
      by_cases z1 : z < 0
      · have d1 : decide (z < 0) = true := decide_eq_true z1
        have hno := hid (hbad.out (by omega))
        clear hbad hnext z1
        go_wp2_with fail
        go_ret2
        exact ⟨fun h => absurd h hno.out, fun _ => ⟨rfl, own_left⟩⟩
      · have d1 : decide (z < 0) = false := decide_eq_false z1
        by_cases z2 : 31 < z
        · have d2 : decide (31 < z) = true := decide_eq_true z2
          have hno := hid (hbad.out (by omega))
          clear hbad hnext z1 z2
          go_wp2_with fail
          go_ret2
          exact ⟨fun h => absurd h hno.out, fun _ => ⟨rfl, own_left⟩⟩
        · have d2 : decide (31 < z) = false := decide_eq_false z2
          have hn2 := hid (hnext.out (by omega))
          clear hbad hnext z1 z2
          go_wp2_with fail
          go_roundw
          case rel => exact ⟨k + 1, by omega, by go_num, hn2, own_left⟩
          case measure => simp [natOf, intOf]; omega
    · have i1 : ¬ (k : Int) < (l.length : Int) := by omega
      have hyes : Hid (LvOk l) := fun x hx => hok.out x (by rw [List.take_of_length_le (by omega)]; exact hx)
      clear hok hc ha
      go_wp2_with fail
      go_loopw [8] (fun i wr => ∃ (k : Nat) (a1 : Option Addr) (c1 : Nat) (a2 : Option Addr) (c2 : Nat) (O : List Int) (R : List (List Int)), k ≤ M ∧ i = .int .i64 k ∧ Hid (O = List.replicate k 255 ∧ R = List.replicate k []) ∧ O.length ≤ 32 ∧ R.length ≤ 32 ∧ Sat w0 wr (pts pb 0 [.slice ap aL.length ac, .slice a1 O.length c1, .slice a2 R.length c2] * (numsP .i64 (.slice ap aL.length ac) aL * (numsP .i64 (.slice a1 O.length c1) O * (rowsP (.slice a2 R.length c2) R * F))))) (fun i _ => M - natOf i)
      case atStart => exact ⟨0, none, 0, none, 0, [], [], Nat.zero_le _, rfl, ⟨rfl, rfl⟩, by simp, by simp, (rowsP_nil (hs2.slice_nil 1)).perm (by show rowsP (.slice none 0 0) [] * (numsP .i64 (.slice none 0 0) [] * _) = pts pb 0 [.slice ap aL.length ac, .slice none 0 0, .slice none 0 0] * _; ac_rfl)⟩
      case round =>
        obtain ⟨q, a1, c1, a2, c2, O, R, hq, rfl, hOR, hO, hR, hs3⟩ := hrel
        clear hs2
        by_cases hql : q < M
        · have j1 : (q : Int) < (M : Int) := by omega
          go_upto_region 13 with (first | (at_builtin; refine wpList_append_nums rfl rfl rfl rfl (by omega) ?_; intro bp bc bL bw bhL bh1 bh2 bhs _))
          refine wp_gen (w0 := w0) ?_
          intro w5 hs5
          clear bhs hs3
          have hbl : bL.length ≤ O.length + 1 ∧ O.length + 1 ≤ bL.length := ⟨bh1, bh2⟩
          have hs4 : Sat w0 w5 (rowsP (.slice a2 R.length c2) R * (pts pb 0 [.slice ap aL.length ac, .slice bp bL.length bc, .slice a2 R.length c2] * (numsP .i64 (.slice ap aL.length ac) aL * (numsP .i64 (.slice bp bL.length bc) bL * F)))) := own_left
          clear hs5
          obtain ⟨xs, hxl, hs6⟩ := rowsP_out hs4
          have hs7 := hs6.empty_slice 1 3
          have hs8 := hs7.perm (by ac_rfl : _ = sliceP 1 (.slice a2 R.length c2) R.length xs * (allN xs R * (sliceP 1 (.slice (some ⟨w5.heap.size, 0, none⟩) 0 0) 0 [] * (pts pb 0 [.slice ap aL.length ac, .slice bp bL.length bc, .slice a2 R.length c2] * (numsP .i64 (.slice ap aL.length ac) aL * (numsP .i64 (.slice bp bL.length bc) bL * F))))))
          clear hs6 hs7
          go_wp2_with (at_builtin; refine wpList_append_new (by rfl) (.tmp 61) (.tmp 63) (by rfl) elemRow (by rfl) hs8 (by rw [World.size_alloc]; rfl) (by rfl) (by simp [Value.oneCell']) (by unfold maxLen; omega) (by omega) ?_)
          intro v9 w9 hs9 _
          clear hs4 hs8
          have hs10 : Sat w0 w9 (pts pb 0 [.slice ap aL.length ac, .slice bp bL.length bc, .slice a2 R.length c2] * (rowsP v9 (R ++ [[]]) * (numsP .i64 (.slice ap aL.length ac) aL * (numsP .i64 (.slice bp bL.length bc) bL * F)))) := by
            have h1 : Sat w0 w9 (sliceP 1 v9 (R ++ [[]]).length (xs ++ [.slice (some ⟨w5.heap.size, 0, none⟩) 0 0]) * (allN (xs ++ [.slice (some ⟨w5.heap.size, 0, none⟩) 0 0]) (R ++ [[]]) * (pts pb 0 [.slice ap aL.length ac, .slice bp bL.length bc, .slice a2 R.length c2] * (numsP .i64 (.slice ap aL.length ac) aL * (numsP .i64 (.slice bp bL.length bc) bL * F))))) := by
              rw [allN_push _ _ hxl, List.length_append]
              exact hs9.perm (by show sliceP 1 v9 (R.length + 1) (xs ++ [.slice (some ⟨w5.heap.size, 0, none⟩) 0 0]) * (allN xs R * (numsP .i64 (.slice (some ⟨w5.heap.size, 0, none⟩) 0 0) [] * _)) = sliceP 1 v9 (R.length + 1) (xs ++ [.slice (some ⟨w5.heap.size, 0, none⟩) 0 0]) * _; ac_rfl)
            exact (rowsP_in (by simp [hxl]) h1).perm (by ac_rfl)
          clear hs9
          obtain ⟨a9, c9, rfl⟩ := rowsP_form (Sat.pull hs10 (Q := rowsP v9 (R ++ [[]])))
          generalize hRl : (R ++ [([] : List Int)]).length = Rl at *
          have HRl := hid hRl
          clear hRl
          go_wp2_with fail
          go_roundw
          case rel =>
            have g1 : bL = List.replicate (q + 1) 255 := by rw [bhL.out, hOR.out.1, List.replicate_succ']
            have g2 : R ++ [[]] = List.replicate (q + 1) [] := by rw [hOR.out.2, List.replicate_succ']
            refine ⟨q + 1, bp, bc, a9, c9, bL, R ++ [[]], by omega, by go_num, ⟨g1, g2⟩, by rw [g1]; simp; omega, by rw [g2]; simp; omega, ?_⟩
            rw [HRl.out]
            exact own_left
          case measure => simp [natOf, intOf]; omega
        · have j1 : ¬ (q : Int) < (M : Int) := by omega
          go_wp2_with fail
          go_ret2
          refine ⟨fun _ => ⟨pb, rfl, ?_⟩, fun h => absurd hyes.out h⟩
          have h1 := hOR.out.1
          have h2 := hOR.out.2
          have h3 := Hal.out
          have hqM : q = M := by omega
          subst h1 h2 h3 hqM
          exact lrP_in (L := newL aL q) hs3
end Go.Proofs.Ytfphgcplpokigaa
