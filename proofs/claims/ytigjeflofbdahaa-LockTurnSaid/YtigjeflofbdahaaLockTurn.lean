/-
  LockTurn: the walk.
-/
import Derived.Test.YtigjeflofbdahaaLockInherits
namespace Go.Proofs.Ytigjeflofbdahaa
open Go.RowKit Go.Sx Go.Lk
set_option linter.unusedSimpArgs false
set_option linter.unusedVariables false

theorem lg_lv (l : List Int) (t : Nat) : lvAt l t = lg l t := by unfold lvAt lg; rw [show ((t : Int)).toNat = t by omega]
/-- Where the best of a row stands. -/
theorem best_where (now row : List Int) (hne : row ≠ []) : ∃ k, k < row.length ∧ lg row k = bestOf now row ∧ (∀ i, i < k → beats now (bestOf now row) (lg row i)) ∧ ∀ i, k < i → i < row.length → ¬ beats now (lg row i) (bestOf now row) := by
  obtain ⟨A, C, e, h1, h2⟩ := best_split now row hne
  generalize bestOf now row = b at *
  subst e
  refine ⟨A.length, by simp, by simp [lg, List.getD], fun i hi => ?_, fun i hi hl => ?_⟩
  · refine h1 _ ?_
    have : lg (A ++ b :: C) i = lg A i := by simp [lg, List.getD, List.getElem?_append_left hi]
    rw [this]; exact lg_mem hi
  · refine h2 _ ?_
    have : lg (A ++ b :: C) i = lg C (i - A.length - 1) := by
      unfold lg
      rw [List.getD, List.getElem?_append_right (by omega), show i - A.length = (i - A.length - 1) + 1 by omega, List.getElem?_cons_succ]
      rfl
    rw [this]
    exact lg_mem (by simp at hl; omega)
set_option maxRecDepth 100000 in
set_option maxHeartbeats 64000000 in
theorem lockTurn_walk (v0 : Value) (l : List Int) (v1 : Value) (n : Nat) (f : Nat → Nat → Int) (m : Int) (w0 : World) (h0 : RdN .i64 w0 v0 l) (_z0 : ∀ n ∈ l, (Lit.int .i64 n).wf = true) (h1 : RdK [.i64, .i64, .i64] w0 v1 n f) (_z2 : (Lit.int .i64 m).wf = true) :
    Calls Try.prog 3 #[v0, v1, .int .i64 m] w0 (RetV w0 (.bool true) emp) := by
  have hs := Sat.start w0
  go_enter Try.func3, Try.ntmps3
  go_wp2_with fail
  refine (lkAfter _ l 8 v1 n f w0 _ _ hs h0 h1).mono ?_
  clear h0 h1 _z0 _z2
  rintro en w1 (⟨rfl, hs1⟩ | ⟨b, L, rfl, hg, rfl, hM, hs1⟩)
  · go_wp2_with fail
    refine (lkAwake w0 _ _ hs1).mono ?_
    rintro en w2 ⟨rfl, hs2⟩
    go_wp2_with fail
    refine (lkAwake w0 _ _ hs2).mono ?_
    rintro en w3 ⟨rfl, hs3⟩
    go_wp2_with fail
    go_ret
    exact ⟨rfl, hs3⟩
  · have Hg := hid hg
    have hn64 := hg.fit.n
    have Hln := hid hg.fit.ln
    have HM : Hid (L.ow.length = 8) := by unfold Hid; omega
    clear hg hM
    go_wp2_with fail
    refine (lkAwake w0 _ _ hs1).mono ?_
    rintro en w2 ⟨rfl, hs2⟩
    go_wp2_with fail
    refine (lkWaiting b L m w0 _ _ hs2 Hg.out.fit).mono ?_
    rintro en w3 ⟨v3, rfl, hs3⟩
    obtain ⟨a3, c3, rfl⟩ := hs3.slice_form
    go_wp2_with fail
    refine (lkLevels b L w0 _ _ own Hg.out.fit).mono ?_
    rintro en w4 ⟨v4, rfl, hs4⟩
    obtain ⟨a, c, rfl⟩ := hs4.slice_form
    rw [Hln.out]
    have hs4 : Sat w0 w4 (lkP b L * (numsP .i64 (.slice a L.own.length c) L.now * (numsP .i64 (.slice a3 (rowOf L m).length c3) (rowOf L m) * emp))) := by
      rw [← Hln.out]; exact hs4.perm (by dsimp only; ac_rfl)
    clear hs hs1 hs2 hs3
    go_wp2_with fail
    refine (lkOwner b L m w0 _ _ hs4 Hg.out.fit).mono ?_
    rintro en w5 ⟨rfl, hs5⟩
    clear hs4
    by_cases hin : 0 ≤ m ∧ m < 8
    · obtain ⟨k, rfl⟩ := Int.eq_ofNat_of_zero_le hin.1
      have hk8 : k < 8 := by omega
      have hkl : Hid (k < L.ow.length) := by unfold Hid; rw [HM.out]; exact hk8
      have d1 : decide (8 ≤ k) = false := by simp; omega
      have hoe : Hid (ownerOf L k = lg L.ow k) := by
        show (if _ then _ else _) = _
        rw [if_pos ⟨by omega, by rw [HM.out]; omega⟩]; rfl
      have hre : Hid (rowOf L k = rg L.rows k) := by
        show (if _ then _ else _) = _
        rw [if_pos ⟨by omega, by rw [HM.out]; omega⟩]; rfl
      rw [hoe.out]
      rw [hre.out] at hs5 ⊢
      clear hin
      by_cases hfree : lg L.ow k = 255
      · rw [hfree]
        go_wp2_with fail
        refine (lkUnlock_task b L 255 k w0 _ _ hs5 Hg.out.fit (by omega)).mono ?_
        rintro en w6 ⟨rfl, hs6⟩
        go_wp2_with fail
        go_ret
        exact ⟨rfl, own_left⟩
      · obtain ⟨t, ht⟩ := Int.eq_ofNat_of_zero_le (show 0 ≤ lg L.ow k from by
          rcases Hg.out.fit.owr k hkl.out with h | h
          · exact absurd h hfree
          · exact h.1)
        have htl : Hid (t < L.own.length) := by
          rcases Hg.out.fit.owr k hkl.out with h | h
          · exact absurd h hfree
          · have h1 : lg L.ow k < L.own.length := h.2
            unfold Hid; omega
        have d2 : ((t : Int) == 255) = false := by have := htl.out; simp; omega
        have Ht := hid ht
        rw [ht]
        clear hfree ht
        by_cases hrow : rg L.rows k = []
        · have Hrow := hid hrow
          go_wp2_with fail
          refine (lkUnlock_free b L t k w0 _ _ hs5 Hg.out.fit htl.out hkl.out Ht.out hrow).mono ?_
          rintro en w6 ⟨rfl, now', f6, l6, hs6⟩
          have F6 := hid f6
          have how : Hid (ownerOf { freeL L k with now := now' } k = 255) := by
            show (if 0 ≤ (k : Int) ∧ (k : Int) < ((L.ow.set k 255).length : Int) then lg (L.ow.set k 255) k else 255) = 255
            rw [List.length_set, if_pos ⟨by omega, by rw [HM.out]; omega⟩, lg_set hkl.out, if_pos rfl]
          try rw [hrow] at hs6
          try rw [hrow]
          clear f6 l6 hs5 hrow
          go_wp2_with fail
          refine (lkOwner b _ k w0 _ _ hs6 F6.out).mono ?_
          rintro en w7 ⟨rfl, hs7⟩
          rw [how.out]
          go_wp2_with fail
          go_ret
          exact ⟨rfl, own_left⟩
        · have Hrow := hid hrow
          go_wp2_with fail
          refine (lkUnlock_give b L t k w0 _ _ hs5 Hg.out.fit htl.out hkl.out Ht.out hrow).mono ?_
          rintro en w6 ⟨x, hx, rfl, now', f6, l6, hs6⟩
          have F6 := hid f6
          have hbin := best_in L.now (rg L.rows k) hrow
          rw [hx] at hbin
          obtain ⟨x', hx', hxl, hxon, _, _⟩ := row_in Hg.out.fit hkl.out hbin
          obtain rfl : x' = x := by omega
          clear hx'
          have how : Hid (ownerOf { giveL L k x' with now := now' } k = x') := by
            show (if 0 ≤ (k : Int) ∧ (k : Int) < ((L.ow.set k x').length : Int) then lg (L.ow.set k x') k else 255) = x'
            rw [List.length_set, if_pos ⟨by omega, by rw [HM.out]; omega⟩, lg_set hkl.out, if_pos rfl]
          have hww : Hid (waitsOf { giveL L k x' with now := now' } x' = -1) := by
            show (if 0 ≤ (x' : Int) ∧ (x' : Int) < (L.own.length : Int) then lg (L.on.set x' (-1)) x' else -1) = -1
            rw [if_pos ⟨by omega, by omega⟩, lg_set (by rw [Hg.out.fit.lo]; exact hxl), if_pos rfl]
          obtain ⟨q, hq, hqx, hqb, hqa⟩ := best_where L.now (rg L.rows k) hrow
          rw [hx] at hqx hqb hqa
          have hR : Hid (∀ r, r < (rg L.rows k).length → ∃ u : Nat, lg (rg L.rows k) r = u ∧ u < L.own.length) := fun r hr => by
            obtain ⟨u, h1, h2, _⟩ := row_in Hg.out.fit hkl.out (lg_mem hr)
            exact ⟨u, h1, h2⟩
          have hrl := rowOk_len (row_ok Hg.out.fit hkl.out)
          have hR0 : 0 < (rg L.rows k).length := by omega
          have e0 : ((rg L.rows k).length == 0) = false := by simp; omega
          have e0' : (((rg L.rows k).length : Int) == 0) = false := by simp; omega
          have Hqx := hid hqx
          have Hqb := hid hqb
          have Hqa := hid hqa
          have j1 : (x' : Int) < (L.own.length : Int) := by omega
          have j2 : decide (x' < L.own.length) = true := by simp; omega
          have j3 : decide (L.own.length ≤ x') = false := by simp; omega
          have j0 : decide ((x' : Int) < 0) = false := by simp
          haveI : Lt x' L.now.length := ⟨by rw [Hln.out]; exact hxl⟩
          obtain ⟨ag, ao, rfl⟩ := Sat.someA hs6 a (by rw [Hln.out]; omega)
          obtain ⟨rgg, ro, rfl⟩ := Sat.someA hs6 a3 hR0
          clear hrow f6 l6 hs5 hbin hxon hqx hqb hqa hx
          generalize rg L.rows k = R at *
          generalize hL6 : ({ giveL L k x' with now := now' } : Lk) = L6 at *
          clear hL6
          go_wp2_with fail
          go_loopw [13, 74] (fun sv i wr => ∃ r : Nat, r ≤ R.length ∧ i = .int .i64 r ∧ sv = .bool (decide (q < r)) ∧ Sat w0 wr (lkP b L6 * (numsP .i64 (.slice (some ⟨ag, ao, none⟩) L.own.length c) L.now * (numsP .i64 (.slice (some ⟨rgg, ro, none⟩) R.length c3) R * emp)))) (fun _ i _ => R.length - natOf i)
          case atStart => exact ⟨0, Nat.zero_le _, rfl, by simp, own_left⟩
          case round =>
            obtain ⟨r, hr, rfl, rfl, hs7⟩ := hrel
            clear hs6
            by_cases hlt : r < R.length
            · have i1 : (r : Int) < (R.length : Int) := by omega
              have i2 : decide (r < R.length) = true := by simp; omega
              haveI : Lt r R.length := ⟨hlt⟩
              obtain ⟨u, hu1, hu2⟩ := hR.out r hlt
              have i3 : (u : Int) < (L.own.length : Int) := by omega
              have i4 : decide (u < L.own.length) = true := by simp; omega
              have i5 : decide (L.own.length ≤ u) = false := by simp; omega
              have i6 : decide ((u : Int) < 0) = false := by simp
              haveI : Lt u L.now.length := ⟨by rw [Hln.out]; exact hu2⟩
              rcases Nat.lt_trichotomy r q with hrq | hrq | hrq
              · have hb := Hqb.out r hrq
                rw [hu1] at hb
                have hlt2 : lg L.now x' < lg L.now u := by
                  rcases hb.2 with h | h
                  · rw [Hln.out] at h; omega
                  · rwa [lg_lv, lg_lv] at h
                have d5 : decide (q < r) = false := by simp; omega
                have d6 : decide (q < r + 1) = false := by simp; omega
                have d7 : decide (lg L.now u < lg L.now x') = false := by simp; omega
                have d8 : (lg L.now u == lg L.now x') = false := by simp; omega
                have hne : u ≠ x' := by rintro rfl; omega
                have d9 : ((u : Int) != (x' : Int)) = true := by simp; omega
                have d10 : ((u : Int) == (x' : Int)) = false := by simp; omega
                have Hu1 := hid hu1
                clear hu1 hb hlt2 hne
                rw [d5]
                go_wp2_with fail
                rw [Hu1.out]
                go_wp2_with fail
                go_quiet (fail)
                go_wp2_with fail
                go_roundw
                case rel => exact ⟨r + 1, by omega, by go_num, by rw [d6], own_left⟩
                case measure => simp [natOf, intOf]; omega
              · have hux : u = x' := by
                  have h := Hqx.out
                  rw [← hrq, hu1] at h; omega
                have d5 : decide (q < r) = false := by simp; omega
                have d6 : decide (q < r + 1) = true := by simp; omega
                have Hu1 := hid hu1
                clear hu1 hrq
                subst hux
                rw [d5]
                go_wp2_with fail
                rw [Hu1.out]
                go_wp2_with fail
                go_quiet (fail)
                go_wp2_with fail
                go_roundw
                case rel => exact ⟨r + 1, by omega, by go_num, by rw [d6], own_left⟩
                case measure => simp [natOf, intOf]; omega
              · have hb := Hqa.out r hrq hlt
                rw [hu1] at hb
                have hlt2 : ¬ lg L.now u < lg L.now x' := fun h => hb ⟨by rw [Hln.out]; omega, .inr (by rwa [lg_lv, lg_lv])⟩
                have d5 : decide (q < r) = true := by simp; omega
                have d6 : decide (q < r + 1) = true := by simp; omega
                have d7 : decide (lg L.now u < lg L.now x') = false := by simp; omega
                have Hu1 := hid hu1
                clear hu1 hb hlt2
                rw [d5]
                go_wp2_with fail
                rw [Hu1.out]
                go_wp2_with fail
                go_quiet (fail)
                go_wp2_with fail
                go_roundw
                case rel => exact ⟨r + 1, by omega, by go_num, by rw [d6], own_left⟩
                case measure => simp [natOf, intOf]; omega
            · have i1 : ¬ (r : Int) < (R.length : Int) := by omega
              have d5 : decide (q < r) = true := by simp; omega
              rw [d5]
              go_wp2_with fail
              refine (lkOwner b _ k w0 _ _ hs7 F6.out).mono ?_
              rintro en w7 ⟨rfl, hs8⟩
              rw [how.out]
              clear hs7
              go_wp2_with fail
              refine (lkWaits b _ x' w0 _ _ hs8 F6.out).mono ?_
              rintro en w8 ⟨rfl, hs9⟩
              rw [hww.out]
              go_wp2_with fail
              go_ret
              exact ⟨rfl, own_left⟩
    · have hoe : Hid (ownerOf L m = 255) := by
        show (if _ then _ else _) = (255 : Int)
        rw [if_neg]; rw [HM.out]; exact fun h => hin h
      rw [hoe.out]
      go_wp2_with fail
      refine (lkUnlock_task b L 255 m w0 _ _ hs5 Hg.out.fit (by omega)).mono ?_
      rintro en w6 ⟨rfl, hs6⟩
      go_wp2_with fail
      go_ret
      exact ⟨rfl, own_left⟩
end Go.Proofs.Ytigjeflofbdahaa
