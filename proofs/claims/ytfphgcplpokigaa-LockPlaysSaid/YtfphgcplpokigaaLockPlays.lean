/-
  LockPlays: the walk.
-/
import Derived.Test.YtfphgcplpokigaaLockY
import Derived.Test.YtfphgcplpokigaaLockZ
import Derived.Deep.CutBlock
namespace Go.Proofs.Ytfphgcplpokigaa
open Go.RowKit Go.Sx Go.Lk
set_option linter.unusedSimpArgs false
set_option linter.unusedVariables false

theorem lrP_now (b : Nat) (L : Lk) (now : List Int) : lrP b (wNow L now) = lrP b L := rfl
set_option maxRecDepth 100000 in
set_option maxHeartbeats 16000000 in
theorem lockPlays_walk (v0 : Value) (l : List Int) (M : Int) (v2 : Value) (n : Nat) (f : Nat → Nat → Int) (w0 : World) (h0 : RdN .i64 w0 v0 l) (_z0 : ∀ n ∈ l, (Lit.int .i64 n).wf = true) (_z1 : (Lit.int .i64 M).wf = true) (h2 : RdK [.i64, .i64, .i64] w0 v2 n f) :
    Calls Try.prog 9 #[v0, .int .i64 M, v2] w0 (RetV w0 (.bool true) emp) := by
  have hs := Sat.start w0
  obtain ⟨a, cap, b, off, rfl, hcap, hbig, ha, hc⟩ := h2
  obtain ⟨a0, c0, g0, o0, rfl, hcap0, hbig0, hg0, hcell0⟩ := id h0
  haveI : OldR w0 .i64 (.slice a0 l.length c0) l := ⟨h0⟩
  clear hg0 hcell0 h0 _z0 _z1
  unfold maxLen at hbig hbig0
  by_cases q1 : 100 < l.length
  · have d1 : decide ((100 : Int) < (l.length : Int)) = true := by simp; omega
    go_enter Try.func9, Try.ntmps9
    go_wp2_with fail
    refine (lkAwake w0 _ _ hs).mono ?_
    rintro en w1 ⟨rfl, hs1⟩
    go_wp2_with fail
    refine (lkAwake w0 _ _ hs1).mono ?_
    rintro en w2 ⟨rfl, hs2⟩
    go_wp2_with fail
    go_ret
    exact ⟨rfl, hs2⟩
  · have d1 : decide ((100 : Int) < (l.length : Int)) = false := by simp; omega
    by_cases q2 : 200 < n
    · have d2 : decide ((200 : Int) < (n : Int)) = true := by simp; omega
      go_enter Try.func9, Try.ntmps9
      go_wp2_with fail
      refine (lkAwake w0 _ _ hs).mono ?_
      rintro en w1 ⟨rfl, hs1⟩
      go_wp2_with fail
      refine (lkAwake w0 _ _ hs1).mono ?_
      rintro en w2 ⟨rfl, hs2⟩
      go_wp2_with fail
      go_ret
      exact ⟨rfl, hs2⟩
    · have d2 : decide ((200 : Int) < (n : Int)) = false := by simp; omega
      have hn200 : n ≤ 200 := by omega
      clear q2
      go_enter Try.func9, Try.ntmps9
      go_wp2_with fail
      refine (lkAwake w0 _ _ hs).mono ?_
      rintro en w1 ⟨rfl, hs1⟩
      clear hs
      go_wp2_with (first | (at_builtin; refine wpList_append_nums rfl rfl rfl rfl (by omega) ?_; intro ap ac aL aw ahL ah1 ah2 ahs _) | (refine wpList_slice_from rfl rfl rfl rfl (by omega) (by omega) ?_; intro px pc pL php phL ph1 ph2) | (refine wpList_slice_to rfl rfl rfl rfl (by omega) (by omega) ?_; intro px pc pL php phL ph1 ph2))
      have Hal : Hid (aL = l) := by unfold Hid; rw [ahL.out]; rfl
      clear ahL hs1
      by_cases q3 : 64 < l.length ∨ M < 0 ∨ 32 < M
      · have q4 : 64 < aL.length ∨ M < 0 ∨ 32 < M := by rw [Hal.out]; exact q3
        refine (lkNew_no (.slice ap aL.length ac) aL M w0 _ _ own (by rw [Hal.out]; omega) q4).mono ?_
        rintro en w2 ⟨rfl, hs2⟩
        clear ahs q4
        go_wp2_with fail
        refine (lrNew_no (.slice a0 l.length c0) l M w0 _ _ own_it inferInstance q3).mono ?_
        rintro en w3 ⟨rfl, hs3⟩
        clear hs2 q3
        go_wp2_with fail
        go_ret
        exact ⟨rfl, own_left⟩
      · obtain ⟨m, rfl⟩ := Int.eq_ofNat_of_zero_le (show 0 ≤ M by omega)
        have hm32 : m ≤ 32 := by omega
        have hl64 : l.length ≤ 64 := by omega
        refine (lkNew_fits (.slice ap aL.length ac) aL m w0 _ _ own (by rw [Hal.out]; exact hl64) hm32).mono ?_
        rintro en w2 ⟨hyes, hno⟩
        rw [Hal.out] at hyes hno
        by_cases hok : LvOk l
        · obtain ⟨pb, rfl, hs2⟩ := hyes hok
          have Hok := hid hok
          have hgood := hid (good_new l m hl64 hm32 hok)
          have hs2 : Sat w0 w2 (lkP pb (newL l m) * any) := own_left
          clear hno hyes hok q3 ahs
          go_wp2_with fail
          refine (lrNew (.slice a0 l.length c0) l m w0 _ _ own_it inferInstance hl64 hm32).mono ?_
          rintro en w3 ⟨hyes, hno⟩
          obtain ⟨rb, rfl, hs3⟩ := hyes Hok.out
          have hs3 : Sat w0 w3 (lkP pb (newL l m) * (lrP rb (newL l m) * any)) := own_left
          clear hs2 hyes hno
          go_wp2_with fail
          go_loopw [70] (fun i wr => ∃ (k : Nat) (L : Lk), k ≤ n ∧ i = .int .i64 k ∧ Hid (Good L) ∧ Sat w0 wr (lkP pb L * (lrP rb L * any))) (fun i _ => n - natOf i)
          case atStart => exact ⟨0, newL l m, Nat.zero_le _, rfl, hgood, hs3⟩
          case round =>
            obtain ⟨k, L, hk, rfl, hL, hs4⟩ := hrel
            clear hs3 hgood
            by_cases hlt : k < n
            · obtain rfl := ha (by omega)
              have k0 := (hc k 0 _ hlt rfl).1
              have k1 := (hc k 1 _ hlt rfl).1
              have k2 := (hc k 2 _ hlt rfl).1
              simp only [List.length_cons, List.length_nil, Nat.zero_add, Nat.add_zero, ← Nat.add_assoc] at k0 k1 k2
              generalize f k 0 = kd at *
              generalize f k 1 = tt at *
              generalize f k 2 = mm at *
              haveI i0 : Old w0 b (off + k * 3) (.int .i64 kd) := ⟨k0⟩
              haveI i1 : Old w0 b (off + k * 3 + 1) (.int .i64 tt) := ⟨k1⟩
              haveI i2 : Old w0 b (off + k * 3 + 2) (.int .i64 mm) := ⟨k2⟩
              clear k0 k1 k2 hc ha
              go_upto_block 2 with fail
              go_cut [70] (fun iv wx => ∃ L' : Lk, iv = .int .i64 k ∧ Hid (Good L') ∧ Sat w0 wx (lkP pb L' * (lrP rb L' * any)))
              case first =>
                refine wp_gen (w0 := w0) ?_
                intro wq hsq
                generalize wr.heap.size = nb at *
                clear hs4
                by_cases e1 : kd = 1
                · subst e1
                  go_wp2_with fail
                  refine (lkLock pb L tt mm w0 _ _ own hL.out).mono ?_
                  rintro en w5 ⟨rfl, now', hg, hs5⟩
                  clear hsq
                  go_wp2_with fail
                  refine (lrLock rb L tt mm w0 _ _ own hL.out.fit).mono ?_
                  rintro en w6 ⟨rfl, hs6⟩
                  clear hs5
                  rw [← lrP_now rb (lockR L tt mm).2.2 now'] at hs6
                  generalize (lockR L tt mm).1 = x1 at *
                  generalize (lockR L tt mm).2.1 = x2 at *
                  have Hg := hid hg
                  clear hg hL
                  generalize wNow (lockR L tt mm).2.2 now' = L2 at *
                  have y1 : (x1 != x1) = false := by simp
                  have y2 : (x2 != x2) = false := by simp
                  go_wp2_with fail
                  go_meet
                  exact ⟨L2, rfl, Hg, own_left⟩
                · have e1 : (kd == 1) = false := by simp [e1]
                  by_cases e2 : kd = 2
                  · subst e2
                    go_wp2_with fail
                    refine (lkUnlock pb L tt mm w0 _ _ own hL.out).mono ?_
                    rintro en w5 ⟨rfl, now', hg, hs5⟩
                    clear hsq
                    go_wp2_with fail
                    refine (lrUnlock rb L tt mm w0 _ _ own hL.out).mono ?_
                    rintro en w6 ⟨rfl, hs6⟩
                    clear hs5
                    rw [← lrP_now rb (unlockR L tt mm).2.2 now'] at hs6
                    generalize (unlockR L tt mm).1 = x1 at *
                    generalize (unlockR L tt mm).2.1 = x2 at *
                    have Hg := hid hg
                    clear hg hL
                    generalize wNow (unlockR L tt mm).2.2 now' = L2 at *
                    have y1 : (x1 != x1) = false := by simp
                    have y2 : (x2 != x2) = false := by simp
                    go_wp2_with fail
                    go_meet
                    exact ⟨L2, rfl, Hg, own_left⟩
                  · have e2 : (kd == 2) = false := by simp [e2]
                    go_wp2_with fail
                    go_meet
                    exact ⟨L, rfl, hL, own_left⟩
              case rest =>
                obtain ⟨L2, rfl, hL2, hs5⟩ := hcut
                clear hs4
                go_wp2_with fail
                refine (lkAlike pb rb L2 w0 _ _ hs5 hL2.out).mono ?_
                rintro en w6 ⟨rfl, hs6⟩
                clear hs5
                go_wp2_with fail
                go_roundw
                case rel => exact ⟨k + 1, L2, by omega, by go_num, hL2, hs6⟩
                case measure => simp [natOf, intOf]; omega
            · go_wp2_with fail
              go_ret
              exact ⟨rfl, own_left⟩
        · obtain ⟨rfl, hs2⟩ := hno hok
          have Hok := hid hok
          clear hno hyes q3 hok ahs
          have hs2 : Sat w0 w2 any := own_left
          go_wp2_with fail
          refine (lrNew (.slice a0 l.length c0) l m w0 _ _ own_it inferInstance hl64 hm32).mono ?_
          rintro en w3 ⟨hyes, hno⟩
          obtain ⟨rfl, hs3⟩ := hno Hok.out
          clear hs2 hyes hno
          go_wp2_with fail
          go_ret
          exact ⟨rfl, own_left⟩
end Go.Proofs.Ytfphgcplpokigaa
