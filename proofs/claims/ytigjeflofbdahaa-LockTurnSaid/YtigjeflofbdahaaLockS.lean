/-
  Locks: the contract of after.
-/
import Derived.Test.YtigjeflofbdahaaLockO
namespace Go.Proofs.Ytigjeflofbdahaa
open Go.RowKit Go.Sx Go.Lk
set_option linter.unusedSimpArgs false
set_option linter.unusedVariables false

theorem lockR_own (L : Lk) (t m : Int) : (lockR L t m).2.2.own = L.own ∧ (lockR L t m).2.2.ow.length = L.ow.length := by
  unfold lockR
  repeat' split
  all_goals first | exact ⟨rfl, rfl⟩ | exact ⟨rfl, List.length_set ..⟩
theorem unlockR_own (L : Lk) (t m : Int) : (unlockR L t m).2.2.own = L.own ∧ (unlockR L t m).2.2.ow.length = L.ow.length := by
  unfold unlockR
  repeat' split
  all_goals first | exact ⟨rfl, rfl⟩ | exact ⟨rfl, List.length_set ..⟩
/-- Locks behind some calls, or none. -/
def Aft (w0 : World) (l : List Int) (M : Int) (F : HP) (en : Ending) (w' : World) : Prop :=
  (en = .returned (.pointer none) ∧ Sat w0 w' F) ∨ ∃ b L, en = .returned (.pointer (some ⟨b, 0, none⟩)) ∧ Good L ∧ L.own = l ∧ (L.ow.length : Int) = M ∧ Sat w0 w' (lkP b L * F)
set_option maxRecDepth 100000 in
set_option maxHeartbeats 8000000 in
theorem lkAfter (v0 : Value) (l : List Int) (M : Int) (v2 : Value) (n : Nat) (f : Nat → Nat → Int) (w0 w : World) (F : HP) (hs : Sat w0 w F) (h0 : RdN .i64 w0 v0 l) (h2 : RdK [.i64, .i64, .i64] w0 v2 n f) :
    Calls Try.prog 4 #[v0, .int .i64 M, v2] w (Aft w0 l M F) := by
  obtain ⟨a, cap, b, off, rfl, hcap, hbig, ha, hc⟩ := h2
  obtain ⟨a0, c0, g0, o0, rfl, hcap0, hbig0, hg0, hcell0⟩ := id h0
  haveI : OldR w0 .i64 (.slice a0 l.length c0) l := ⟨h0⟩
  clear hg0 hcell0 h0
  unfold maxLen at hbig hbig0
  by_cases q1 : 100 < l.length
  · have d1 : decide ((100 : Int) < (l.length : Int)) = true := by simp; omega
    go_enter Try.func4, Try.ntmps4
    go_wp2_with fail
    go_ret
    exact .inl ⟨rfl, hs⟩
  · have d1 : decide ((100 : Int) < (l.length : Int)) = false := by simp; omega
    by_cases q2 : 200 < n
    · have d2 : decide ((200 : Int) < (n : Int)) = true := by simp; omega
      go_enter Try.func4, Try.ntmps4
      go_wp2_with fail
      go_ret
      exact .inl ⟨rfl, hs⟩
    · have d2 : decide ((200 : Int) < (n : Int)) = false := by simp; omega
      have hn200 : n ≤ 200 := by omega
      clear q2
      go_enter Try.func4, Try.ntmps4
      go_wp2_with (first | (at_builtin; refine wpList_append_nums rfl rfl rfl rfl (by omega) ?_; intro ap ac aL aw ahL ah1 ah2 ahs _) | (refine wpList_slice_from rfl rfl rfl rfl (by omega) (by omega) ?_; intro px pc pL php phL ph1 ph2) | (refine wpList_slice_to rfl rfl rfl rfl (by omega) (by omega) ?_; intro px pc pL php phL ph1 ph2))
      have hal : aL = l := by rw [ahL.out]; rfl
      subst hal
      by_cases q3 : 64 < aL.length ∨ M < 0 ∨ 32 < M
      · refine (lkNew_no (.slice ap aL.length ac) aL M w0 _ _ own (by omega) q3).mono ?_
        rintro en w1 ⟨rfl, hs1⟩
        go_wp2_with fail
        go_ret
        exact .inl ⟨rfl, own_left⟩
      · obtain ⟨m, rfl⟩ := Int.eq_ofNat_of_zero_le (show 0 ≤ M by omega)
        refine (lkNew_fits (.slice ap aL.length ac) aL m w0 _ _ own (by omega) (by omega)).mono ?_
        rintro en w1 ⟨hyes, hno⟩
        by_cases hok : LvOk aL
        · obtain ⟨pb, rfl, hs1⟩ := hyes hok
          have hgood := hid (good_new aL m (by omega) (by omega) hok)
          have hs1 : Sat w0 w1 (lkP pb (newL aL m) * F) := own_left
          clear hno hyes hok q3 hs ahs
          go_wp2_with fail
          go_loopw [35] (fun i wr => ∃ (k : Nat) (L : Lk), k ≤ n ∧ i = .int .i64 k ∧ Hid (Good L ∧ L.own = aL ∧ L.ow.length = m) ∧ Sat w0 wr (lkP pb L * F)) (fun i _ => n - natOf i)
          case atStart => exact ⟨0, newL aL m, Nat.zero_le _, rfl, ⟨hgood.out, rfl, by simp [newL]⟩, hs1⟩
          case round =>
            obtain ⟨k, L, hk, rfl, hL, hs2⟩ := hrel
            clear hs1 hgood
            by_cases hlt : k < n
            · obtain rfl := ha (by omega)
              have k0 := (hc k 0 _ hlt rfl).1
              have k1 := (hc k 1 _ hlt rfl).1
              have k2 := (hc k 2 _ hlt rfl).1
              simp only [List.length_cons, List.length_nil, Nat.zero_add, Nat.add_zero, ← Nat.add_assoc] at k0 k1 k2
              generalize f k 0 = kd at *
              generalize f k 1 = tt at *
              generalize f k 2 = mm at *
              haveI o0 : Old w0 b (off + k * 3) (.int .i64 kd) := ⟨k0⟩
              haveI o1 : Old w0 b (off + k * 3 + 1) (.int .i64 tt) := ⟨k1⟩
              haveI o2 : Old w0 b (off + k * 3 + 2) (.int .i64 mm) := ⟨k2⟩
              have ho1 := hid (lockR_own L tt mm)
              have ho2 := hid (unlockR_own L tt mm)
              clear k0 k1 k2 hc ha
              by_cases e1 : kd = 1
              · subst e1
                go_wp2_with fail
                refine (lkLock pb L tt mm w0 _ _ own hL.out.1).mono ?_
                rintro en w2 ⟨rfl, now', hg, hs3⟩
                generalize (lockR L tt mm).1 = x1
                generalize (lockR L tt mm).2.1 = x2
                have hL' : Hid (Good (wNow (lockR L tt mm).2.2 now') ∧ (wNow (lockR L tt mm).2.2 now').own = aL ∧ (wNow (lockR L tt mm).2.2 now').ow.length = m) := ⟨hg, ho1.out.1.trans hL.out.2.1, ho1.out.2.trans hL.out.2.2⟩
                clear hg ho1 ho2
                generalize wNow (lockR L tt mm).2.2 now' = L2 at *
                go_wp2_with fail
                go_roundw
                case rel => exact ⟨k + 1, L2, by omega, by go_num, hL', own_left⟩
                case measure => simp [natOf, intOf]; omega
              · have e1 : (kd == 1) = false := by simp [e1]
                by_cases e2 : kd = 2
                · subst e2
                  go_wp2_with fail
                  refine (lkUnlock pb L tt mm w0 _ _ own hL.out.1).mono ?_
                  rintro en w2 ⟨rfl, now', hg, hs3⟩
                  generalize (unlockR L tt mm).1 = x1
                  generalize (unlockR L tt mm).2.1 = x2
                  have hL' : Hid (Good (wNow (unlockR L tt mm).2.2 now') ∧ (wNow (unlockR L tt mm).2.2 now').own = aL ∧ (wNow (unlockR L tt mm).2.2 now').ow.length = m) := ⟨hg, ho2.out.1.trans hL.out.2.1, ho2.out.2.trans hL.out.2.2⟩
                  clear hg ho1 ho2
                  generalize wNow (unlockR L tt mm).2.2 now' = L2 at *
                  go_wp2_with fail
                  go_roundw
                  case rel => exact ⟨k + 1, L2, by omega, by go_num, hL', own_left⟩
                  case measure => simp [natOf, intOf]; omega
                · have e2 : (kd == 2) = false := by simp [e2]
                  go_wp2_with fail
                  go_roundw
                  case rel => exact ⟨k + 1, L, by omega, by go_num, hL, own_left⟩
                  case measure => simp [natOf, intOf]; omega
            · go_wp2_with fail
              go_ret
              exact .inr ⟨pb, L, rfl, hL.out.1, hL.out.2.1, by rw [hL.out.2.2], hs2⟩
        · obtain ⟨rfl, hs1⟩ := hno hok
          go_wp2_with fail
          go_ret
          exact .inl ⟨rfl, own_left⟩
end Go.Proofs.Ytigjeflofbdahaa
