/-
  LockEnds: the walk.
-/
import Derived.Test.YtfphgcplpokigaaLockS
namespace Go.Lk
open Go.Proofs.Ytfphgcplpokigaa (wNow)
/-- So many steps along the chain of owners, as far as it goes. -/
def itN (L : Lk) (t : Nat) : Nat → Nat
  | 0 => t
  | j + 1 => if 0 ≤ onAt L (itN L t j) then nx L (itN L t j) else itN L t j
theorem itN_reach (L : Lk) (t : Nat) : ∀ j, Go.Lk.Reach L t (itN L t j)
  | 0 => .refl
  | j + 1 => by
    unfold itN
    split
    · rename_i h; exact .step (itN_reach L t j) h
    · exact itN_reach L t j
theorem itN_all (L : Lk) (t : Nat) : ∀ j, 0 ≤ onAt L (itN L t j) → ReachN L t j (itN L t j)
  | 0, _ => .refl
  | j + 1, h => by
    by_cases h0 : 0 ≤ onAt L (itN L t j)
    · have e : itN L t (j + 1) = nx L (itN L t j) := if_pos h0
      rw [e]; exact .step (itN_all L t j h0) h0
    · have e : itN L t (j + 1) = itN L t j := if_neg h0
      rw [e] at h; exact absurd h h0
theorem itN_end {L : Lk} (hf : Fit L) {t : Nat} (ht : t < L.own.length) : ¬ 0 ≤ onAt L (itN L t L.own.length) := fun h => by
  have := reachN_short hf ht (itN_all L t _ h)
  omega
end Go.Lk
namespace Go.Proofs.Ytfphgcplpokigaa
open Go.RowKit Go.Sx Go.Lk
set_option linter.unusedSimpArgs false
set_option linter.unusedVariables false

set_option maxRecDepth 100000 in
set_option maxHeartbeats 8000000 in
theorem lockEnds_walk (v0 : Value) (l : List Int) (M : Int) (v2 : Value) (n : Nat) (f : Nat → Nat → Int) (w0 : World) (h0 : RdN .i64 w0 v0 l) (_z0 : ∀ n ∈ l, (Lit.int .i64 n).wf = true) (_z1 : (Lit.int .i64 M).wf = true) (h2 : RdK [.i64, .i64, .i64] w0 v2 n f) :
    Calls Try.prog 4 #[v0, .int .i64 M, v2] w0 (RetV w0 (.bool true) emp) := by
  have hs := Sat.start w0
  go_enter Try.func4, Try.ntmps4
  go_wp2_with fail
  refine (lkAfter v0 l M v2 n f w0 _ _ hs h0 h2).mono ?_
  clear h0 h2 _z0 _z1
  rintro en w1 (⟨rfl, hs1⟩ | ⟨b, L, rfl, hg, hl, hM, hs1⟩)
  · go_wp2_with fail
    refine (lkAwake w0 _ _ hs1).mono ?_
    rintro en w2 ⟨rfl, hs2⟩
    go_wp2_with fail
    refine (lkAwake w0 _ _ hs2).mono ?_
    rintro en w3 ⟨rfl, hs3⟩
    go_wp2_with fail
    go_ret
    exact ⟨rfl, hs3⟩
  · have Hg := hid hg
    have hn64 := hg.fit.n
    have Hln := hid hg.fit.ln
    clear hg hl hM
    go_wp2_with fail
    refine (lkAwake w0 _ _ hs1).mono ?_
    rintro en w2 ⟨rfl, hs2⟩
    go_wp2_with fail
    refine (lkLevels b L w0 _ _ hs2 Hg.out.fit).mono ?_
    rintro en w3 ⟨v, rfl, hs3⟩
    obtain ⟨a, c, rfl⟩ := hs3.slice_form
    have hs3 : Sat w0 w3 (numsP .i64 (.slice a L.own.length c) L.now * (lkP b L * emp)) := by rw [← Hln.out]; exact hs3
    rw [Hln.out]
    clear hs hs1 hs2
    go_wp2_with fail
    go_loopw [27] (fun i wr => ∃ k : Nat, k ≤ L.own.length ∧ i = .int .i64 k ∧ Sat w0 wr (numsP .i64 (.slice a L.own.length c) L.now * (lkP b L * emp))) (fun i _ => L.own.length - natOf i)
    case atStart => exact ⟨0, Nat.zero_le _, rfl, hs3⟩
    case round =>
      obtain ⟨k, hk, rfl, hs4⟩ := hrel
      clear hs3
      by_cases hlt : k < L.own.length
      · have i1 : (k : Int) < (L.own.length : Int) := by omega
        have i2 : decide (k < L.own.length) = true := by simp; omega
        go_wp2_with fail
        go_loopw [10, 33] (fun xv i wr => ∃ j x : Nat, j ≤ L.own.length ∧ x < L.own.length ∧ i = .int .i64 j ∧ xv = .int .i64 x ∧ Hid (x = itN L k j) ∧ Sat w0 wr (numsP .i64 (.slice a L.own.length c) L.now * (lkP b L * emp))) (fun _ i _ => L.own.length - natOf i)
        case atStart => exact ⟨0, k, Nat.zero_le _, hlt, rfl, rfl, rfl, hs4⟩
        case round =>
          obtain ⟨j, x, hj, hx, rfl, rfl, hxe, hs5⟩ := hrel
          clear hs4
          have i3 : (x : Int) < (L.own.length : Int) := by omega
          have i4 : decide (x < L.own.length) = true := by simp; omega
          by_cases hjl : j < L.own.length
          · have i5 : (j : Int) < (L.own.length : Int) := by omega
            by_cases ho : 0 ≤ onAt L x
            · obtain ⟨m, hm⟩ := Int.eq_ofNat_of_zero_le ho
              have hon := Hg.out.fit.onr x hx
              have hnl := nx_lt Hg.out.fit hx ho
              have hml : m < L.ow.length := by rcases hon with h | ⟨_, h, _, _⟩ <;> omega
              have hw : Hid (waitsOf L x = m) := by
                show (if _ then _ else _) = (m : Int)
                rw [if_pos ⟨by omega, i3⟩]; exact hm
              have hy : Hid (ownerOf L m = (nx L x : Nat)) := by
                show (if _ then _ else _) = ((nx L x : Nat) : Int)
                rw [if_pos ⟨by omega, by omega⟩]
                have h3 : 0 ≤ owAt L (onAt L x).toNat := by rcases hon with h | ⟨_, _, h, _⟩ <;> omega
                rw [hm] at h3
                unfold nx
                rw [hm]
                show lg L.ow m = ((lg L.ow m).toNat : Int)
                have h4 : 0 ≤ lg L.ow m := h3
                omega
              have hit : Hid (nx L x = itN L k (j + 1)) := by
                show nx L x = if _ then _ else _
                rw [← hxe.out, if_pos ho]
              generalize nx L x = y at *
              have i6 : (y : Int) < (L.own.length : Int) := by omega
              have i7 : decide (y < L.own.length) = true := by simp; omega
              clear hon ho hm hxe
              go_wp2_with fail
              refine (lkWaits b L x w0 _ _ own Hg.out.fit).mono ?_
              rintro en w5 ⟨rfl, hs6⟩
              rw [hw.out]
              clear hw
              go_wp2_with fail
              refine (lkOwner b L m w0 _ _ hs6 Hg.out.fit).mono ?_
              rintro en w6 ⟨rfl, hs7⟩
              rw [hy.out]
              clear hs6 hs5 hy
              go_wp2_with fail
              go_roundw
              case rel => exact ⟨j + 1, y, by omega, by omega, by go_num, rfl, hit, own_left⟩
              case measure => simp [natOf, intOf]; omega
            · have hw : Hid (waitsOf L x = -1) := by
                show (if _ then _ else _) = (-1 : Int)
                rw [if_pos ⟨by omega, i3⟩]
                rcases Hg.out.fit.onr x hx with h | ⟨h, _⟩
                · exact h
                · exact absurd h ho
              have hit : Hid (x = itN L k (j + 1)) := by
                show x = if _ then _ else _
                rw [← hxe.out, if_neg ho]
              clear ho hxe
              go_wp2_with fail
              refine (lkWaits b L x w0 _ _ own Hg.out.fit).mono ?_
              rintro en w5 ⟨rfl, hs6⟩
              rw [hw.out]
              clear hw
              go_wp2_with fail
              go_roundw
              case rel => exact ⟨j + 1, x, by omega, by omega, by go_num, rfl, hit, own_left⟩
              case measure => simp [natOf, intOf]; omega
          · have i5 : ¬ (j : Int) < (L.own.length : Int) := by omega
            have hjn : j = L.own.length := by omega
            have hend := itN_end Hg.out.fit hlt
            rw [← hjn, ← hxe.out] at hend
            have hw : Hid (waitsOf L x = -1) := by
              show (if _ then _ else _) = (-1 : Int)
              rw [if_pos ⟨by omega, i3⟩]
              rcases Hg.out.fit.onr x hx with h | ⟨h, _⟩
              · exact h
              · exact absurd h hend
            have hle : lg L.now x ≤ lg L.now k := by
              have h1 := itN_reach L k j
              rw [← hxe.out] at h1
              exact lev_reach Hg.out.fit Hg.out.lev hlt h1
            have e9 : decide (lg L.now k < lg L.now x) = false := by simp; omega
            haveI : Lt x L.now.length := ⟨by rw [Hln.out]; exact hx⟩
            haveI : Lt k L.now.length := ⟨by rw [Hln.out]; exact hlt⟩
            obtain ⟨ag, ao, rfl⟩ := Sat.someA hs5 a (by rw [Hln.out]; omega)
            clear hend hle hjn hxe
            go_wp2_with fail
            refine wp_gen (w0 := w0) ?_
            intro wx hsx
            clear hs5
            refine wp_region_early (fun w' => Sat w0 w' (numsP .i64 (.slice (some ⟨ag, ao, none⟩) L.own.length c) L.now * (lkP b L * emp))) [(0, true), (1, true), (2, false), (3, true), (4, true), (5, true), (6, true), (7, true), (8, true), (9, true), (10, true), (11, true), (12, true), (13, true), (14, true)] (by kernel_rfl) (by kernel_rfl) (fun _ _ _ _ h => h) own_left ?_
            iterate 2 (refine early_read (fun K hK => ?_); simp only [List.getElem?_cons_succ, List.getElem?_cons_zero]; (first | (rw [if_pos (by rfl)]; apply Exists.intro; refine ⟨fun w hSw => ?_, hK _ ?_⟩; (focus ((try dsimp only at hSw); go_simp; try with_reducible rfl))) | (rw [if_neg (ne_true_of_eq_false (by rfl))]; refine hK _ ?_)); clear hK K; simp only [Act.put, List.setIfInBounds_toArray, List.set_cons_zero, List.set_cons_succ])
            refine early_run (fun K hK => ?_); simp only [List.getElem?_cons_succ, List.getElem?_cons_zero]; rw [if_pos (by rfl)]
            go_wp2_with fail
            refine (lkWaits b L x w0 _ _ own Hg.out.fit).mono ?_
            rintro en w5 ⟨rfl, hs6⟩
            rw [hw.out]
            clear hw
            go_wp2_with fail
            refine ⟨own_left, ?_⟩
            iterate 12 (refine early_read (fun K hK => ?_); simp only [List.getElem?_cons_succ, List.getElem?_cons_zero]; (first | (rw [if_pos (by rfl)]; apply Exists.intro; refine ⟨fun w hSw => ?_, hK _ ?_⟩; (focus ((try dsimp only at hSw); go_simp; try with_reducible rfl))) | (rw [if_neg (ne_true_of_eq_false (by rfl))]; refine hK _ ?_)); clear hK K; simp only [Act.put, List.setIfInBounds_toArray, List.set_cons_zero, List.set_cons_succ])
            refine early_done ?_
            go_wp2_with fail
            go_roundw
            case rel => exact ⟨k + 1, by omega, by go_num, own_left⟩
            case measure => simp [natOf, intOf]; omega
      · have i1 : ¬ (k : Int) < (L.own.length : Int) := by omega
        go_wp2_with fail
        go_ret
        exact ⟨rfl, own_left⟩
end Go.Proofs.Ytfphgcplpokigaa
