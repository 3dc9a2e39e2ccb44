/-
  LockInherits: the walk.
-/
import Derived.Test.YtfphgcplpokigaaLockS
namespace Go.Lk
open Go.Proofs.Ytfphgcplpokigaa (wNow heldK rg)
theorem mem_heldK {ow : List Int} {t : Int} {k : Nat} {x : Int} : x ∈ heldK ow t k ↔ ∃ m : Nat, m < k ∧ x = m ∧ lg ow m = t := by
  unfold heldK
  rw [List.mem_map]
  constructor
  · rintro ⟨m, h, rfl⟩
    rw [List.mem_filter] at h
    exact ⟨m, by simpa using h.1, rfl, by simpa using h.2⟩
  · rintro ⟨m, h1, rfl, h2⟩
    exact ⟨m, List.mem_filter.2 ⟨by simpa using h1, by simpa using h2⟩, rfl⟩
theorem lg_mem {l : List Int} {k : Nat} (h : k < l.length) : lg l k ∈ l := by simp [lg, List.getD, h]
theorem mem_lg {l : List Int} {x : Int} (h : x ∈ l) : ∃ k, k < l.length ∧ lg l k = x := by
  obtain ⟨k, hk, e⟩ := List.getElem_of_mem h
  exact ⟨k, hk, by simp [lg, List.getD, hk, e]⟩
/-- The last step of a chain. -/
theorem reach_last {L : Lk} {s t : Nat} (h : Go.Lk.Reach L s t) : s = t ∨ ∃ u, Go.Lk.Reach L s u ∧ 0 ≤ onAt L u ∧ nx L u = t := by
  cases h with
  | refl => exact .inl rfl
  | step hr ho => exact .inr ⟨_, hr, ho, rfl⟩
/-- What is the least of a task's own level and of those that wait for what it has, is its level. -/
theorem least_now {L : Lk} (hf : Fit L) (hl : Lev L) {t : Nat} (ht : t < L.own.length) {B : Int} (h1 : nowAt L t ≤ B) (h2 : B ≤ ownAt L t) (h3 : ∀ u, u < L.own.length → 0 ≤ onAt L u → nx L u = t → B ≤ nowAt L u) : nowAt L t = B := by
  refine Int.le_antisymm h1 ?_
  obtain ⟨s, hs, hr, e⟩ := hl.att t ht
  rcases reach_last hr with rfl | ⟨u, hu, ho, hn⟩
  · rw [e]; exact h2
  · have a := h3 u (reach_lt hf hs hu) ho hn
    have b := lev_reach hf hl hs hu
    have c := hl.up s hs
    omega
end Go.Lk
namespace Go.Proofs.Ytfphgcplpokigaa
open Go.RowKit Go.Sx Go.Lk
set_option linter.unusedSimpArgs false
set_option linter.unusedVariables false

/-- What is known of the least so far, with p mutexes gone through. -/
def InvP (L : Lk) (t : Nat) (H : List Int) (p : Nat) (B : Int) : Prop :=
  lg L.now t ≤ B ∧ B ≤ lg L.own t ∧ ∀ q, q < p → ∀ u, u < L.own.length → lg L.on u = lg H q → B ≤ lg L.now u
set_option maxRecDepth 100000 in
set_option maxHeartbeats 8000000 in
theorem lockInherits_walk (v0 : Value) (l : List Int) (M : Int) (v2 : Value) (n : Nat) (f : Nat → Nat → Int) (w0 : World) (h0 : RdN .i64 w0 v0 l) (_z0 : ∀ n ∈ l, (Lit.int .i64 n).wf = true) (_z1 : (Lit.int .i64 M).wf = true) (h2 : RdK [.i64, .i64, .i64] w0 v2 n f) :
    Calls Try.prog 10 #[v0, .int .i64 M, v2] w0 (RetV w0 (.bool true) emp) := by
  have hs := Sat.start w0
  obtain ⟨a0, c0, g0, o0, rfl, hcap0, hbig0, hg0, hcell0⟩ := id h0
  go_enter Try.func10, Try.ntmps10
  go_wp2_with fail
  refine (lkAfter _ l M v2 n f w0 _ _ hs h0 h2).mono ?_
  clear h0 h2 _z0 _z1
  rintro en w1 (⟨rfl, hs1⟩ | ⟨b, L, rfl, hg, rfl, hM, hs1⟩)
  · clear hg0 hcell0
    go_wp2_with fail
    refine (lkAwake w0 _ _ hs1).mono ?_
    rintro en w2 ⟨rfl, hs2⟩
    go_wp2_with fail
    refine (lkAwake w0 _ _ hs2).mono ?_
    rintro en w3 ⟨rfl, hs3⟩
    go_wp2_with fail
    go_ret
    exact ⟨rfl, hs3⟩
  · have Hg := hid hg
    have hn64 := hg.fit.n
    have Hln := hid hg.fit.ln
    have Hold : Hid (0 < L.own.length → a0 = some ⟨g0, o0, none⟩ ∧ ∀ j, j < L.own.length → w0.cell? ⟨g0, o0 + j, none⟩ = some (.int .i64 (lg L.own j))) := fun hp => ⟨hg0 (by rintro e; rw [e] at hp; simp at hp), hcell0⟩
    clear hg hM hg0 hcell0
    go_wp2_with fail
    refine (lkAwake w0 _ _ hs1).mono ?_
    rintro en w2 ⟨rfl, hs2⟩
    go_wp2_with fail
    refine (lkLevels b L w0 _ _ hs2 Hg.out.fit).mono ?_
    rintro en w3 ⟨v, rfl, hs3⟩
    obtain ⟨a, c, rfl⟩ := hs3.slice_form
    have hs3 : Sat w0 w3 (numsP .i64 (.slice a L.own.length c) L.now * (lkP b L * emp)) := by rw [← Hln.out]; exact hs3
    rw [Hln.out]
    clear hs hs1 hs2
    go_wp2_with fail
    go_loopw [35] (fun i wr => ∃ k : Nat, k ≤ L.own.length ∧ i = .int .i64 k ∧ Sat w0 wr (numsP .i64 (.slice a L.own.length c) L.now * (lkP b L * emp))) (fun i _ => L.own.length - natOf i)
    case atStart => exact ⟨0, Nat.zero_le _, rfl, hs3⟩
    case round =>
      obtain ⟨k, hk, rfl, hs4⟩ := hrel
      clear hs3
      by_cases hlt : k < L.own.length
      · have i1 : (k : Int) < (L.own.length : Int) := by omega
        have i2 : decide (k < L.own.length) = true := by simp; omega
        obtain ⟨rfl, hold⟩ := Hold.out (by omega)
        haveI : Old w0 g0 (o0 + k) (.int .i64 (lg L.own k)) := ⟨hold k hlt⟩
        haveI : Lt k L.now.length := ⟨by rw [Hln.out]; exact hlt⟩
        obtain ⟨ag, ao, rfl⟩ := Sat.someA hs4 a (by rw [Hln.out]; omega)
        have hhe : Hid (heldOf L k = heldK L.ow k L.ow.length) := if_pos ⟨by omega, i1⟩
        have hH : Hid ((∀ p, p < (heldOf L k).length → ∃ m : Nat, m < L.ow.length ∧ lg (heldOf L k) p = m ∧ lg L.ow m = k) ∧ ∀ m : Nat, m < L.ow.length → lg L.ow m = k → ∃ p, p < (heldOf L k).length ∧ lg (heldOf L k) p = m) := by
          unfold Hid
          rw [hhe.out]
          refine ⟨fun p hp => ?_, fun m hm he => mem_lg (mem_heldK.2 ⟨m, hm, rfl, he⟩)⟩
          obtain ⟨m, h1, h2, h3⟩ := mem_heldK.1 (lg_mem hp)
          exact ⟨m, h1, h2, h3⟩
        have hHl : Hid ((heldOf L k).length ≤ 32) := by
          unfold Hid
          rw [hhe.out]
          exact Nat.le_trans (heldK_len _ _ _) Hg.out.fit.m
        clear hhe hold
        have hst : Hid (lg L.now k ≤ lg L.own k) := Hg.out.lev.up k hlt
        go_wp2_with fail
        refine (lkHeld b L k w0 _ _ own Hg.out.fit).mono ?_
        rintro en w5 ⟨v5, rfl, hs5⟩
        generalize heldOf L k = H at *
        obtain ⟨a5, c5, rfl⟩ := hs5.slice_form
        have hHl := hHl.out
        clear hs4
        go_wp2_with fail
        go_loopw [10, 46] (fun bv i wr => ∃ (p : Nat) (B : Int), p ≤ H.length ∧ i = .int .i64 p ∧ bv = .int .i64 B ∧ Hid (InvP L k H p B) ∧ Sat w0 wr (numsP .i64 (.slice (some ⟨ag, ao, none⟩) L.own.length c) L.now * (lkP b L * (numsP .i64 (.slice a5 H.length c5) H * any)))) (fun _ i _ => H.length - natOf i)
        case atStart => exact ⟨0, lg L.own k, Nat.zero_le _, rfl, rfl, ⟨hst.out, Int.le_refl _, fun q hq => absurd hq (by omega)⟩, own_left⟩
        case round =>
          obtain ⟨p, B, hp, rfl, rfl, hinv, hs6⟩ := hrel
          clear hs5
          by_cases hpl : p < H.length
          · have i3 : (p : Int) < (H.length : Int) := by omega
            have i4 : decide (p < H.length) = true := by simp; omega
            haveI : Lt p H.length := ⟨hpl⟩
            obtain ⟨hg5, ho5, rfl⟩ := Sat.someA hs6 a5 (by omega)
            obtain ⟨m, hm, hpm, hom⟩ := hH.out.1 p hpl
            have hrow : Hid (rowOf L m = rg L.rows m) := if_pos ⟨by omega, by omega⟩
            have hR : Hid (∀ r, r < (rg L.rows m).length → ∃ u : Nat, lg (rg L.rows m) r = u ∧ u < L.own.length ∧ lg L.now k ≤ lg L.now u) := fun r hr => by
              obtain ⟨u, h1, h2, h3, h4, h5⟩ := row_in Hg.out.fit hm (lg_mem hr)
              refine ⟨u, h1, h2, ?_⟩
              have h6 := Hg.out.lev.edge u h2 (by omega)
              rw [h4, hom, show ((k : Int)).toNat = k by omega] at h6
              exact h6
            have hC : Hid (∀ u, u < L.own.length → lg L.on u = lg H p → ∃ r, r < (rg L.rows m).length ∧ lg (rg L.rows m) r = u) := fun u hu he => by
              refine mem_lg (((Hg.out.fit.row m hm).2 u).2 ⟨by omega, by omega, ?_⟩)
              rw [show ((u : Int)).toNat = u by omega]
              rw [hpm] at he; exact he
            have hRl : Hid ((rg L.rows m).length ≤ 64) := rowOk_len (row_ok Hg.out.fit hm)
            have Hpm := hid hpm
            clear hpm hom
            go_wp2_with fail
            rw [Hpm.out]
            refine (lkWaiting b L m w0 _ _ own Hg.out.fit).mono ?_
            rintro en w7 ⟨v7, rfl, hs7⟩
            rw [hrow.out] at hs7
            generalize rg L.rows m = R at *
            obtain ⟨a7, c7, rfl⟩ := hs7.slice_form
            have hRl := hRl.out
            clear hs6 hrow
            go_wp2_with fail
            go_loopw [10, 54] (fun bv i wr => ∃ (r : Nat) (B : Int), r ≤ R.length ∧ i = .int .i64 r ∧ bv = .int .i64 B ∧ Hid (InvP L k H p B ∧ ∀ j, j < r → B ≤ lg L.now (lg R j).toNat) ∧ Sat w0 wr (numsP .i64 (.slice (some ⟨ag, ao, none⟩) L.own.length c) L.now * (lkP b L * (numsP .i64 (.slice (some ⟨hg5, ho5, none⟩) H.length c5) H * (numsP .i64 (.slice a7 R.length c7) R * any))))) (fun _ i _ => R.length - natOf i)
            case atStart => exact ⟨0, B, Nat.zero_le _, rfl, rfl, ⟨hinv.out, fun j hj => absurd hj (by omega)⟩, own_left⟩
            case round =>
              clear hinv
              obtain ⟨r, B, hr, rfl, rfl, hinv, hs8⟩ := hrel
              clear hs7
              by_cases hrl : r < R.length
              · have i5 : (r : Int) < (R.length : Int) := by omega
                have i6 : decide (r < R.length) = true := by simp; omega
                haveI : Lt r R.length := ⟨hrl⟩
                obtain ⟨hg7, ho7, rfl⟩ := Sat.someA hs8 a7 (by omega)
                obtain ⟨u, hu1, hu2, hu3⟩ := hR.out r hrl
                have i7 : (u : Int) < (L.own.length : Int) := by omega
                have i8 : decide (u < L.own.length) = true := by simp; omega
                have i9 : decide (L.own.length ≤ u) = false := by simp; omega
                haveI : Lt u L.now.length := ⟨by rw [Hln.out]; exact hu2⟩
                have e1 : decide (lg L.now u < lg L.now k) = false := by simp; omega
                have Hu1 := hid hu1
                have Hu3 := hid hu3
                clear hu1 hu3
                go_wp2_with fail
                rw [Hu1.out]
                go_wp2_with fail
                go_quiet (fail)
                go_wp2_with fail
                go_roundw
                case rel =>
                  refine ⟨r + 1, if lg L.now u < B then lg L.now u else B, by omega, by go_num, rfl, ?_, own_left⟩
                  obtain ⟨⟨q1, q2, q3⟩, q4⟩ := hinv.out
                  have hle : (if lg L.now u < B then lg L.now u else B) ≤ B := by split <;> omega
                  have hlu : (if lg L.now u < B then lg L.now u else B) ≤ lg L.now u := by split <;> omega
                  refine ⟨⟨by split; · exact Hu3.out
                              · exact q1, Int.le_trans hle q2, fun q hq u' h1 h2 => Int.le_trans hle (q3 q hq u' h1 h2)⟩, fun j hj => ?_⟩
                  by_cases hjr : j = r
                  · rw [hjr, Hu1.out]; exact hlu
                  · exact Int.le_trans hle (q4 j (by omega))
                case measure => simp [natOf, intOf]; omega
              · have i5 : ¬ (r : Int) < (R.length : Int) := by omega
                have hinv' : Hid (InvP L k H (p + 1) B) := by
                  obtain ⟨⟨q1, q2, q3⟩, q4⟩ := hinv.out
                  refine ⟨q1, q2, fun q hq u h1 h2 => ?_⟩
                  by_cases hqp : q = p
                  · rw [hqp] at h2
                    obtain ⟨j, hj, e⟩ := hC.out u h1 h2
                    have := q4 j (by omega)
                    rw [e] at this; exact this
                  · exact q3 q (by omega) u h1 h2
                clear hinv
                go_wp2_with fail
                go_roundw
                case rel => exact ⟨p + 1, B, by omega, by go_num, rfl, hinv', own_left⟩
                case measure => simp [natOf, intOf]; omega
          · have i3 : ¬ (p : Int) < (H.length : Int) := by omega
            have heq : lg L.now k = B := by
              obtain ⟨q1, q2, q3⟩ := hinv.out
              refine least_now Hg.out.fit Hg.out.lev hlt q1 q2 fun u hu ho hn => ?_
              have hm0 := Hg.out.fit.onr u hu
              obtain ⟨m, hm⟩ := Int.eq_ofNat_of_zero_le ho
              have h5 : m < L.ow.length ∧ 0 ≤ owAt L m := by
                rcases hm0 with h | ⟨_, h, h', _⟩
                · omega
                · rw [hm] at h'; exact ⟨by omega, h'⟩
              have h6 : lg L.ow m = k := by
                unfold nx at hn
                rw [hm] at hn
                have h7 : (lg L.ow m).toNat = k := hn
                have h8 : 0 ≤ lg L.ow m := h5.2
                omega
              obtain ⟨q, hq, e⟩ := hH.out.2 m h5.1 h6
              exact q3 q (by omega) u hu (by rw [e]; exact hm)
            have e2 : (lg L.now k != B) = false := by simp [heq]
            clear heq hinv
            go_wp2_with fail
            go_roundw
            case rel => exact ⟨k + 1, by omega, by go_num, own_left⟩
            case measure => simp [natOf, intOf]; omega
      · have i1 : ¬ (k : Int) < (L.own.length : Int) := by omega
        go_wp2_with fail
        go_ret
        exact ⟨rfl, own_left⟩
end Go.Proofs.Ytfphgcplpokigaa
