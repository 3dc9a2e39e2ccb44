/-
  DeltaRises: the walk.
-/
import Derived.Test.YtfphgcplpokigaaDeltaI
import Derived.Test.YtfphgcplpokigaaRegion
namespace Go.Proofs.Ytfphgcplpokigaa
open Go.RowKit Go.Sx Go.Dl
attribute [local simp, local go_sem] zeroList zeroL_size zeroL_ne

theorem one_split {T : List Ck} (h : T.Pairwise fun a b => a.2 ≤ b.2) (h0 : ∀ x ∈ T, 1 ≤ x.2) : T = (T.filter fun x => x.2 == 1) ++ T.filter fun x => x.2 != 1 := by
  induction T with
  | nil => rfl
  | cons x r ih =>
    rw [List.pairwise_cons] at h
    by_cases hx : x.2 = 1
    · rw [List.filter_cons_of_pos (by simp [hx]), List.filter_cons_of_neg (by simp [hx]), List.cons_append, ← ih h.2 fun y hy => h0 y (by simp [hy])]
    · have h1 : ∀ y ∈ r, y.2 ≠ 1 := fun y hy => by have := h.1 y hy; have := h0 x (by simp); omega
      rw [List.filter_cons_of_neg (by simp [hx]), List.filter_cons_of_pos (by simp [hx]), List.filter_eq_nil_iff.2 (fun y hy => by simp [h1 y hy]), List.filter_eq_self.2 (fun y hy => by simp [h1 y hy])]
      rfl
theorem ris_split {S : List Ck} (h : SOk S) : ∃ A T : List Ck, S = A ++ T ∧ overS S = A.map Prod.fst ∧ tickS S = T.map dec ∧ ∀ x ∈ A, x.2 = 1 :=
  ⟨_, _, one_split h.up fun x hx => (h.lf x hx).1, rfl, rfl, fun x hx => by simpa using (List.mem_filter.1 hx).2⟩
theorem ris_len {S : List Ck} (h : SOk S) : (overS S).length + (tickS S).length = S.length := by
  obtain ⟨A, T, e, e1, e2, _⟩ := ris_split h
  rw [e1, e2, e]; simp
theorem ris_lt {S : List Ck} (h : SOk S) {p : Nat} (hp : p < (overS S).length) : (S.getD p (0, 0)).2 = 1 ∧ (overS S).getD p 0 = (S.getD p (0, 0)).1 := by
  obtain ⟨A, T, e, e1, e2, hA⟩ := ris_split h
  rw [e1, List.length_map] at hp
  rw [e1]
  have e3 : S.getD p (0, 0) = A[p] := by rw [e]; simp [List.getD, List.getElem?_append_left hp, hp]
  rw [e3]
  exact ⟨hA _ (List.getElem_mem hp), by simp [List.getD, hp]⟩
theorem ris_ge {S : List Ck} (h : SOk S) {p : Nat} (hp : (overS S).length ≤ p) (hp2 : p < S.length) : (tickS S).getD (p - (overS S).length) (0, 0) = ((S.getD p (0, 0)).1, (S.getD p (0, 0)).2 - 1) := by
  obtain ⟨A, T, e, e1, e2, hA⟩ := ris_split h
  rw [e1, List.length_map] at hp
  have hl : S.length = A.length + T.length := by rw [e, List.length_append]
  have hp3 : p - A.length < T.length := by omega
  rw [e1, e2, List.length_map]
  have e3 : S.getD p (0, 0) = T[p - A.length] := by rw [e]; simp [List.getD, List.getElem?_append_right hp, hp3]
  rw [e3]
  simp [List.getD, hp3, dec]

set_option maxRecDepth 100000 in
set_option maxHeartbeats 16000000 in
theorem deltaRises_walk (v0 : Value) (n0 : Nat) (f0 : Nat → Nat → Int) (w0 : World) (h0 : RdK [.i64, .i64, .i64] w0 v0 n0 f0) :
    Calls Try.prog 8 #[v0] w0 (RetV w0 (.bool true) emp) := by
  have hs := Sat.start w0
  obtain ⟨a, cap, b, off, rfl, hcap, hbig, ha, hc⟩ := (show RdK [.i64, .i64, .i64] w0 v0 n0 f0 from h0)
  unfold maxLen at hbig
  by_cases c2 : 200 < n0
  · have d2 : decide ((200 : Int) < (n0 : Int)) = true := by simp; omega
    go_enter Try.func8, Try.ntmps8
    go_wp2_with fail
    refine (delAwake w0 _ _ hs).mono ?_
    rintro e w1 ⟨rfl, hs1⟩
    go_wp2_with fail
    refine (delAwake w0 _ _ hs1).mono ?_
    rintro e w2 ⟨rfl, hs2⟩
    go_wp2_with fail
    go_ret
    exact ⟨rfl, hs2⟩
  · have d2 : decide ((200 : Int) < (n0 : Int)) = false := by simp; omega
    have hn200 : n0 ≤ 200 := by omega
    go_enter Try.func8, Try.ntmps8
    go_wp2_with fail
    refine (delAwake w0 _ _ hs).mono ?_
    rintro e w1 ⟨rfl, hs1⟩
    have hs2 := delP_new hs1 27
    have hs2 : Sat w0 (w1.alloc (.cells Try.zeroCells27 27)) (delP w1.heap.size [] * emp) := hs2
    go_wp2_with fail
    refine wp_gen (w0 := w0) ?_
    intro w3 hs3
    generalize w1.heap.size = pb at *
    clear hs hs1 hs2
    go_loopw [23] (fun i wr => ∃ (k : Nat) (S : List Ck), k ≤ n0 ∧ i = .int .i64 k ∧ SOk S ∧ Sat w0 wr (delP pb S * any)) (fun i _ => n0 - (intOf i).toNat)
    case atStart => exact ⟨0, [], Nat.zero_le _, rfl, sok_nil, own_left⟩
    case round =>
      obtain ⟨k, S, hk, rfl, hok, hs4⟩ := hrel
      clear hs3
      by_cases hlt : k < n0
      · obtain rfl := ha (by omega)
        have k0 := (hc k 0 _ hlt rfl).1
        have k1 := (hc k 1 _ hlt rfl).1
        have k2 := (hc k 2 _ hlt rfl).1
        simp only [List.length_cons, List.length_nil, Nat.zero_add, Nat.add_zero, ← Nat.add_assoc] at k0 k1 k2
        generalize f0 k 0 = kd at *
        generalize f0 k 1 = ii at *
        generalize f0 k 2 = tt at *
        haveI o0 : Old w0 b (off + k * 3) (.int .i64 kd) := ⟨k0⟩
        haveI o1 : Old w0 b (off + k * 3 + 1) (.int .i64 ii) := ⟨k1⟩
        haveI o2 : Old w0 b (off + k * 3 + 2) (.int .i64 tt) := ⟨k2⟩
        clear k0 k1 k2 hc ha
        go_upto_if 29 with (fail)
        go_cut [23] (fun iv wx => ∃ S' : List Ck, iv = .int .i64 k ∧ SOk S' ∧ Sat w0 wx (pts wr.heap.size 0 [.int .i64 kd, .int .i64 ii, .int .i64 tt] * (delP pb S' * any)))
        case first =>
          by_cases k1 : kd = 1
          · subst k1
            go_wp2_with fail
            refine (delPut _ S ii tt w0 _ _ own hok).mono ?_
            rintro e w5 ⟨rfl, hs5⟩
            go_wp2_with fail
            go_meet
            exact ⟨_, rfl, sok_putS hok ii tt, own_any2⟩
          · have b1 : (kd == 1) = false := by simp [k1]
            by_cases k2 : kd = 2
            · subst k2
              go_wp2_with fail
              refine (delCancel _ S ii w0 _ _ own hok).mono ?_
              rintro e w5 ⟨rfl, hs5⟩
              go_wp2_with fail
              go_meet
              exact ⟨_, rfl, sok_del hok ii, own_any2⟩
            · have b2 : (kd == 2) = false := by simp [k2]
              go_wp2_with fail
              go_meet
              exact ⟨S, rfl, hok, own_any2⟩
        case rest =>
          obtain ⟨S', rfl, hok', hs6⟩ := hcut
          clear hs4 hok
          generalize wr.heap.size = nb at *
          clear S
          have hl := sok_len hok'
          go_wp2_with fail
          refine (delDues_some _ S' w0 _ _ own hok').mono ?_
          rintro e w7 ⟨v7, rfl, hs7⟩
          obtain ⟨a7, c7, rfl⟩ := hs7.recs_form
          go_wp2_with fail
          go_loopw [44] (fun j wr => ∃ p : Nat, p ≤ S'.length ∧ j = .int .i64 p ∧ Sat w0 wr (recsP (.slice a7 S'.length c7) S' * (delP pb S' * (pts nb 0 [.int .i64 kd, .int .i64 ii, .int .i64 tt] * any)))) (fun j _ => S'.length - (intOf j).toNat)
          case atStart => exact ⟨0, Nat.zero_le _, rfl, own_left⟩
          case round =>
            clear hs6 hs7
            obtain ⟨p, hp, rfl, hs7⟩ := hrel
            by_cases hp2 : p < S'.length
            · obtain ⟨g, o7, rfl⟩ := hs7.someR (E := encCk) a7 S'.length c7 (by omega)
              haveI : Lt p S'.length := ⟨hp2⟩
              have hm : S'.getD p (0, 0) ∈ S' := by simp [List.getD, hp2]
              have hlm := left_mem hok'.nd hm
              have hf := hok'.lf _ hm
              have hup : ∀ q, q < p → (S'.getD q (0, 0)).2 ≤ (S'.getD p (0, 0)).2 := fun q hq => by
                have := List.pairwise_iff_getElem.1 hok'.up q p (by omega) hp2 hq
                simpa [List.getD, hp2, show q < S'.length by omega] using this
              obtain ⟨⟨id, l⟩, hy⟩ : ∃ y, S'.getD p (0, 0) = y := ⟨_, rfl⟩
              haveI e0 : EncAt (S'.getD p (0, 0)) 0 (.int .i64 id) := ⟨by rw [hy]; rfl⟩
              haveI e1 : EncAt (S'.getD p (0, 0)) 1 (.int .i64 l) := ⟨by rw [hy]; rfl⟩
              rw [hy] at hlm hf hup
              dsimp only at hlm hf hup
              have Hlm : Hid (Go.Dl.leftOf S' id = l) := hlm
              obtain ⟨hf1, hf2⟩ := hf
              have dl : decide (l < 1) = false := by simp; omega
              clear hlm hm hy
              by_cases hp0 : 0 < p
              · have hu := hup (p - 1) (by omega)
                haveI : Lt (p - 1) S'.length := ⟨by omega⟩
                obtain ⟨⟨id0, l0⟩, hy0⟩ : ∃ y, S'.getD (p - 1) (0, 0) = y := ⟨_, rfl⟩
                haveI e3 : EncAt (S'.getD (p - 1) (0, 0)) 1 (.int .i64 l0) := ⟨by rw [hy0]; rfl⟩
                rw [hy0] at hu
                dsimp only at hu
                clear hup hy0
                have dl0 : decide (l < l0) = false := by simp; omega
                have dp0 : decide (0 < p) = true := by simp [hp0]
                have q1 : IntKind.i64.wrap ((p : Int) - 1) = (p : Int) - 1 := by rw [IntKind.wrap_i64]; omega
                have q2 : (0 : Int) ≤ (p : Int) - 1 := by omega
                have q5 : (1 : Int) ≤ (p : Int) := by omega
                have q3 : ((p : Int) - 1).toNat = p - 1 := by omega
                have q4 : (p : Int) - 1 < (S'.length : Int) := by omega
                go_wp2_with fail
                refine wp_gen (w0 := w0) ?_
                intro wx hsx
                generalize wr.heap.size = xb at *
                clear hs7
                refine wp_region_early (fun w' => Sat w0 w' (recsP (.slice (some ⟨g, o7, none⟩) S'.length c7) S' * (pts xb 0 [.int .i64 id, .int .i64 l] * any))) [(0, true), (1, true), (2, true), (3, true), (4, true), (5, true), (6, true), (7, true), (8, true), (9, true), (10, true), (11, true), (12, true), (13, true), (14, true), (15, true), (16, true), (17, true), (18, true), (19, true), (20, true), (22, true), (23, true), (21, false), (24, true), (25, true)] (by kernel_rfl) (by kernel_rfl) (fun _ _ _ _ h => h) own_any2 ?_
                iterate 23 (refine early_read (fun K hK => ?_); simp only [List.getElem?_cons_succ, List.getElem?_cons_zero]; (first | (rw [if_pos (by rfl)]; apply Exists.intro; refine ⟨fun w hSw => ?_, hK _ ?_⟩; (focus ((try dsimp only at hSw); go_simp; try with_reducible rfl))) | (rw [if_neg (ne_true_of_eq_false (by rfl))]; refine hK _ ?_)); clear hK K; simp only [Act.put, List.setIfInBounds_toArray, List.set_cons_zero, List.set_cons_succ])
                refine early_run (fun K hK => ?_); simp only [List.getElem?_cons_succ, List.getElem?_cons_zero]; rw [if_pos (by rfl)]
                go_wp2_with fail
                refine (delLeft_some pb S' id w0 _ _ own hok').mono ?_
                rintro e w8 ⟨rfl, hs8⟩
                rw [Hlm.out]
                go_wp2_with fail
                refine ⟨own_any2, ?_⟩
                iterate 2 (refine early_read (fun K hK => ?_); simp only [List.getElem?_cons_succ, List.getElem?_cons_zero]; (first | (rw [if_pos (by rfl)]; apply Exists.intro; refine ⟨fun w hSw => ?_, hK _ ?_⟩; (focus ((try dsimp only at hSw); go_simp; try with_reducible rfl))) | (rw [if_neg (ne_true_of_eq_false (by rfl))]; refine hK _ ?_)); clear hK K; simp only [Act.put, List.setIfInBounds_toArray, List.set_cons_zero, List.set_cons_succ])
                refine early_done ?_
                go_wp2_with fail
                go_roundw
                case rel => exact ⟨p + 1, by omega, by go_num, own_left⟩
                case measure => simp [intOf]; omega
              · have dp0 : decide (0 < p) = false := by simp; omega
                clear hup
                go_wp2_with fail
                refine wp_gen (w0 := w0) ?_
                intro wx hsx
                generalize wr.heap.size = xb at *
                clear hs7
                refine wp_region_early (fun w' => Sat w0 w' (recsP (.slice (some ⟨g, o7, none⟩) S'.length c7) S' * (pts xb 0 [.int .i64 id, .int .i64 l] * any))) [(0, true), (1, true), (2, true), (3, true), (4, true), (5, true), (6, true), (7, true), (8, true), (9, true), (10, true), (11, true), (12, true), (13, true), (14, true), (15, true), (16, true), (17, true), (18, true), (19, true), (20, true), (22, true), (23, true), (21, false), (24, true), (25, true)] (by kernel_rfl) (by kernel_rfl) (fun _ _ _ _ h => h) own_any2 ?_
                iterate 23 (refine early_read (fun K hK => ?_); simp only [List.getElem?_cons_succ, List.getElem?_cons_zero]; (first | (rw [if_pos (by rfl)]; apply Exists.intro; refine ⟨fun w hSw => ?_, hK _ ?_⟩; (focus ((try dsimp only at hSw); go_simp; try with_reducible rfl))) | (rw [if_neg (ne_true_of_eq_false (by rfl))]; refine hK _ ?_)); clear hK K; simp only [Act.put, List.setIfInBounds_toArray, List.set_cons_zero, List.set_cons_succ])
                refine early_run (fun K hK => ?_); simp only [List.getElem?_cons_succ, List.getElem?_cons_zero]; rw [if_pos (by rfl)]
                go_wp2_with fail
                refine (delLeft_some pb S' id w0 _ _ own hok').mono ?_
                rintro e w8 ⟨rfl, hs8⟩
                rw [Hlm.out]
                go_wp2_with fail
                refine ⟨own_any2, ?_⟩
                iterate 2 (refine early_read (fun K hK => ?_); simp only [List.getElem?_cons_succ, List.getElem?_cons_zero]; (first | (rw [if_pos (by rfl)]; apply Exists.intro; refine ⟨fun w hSw => ?_, hK _ ?_⟩; (focus ((try dsimp only at hSw); go_simp; try with_reducible rfl))) | (rw [if_neg (ne_true_of_eq_false (by rfl))]; refine hK _ ?_)); clear hK K; simp only [Act.put, List.setIfInBounds_toArray, List.set_cons_zero, List.set_cons_succ])
                refine early_done ?_
                go_wp2_with fail
                go_roundw
                case rel => exact ⟨p + 1, by omega, by go_num, own_left⟩
                case measure => simp [intOf]; omega
            · by_cases k3 : kd = 3
              · subst k3
                have hlen := ris_len hok'
                have hRlt := hid (fun q (h : q < (overS S').length) => ris_lt hok' h)
                have hRge := hid (fun q (h : (overS S').length ≤ q) (h2 : q < S'.length) => ris_ge hok' h h2)
                have hokN := sok_tick hok'
                have hlf := hid hok'.lf
                go_wp2_with fail
                refine (delTick pb S' w0 _ _ own hok').mono ?_
                rintro e w8 ⟨v8, rfl, hs8⟩
                go_wp2_with fail
                refine (delDues_some pb (tickS S') w0 _ _ own hokN).mono ?_
                rintro e w9 ⟨v9, rfl, hs9⟩
                clear hs7 hs8
                generalize overS S' = O at *
                generalize tickS S' = N at *
                obtain ⟨a8, c8, rfl⟩ := (hs9.pull (Q := numsP .i64 v8 O)).slice_form
                obtain ⟨a9, c9, rfl⟩ := hs9.recs_form
                have hb : ((O.length : Int) + (N.length : Int) != (S'.length : Int)) = false := by simp; omega
                go_wp2_with fail
                go_loopw [91] (fun j wr => ∃ p : Nat, p ≤ S'.length ∧ j = .int .i64 p ∧ Sat w0 wr (recsP (.slice a7 S'.length c7) S' * (recsP (.slice a9 N.length c9) N * (numsP .i64 (.slice a8 O.length c8) O * (delP pb N * (pts nb 0 [.int .i64 3, .int .i64 ii, .int .i64 tt] * any)))))) (fun j _ => S'.length - (intOf j).toNat)
                case atStart => exact ⟨0, Nat.zero_le _, rfl, own_left⟩
                case round =>
                  clear hs9 hp hp2
                  obtain ⟨m, hp, rfl, hs9⟩ := hrel
                  by_cases hp2 : m < S'.length
                  · obtain ⟨g, o7, rfl⟩ := hs9.someR (E := encCk) a7 S'.length c7 (by omega)
                    haveI : Lt m S'.length := ⟨hp2⟩
                    have hf := hlf.out (S'.getD m (0, 0)) (by simp [List.getD, hp2])
                    obtain ⟨⟨id, l⟩, hy⟩ : ∃ y, S'.getD m (0, 0) = y := ⟨_, rfl⟩
                    haveI e0 : EncAt (S'.getD m (0, 0)) 0 (.int .i64 id) := ⟨by rw [hy]; rfl⟩
                    haveI e1 : EncAt (S'.getD m (0, 0)) 1 (.int .i64 l) := ⟨by rw [hy]; rfl⟩
                    rw [hy] at hf
                    dsimp only at hf
                    obtain ⟨hf1, hf2⟩ := hf
                    by_cases ho : m < O.length
                    · have h1 := hRlt.out m ho
                      rw [hy] at h1
                      obtain ⟨hl1, hO⟩ := h1
                      dsimp only at hl1 hO
                      subst hl1
                      obtain ⟨g8, o8, rfl⟩ := hs9.someA (κ := .i64) (l := O) (n := O.length) (c := c8) a8 (by omega)
                      haveI : Lt m O.length := ⟨ho⟩
                      haveI hcO : Cell (numsP .i64 (.slice (some ⟨g8, o8, none⟩) O.length c8) O) g8 (o8 + m) (.int .i64 id) := hO ▸ inferInstance
                      have d3 : decide (m < O.length) = true := by simp [ho]
                      have d4 : decide (O.length ≤ m) = false := by simp; omega
                      have hoI : (m : Int) < (O.length : Int) := by omega
                      clear hO hy
                      go_wp2_with fail
                      go_quiet (fail)
                      go_wp2_with fail
                      go_roundw
                      case rel => exact ⟨m + 1, by omega, by go_num, own_left⟩
                      case measure => simp [intOf]; omega
                    · have h1 := hRge.out m (by omega) hp2
                      rw [hy] at h1
                      dsimp only at h1
                      obtain ⟨g9, o9, rfl⟩ := hs9.someR (E := encCk) a9 N.length c9 (by omega)
                      haveI : Lt (m - O.length) N.length := ⟨by omega⟩
                      haveI e4 : EncAt (N.getD (m - O.length) (0, 0)) 0 (.int .i64 id) := ⟨by rw [h1]; rfl⟩
                      haveI e5 : EncAt (N.getD (m - O.length) (0, 0)) 1 (.int .i64 (l - 1)) := ⟨by rw [h1]; rfl⟩
                      have d3 : decide (m < O.length) = false := by simp; omega
                      have d4 : decide (O.length ≤ m) = true := by simp; omega
                      have q1 : IntKind.i64.wrap ((m : Int) - (O.length : Int)) = (m : Int) - (O.length : Int) := by rw [IntKind.wrap_i64]; omega
                      have q2 : (0 : Int) ≤ (m : Int) - (O.length : Int) := by omega
                      have q3 : ((m : Int) - (O.length : Int)).toNat = m - O.length := by omega
                      have q4 : (m : Int) - (O.length : Int) < (N.length : Int) := by omega
                      have q5 : O.length ≤ m := by omega
                      have q6 : IntKind.i64.wrap (l - 1) = l - 1 := by rw [IntKind.wrap_i64]; omega
                      clear h1 hy
                      go_wp2_with fail
                      go_quiet (fail)
                      go_wp2_with fail
                      go_roundw
                      case rel => exact ⟨m + 1, by omega, by go_num, own_left⟩
                      case measure => simp [intOf]; omega
                  · go_wp2_with fail
                    go_roundw
                    case rel => exact ⟨k + 1, _, by omega, by go_num, hokN, own_left⟩
                    case measure => simp [intOf]; omega
              · have b3 : (kd != 3) = true := by simp [k3]
                go_wp2_with fail
                go_roundw
                case rel => exact ⟨k + 1, _, by omega, by go_num, hok', own_left⟩
                case measure => simp [intOf]; omega
      · go_wp2_with fail
        go_ret
        exact ⟨rfl, own_left⟩
end Go.Proofs.Ytfphgcplpokigaa
