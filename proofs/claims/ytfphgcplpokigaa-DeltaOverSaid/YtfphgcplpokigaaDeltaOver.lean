/-
  DeltaOver: the walk.
-/
import Derived.Test.YtfphgcplpokigaaDeltaO
namespace Go.Proofs.Ytfphgcplpokigaa
open Go.RowKit Go.Sx Go.Dl
attribute [local simp, local go_sem] zeroList zeroL_size zeroL_ne

set_option maxRecDepth 100000 in
set_option maxHeartbeats 16000000 in
theorem deltaOver_walk (v0 : Value) (xs : List Int) (w0 : World) (h0 : RdN .i64 w0 v0 xs) (_z0 : ∀ n ∈ xs, (Lit.int .i64 n).wf = true) :
    Calls Try.prog 3 #[v0] w0 (RetV w0 (.bool true) emp) := by
  have hs := Sat.start w0
  obtain ⟨a, cap, b, off, rfl, hcap, hbig, ha, hc⟩ := (show RdN .i64 w0 v0 xs from h0)
  unfold maxLen at hbig
  by_cases c2 : 100 < xs.length
  · have d2 : decide ((100 : Int) < (xs.length : Int)) = true := by simp; omega
    clear ha hc h0
    go_enter Try.func3, Try.ntmps3
    go_wp2_with fail
    refine (delAwake w0 _ _ hs).mono ?_
    rintro e w1 ⟨rfl, hs1⟩
    go_wp2_with fail
    refine (delAwake w0 _ _ hs1).mono ?_
    rintro e w2 ⟨rfl, hs2⟩
    go_wp2_with fail
    go_ret
    exact ⟨rfl, hs2⟩
  · have d2 : decide ((100 : Int) < (xs.length : Int)) = false := by simp; omega
    have hn100 : xs.length ≤ 100 := by omega
    clear c2 h0
    have Ha := hid ha
    have Hc := hid hc
    clear ha hc
    go_enter Try.func3, Try.ntmps3
    go_wp2_with fail
    refine (delAwake w0 _ _ hs).mono ?_
    rintro e w1 ⟨rfl, hs1⟩
    have hs2 := delP_new hs1 27
    have hs2 : Sat w0 (w1.alloc (.cells Try.zeroCells27 27)) (delP w1.heap.size [] * emp) := hs2
    have hs3 := hs2.alloc Try.zeroCells28 28
    rw [show (w1.alloc (.cells Try.zeroCells27 27)).heap.size = w1.heap.size + 1 by simp] at hs3
    have hs3 : Sat w0 ((w1.alloc (.cells Try.zeroCells27 27)).alloc (.cells Try.zeroCells28 28)) (pts (w1.heap.size + 1) 0 ((List.replicate 100 false).map Value.bool) * (delP w1.heap.size [] * emp)) := hs3
    rw [← hld_zero xs] at hs3
    go_wp2_with fail
    refine wp_gen (w0 := w0) ?_
    intro w4 hs4
    generalize w1.heap.size = pb at *
    clear hs hs1 hs2 hs3
    go_loopw [25] (fun i wr => ∃ (k : Nat), k ≤ xs.length ∧ i = .int .i64 k ∧ Sat w0 wr (pts (pb + 1) 0 ((hld xs k).map Value.bool) * (delP pb (srt (ovL xs k)) * any))) (fun i _ => xs.length - (intOf i).toNat)
    case atStart => exact ⟨0, Nat.zero_le _, rfl, by rw [show srt (ovL xs 0) = [] from rfl]; exact own_left⟩
    case round =>
      obtain ⟨k, hk, rfl, hs5⟩ := hrel
      clear hs4
      by_cases hlt : k < xs.length
      · obtain rfl := Ha.out (by intro h; simp [h] at hlt)
        haveI o1 : Old w0 b (off + k) (.int .i64 (xs.getD k 0)) := ⟨Hc.out k hlt⟩
        have hok := sok_ov xs k (by omega)
        have hE := ov_putE xs (k := k) (by omega)
        have hP := ov_put xs (k := k) (by omega)
        have hH := hld_set xs k
        haveI : Lt k (hld xs k).length := ⟨by rw [hld_len]; omega⟩
        have hk100 : k < 100 := by omega
        have d100 : decide (k < 100) = true := by simp [hk100]
        generalize hx : xs.getD k 0 = x at *
        have Hx := hid hx
        clear hx
        have HH := hid hH
        have HP := hid hP
        have HE := hid hE
        clear hH hP hE
        by_cases hx : okT x = true
        · obtain ⟨x1, x2⟩ := (okT_iff x).1 hx
          have e1 : decide (1 ≤ x) = true := by simp [x1]
          have e2 : decide (x < 4294967296) = true := by simp [x2]
          have HE1 : Hid (putE (srt (ovL xs k)) k x = 0) := by rw [Hid, HE.out, if_pos hx]
          have HH1 : Hid ((hld xs k).set k true = hld xs (k + 1)) := by rw [Hid, ← HH.out, hx]
          haveI hcell : Cell (pts (pb + 1) 0 (((hld xs k).set k true).map Value.bool)) (pb + 1) k (.bool true) := by
            have h2 := Cell.bln (pb + 1) 0 k ((hld xs k).set k true) (h := ⟨by rw [List.length_set, hld_len]; omega⟩)
            rw [Nat.zero_add] at h2
            have h3 : ((hld xs k).set k true).getD k false = true := by simp [List.getD, hld_len, hk100]
            rwa [h3] at h2
          clear hx HE HH
          go_wp2_with fail
          refine (delPut pb _ k x w0 _ _ own hok).mono ?_
          rintro e w5 ⟨rfl, hs6⟩
          rw [HE1.out]
          rw [HP.out] at hs6
          go_wp2_with fail
          go_roundw
          case rel =>
            refine ⟨k + 1, by omega, by go_num, ?_⟩
            rw [← HH1.out]
            exact own_left
          case measure => simp [intOf]; omega
        · have hx' : decide (1 ≤ x) = false ∨ (decide (1 ≤ x) = true ∧ decide (x < 4294967296) = false) := by
            rw [okT_iff] at hx
            simp only [decide_eq_false_iff_not, decide_eq_true_eq]
            omega
          have HE1 : Hid (putE (srt (ovL xs k)) k x = 1) := by rw [Hid, HE.out, if_neg hx]
          have HH1 : Hid ((hld xs k).set k false = hld xs (k + 1)) := by rw [Hid, ← HH.out, Bool.eq_false_iff.2 hx]
          haveI hcell : Cell (pts (pb + 1) 0 (((hld xs k).set k false).map Value.bool)) (pb + 1) k (.bool false) := by
            have h2 := Cell.bln (pb + 1) 0 k ((hld xs k).set k false) (h := ⟨by rw [List.length_set, hld_len]; omega⟩)
            rw [Nat.zero_add] at h2
            have h3 : ((hld xs k).set k false).getD k false = false := by simp [List.getD, hld_len, hk100]
            rwa [h3] at h2
          clear hx HE HH
          rcases hx' with e1 | ⟨e1, e2⟩
          all_goals
            go_wp2_with fail
            refine (delPut pb _ k x w0 _ _ own hok).mono ?_
            rintro e w5 ⟨rfl, hs6⟩
            rw [HE1.out]
            rw [HP.out] at hs6
            go_wp2_with fail
            go_roundw
            case rel =>
              refine ⟨k + 1, by omega, by go_num, ?_⟩
              rw [← HH1.out]
              exact own_left
            case measure => simp [intOf]; omega
      · obtain rfl : k = xs.length := by omega
        have hok0 := sok_ov xs xs.length (by omega)
        have hpos := ovL_pos xs xs.length
        have hsk := hid (sok_tk hok0 hpos)
        have hs5 : Sat w0 wr (pts (pb + 1) 0 ((hld xs xs.length).map Value.bool) * (delP pb (srt (tkL (ovL xs xs.length) 0)) * any)) := by rw [tkL_zero hpos]; exact hs5
        have Hat := hid (fun j (h : j < xs.length) => hld_at xs (k := xs.length) h (by omega))
        have Hhl := hid (hld_len xs xs.length)
        clear hok0 hpos hk
        have Hov : Hid (∀ n : Nat, overS (srt (tkL (ovL xs xs.length) n)) = ovr xs ((n + 1 : Nat) : Int)) := fun n => by rw [srt_over, over_tkL, ovr_eq]
        have Htk : Hid (∀ n : Nat, tickS (srt (tkL (ovL xs xs.length) n)) = srt (tkL (ovL xs xs.length) (n + 1))) := fun n => by rw [← srt_tick, tick_tkL]
        generalize ovL xs xs.length = L at *
        generalize hld xs xs.length = H at *
        go_wp2_with fail
        go_loopw [8] (fun now wr => ∃ (n : Nat), n ≤ 60 ∧ now = .int .i64 ((n : Int) + 1) ∧ Sat w0 wr (pts (pb + 1) 0 (H.map Value.bool) * (delP pb (srt (tkL L n)) * any))) (fun now _ => 62 - (intOf now).toNat)
        case atStart => exact ⟨0, by omega, rfl, own_left⟩
        case round =>
          clear hs5 hlt
          obtain ⟨n, hn, rfl, hs5⟩ := hrel
          by_cases hn60 : n < 60
          · have hd60 : decide ((n : Int) + 1 ≤ 60) = true := by simp; omega
            go_wp2_with fail
            refine (delTick pb _ w0 _ _ own (hsk.out n)).mono ?_
            rintro e w5 ⟨v5, rfl, hs6⟩
            rw [Hov.out, Htk.out] at hs6
            have hmem : ∀ y ∈ ovr xs ((n + 1 : Nat) : Int), ∃ j : Nat, y = (j : Int) ∧ j < xs.length ∧ xs.getD j 0 = (n : Int) + 1 := fun y hy => ovr_mem hy
            have hup := ovr_up xs ((n + 1 : Nat) : Int)
            have hOl := ovr_len xs ((n + 1 : Nat) : Int)
            have hOle := filt_le (ovP xs ((n + 1 : Nat) : Int)) xs.length
            rw [← hOl] at hOle
            obtain ⟨a5, c5, rfl⟩ := hs6.slice_form
            have Hmem := hid hmem
            have Hup := hid hup
            have HOl := hid hOl
            clear hmem hup hOl
            generalize ovr xs ((n + 1 : Nat) : Int) = O at *
            go_wp2_with fail
            go_loopw [10, 55] (fun last j wr => ∃ (jj : Nat) (lst : Int), jj ≤ O.length ∧ j = .int .i64 jj ∧ last = .int .i64 lst ∧ (∀ y ∈ O.drop jj, lst < y) ∧ Sat w0 wr (numsP .i64 (.slice a5 O.length c5) O * (delP pb (srt (tkL L (n + 1))) * (pts (pb + 1) 0 (H.map Value.bool) * any)))) (fun _ j _ => O.length - (intOf j).toNat)
            case atStart =>
              refine ⟨0, -1, Nat.zero_le _, rfl, rfl, fun y hy => ?_, own_left⟩
              obtain ⟨j, rfl, _⟩ := Hmem.out y hy
              omega
            case round =>
              clear hs5 hs6
              obtain ⟨jj, lst, hjj, rfl, rfl, hls, hs6⟩ := hrel
              have Hls := hid hls
              clear hls
              by_cases hj : jj < O.length
              · obtain ⟨m, hm1, hm2, hm3⟩ := Hmem.out (O.getD jj 0) (by simp [List.getD, hj])
                have hl1 := Hls.out (O.getD jj 0) (by rw [List.drop_eq_getElem_cons hj, List.getD_eq_getElem?_getD, List.getElem?_eq_getElem hj]; exact List.mem_cons_self)
                have hnx : Hid (∀ y ∈ O.drop (jj + 1), O.getD jj 0 < y) := fun y hy => by
                  have h1 := Hup.out
                  rw [← List.take_append_drop jj O, List.drop_eq_getElem_cons hj, List.pairwise_append, List.pairwise_cons] at h1
                  have := h1.2.1.1 y hy
                  simpa [List.getD, hj] using this
                obtain rfl := Ha.out (by intro h; simp [h] at hm2)
                haveI o1 : Old w0 b (off + m) (.int .i64 ((n : Int) + 1)) := ⟨hm3 ▸ Hc.out m hm2⟩
                haveI : Lt jj O.length := ⟨hj⟩
                have hm100 : m < 100 := by omega
                rw [hm1] at hl1 hnx
                have hb1 : decide ((m : Int) ≤ lst) = false := by simp; omega
                obtain ⟨g, o5, rfl⟩ := hs6.someA (κ := .i64) (l := O) (n := O.length) (c := c5) a5 (by omega)
                haveI hcO : Cell (numsP .i64 (.slice (some ⟨g, o5, none⟩) O.length c5) O) g (o5 + jj) (.int .i64 (m : Int)) := hm1 ▸ inferInstance
                clear hm1 hm3
                go_wp2_with fail
                go_roundw
                case rel => exact ⟨jj + 1, (m : Int), by omega, by go_num, rfl, hnx.out, own_left⟩
                case measure => simp [intOf]; omega
              · go_wp2_with fail
                go_loopw [13, 84] (fun cnt i wr => ∃ (k : Nat), k ≤ xs.length ∧ i = .int .i64 k ∧ cnt = .int .i64 (((List.range k).filter (ovP xs ((n + 1 : Nat) : Int))).length : Nat) ∧ Sat w0 wr (numsP .i64 (.slice a5 O.length c5) O * (delP pb (srt (tkL L (n + 1))) * (pts (pb + 1) 0 (H.map Value.bool) * any)))) (fun _ i _ => xs.length - (intOf i).toNat)
                case atStart => exact ⟨0, Nat.zero_le _, rfl, rfl, own_left⟩
                case round =>
                  clear hs6 hj
                  obtain ⟨k, hk, rfl, rfl, hs6⟩ := hrel
                  by_cases hk2 : k < xs.length
                  · obtain rfl := Ha.out (by intro h; simp [h] at hk2)
                    have hc1 := Hc.out k hk2
                    have hc2 := Hat.out k hk2
                    have hfs : Hid (((List.range (k + 1)).filter (ovP xs ((n + 1 : Nat) : Int))).length = ((List.range k).filter (ovP xs ((n + 1 : Nat) : Int))).length + if okT (xs.getD k 0) && (xs.getD k 0 == ((n + 1 : Nat) : Int)) then 1 else 0) := filt_succ _ k
                    have hfl := filt_le (ovP xs ((n + 1 : Nat) : Int)) k
                    haveI : Lt k H.length := ⟨by rw [Hhl.out]; omega⟩
                    have hk100 : k < 100 := by omega
                    generalize xs.getD k 0 = x at hc1 hc2 hfs
                    generalize ((List.range k).filter (ovP xs ((n + 1 : Nat) : Int))).length = q at *
                    haveI o1 : Old w0 b (off + k) (.int .i64 x) := ⟨hc1⟩
                    by_cases hx : okT x = true
                    · rw [hx] at hc2 hfs
                      haveI : Cell (pts (pb + 1) 0 (H.map Value.bool)) (pb + 1) k (.bool true) := hc2 ▸ inferInstance
                      clear hc1 hc2 hx
                      by_cases hx2 : x = (n : Int) + 1
                      · subst hx2
                        have hfs2 : Hid (((List.range (k + 1)).filter (ovP xs ((n + 1 : Nat) : Int))).length = q + 1) := by
                          rw [Hid, hfs.out, if_pos (by simp)]
                        go_wp2_with fail
                        go_roundw
                        case rel => exact ⟨k + 1, by omega, by go_num, by rw [hfs2.out]; go_num, own_left⟩
                        case measure => simp [intOf]; omega
                      · have hb2 : (x == (n : Int) + 1) = false := by simp [hx2]
                        have hfs2 : Hid (((List.range (k + 1)).filter (ovP xs ((n + 1 : Nat) : Int))).length = q) := by
                          rw [Hid, hfs.out, if_neg (by simp; omega)]; rfl
                        go_wp2_with fail
                        go_roundw
                        case rel => exact ⟨k + 1, by omega, by go_num, by rw [hfs2.out], own_left⟩
                        case measure => simp [intOf]; omega
                    · rw [Bool.eq_false_iff.2 hx] at hc2 hfs
                      haveI : Cell (pts (pb + 1) 0 (H.map Value.bool)) (pb + 1) k (.bool false) := hc2 ▸ inferInstance
                      have hfs2 : Hid (((List.range (k + 1)).filter (ovP xs ((n + 1 : Nat) : Int))).length = q) := by
                        rw [Hid, hfs.out, if_neg (by simp)]; rfl
                      clear hc1 hc2 hx
                      go_wp2_with fail
                      go_roundw
                      case rel => exact ⟨k + 1, by omega, by go_num, by rw [hfs2.out], own_left⟩
                      case measure => simp [intOf]; omega
                  · obtain rfl : k = xs.length := by omega
                    rw [← HOl.out] at *
                    go_wp2_with fail
                    go_roundw
                    case rel => exact ⟨n + 1, by omega, by go_num, own_left⟩
                    case measure => simp [intOf]; omega
          · obtain rfl : n = 60 := by omega
            go_wp2_with fail
            go_ret
            exact ⟨rfl, own_left⟩
end Go.Proofs.Ytfphgcplpokigaa
