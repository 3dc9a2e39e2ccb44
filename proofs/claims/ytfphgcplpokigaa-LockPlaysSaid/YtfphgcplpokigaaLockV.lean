/-
  The reference's locks: the contract of Levels.
-/
import Derived.Test.YtfphgcplpokigaaLockT
namespace Go.Proofs.Ytfphgcplpokigaa
open Go.RowKit Go.Sx Go.Lk
set_option linter.unusedSimpArgs false
set_option linter.unusedVariables false

theorem foldNext {α : Type} (f : α → Int → α) (a : α) (l : List Int) (i : Nat) (hi : i < l.length) : (l.take (i + 1)).foldl f a = f ((l.take i).foldl f a) (lg l i) := by
  rw [List.take_succ_eq_append_getElem hi, List.foldl_append]
  simp [lg, List.getD, hi]
theorem lgMem {l : List Int} {k : Nat} (h : k < l.length) : lg l k ∈ l := by
  have : lg l k = l[k] := by simp [lg, List.getD, h]
  rw [this]; exact List.getElem_mem h
theorem edgeStep_len (o : Int) (now : List Int) (w : Int) : (edgeStep o now w).length = now.length := by
  unfold edgeStep; split
  · exact List.length_set ..
  · rfl
set_option maxRecDepth 100000 in
set_option maxHeartbeats 8000000 in
theorem lrLevels0 (b : Nat) (L : Lk) (w : World) (h : RdRl w b L) (hL : Fit L) :
    Calls Try.prog 74 #[.pointer (some ⟨b, 0, none⟩)] w (Ret w fun v => numsP .i64 v (refLv L.own L.ow L.rows) * emp) := by
  obtain ⟨v0, v1, v2, k0, k1, k2, r0, r1, rr⟩ := h
  obtain ⟨a0, c0, g0, o0, rfl, hcap0, hbig0, ha0, hc0⟩ := id r0
  obtain ⟨a1, c1, g1, o1, rfl, hcap1, hbig1, ha1, hc1⟩ := r1
  obtain ⟨a2, c2, g2, o2, rfl, hcap2, hbig2, ha2, hc2⟩ := rr
  have hs := Sat.start w
  haveI : Old w b 0 (.slice a0 L.own.length c0) := ⟨k0⟩
  haveI : Old w b 1 (.slice a1 L.ow.length c1) := ⟨k1⟩
  haveI : Old w b 2 (.slice a2 L.rows.length c2) := ⟨k2⟩
  haveI : OldR w .i64 (.slice a0 L.own.length c0) L.own := ⟨r0⟩
  have hn64 := hL.n
  have hm32 := hL.m
  have HL := hid hL
  have Hlr := hid hL.lr
  clear k0 k1 k2 r0 hcap0 hbig0 ha0 hc0 hcap1 hbig1 hcap2 hbig2 hL
  go_enter Try.func74, Try.ntmps74
  go_wp2_with (first | (at_builtin; refine wpList_append_nums rfl rfl rfl rfl (by omega) ?_; intro ap ac aL aw ahL ah1 ah2 ahs _) | (refine wpList_slice_from rfl rfl rfl rfl (by omega) (by omega) ?_; intro px pc pL php phL ph1 ph2) | (refine wpList_slice_to rfl rfl rfl rfl (by omega) (by omega) ?_; intro px pc pL php phL ph1 ph2))
  have hal : aL = L.own := by rw [ahL.out]; rfl
  subst hal
  clear hs
  go_loopw [4] (fun i wr => ∃ (k : Nat) (N : List Int), k ≤ L.own.length ∧ i = .int .i64 k ∧ Hid (N = passes L.ow L.rows L.own k ∧ N.length = L.own.length) ∧ Sat w wr (numsP .i64 (.slice ap L.own.length ac) N * emp)) (fun i _ => L.own.length - natOf i)
  case atStart => exact ⟨0, L.own, Nat.zero_le _, rfl, ⟨rfl, rfl⟩, own_left⟩
  case round =>
    obtain ⟨k, N, hk, rfl, hN, hs2⟩ := hrel
    clear ahs
    by_cases hlt : k < L.own.length
    · have i1 : (k : Int) < (L.own.length : Int) := by omega
      have i2 : decide (k < L.own.length) = true := by simp; omega
      go_wp2_with fail
      go_loopw [5] (fun i wr => ∃ (m : Nat) (N : List Int), m ≤ L.ow.length ∧ i = .int .i64 m ∧ Hid (N = passM L.ow L.rows (passes L.ow L.rows L.own k) m ∧ N.length = L.own.length) ∧ Sat w wr (numsP .i64 (.slice ap L.own.length ac) N * emp)) (fun i _ => L.ow.length - natOf i)
      case atStart => exact ⟨0, N, Nat.zero_le _, rfl, ⟨hN.out.1, hN.out.2⟩, own_left⟩
      case round =>
        obtain ⟨m, N2, hm, rfl, hN2, hs3⟩ := hrel
        clear hs2
        by_cases hml : m < L.ow.length
        · have j1 : (m : Int) < (L.ow.length : Int) := by omega
          have j2 : decide (m < L.ow.length) = true := by simp; omega
          have hmr : m < L.rows.length := by rw [Hlr.out]; exact hml
          have j3 : (m : Int) < (L.rows.length : Int) := by omega
          have j4 : decide (m < L.rows.length) = true := by simp; omega
          obtain rfl := ha2 (by omega)
          obtain rfl := ha1 (by intro h; rw [h] at hml; simp at hml)
          obtain ⟨x, hx, hxr⟩ := hc2 m hmr
          obtain ⟨xa, xc, xb, xo, rfl, hq1, hq2, hxa, hxc⟩ := id hxr
          have hrl := rowOk_len (row_ok HL.out hml)
          haveI : Old w g2 (o2 + m) (.slice xa (rg L.rows m).length xc) := ⟨hx⟩
          have hoc := hid (hc1 m hml)
          clear hx hxr ha1 ha2 hc1 hc2 hq1 hq2
          go_wp2_with fail
          go_loopw [6] (fun i wr => ∃ (q : Nat) (N : List Int), q ≤ (rg L.rows m).length ∧ i = .int .i64 q ∧ Hid (N = ((rg L.rows m).take q).foldl (edgeStep (lg L.ow m)) (passM L.ow L.rows (passes L.ow L.rows L.own k) m) ∧ N.length = L.own.length) ∧ Sat w wr (numsP .i64 (.slice ap L.own.length ac) N * emp)) (fun i _ => (rg L.rows m).length - natOf i)
          case atStart => exact ⟨0, N2, Nat.zero_le _, rfl, ⟨hN2.out.1, hN2.out.2⟩, own_left⟩
          case round =>
            obtain ⟨q, N3, hq, rfl, hN3, hs4⟩ := hrel
            clear hs3
            by_cases hql : q < (rg L.rows m).length
            · have l1 : (q : Int) < ((rg L.rows m).length : Int) := by omega
              have l2 : decide (q < (rg L.rows m).length) = true := by simp; omega
              obtain rfl := hxa (by intro h; rw [h] at hql; simp at hql)
              haveI : Old w xb (xo + q) (.int .i64 (lg (rg L.rows m) q)) := ⟨hxc q hql⟩
              obtain ⟨u, hu, hul, _, _, hol⟩ := row_in HL.out hml (lgMem hql)
              have Hu := hid hu
              obtain ⟨o, ho⟩ := Int.eq_ofNat_of_zero_le (show 0 ≤ lg L.ow m from by
                rcases HL.out.owr m hml with e | e
                · have e : lg L.ow m = 255 := e
                  omega
                · exact e.1)
              rw [ho] at hol
              have Ho := hid ho
              have hol : o < L.own.length := by simpa using hol
              have m1 : (u : Int) < (L.own.length : Int) := by omega
              have m2 : decide (u < L.own.length) = true := by simp; omega
              have m3 : (o : Int) < (L.own.length : Int) := by omega
              have m4 : decide (o < L.own.length) = true := by simp; omega
              haveI : Old w g1 (o1 + m) (.int .i64 (o : Int)) := ⟨by rw [← ho]; exact hoc.out⟩
              haveI : Lt u N3.length := ⟨by rw [hN3.out.2]; exact hul⟩
              haveI : Lt o N3.length := ⟨by rw [hN3.out.2]; exact hol⟩
              obtain ⟨pg, po, rfl⟩ := Sat.someA hs4 ap (by rw [hN3.out.2]; omega)
              have hnext : Hid (((rg L.rows m).take (q + 1)).foldl (edgeStep (lg L.ow m)) (passM L.ow L.rows (passes L.ow L.rows L.own k) m) = edgeStep o N3 u ∧ (edgeStep o N3 u).length = L.own.length) := by
                refine ⟨?_, (edgeStep_len ..).trans hN3.out.2⟩
                rw [foldNext _ _ _ _ hql, ← hN3.out.1, hu, ho]
              clear hu ho hxc hxa
              go_wp2_with fail
              rw [Hu.out]
              by_cases hc : lg N3 u < lg N3 o
              · have d1 : decide (lg N3 u < lg N3 o) = true := decide_eq_true hc
                have hes : Hid (edgeStep o N3 u = N3.set o (lg N3 u)) := by
                  unfold Hid edgeStep
                  rw [show ((u : Int)).toNat = u by omega, show ((o : Int)).toNat = o by omega, if_pos hc]
                clear hc
                go_quiet (fail); go_wp2_with fail
                refine wp_gen (w0 := w) ?_; intro wx hsx; go_still_tail 13, (by kernel_rfl); change wpList _ _ _ _ _ wx.drew; go_wp2_with fail
                go_roundw
                case rel => exact ⟨q + 1, N3.set o (lg N3 u), by omega, by go_num, ⟨by rw [hnext.out.1, hes.out], by rw [← hes.out]; exact hnext.out.2⟩, own_left⟩
                case measure => simp [natOf, intOf]; omega
              · have d1 : decide (lg N3 u < lg N3 o) = false := decide_eq_false hc
                have hes : Hid (edgeStep o N3 u = N3) := by
                  unfold Hid edgeStep
                  rw [show ((u : Int)).toNat = u by omega, show ((o : Int)).toNat = o by omega, if_neg hc]
                clear hc
                go_quiet (fail); go_wp2_with fail
                go_roundw
                case rel => exact ⟨q + 1, N3, by omega, by go_num, ⟨by rw [hnext.out.1, hes.out], hN3.out.2⟩, own_left⟩
                case measure => simp [natOf, intOf]; omega
            · have l1 : ¬ (q : Int) < ((rg L.rows m).length : Int) := by omega
              have hN4 : Hid (N3 = passM L.ow L.rows (passes L.ow L.rows L.own k) (m + 1) ∧ N3.length = L.own.length) := by
                refine ⟨?_, hN3.out.2⟩
                rw [hN3.out.1, List.take_of_length_le (by omega)]; rfl
              clear hN3
              go_wp2_with fail
              go_roundw
              case rel => exact ⟨m + 1, N3, by omega, by go_num, hN4, own_left⟩
              case measure => simp [natOf, intOf]; omega
        · have j1 : ¬ (m : Int) < (L.ow.length : Int) := by omega
          have hN3 : Hid (N2 = passes L.ow L.rows L.own (k + 1) ∧ N2.length = L.own.length) := by
            refine ⟨?_, hN2.out.2⟩
            rw [hN2.out.1, show m = L.ow.length by omega]; rfl
          clear hN2
          go_wp2_with fail
          go_roundw
          case rel => exact ⟨k + 1, N2, by omega, by go_num, hN3, own_left⟩
          case measure => simp [natOf, intOf]; omega
    · have i1 : ¬ (k : Int) < (L.own.length : Int) := by omega
      have hN2 : Hid (N = refLv L.own L.ow L.rows) := by
        unfold Hid; rw [hN.out.1, show k = L.own.length by omega]; rfl
      clear hN
      go_wp2_with fail
      go_ret
      refine ⟨_, rfl, ?_⟩
      rw [← hN2.out]
      exact hs2
theorem lrLevels (b : Nat) (L : Lk) (w0 w : World) (F : HP) (hs : Sat w0 w F) (h : RdRl w b L) (hL : Fit L) :
    Calls Try.prog 74 #[.pointer (some ⟨b, 0, none⟩)] w (Ret w0 fun v => numsP .i64 v (refLv L.own L.ow L.rows) * F) := by
  refine (lrLevels0 b L w h hL).mono ?_
  rintro en w' ⟨v, rfl, h2⟩
  have h3 := Sat.over hs h2
  dsimp only at h3
  rw [star_emp] at h3
  exact ⟨v, rfl, h3⟩
end Go.Proofs.Ytfphgcplpokigaa
