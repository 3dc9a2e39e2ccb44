/-
  Contracts of delta lists: Tick.
-/
import Derived.Test.YtfphgcplpokigaaDeltaC
namespace Go.Proofs.Ytfphgcplpokigaa
open Go.RowKit Go.Sx Go.Dl

theorem delTick_none (b : Nat) (w0 w : World) (F : HP) (hs : Sat w0 w (delP b [] * F)) :
    Calls Try.prog 22 #[.pointer (some ⟨b, 0, none⟩)] w (Ret w0 fun v => numsP .i64 v [] * (delP b [] * F)) := by
  obtain ⟨a, c, hs⟩ := delP_out hs
  have hl : (diff 0 []).length = 0 := rfl
  rw [hl] at hs
  go_enter Try.func22, Try.ntmps22
  go_wp2_with fail
  go_ret
  refine ⟨_, rfl, ?_⟩
  have h2 : Sat w0 w (delP b [] * F) := delP_of own_it rfl rfl
  exact h2.slice_nil 1
theorem delTick_nil (w0 w : World) (F : HP) (hs : Sat w0 w F) :
    Calls Try.prog 22 #[.pointer none] w (Ret w0 fun v => numsP .i64 v [] * F) := by
  go_enter Try.func22, Try.ntmps22
  go_wp2_with fail
  go_ret
  exact ⟨_, rfl, hs.slice_nil 1⟩

def lenOf (v : Value) : Nat := match v with
  | .slice _ n _ => n
  | _ => 0
theorem runs_pop {x : Ck} {r : List Ck} (nd : ((x :: r).map Prod.fst).Nodup) {m : Nat} (hm : x.1 = (m : Int)) : (runsOf (x :: r)).set m false = runsOf r := by
  rw [List.map_cons, List.nodup_cons] at nd
  refine runs_set false (decide_eq_false (by rw [← hm]; exact nd.1)) fun i hi => ?_
  unfold has
  rw [List.map_cons, List.mem_cons]
  constructor
  · exact .inr
  · rintro (h | h)
    · exact absurd h (by omega)
    · exact h
theorem runs_dec (S : List Ck) : runsOf (S.map dec) = runsOf S := by
  unfold runsOf
  refine List.map_congr_left fun i _ => decide_eq_decide.2 ?_
  unfold has
  rw [List.map_map]; exact Iff.rfl
theorem drain_at {A T : List Ck} (h : (A ++ T).Pairwise fun a b => a.2 ≤ b.2) (hA : ∀ y ∈ A, y.2 = 0) (hT : ∀ y, T.head? = some y → 0 < y.2) :
    (A ++ T).filter (fun x => x.2 == 0) = A ∧ (A ++ T).filter (fun x => x.2 != 0) = T := by
  have hall : ∀ y ∈ T, 0 < y.2 := by
    intro y hy
    cases T with
    | nil => cases hy
    | cons z r =>
      have h1 := hT z rfl
      rw [List.pairwise_append] at h
      have h2 := h.2.1
      rw [List.pairwise_cons] at h2
      rcases List.mem_cons.1 hy with rfl | hy
      · exact h1
      · have := h2.1 y hy; omega
  constructor
  · rw [List.filter_append, List.filter_eq_self.2 (fun y hy => by simp [hA y hy]), List.filter_eq_nil_iff.2 (fun y hy => by have := hall y hy; simp; omega), List.append_nil]
  · rw [List.filter_append, List.filter_eq_nil_iff.2 (fun y hy => by simp [hA y hy]), List.filter_eq_self.2 (fun y hy => by have := hall y hy; simp; omega), List.nil_append]

set_option maxRecDepth 100000 in
set_option maxHeartbeats 4000000 in
theorem delTick_some (b : Nat) (x0 : Ck) (S0 : List Ck) (w0 w : World) (F : HP) (hs : Sat w0 w (delP b (x0 :: S0) * F)) (hok : SOk (x0 :: S0)) :
    Calls Try.prog 22 #[.pointer (some ⟨b, 0, none⟩)] w (Ret w0 fun v => numsP .i64 v (overS (x0 :: S0)) * (delP b (tickS (x0 :: S0)) * F)) := by
  have hl := sok_len hok
  obtain ⟨a, c, hs⟩ := delP_out hs
  have hdl : (diff 0 (x0 :: S0)).length = S0.length + 1 := by rw [diff_len]; rfl
  rw [hdl] at hs
  have hd0 : diff 0 (x0 :: S0) = (x0.1, x0.2 - 0) :: diff x0.2 S0 := rfl
  have hx0 := hok.lf x0 (by simp)
  -- behind the one tick
  have Hup := hid hok.up
  have Hnd := hid hok.nd
  have Hid' := hid hok.id
  have Hlf := hid hok.lf
  have HT := hid (tick_dec (x0 :: S0))
  have Hsp : Hid ((x0 :: S0).map dec = (((x0 :: S0).map dec).filter fun x => x.2 == 0) ++ ((x0 :: S0).map dec).filter fun x => x.2 != 0) := by
    refine drain_split ?_ ?_
    · rw [List.pairwise_map]
      exact hok.up.imp_of_mem fun _ _ h => by show _ - 1 ≤ _ - 1; omega
    · intro y hy
      obtain ⟨z, hz, rfl⟩ := List.mem_map.1 hy
      have := hok.lf z hz
      show 0 ≤ z.2 - 1
      omega
  have Hdd := hid (diff_dec x0 S0)
  have Hrd := hid (runs_dec (x0 :: S0))
  obtain ⟨g, off, rfl⟩ := hs.someR (E := encCk) a (S0.length + 1) c (show 0 < (diff 0 (x0 :: S0)).length by omega)
  haveI : Lt 0 (diff 0 (x0 :: S0)).length := ⟨by omega⟩
  haveI e1 : EncAt ((diff 0 (x0 :: S0)).getD 0 (0, 0)) 1 (.int .i64 x0.2) := ⟨by rw [hd0]; show some (Value.int .i64 (x0.2 - 0)) = _; rw [Int.sub_zero]⟩
  have Hset : Hid ((diff 0 (x0 :: S0)).set 0 (((diff 0 (x0 :: S0)).getD 0 (0, 0)).1, x0.2 - 1) = diff 0 ((x0 :: S0).map dec)) := by
    rw [Hid, Hdd.out, hd0]; rfl
  clear hok hd0 hdl
  generalize hD : diff 0 (x0 :: S0) = D at *
  generalize hOv : overS (x0 :: S0) = OV at *
  generalize hTk : tickS (x0 :: S0) = TK at *
  have hx2 := hx0.1
  have hx3 := hx0.2
  generalize x0.2 = q at hx2 hx3 e1 Hset
  clear hx0 hD
  have hl1 : S0.length + 1 ≤ 256 := hl
  have hb0 : ((S0.length : Int) + 1 == 0) = false := by rw [beq_eq_false_iff_ne]; omega
  go_enter Try.func22, Try.ntmps22
  go_wp2_with fail
  go_loopw [3] (fun ov wr => ∃ (A T : List Ck) (v : Value), (x0 :: S0).map dec = A ++ T ∧ (∀ y ∈ A, y.2 = 0) ∧ Sat w0 wr (numsP .i64 ov (A.map Prod.fst) * (pts b 0 [v] * (recsP v (diff 0 T) * (pts b 1 ((runsOf T).map Value.bool) * F))))) (fun ov _ => S0.length + 1 - lenOf ov)
  case atStart =>
    refine ⟨[], (x0 :: S0).map dec, .slice (some ⟨g, off, none⟩) (S0.length + 1) c, rfl, by simp, ?_⟩
    have h5 := own_it (w0 := w0) (w := w.setCell ⟨g, off + 1, none⟩ (.int .i64 (q - 1)))
    rw [show D.set 0 ((D.getD 0 Enc.dft).1, q - 1) = _ from Hset.out] at h5
    rw [Hrd.out]
    show Sat w0 _ (numsP .i64 (.slice none 0 0) [] * _)
    rw [numsP_nil, emp_star]
    exact h5.perm (by ac_rfl)
  case round =>
    obtain ⟨A, T, v, hAT, hA0, hs2⟩ := hrel
    clear hs
    obtain ⟨a3, c3, rfl⟩ := (hs2.pull (Q := numsP .i64 u3 (A.map Prod.fst))).slice_form
    obtain ⟨a4, c4, rfl⟩ := (hs2.pull (Q := recsP v (diff 0 T))).recs_form
    rw [diff_len] at hs2
    have hlen : A.length + T.length = S0.length + 1 := by
      have := congrArg List.length hAT
      simpa using this.symm
    have hnd : (T.map Prod.fst).Nodup := by
      have h1 : (((x0 :: S0).map dec).map Prod.fst).Nodup := by rw [List.map_map]; exact Hnd.out
      rw [hAT, List.map_append, List.nodup_append] at h1
      exact h1.2.1
    have htm : ∀ y ∈ T, 0 ≤ y.1 ∧ y.1 < 256 ∧ 0 ≤ y.2 ∧ y.2 < 4294967296 := by
      intro y hy
      have hy : y ∈ (x0 :: S0).map dec := by rw [hAT]; simp [hy]
      obtain ⟨z, hz, rfl⟩ := List.mem_map.1 hy
      have h1 := Hid'.out z hz
      have h2 := Hlf.out z hz
      exact ⟨h1.1, h1.2, by show 0 ≤ z.2 - 1; omega, by show z.2 - 1 < _; omega⟩
    have hAl : (A.map Prod.fst).length = A.length := by simp
    have hup : (A ++ T).Pairwise fun a b => a.2 ≤ b.2 := by
      rw [← hAT, List.pairwise_map]
      exact Hup.out.imp_of_mem fun _ _ h => by show _ - 1 ≤ _ - 1; omega
    have Hfin : Hid ((∀ y, T.head? = some y → 0 < y.2) → OV = A.map Prod.fst ∧ TK = T) := fun hT => by
      obtain ⟨t1, t2⟩ := HT.out
      obtain ⟨d1, d2⟩ := drain_at hup hA0 hT
      rw [hAT] at t1 t2
      rw [d1] at t1
      rw [d2] at t2
      exact ⟨t1.symm, t2.symm⟩
    have HAT := hid hAT
    have HA0 := hid hA0
    have Hn := hid hnd
    clear hAT hA0 hup hnd Hsp
    rw [← hAl] at hlen
    clear hAl
    generalize hids : A.map Prod.fst = ids at *
    have Hids := hid hids
    clear hids
    cases T with
    | nil =>
      obtain ⟨f1, f2⟩ := Hfin.out (fun y hy => by cases hy)
      have F1 := hid f1
      have F2 := hid f2
      clear f1 f2
      simp only [List.length_nil, Nat.add_zero] at hlen hs2
      clear hlen
      go_wp2_with fail
      go_ret
      refine ⟨_, rfl, ?_⟩
      rw [F1.out, F2.out]
      have h7 : Sat w0 wr (delP b [] * (numsP .i64 (.slice a3 ids.length c3) ids * F)) := delP_of own_it rfl rfl
      have h8 : Sat w0 wr (numsP .i64 (.slice a3 ids.length c3) ids * (delP b [] * F)) := h7.perm (by ac_rfl)
      exact h8
    | cons y r =>
      have hty := htm y (by simp)
      obtain ⟨i, l⟩ := y
      dsimp only at hty
      obtain ⟨ty1, ty2, ty3, ty4⟩ := hty
      obtain ⟨m, rfl⟩ := Int.eq_ofNat_of_zero_le ty1
      have hm : m < 256 := by omega
      have hmI : (m : Int) < 256 := by omega
      have d256 : decide (m < 256) = true := by simp [hm]
      haveI : Lt m (runsOf (((m : Int), l) :: r)).length := ⟨by rw [runs_len]; exact hm⟩
      have hdd : diff 0 (((m : Int), l) :: r) = ((m : Int), l) :: diff l r := by
        show ((m : Int), l - 0) :: diff l r = _
        rw [Int.sub_zero]
      have Hrun := hid (runs_pop (x := ((m : Int), l)) Hn.out (m := m) rfl)
      have hdz : l = 0 → diff l r = diff 0 r := fun h => by rw [h]
      replace hdz := hid hdz
      simp only [List.length_cons] at hlen hs2
      rw [hdd] at hs2
      have HXDd := hid hdd
      have hdl2 := diff_len l r
      have Hdl2 := hid hdl2
      clear htm hdd hdl2
      generalize diff l r = D2 at *
      obtain ⟨g4, off4, rfl⟩ := hs2.someR (E := encCk) a4 (r.length + 1) c4 (show 0 < (((m : Int), l) :: D2).length by simp)
      haveI : Lt 0 ((((m : Int), l) :: D2).length) := ⟨by simp⟩
      have hcap : r.length + 1 ≤ c4 := ((hs2.pull (Q := recsP (.slice (some ⟨g4, off4, none⟩) (r.length + 1) c4) (((m : Int), l) :: D2))).rdR.caps).2.1
      have hcm4 : c4 ≤ maxLen := ((hs2.pull (Q := recsP (.slice (some ⟨g4, off4, none⟩) (r.length + 1) c4) (((m : Int), l) :: D2))).rdR.caps).2.2
      unfold maxLen at hcm4
      haveI e2 : EncAt ((((m : Int), l) :: D2).getD 0 (0, 0)) 1 (.int .i64 l) := ⟨rfl⟩
      haveI e3 : EncAt ((((m : Int), l) :: D2).getD 0 (0, 0)) 0 (.int .i64 (m : Int)) := ⟨rfl⟩
      generalize hXD : (((m : Int), l) :: D2) = XD at *
      have HXD := hid hXD
      clear hXD
      by_cases hl0 : l = 0
      · subst hl0
        have hAm : ids.length < 256 := by omega
        go_wp2_with (first | (at_builtin; refine wpList_append_nums rfl rfl rfl rfl (by omega) ?_; intro ap ac aL aw ahL ah1 ah2 ahs _) | (refine wpList_slice_from rfl rfl rfl rfl (by omega) (by omega) ?_; intro px pc pL php phL ph1 ph2) | (refine wpList_slice_to rfl rfl rfl rfl (by omega) (by omega) ?_; intro px pc pL php phL ph1 ph2))
        refine wp_gen (w0 := w0) ?_
        intro wx hsx
        go_still_tail 11, (by kernel_rfl)
        change wpList _ _ _ _ _ wx.drew
        have hdr := hdz.out trivial
        have Hdr := hid hdr
        clear hdr hdz
        have rl := Hdl2.out
        have HATn : Hid ((x0 :: S0).map dec = (A ++ [((m : Int), (0 : Int))]) ++ r) := by rw [Hid, HAT.out, List.append_assoc]; rfl
        have HA0n : Hid (∀ y ∈ A ++ [((m : Int), (0 : Int))], y.2 = 0) := fun y hy => by
          rcases List.mem_append.1 hy with h | h
          · exact HA0.out y h
          · rw [List.mem_singleton] at h; subst h; rfl
        have HaLn : Hid (aL = (A ++ [((m : Int), (0 : Int))]).map Prod.fst) := by rw [Hid, List.map_append, Hids.out]; exact ahL.out
        have key : Hid (∀ wz G, Sat w0 wz (recsP (.slice (some ⟨g4, off4, none⟩) (r.length + 1) c4) XD * G) → Sat w0 wz (recsP (.slice (some ⟨g4, off4 + 2, none⟩) r.length (c4 - 1)) D2 * G)) := by
          rw [Hid]
          rw [← HXD.out]
          intro wz G h
          have h9 := h.recs_tail
          rw [Hdl2.out] at h9
          exact h9
        by_cases hc4 : c4 = 1
        · subst hc4
          obtain rfl : r = [] := List.length_eq_zero_iff.1 (by omega)
          go_wp2_with fail
          go_roundw
          case rel =>
            refine ⟨A ++ [((m : Int), (0 : Int))], [], .slice (some ⟨g4, off4, none⟩) 0 0, HATn.out, HA0n.out, ?_⟩
            rw [← HaLn.out, ← Hrun.out, show diff 0 [] = [] from rfl, recsP_empty, emp_star]
            exact own_left
          case measure => simp [lenOf]; omega
        · go_wp2_with fail
          go_roundw
          case rel =>
            refine ⟨A ++ [((m : Int), (0 : Int))], r, .slice (some ⟨g4, off4 + 2, none⟩) r.length (c4 - 1), HATn.out, HA0n.out, ?_⟩
            rw [← HaLn.out, ← Hrun.out, ← Hdr.out]
            refine (key.out _ (numsP .i64 (.slice ap aL.length ac) aL * (pts b 0 [.slice (some ⟨g4, off4 + 2, none⟩) r.length (c4 - 1)] * (pts b 1 (((runsOf (((m : Int), (0 : Int)) :: r)).set m false).map Value.bool) * F))) ?_).perm (by ac_rfl)
            exact own_left
          case measure => simp [lenOf]; omega
      · have hb : (l == 0) = false := by simp [hl0]
        have hpos : 0 < l := by omega
        obtain ⟨f1, f2⟩ := Hfin.out (fun y hy => by simp only [List.head?_cons, Option.some.injEq] at hy; subst hy; exact hpos)
        have F1 := hid f1
        have F2 := hid f2
        clear f1 f2
        go_wp2_with fail
        go_ret
        refine ⟨_, rfl, ?_⟩
        rw [F1.out, F2.out]
        have h7 : Sat w0 wr (delP b (((m : Int), l) :: r) * (numsP .i64 (.slice a3 ids.length c3) ids * F)) := delP_of own_it HXDd.out.symm rfl
        have h8 : Sat w0 wr (numsP .i64 (.slice a3 ids.length c3) ids * (delP b (((m : Int), l) :: r) * F)) := h7.perm (by ac_rfl)
        exact h8
end Go.Proofs.Ytfphgcplpokigaa
