/-
  The contract of the reference's Recv.
-/
import Derived.Test.YtbnfkfbebnkdnaaMailR
import Derived.Test.YtbnfkfbebnkdnaaRegionB
namespace Go.Proofs.Ytbnfkfbebnkdnaa
open Go.RowKit Go.Sx

theorem msgs_pop {q : Mq} (_h : MqOk q) (hn : q.n ≠ 0) : msgs q = q.C.getD q.f 0 :: msgs q.pop := by
  obtain ⟨m, hm⟩ : ∃ m, q.n = m + 1 := ⟨q.n - 1, by omega⟩
  have hf := _h.f
  unfold msgs Mq.pop
  dsimp only
  rw [hm, Nat.add_sub_cancel, List.range_succ_eq_map, List.map_cons, List.map_map]
  congr 1
  · rw [Nat.add_zero, Nat.mod_eq_of_lt hf]
  · refine List.map_congr_left fun i _ => ?_
    simp only [Function.comp]
    congr 1
    omega
theorem msgs_take_S (q : Mq) (lv : List Int) : msgs (q.take lv) = msgs q.pop := rfl

set_option maxHeartbeats 2000000 in
theorem rqRecv (b : Nat) (q : Mq) (lv : Value) (levels : List Int) (w0 w : World) (F : HP) (hs : Sat w0 w (rqP b q * F)) (hst : Stays w0 F .i64 lv levels) (hok : MqOk q) :
    Calls Try.prog 52 #[.pointer (some ⟨b, 0, none⟩), lv] w (RetV w0 (.tuple #[.int .u32 q.recvV, .int .i64 (q.recvT levels), .int .i64 q.recvE]) (rqP b (q.recv levels) * F)) := by
  have hlen := rowOk_len hok.s
  have hml := msgs_len q
  have hn64 := hok.n
  have hhi := hok.hi
  obtain ⟨a1, c1, a2, c2, a3, c3, a4, c4, hs⟩ := rqR_out hs
  have rl := fun (w : World) (P : HP) (h : Sat w0 w P) (f : Frm P F) => hst w own_left
  have rl := hid rl
  by_cases hn : q.n = 0
  · have e1 : q.recvV = 0 := if_pos hn
    have e2 : q.recvT levels = 255 := if_pos (.inl hn)
    have e3 : q.recvE = 8 := if_pos hn
    have e4 : q.recv levels = q := if_pos hn
    rw [e1, e2, e3, e4]
    have d : ((msgs q).length == 0) = true := beq_iff_eq.2 (by omega)
    have d' : (((msgs q).length : Int) == 0) = true := beq_iff_eq.2 (by omega)
    clear e1 e2 e3 e4 hml hn
    go_enter Try.func52, Try.ntmps52
    go_wp2_with (first | (at_builtin; refine wpList_append_nums rfl rfl rfl rfl (by omega) ?_; intro ap ac aL aw ahL ah1 ah2 ahs _) | (refine wpList_slice_from rfl rfl rfl rfl (by omega) (by omega) ?_; intro px pc pL php phL ph1 ph2) | (refine wpList_slice_to rfl rfl rfl rfl (by omega) (by omega) ?_; intro px pc pL php phL ph1 ph2))
    go_ret3
    exact ⟨rfl, rqR_of own_it⟩
  · have hp := msgs_pop hok hn
    have e1 : q.recvV = q.C.getD q.f 0 := if_neg hn
    have e3 : q.recvE = 0 := if_neg hn
    have d' : (((msgs q).length : Int) == 0) = false := beq_eq_false_iff_ne.2 (by omega)
    have hpos : 0 < (msgs q).length := by omega
    have hpos1 : 1 ≤ (msgs q).length := by omega
    obtain ⟨g, off, rfl⟩ := hs.someA a1 hpos
    haveI : Lt 0 (msgs q).length := ⟨hpos⟩
    have hv : (msgs q).getD 0 0 = q.C.getD q.f 0 := by rw [hp]; rfl
    have hv2 : (msgs q)[0] = q.C.getD q.f 0 := by simp only [hp]; rfl
    have hL64 : (msgs q).length ≤ 64 := by omega
    have Hv := hid hv2
    have hpop : (msgs q).drop 1 = msgs q.pop := by rw [hp]; rfl
    have Hpop := hid hpop
    rw [e1, e3]
    by_cases hS : q.S = []
    · have e2 : q.recvT levels = 255 := if_pos (.inr hS)
      have e4 : q.recv levels = q.pop := (if_neg hn).trans (if_pos hS)
      have hb : rBest levels q.S = -1 := by rw [hS]; rfl
      have Hb := hid hb
      rw [e2, e4]
      clear e1 e2 e3 e4 hml hn hp hv hv2 hpop hS hb
      go_enter Try.func52, Try.ntmps52
      go_wp2_with (first | (at_builtin; refine wpList_append_nums rfl rfl rfl rfl (by omega) ?_; intro ap ac aL aw ahL ah1 ah2 ahs _) | (refine wpList_slice_from rfl rfl rfl rfl (by omega) (by omega) ?_; intro px pc pL php phL ph1 ph2) | (refine wpList_slice_to rfl rfl rfl rfl (by omega) (by omega) ?_; intro px pc pL php phL ph1 ph2))
      refine (refBest _ lv q.S levels _ rd (rl.out _ _ inferInstance inferInstance) (fun t ht => (hok.s.2 t ht).1) (by omega)).mono ?_
      rintro e w' ⟨rfl, n1, rfl⟩
      rw [Hb.out]
      go_wp2_with (first | (at_builtin; refine wpList_append_nums rfl rfl rfl rfl (by omega) ?_; intro ap ac aL aw ahL ah1 ah2 ahs _) | (refine wpList_slice_from rfl rfl rfl rfl (by omega) (by omega) ?_; intro px pc pL php phL ph1 ph2) | (refine wpList_slice_to rfl rfl rfl rfl (by omega) (by omega) ?_; intro px pc pL php phL ph1 ph2))
      go_ret3
      refine ⟨by rw [Hv.out]; rfl, ?_⟩
      unfold rqP
      rw [← Hpop.out]
      clear rl Hv Hpop Hb
      unfold Hid at *
      subst_vars
      simp only [List.nil_append] at ahs ⊢
      exact rqR_of own_it
    · have e2 : q.recvT levels = bestOf levels q.S := if_neg (by simp [hn, hS])
      have hin := best_in levels q.S hS
      have e4 : q.recv levels = (q.take levels).push (q.H.getD (bestOf levels q.S).toNat 0) := (if_neg hn).trans (if_neg hS)
      have hb := rBest_some levels hok.s hS
      have hbb := (hok.s.2 _ hin).1
      have e5 : msgs ((q.take levels).push (q.H.getD (bestOf levels q.S).toNat 0)) = msgs q.pop ++ [q.H.getD (bestOf levels q.S).toNat 0] := by
        rw [msgs_push (q := q.take levels) ⟨hok.c, Nat.mod_lt _ (by decide), by show q.n - 1 ≤ q.room; omega, hhi⟩ (by show q.n - 1 < 64; omega)]; rfl
      have e6 : rqP b ((q.take levels).push (q.H.getD (bestOf levels q.S).toNat 0)) = rqR b q.room (msgs q.pop ++ [q.H.getD (bestOf levels q.S).toNat 0]) (q.S.erase (bestOf levels q.S)) (heldOf { q with S := q.S.erase (bestOf levels q.S) }) q.R := by
        unfold rqP; rw [e5]; rfl
      rw [e2, e4, e6]
      clear e1 e2 e3 e4 e5 e6 hml hn hp hv hv2 hS
      generalize bestOf levels q.S = bb at *
      have Hb := hid hb
      have Hin := hid hin
      clear hb hin hpop
      generalize hh : q.H.getD bb.toNat 0 = hv
      have Hh := hid hh
      clear hh
      go_enter Try.func52, Try.ntmps52
      go_wp2_with (first | (at_builtin; refine wpList_append_nums rfl rfl rfl rfl (by omega) ?_; intro ap ac aL aw ahL ah1 ah2 ahs _) | (refine wpList_slice_from rfl rfl rfl rfl (by omega) (by omega) ?_; intro px pc pL php phL ph1 ph2) | (refine wpList_slice_to rfl rfl rfl rfl (by omega) (by omega) ?_; intro px pc pL php phL ph1 ph2))
      refine (refBest _ lv q.S levels _ rd (rl.out _ _ inferInstance inferInstance) (fun t ht => (hok.s.2 t ht).1) (by omega)).mono ?_
      rintro e w' ⟨rfl, n1, rfl⟩
      rw [Hb.out]
      go_wp2_with (first | (at_builtin; refine wpList_append_nums rfl rfl rfl rfl (by omega) ?_; intro ap ac aL aw ahL ah1 ah2 ahs _) | (refine wpList_slice_from rfl rfl rfl rfl (by omega) (by omega) ?_; intro px pc pL php phL ph1 ph2) | (refine wpList_slice_to rfl rfl rfl rfl (by omega) (by omega) ?_; intro px pc pL php phL ph1 ph2))
      refine wp_gen (w0 := w0) ?_
      intro wx hsx
      refine wp_region_till (fun w' => w'.cell? ⟨b, 1, none⟩ = some (.slice ap aL.length ac)) 12 [(0, 0), (1, 0), (2, 0), (3, 0), (4, 1), (5, 0), (6, 0), (7, 2), (8, 2), (9, 2), (10, 0), (11, 0), (12, 2)] (by kernel_rfl) (by kernel_rfl) (fun _ _ _ _ h => h) own_cell ?_
      iterate 7 (first | (refine plan_pure (fun K hK => ?_); simp only [List.getElem?_cons_succ, List.getElem?_cons_zero]; (first | (rw [if_pos (by rfl)]; apply Exists.intro; refine ⟨fun w hSw => ?_, hK _ ?_⟩; (focus (clear hSw; go_simp; try with_reducible rfl))) | (rw [if_neg (ne_true_of_eq_false (by rfl))]; refine hK _ ?_)); clear hK K; simp only [Act.put, List.setIfInBounds_toArray, List.set_cons_zero, List.set_cons_succ]) | (refine plan_read (fun K hK => ?_); simp only [List.getElem?_cons_succ, List.getElem?_cons_zero]; (first | (rw [if_pos (by rfl)]; apply Exists.intro; refine ⟨fun w hSw => ?_, hK _ ?_⟩; (focus ((try dsimp only at hSw); go_simp; try with_reducible rfl))) | (rw [if_neg (ne_true_of_eq_false (by rfl))]; refine hK _ ?_)); clear hK K; simp only [Act.put, List.setIfInBounds_toArray, List.set_cons_zero, List.set_cons_succ]))
      refine plan_run (fun K hK => ?_); simp only [List.getElem?_cons_succ, List.getElem?_cons_zero]; rw [if_pos (by rfl)]
      go_wp2_with fail
      refine (rqLeave_q b q bb _ _ w0 _ _ (rqX_at own_it) hok Hin.out).mono ?_
      rintro e w2 ⟨rfl, hs2⟩
      rw [Hh.out]
      obtain ⟨a2, c2, a3, c3, hs2⟩ := rqX_out hs2
      go_wp2_with fail
      refine ⟨fun _ => own_cell, ?_⟩
      refine plan_run (fun K hK => ?_); simp only [List.getElem?_cons_succ, List.getElem?_cons_zero]; rw [if_pos (by rfl)]
      go_wp2_with fail
      refine ⟨fun _ => own_cell, ?_⟩
      refine plan_run (fun K hK => ?_); simp only [List.getElem?_cons_succ, List.getElem?_cons_zero]; rw [if_pos (by rfl)]
      refine wp_append_nums rfl rfl rfl (by omega) ?_; intro ap ac aL aw ahL ah1 ah2 ahs _
      refine hK _ _ ⟨fun _ => own_cell, ?_⟩
      clear hK K
      simp only [Act.put, List.setIfInBounds_toArray, List.set_cons_zero, List.set_cons_succ]
      iterate 2 (first | (refine plan_pure (fun K hK => ?_); simp only [List.getElem?_cons_succ, List.getElem?_cons_zero]; (first | (rw [if_pos (by rfl)]; apply Exists.intro; refine ⟨fun w hSw => ?_, hK _ ?_⟩; (focus (clear hSw; go_simp; try with_reducible rfl))) | (rw [if_neg (ne_true_of_eq_false (by rfl))]; refine hK _ ?_)); clear hK K; simp only [Act.put, List.setIfInBounds_toArray, List.set_cons_zero, List.set_cons_succ]) | (refine plan_read (fun K hK => ?_); simp only [List.getElem?_cons_succ, List.getElem?_cons_zero]; (first | (rw [if_pos (by rfl)]; apply Exists.intro; refine ⟨fun w hSw => ?_, hK _ ?_⟩; (focus ((try dsimp only at hSw); go_simp; try with_reducible rfl))) | (rw [if_neg (ne_true_of_eq_false (by rfl))]; refine hK _ ?_)); clear hK K; simp only [Act.put, List.setIfInBounds_toArray, List.set_cons_zero, List.set_cons_succ]))
      refine plan_run (fun K hK => ?_); simp only [List.getElem?_cons_succ, List.getElem?_cons_zero]; rw [if_pos (by rfl)]
      go_wp2_with fail
      refine ⟨fun h => absurd rfl h, plan_done ?_⟩
      go_wp2_with fail
      go_ret3
      refine ⟨by rw [Hv.out]; rfl, ?_⟩
      rw [← Hpop.out]
      clear rl Hv Hpop Hb Hin
      unfold Hid at *
      subst_vars
      simp only [List.nil_append] at ahs ⊢
      exact rqR_of own_it
end Go.Proofs.Ytbnfkfbebnkdnaa
