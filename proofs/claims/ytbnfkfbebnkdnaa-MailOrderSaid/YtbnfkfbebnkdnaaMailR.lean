/-
  The reference's mail queue: what it has, in memory; contracts of its functions, in the words of the queue itself.
-/
import Derived.Test.YtbnfkfbebnkdnaaMailD
import Derived.Test.YtbnfkfbebnkdnaaMailE
import Derived.Test.YtbnfkfbebnkdnaaAuto
namespace Go.Proofs.Ytbnfkfbebnkdnaa
open Go.RowKit Go.Sx

instance : Elem Try.prog 22 .i64 3 8 (.int .i64 0) := ⟨elemI, by decide⟩
instance : Elem Try.prog 66 .u32 67 4 (.int .u32 0) := ⟨elemW, by decide⟩

def rqR (b : Nat) (room : Int) (L S Hd R : List Int) : HP := ex fun v : Value × Value × Value × Value =>
  pts b 0 [.int .i64 room, v.1, v.2.1, v.2.2.1, v.2.2.2] * (numsP .u32 v.1 L * (numsP .i64 v.2.1 S * (numsP .u32 v.2.2.1 Hd * numsP .i64 v.2.2.2 R)))
section
variable {w0 w : World} {P F F1 F2 F3 F4 F5 : HP} {b : Nat} {room : Int} {L S Hd R : List Int}
theorem rqR_in {v1 v2 v3 v4 : Value} (hs : Sat w0 w (pts b 0 [.int .i64 room, v1, v2, v3, v4] * (numsP .u32 v1 L * (numsP .i64 v2 S * (numsP .u32 v3 Hd * (numsP .i64 v4 R * F)))))) : Sat w0 w (rqR b room L S Hd R * F) :=
  Sat.ex_in (f := fun v : Value × Value × Value × Value => pts b 0 [.int .i64 room, v.1, v.2.1, v.2.2.1, v.2.2.2] * (numsP .u32 v.1 L * (numsP .i64 v.2.1 S * (numsP .u32 v.2.2.1 Hd * numsP .i64 v.2.2.2 R)))) (v1, v2, v3, v4) (hs.perm (by dsimp only; ac_rfl))
theorem rqR_out (hs : Sat w0 w (rqR b room L S Hd R * F)) : ∃ a1 c1 a2 c2 a3 c3 a4 c4, Sat w0 w (pts b 0 [.int .i64 room, .slice a1 L.length c1, .slice a2 S.length c2, .slice a3 Hd.length c3, .slice a4 R.length c4] *
    (numsP .u32 (.slice a1 L.length c1) L * (numsP .i64 (.slice a2 S.length c2) S * (numsP .u32 (.slice a3 Hd.length c3) Hd * (numsP .i64 (.slice a4 R.length c4) R * F))))) := by
  obtain ⟨⟨v1, v2, v3, v4⟩, hs⟩ := hs.ex_out
  dsimp only at hs
  obtain ⟨a1, c1, rfl⟩ := (hs.pull (Q := numsP .u32 v1 L)).slice_form
  obtain ⟨a2, c2, rfl⟩ := (hs.pull (Q := numsP .i64 v2 S)).slice_form
  obtain ⟨a3, c3, rfl⟩ := (hs.pull (Q := numsP .u32 v3 Hd)).slice_form
  obtain ⟨a4, c4, rfl⟩ := (hs.pull (Q := numsP .i64 v4 R)).slice_form
  exact ⟨a1, c1, a2, c2, a3, c3, a4, c4, hs.perm (by ac_rfl)⟩
theorem rqR_of {v1 v2 v3 v4 : Value} (hs : Sat w0 w P) [h0 : PullP P b 0 [.int .i64 room, v1, v2, v3, v4] F1] [h1 : PullN F1 .u32 v1 L F2] [h2 : PullN F2 .i64 v2 S F3] [h3 : PullN F3 .u32 v3 Hd F4] [h4 : PullN F4 .i64 v4 R F5] [h5 : Frm F5 F] :
    Sat w0 w (rqR b room L S Hd R * F) := by
  refine rqR_in (v1 := v1) (v2 := v2) (v3 := v3) (v4 := v4) ?_
  have h6 : Sat w0 w ((pts b 0 [.int .i64 room, v1, v2, v3, v4] * (numsP .u32 v1 L * (numsP .i64 v2 S * (numsP .u32 v3 Hd * numsP .i64 v4 R)))) * F5) := hs.perm (by rw [h0.eq, h1.eq, h2.eq, h3.eq, h4.eq]; ac_rfl)
  exact (h5.out h6).perm (by ac_rfl)
end

theorem idx_in {l : List Int} {t : Int} (h : t ∈ l) : 0 ≤ idx l t := by unfold idx; rw [if_pos h]; omega
theorem idx_out {l : List Int} {t : Int} (h : t ∉ l) : idx l t = -1 := by unfold idx; rw [if_neg h]

theorem rqWaits (b : Nat) (room t : Int) (L S Hd R : List Int) (w0 w : World) (F : HP) (hs : Sat w0 w (rqR b room L S Hd R * F)) :
    Calls Try.prog 62 #[.pointer (some ⟨b, 0, none⟩), .int .i64 t] w fun e w' => e = .returned (.bool (decide (t ∈ S ∨ t ∈ R))) ∧ w = w' := by
  obtain ⟨a1, c1, a2, c2, a3, c3, a4, c4, hs⟩ := rqR_out hs
  by_cases h : t ∈ S
  · have hi := idx_in h
    have hd : decide (t ∈ S ∨ t ∈ R) = true := decide_eq_true (.inl h)
    rw [hd]
    clear h hd
    go_enter Try.func62, Try.ntmps62
    go_wp2_with fail
    refine (refIndex _ S t _ rd).mono ?_
    rintro e w' ⟨rfl, rfl⟩
    generalize idx S t = i at *
    go_wp2_with fail
    go_ret
    exact ⟨rfl, rfl⟩
  · have hi := idx_out h
    have hd : decide (t ∈ S ∨ t ∈ R) = decide (t ∈ R) := by simp [h]
    rw [hd]
    clear h hd
    go_enter Try.func62, Try.ntmps62
    go_wp2_with fail
    refine (refIndex _ S t _ rd).mono ?_
    rintro e w' ⟨rfl, rfl⟩
    rw [hi]
    clear hi
    go_wp2_with fail
    refine (refIndex _ R t _ rd).mono ?_
    rintro e w' ⟨rfl, rfl⟩
    go_wp2_with fail
    go_ret
    exact ⟨by rw [← idx_nonneg]; rfl, rfl⟩

/-- All of it but the list and who waits for a message. -/
def rqX (b : Nat) (room : Int) (vL vR : Value) (S Hd : List Int) : HP := ex fun v : Value × Value => pts b 0 [.int .i64 room, vL, v.1, v.2, vR] * (numsP .i64 v.1 S * numsP .u32 v.2 Hd)
section
variable {w0 w : World} {P F F1 F2 F3 F4 F5 : HP} {b : Nat} {room : Int} {S Hd : List Int} {vL vR : Value}
theorem rqX_out (hs : Sat w0 w (rqX b room vL vR S Hd * F)) : ∃ a2 c2 a3 c3, Sat w0 w (pts b 0 [.int .i64 room, vL, .slice a2 S.length c2, .slice a3 Hd.length c3, vR] *
    (numsP .i64 (.slice a2 S.length c2) S * (numsP .u32 (.slice a3 Hd.length c3) Hd * F))) := by
  obtain ⟨⟨v2, v3⟩, hs⟩ := hs.ex_out
  dsimp only at hs
  obtain ⟨a2, c2, rfl⟩ := (hs.pull (Q := numsP .i64 v2 S)).slice_form
  obtain ⟨a3, c3, rfl⟩ := (hs.pull (Q := numsP .u32 v3 Hd)).slice_form
  exact ⟨a2, c2, a3, c3, hs.perm (by ac_rfl)⟩
theorem rqX_of {v2 v3 : Value} (hs : Sat w0 w P) [h0 : PullP P b 0 [.int .i64 room, vL, v2, v3, vR] F1] [h2 : PullN F1 .i64 v2 S F3] [h3 : PullN F3 .u32 v3 Hd F4] [h5 : Frm F4 F] :
    Sat w0 w (rqX b room vL vR S Hd * F) := by
  have h6 : Sat w0 w ((pts b 0 [.int .i64 room, vL, v2, v3, vR] * (numsP .i64 v2 S * numsP .u32 v3 Hd)) * F4) := hs.perm (by rw [h0.eq, h2.eq, h3.eq]; ac_rfl)
  exact Sat.ex_in (f := fun v : Value × Value => pts b 0 [.int .i64 room, vL, v.1, v.2, vR] * (numsP .i64 v.1 S * numsP .u32 v.2 Hd)) (v2, v3) (h5.out h6)
theorem rqX_at {v2 v3 : Value} (hs : Sat w0 w P) [h0 : PullP P b 0 [.int .i64 room, vL, v2, v3, vR] F1] [h2 : PullN F1 .i64 v2 S F3] [h3 : PullN F3 .u32 v3 Hd F4] : Sat w0 w (rqX b room vL vR S Hd * F4) := rqX_of hs
end

set_option maxHeartbeats 1000000 in
theorem rqLeave (b : Nat) (room t : Int) (vL vR : Value) (S Hd : List Int) (w0 w : World) (F : HP) (hs : Sat w0 w (rqX b room vL vR S Hd * F)) (ht : t ∈ S) (hl : Hd.length = S.length) (hS : S.length ≤ 64) :
    Calls Try.prog 63 #[.pointer (some ⟨b, 0, none⟩), .int .i64 t] w (RetV w0 (.int .u32 (Hd.getD (S.idxOf t) 0)) (rqX b room vL vR (S.filter (· != t)) (Hd.eraseIdx (S.idxOf t)) * F)) := by
  obtain ⟨a2, c2, a3, c3, hs⟩ := rqX_out hs
  have hk : S.idxOf t < S.length := List.idxOf_lt_length_iff.2 ht
  have hi : idx S t = (S.idxOf t : Int) := by unfold idx; rw [if_pos ht]
  generalize S.idxOf t = k at *
  have Hi := hid hi
  generalize hS2 : S.filter (· != t) = S2
  have HS2 := hid hS2
  clear hS2
  obtain ⟨g, off, rfl⟩ := hs.someA a3 (by omega)
  haveI : Lt k Hd.length := ⟨by omega⟩
  have hk2 : k < Hd.length := by omega
  have hk4 : k ≤ Hd.length := by omega
  have hH : Hd.length ≤ 64 := by omega
  have hk3 : decide (k < Hd.length) = true := by simp [hk2]
  have hv : Hd.getD k 0 = Hd[k] := by simp [List.getD, hk2]
  rw [hv]
  clear hi hl hv
  go_enter Try.func63, Try.ntmps63
  go_wp2_with fail
  refine (refIndex _ S t _ rd).mono ?_
  rintro e w' ⟨rfl, rfl⟩
  rw [Hi.out]
  go_wp2_with (first | (at_builtin; refine wpList_append_nums rfl rfl rfl rfl (by omega) ?_; intro ap ac aL aw ahL ah1 ah2 ahs _) | (refine wpList_slice_from rfl rfl rfl rfl (by omega) (by omega) ?_; intro px pc pL php phL ph1 ph2) | (refine wpList_slice_to rfl rfl rfl rfl (by omega) (by omega) ?_; intro px pc pL php phL ph1 ph2))
  refine (refWithout _ S t w0 _ _ own_it stays_in (by omega)).mono ?_
  rintro e w2 ⟨v2, rfl, hs2⟩
  rw [HS2.out] at hs2
  obtain ⟨a5, c5, rfl⟩ := hs2.slice_form
  go_wp2_with (first | (at_builtin; refine wpList_append_nums rfl rfl rfl rfl (by omega) ?_; intro ap ac aL aw ahL ah1 ah2 ahs _) | (refine wpList_slice_from rfl rfl rfl rfl (by omega) (by omega) ?_; intro px pc pL php phL ph1 ph2) | (refine wpList_slice_to rfl rfl rfl rfl (by omega) (by omega) ?_; intro px pc pL php phL ph1 ph2))
  go_ret
  refine ⟨rfl, ?_⟩
  clear HS2
  unfold Hid at *
  subst_vars
  have e1 : [] ++ List.take (k : Int).toNat Hd ++ List.drop ((k : Int) + 1).toNat Hd = Hd.eraseIdx k := by
    rw [List.eraseIdx_eq_take_drop_succ]; rfl
  rw [← e1]
  exact rqX_of own_it

/-! ### In the words of the queue itself -/
def heldOf (q : Mq) : List Int := q.S.map fun t => q.H.getD t.toNat 0
def rqP (b : Nat) (q : Mq) : HP := rqR b q.room (msgs q) q.S (heldOf q) q.R

theorem msgs_push {q : Mq} (h : PushOk q) (hn : q.n < 64) (v : Int) : msgs (q.push v) = msgs q ++ [v] := by
  have hx : (q.f + q.n) % 64 < q.C.length := by rw [h.c]; omega
  unfold msgs Mq.push
  dsimp only
  rw [List.range_succ, List.map_append]
  congr 1
  · refine List.map_congr_left fun i hi => ?_
    rw [List.mem_range] at hi
    have hne : (q.f + q.n) % 64 ≠ (q.f + i) % 64 := by have := h.f; omega
    simp only [List.getD, List.getElem?_set_ne hne]
  · simp [List.getD, List.getElem?_set_self hx]
theorem filter_erase {l : List Int} (h : RowOk l) (t : Int) : l.filter (· != t) = l.erase t := (List.Nodup.erase_eq_filter h.1 t).symm
theorem rBest_nil (lv : List Int) : rBest lv [] = -1 := rfl
theorem rBest_some (lv : List Int) {l : List Int} (h : RowOk l) (hn : l ≠ []) : rBest lv l = bestOf lv l := by
  match l, hn with
  | t :: r, _ => exact best_agree lv t r (h.2 t (by simp)).1 fun x hx => (h.2 x (by simp [hx])).1

set_option maxHeartbeats 1000000 in
theorem rqSend (b : Nat) (q : Mq) (v : Int) (lv : Value) (levels : List Int) (w0 w : World) (F : HP) (hs : Sat w0 w (rqP b q * F)) (hst : Stays w0 F .i64 lv levels) (hok : MqOk q) :
    Calls Try.prog 50 #[.pointer (some ⟨b, 0, none⟩), .int .u32 v, lv] w (RetV w0 (.tuple #[.int .i64 (q.sendT levels), .int .i64 q.sendE]) (rqP b (q.send levels v) * F)) := by
  have hlen := rowOk_len hok.r
  have hml := msgs_len q
  have hn := hok.n
  have hhi := hok.hi
  obtain ⟨a1, c1, a2, c2, a3, c3, a4, c4, hs⟩ := rqR_out hs
  have rl := hst w own_left
  by_cases hR : q.R = []
  · have e1 : q.sendT levels = 255 := by simp [Mq.sendT, hR]
    have hb : rBest levels q.R = -1 := by rw [hR]; rfl
    by_cases hf : q.n = q.room
    · have e2 : q.sendE = 7 := by simp [Mq.sendE, hR, hf]
      have e3 : q.send levels v = q := by simp [Mq.send, hR, hf]
      have d : decide (q.room ≤ (msgs q).length) = true := by simp; omega
      rw [e1, e2, e3]
      have Hb := hid hb
      clear hb e1 e2 e3 hR hml hf
      go_enter Try.func50, Try.ntmps50
      go_wp2_with fail
      refine (refBest _ lv q.R levels _ rd rl (fun t ht => (hok.r.2 t ht).1) (by omega)).mono ?_
      rintro e w' ⟨rfl, n1, rfl⟩
      rw [Hb.out]
      go_wp2_with (first | (at_builtin; refine wpList_append_nums rfl rfl rfl rfl (by omega) ?_; intro ap ac aL aw ahL ah1 ah2 ahs _) | (refine wpList_slice_from rfl rfl rfl rfl (by omega) (by omega) ?_; intro px pc pL php phL ph1 ph2) | (refine wpList_slice_to rfl rfl rfl rfl (by omega) (by omega) ?_; intro px pc pL php phL ph1 ph2))
      go_quiet (fail)
      go_wp2_with (first | (at_builtin; refine wpList_append_nums rfl rfl rfl rfl (by omega) ?_; intro ap ac aL aw ahL ah1 ah2 ahs _) | (refine wpList_slice_from rfl rfl rfl rfl (by omega) (by omega) ?_; intro px pc pL php phL ph1 ph2) | (refine wpList_slice_to rfl rfl rfl rfl (by omega) (by omega) ?_; intro px pc pL php phL ph1 ph2))
      go_ret2
      exact ⟨rfl, rqR_of own_it⟩
    · have e2 : q.sendE = 0 := by simp [Mq.sendE, hR, hf]
      have e3 : q.send levels v = q.push v := by simp [Mq.send, hR, hf]
      have d : decide (q.room ≤ (msgs q).length) = false := by simp; omega
      have e4 := hid (msgs_push hok.pushOk (by omega) v)
      rw [e1, e2, e3]
      have Hb := hid hb
      have hml' : (msgs q).length ≤ 64 := by omega
      clear hb e1 e2 e3 hR hml hf
      go_enter Try.func50, Try.ntmps50
      go_wp2_with fail
      refine (refBest _ lv q.R levels _ rd rl (fun t ht => (hok.r.2 t ht).1) (by omega)).mono ?_
      rintro e w' ⟨rfl, n1, rfl⟩
      rw [Hb.out]
      go_wp2_with (first | (at_builtin; refine wpList_append_nums rfl rfl rfl rfl (by omega) ?_; intro ap ac aL aw ahL ah1 ah2 ahs _) | (refine wpList_slice_from rfl rfl rfl rfl (by omega) (by omega) ?_; intro px pc pL php phL ph1 ph2) | (refine wpList_slice_to rfl rfl rfl rfl (by omega) (by omega) ?_; intro px pc pL php phL ph1 ph2))
      go_quiet (fail)
      go_wp2_with (first | (at_builtin; refine wpList_append_nums rfl rfl rfl rfl (by omega) ?_; intro ap ac aL aw ahL ah1 ah2 ahs _) | (refine wpList_slice_from rfl rfl rfl rfl (by omega) (by omega) ?_; intro px pc pL php phL ph1 ph2) | (refine wpList_slice_to rfl rfl rfl rfl (by omega) (by omega) ?_; intro px pc pL php phL ph1 ph2))
      go_ret2
      refine ⟨rfl, ?_⟩
      unfold rqP
      rw [e4.out]
      unfold Hid at *
      subst_vars
      simp only [List.nil_append] at ahs ⊢
      exact rqR_of own_it
  · have hin := hok.r.2 _ (best_in levels q.R hR)
    have e1 : q.sendT levels = bestOf levels q.R := by simp [Mq.sendT, hR]
    have e2 : q.sendE = 0 := by simp [Mq.sendE, hR]
    have e3 : q.send levels v = { q with R := q.R.erase (bestOf levels q.R) } := by simp [Mq.send, hR]
    have e4 := filter_erase hok.r (bestOf levels q.R)
    have hb := rBest_some levels hok.r hR
    rw [e1, e2, e3]
    clear e1 e2 e3 hR
    generalize bestOf levels q.R = bb at *
    have Hb := hid hb
    have He := hid e4
    clear hb e4
    generalize q.R.erase bb = R2 at *
    go_enter Try.func50, Try.ntmps50
    go_wp2_with fail
    refine (refBest _ lv q.R levels _ rd rl (fun t ht => (hok.r.2 t ht).1) (by omega)).mono ?_
    rintro e w' ⟨rfl, n1, rfl⟩
    rw [Hb.out]
    go_wp2_with (first | (at_builtin; refine wpList_append_nums rfl rfl rfl rfl (by omega) ?_; intro ap ac aL aw ahL ah1 ah2 ahs _) | (refine wpList_slice_from rfl rfl rfl rfl (by omega) (by omega) ?_; intro px pc pL php phL ph1 ph2) | (refine wpList_slice_to rfl rfl rfl rfl (by omega) (by omega) ?_; intro px pc pL php phL ph1 ph2))
    refine (refWithout _ q.R bb w0 _ _ own_it stays_in (by omega)).mono ?_
    rintro e w2 ⟨v2, rfl, hs2⟩
    rw [He.out] at hs2
    obtain ⟨a5, c5, rfl⟩ := hs2.slice_form
    go_wp2_with (first | (at_builtin; refine wpList_append_nums rfl rfl rfl rfl (by omega) ?_; intro ap ac aL aw ahL ah1 ah2 ahs _) | (refine wpList_slice_from rfl rfl rfl rfl (by omega) (by omega) ?_; intro px pc pL php phL ph1 ph2) | (refine wpList_slice_to rfl rfl rfl rfl (by omega) (by omega) ?_; intro px pc pL php phL ph1 ph2))
    go_ret2
    exact ⟨rfl, rqR_of own_it⟩

theorem heldOf_add {q : Mq} (h : MqOk q) {t : Int} (ht : addOk q.S t) (v : Int) : heldOf { q with S := q.S ++ [t], H := q.H.set t.toNat v } = heldOf q ++ [v] := by
  unfold heldOf
  dsimp only
  rw [List.map_append]
  obtain ⟨h1, h2, h3⟩ := ht
  congr 1
  · refine List.map_congr_left fun x hx => ?_
    have hne : t.toNat ≠ x.toNat := by
      have := (h.s.2 x hx).1
      intro e
      have : t = x := by omega
      exact h3 (this ▸ hx)
    simp only [List.getD, List.getElem?_set_ne hne]
  · simp [List.getD, List.getElem?_set_self (show t.toNat < q.H.length by rw [h.h]; omega)]
theorem heldOf_erase (q : Mq) (t : Int) : heldOf { q with S := q.S.erase t } = (heldOf q).eraseIdx (q.S.idxOf t) := by
  unfold heldOf
  dsimp only
  rw [List.erase_eq_eraseIdx_of_idxOf rfl, List.eraseIdx_eq_take_drop_succ, List.eraseIdx_eq_take_drop_succ, List.map_append, List.map_take, List.map_drop]
theorem heldOf_len (q : Mq) : (heldOf q).length = q.S.length := by simp [heldOf]

set_option maxHeartbeats 2000000 in
theorem rqHold (b : Nat) (q : Mq) (t v : Int) (w0 w : World) (F : HP) (hs : Sat w0 w (rqP b q * F)) (hok : MqOk q) :
    Calls Try.prog 51 #[.pointer (some ⟨b, 0, none⟩), .int .i64 t, .int .u32 v] w (RetV w0 (.int .i64 (q.holdE t)) (rqP b (q.hold t v) * F)) := by
  have hlen := rowOk_len hok.s
  have hml := msgs_len q
  have hhl := heldOf_len q
  have hr0 := hs
  obtain ⟨a1, c1, a2, c2, a3, c3, a4, c4, hs⟩ := rqR_out hs
  by_cases hn : q.n < q.room
  · have e1 : q.holdE t = 1 := if_pos (.inl hn)
    have e2 : q.hold t v = q := if_pos (.inl hn)
    have d : decide ((msgs q).length < q.room) = true := by simp; omega
    have d' : decide (((msgs q).length : Int) < (q.room : Int)) = true := by simp; omega
    rw [e1, e2]
    clear e1 e2 hml hhl hn
    go_enter Try.func51, Try.ntmps51
    go_wp2_with fail
    go_quiet (fail)
    go_wp2_with (first | (at_builtin; refine wpList_append_nums rfl rfl rfl rfl (by omega) ?_; intro ap ac aL aw ahL ah1 ah2 ahs _) | (refine wpList_slice_from rfl rfl rfl rfl (by omega) (by omega) ?_; intro px pc pL php phL ph1 ph2) | (refine wpList_slice_to rfl rfl rfl rfl (by omega) (by omega) ?_; intro px pc pL php phL ph1 ph2))
    go_ret
    exact ⟨rfl, rqR_of own_it⟩
  · have d : decide ((msgs q).length < q.room) = false := by simp; omega
    have d' : decide (((msgs q).length : Int) < (q.room : Int)) = false := by simp; omega
    by_cases hr : t < 0 ∨ 63 < t
    · have e0 : ¬ addOk q.S t := fun h => by obtain ⟨h1, h2, _⟩ := h; omega
      have e1 : q.holdE t = 1 := by unfold Mq.holdE; split; rfl; exact if_neg e0
      have e2 : q.hold t v = q := by simp [Mq.hold, e0]
      rw [e1, e2]
      clear e0 e1 e2 hml hhl hn
      rcases hr with hr | hr
      · have d1 : decide (t < 0) = true := by simp; omega
        go_enter Try.func51, Try.ntmps51
        go_wp2_with fail
        go_quiet (fail)
        go_wp2_with (first | (at_builtin; refine wpList_append_nums rfl rfl rfl rfl (by omega) ?_; intro ap ac aL aw ahL ah1 ah2 ahs _) | (refine wpList_slice_from rfl rfl rfl rfl (by omega) (by omega) ?_; intro px pc pL php phL ph1 ph2) | (refine wpList_slice_to rfl rfl rfl rfl (by omega) (by omega) ?_; intro px pc pL php phL ph1 ph2))
        go_ret
        exact ⟨rfl, rqR_of own_it⟩
      · have d1 : decide (t < 0) = false := by simp; omega
        have d2 : decide (63 < t) = true := by simp; omega
        go_enter Try.func51, Try.ntmps51
        go_wp2_with fail
        go_quiet (fail)
        go_wp2_with (first | (at_builtin; refine wpList_append_nums rfl rfl rfl rfl (by omega) ?_; intro ap ac aL aw ahL ah1 ah2 ahs _) | (refine wpList_slice_from rfl rfl rfl rfl (by omega) (by omega) ?_; intro px pc pL php phL ph1 ph2) | (refine wpList_slice_to rfl rfl rfl rfl (by omega) (by omega) ?_; intro px pc pL php phL ph1 ph2))
        go_ret
        exact ⟨rfl, rqR_of own_it⟩
    · have d1 : decide (t < 0) = false := by simp; omega
      have d2 : decide (63 < t) = false := by simp; omega
      by_cases hw : q.waits t
      · have e1 : q.holdE t = 1 := if_pos (.inr hw)
        have e2 : q.hold t v = q := if_pos (.inr hw)
        have hd : decide (t ∈ q.S ∨ t ∈ q.R) = true := decide_eq_true hw
        have hq : ∀ w', Sat w0 w' (rqP b q * F) → Calls Try.prog 62 #[.pointer (some ⟨b, 0, none⟩), .int .i64 t] w' fun e w'' => e = .returned (.bool true) ∧ w' = w'' := fun w' h => by
          have := rqWaits b q.room t (msgs q) q.S (heldOf q) q.R w0 w' F h
          rwa [hd] at this
        have hq := hid hq
        rw [e1, e2]
        clear e1 e2 hml hhl hn hw hd
        go_enter Try.func51, Try.ntmps51
        go_wp2_with fail
        go_quiet ((go_at_call 62; exact quiet_eq (hq.out _ (rqR_of own_it))))
        go_wp2_with (first | (at_builtin; refine wpList_append_nums rfl rfl rfl rfl (by omega) ?_; intro ap ac aL aw ahL ah1 ah2 ahs _) | (refine wpList_slice_from rfl rfl rfl rfl (by omega) (by omega) ?_; intro px pc pL php phL ph1 ph2) | (refine wpList_slice_to rfl rfl rfl rfl (by omega) (by omega) ?_; intro px pc pL php phL ph1 ph2))
        go_ret
        exact ⟨rfl, rqR_of own_it⟩
      · have ha : addOk q.S t := ⟨by omega, by omega, fun h => hw (.inl h)⟩
        have hor : ¬ (q.n < q.room ∨ q.waits t) := by simp [hn, hw]
        have e1 : q.holdE t = 0 := (if_neg hor).trans (if_pos ha)
        have e2 : q.hold t v = { q with S := q.S ++ [t], H := q.H.set t.toNat v } := (if_neg hor).trans ((if_pos ha).trans (by rw [show addOne q.S t = q.S ++ [t] from if_pos ha]))
        have e3 := hid (heldOf_add hok ha v)
        have hd : decide (t ∈ q.S ∨ t ∈ q.R) = false := decide_eq_false hw
        have hq : ∀ w', Sat w0 w' (rqP b q * F) → Calls Try.prog 62 #[.pointer (some ⟨b, 0, none⟩), .int .i64 t] w' fun e w'' => e = .returned (.bool false) ∧ w' = w'' := fun w' h => by
          have := rqWaits b q.room t (msgs q) q.S (heldOf q) q.R w0 w' F h
          rwa [hd] at this
        have hq := hid hq
        rw [e1, e2]
        have hh : (heldOf q).length ≤ 64 := by omega
        clear e1 e2 hml hhl hn hw hd ha hor
        go_enter Try.func51, Try.ntmps51
        go_wp2_with fail
        go_quiet ((go_at_call 62; exact quiet_eq (hq.out _ (rqR_of own_it))))
        clear hq
        go_wp2_with (first | (at_builtin; refine wpList_append_nums rfl rfl rfl rfl (by omega) ?_; intro ap ac aL aw ahL ah1 ah2 ahs _) | (refine wpList_slice_from rfl rfl rfl rfl (by omega) (by omega) ?_; intro px pc pL php phL ph1 ph2) | (refine wpList_slice_to rfl rfl rfl rfl (by omega) (by omega) ?_; intro px pc pL php phL ph1 ph2))
        go_ret
        refine ⟨rfl, ?_⟩
        unfold rqP
        rw [e3.out]
        clear e3
        unfold Hid at *
        subst_vars
        simp only [List.nil_append] at ahs ⊢
        exact rqR_of own_it

set_option maxHeartbeats 2000000 in
theorem rqAwait (b : Nat) (q : Mq) (t : Int) (w0 w : World) (F : HP) (hs : Sat w0 w (rqP b q * F)) (hok : MqOk q) :
    Calls Try.prog 53 #[.pointer (some ⟨b, 0, none⟩), .int .i64 t] w (RetV w0 (.int .i64 (q.awaitE t)) (rqP b (q.await t) * F)) := by
  have hlen := rowOk_len hok.r
  have hml := msgs_len q
  obtain ⟨a1, c1, a2, c2, a3, c3, a4, c4, hs⟩ := rqR_out hs
  by_cases hn : 0 < q.n
  · have e1 : q.awaitE t = 1 := if_pos (.inl hn)
    have e2 : q.await t = q := if_pos (.inl hn)
    have d : decide (0 < (msgs q).length) = true := by simp; omega
    rw [e1, e2]
    clear e1 e2 hml hn
    go_enter Try.func53, Try.ntmps53
    go_wp2_with (first | (at_builtin; refine wpList_append_nums rfl rfl rfl rfl (by omega) ?_; intro ap ac aL aw ahL ah1 ah2 ahs _) | (refine wpList_slice_from rfl rfl rfl rfl (by omega) (by omega) ?_; intro px pc pL php phL ph1 ph2) | (refine wpList_slice_to rfl rfl rfl rfl (by omega) (by omega) ?_; intro px pc pL php phL ph1 ph2))
    go_ret
    exact ⟨rfl, rqR_of own_it⟩
  · have d : decide (0 < (msgs q).length) = false := by rw [decide_eq_false_iff_not]; omega
    by_cases hr : t < 0 ∨ 63 < t
    · have e0 : ¬ addOk q.R t := fun h => by obtain ⟨h1, h2, _⟩ := h; omega
      have e1 : q.awaitE t = 1 := by unfold Mq.awaitE; split; rfl; exact if_neg e0
      have e2 : q.await t = q := by simp [Mq.await, addOne, e0]
      rw [e1, e2]
      clear e0 e1 e2 hml hn
      rcases hr with hr | hr
      · go_enter Try.func53, Try.ntmps53
        go_wp2_with (first | (at_builtin; refine wpList_append_nums rfl rfl rfl rfl (by omega) ?_; intro ap ac aL aw ahL ah1 ah2 ahs _) | (refine wpList_slice_from rfl rfl rfl rfl (by omega) (by omega) ?_; intro px pc pL php phL ph1 ph2) | (refine wpList_slice_to rfl rfl rfl rfl (by omega) (by omega) ?_; intro px pc pL php phL ph1 ph2))
        go_ret
        exact ⟨rfl, rqR_of own_it⟩
      · go_enter Try.func53, Try.ntmps53
        go_wp2_with (first | (at_builtin; refine wpList_append_nums rfl rfl rfl rfl (by omega) ?_; intro ap ac aL aw ahL ah1 ah2 ahs _) | (refine wpList_slice_from rfl rfl rfl rfl (by omega) (by omega) ?_; intro px pc pL php phL ph1 ph2) | (refine wpList_slice_to rfl rfl rfl rfl (by omega) (by omega) ?_; intro px pc pL php phL ph1 ph2))
        go_ret
        exact ⟨rfl, rqR_of own_it⟩
    · by_cases hw : q.waits t
      · have e1 : q.awaitE t = 1 := if_pos (.inr hw)
        have e2 : q.await t = q := if_pos (.inr hw)
        have hd : decide (t ∈ q.S ∨ t ∈ q.R) = true := decide_eq_true hw
        have Hd := hid hd
        rw [e1, e2]
        clear e1 e2 hml hn hw hd
        go_enter Try.func53, Try.ntmps53
        go_wp2_with (first | (at_builtin; refine wpList_append_nums rfl rfl rfl rfl (by omega) ?_; intro ap ac aL aw ahL ah1 ah2 ahs _) | (refine wpList_slice_from rfl rfl rfl rfl (by omega) (by omega) ?_; intro px pc pL php phL ph1 ph2) | (refine wpList_slice_to rfl rfl rfl rfl (by omega) (by omega) ?_; intro px pc pL php phL ph1 ph2))
        refine (rqWaits b q.room t (msgs q) q.S (heldOf q) q.R w0 _ F (rqR_of own_it)).mono ?_
        rintro e w' ⟨rfl, rfl⟩
        rw [Hd.out]
        go_wp2_with (first | (at_builtin; refine wpList_append_nums rfl rfl rfl rfl (by omega) ?_; intro ap ac aL aw ahL ah1 ah2 ahs _) | (refine wpList_slice_from rfl rfl rfl rfl (by omega) (by omega) ?_; intro px pc pL php phL ph1 ph2) | (refine wpList_slice_to rfl rfl rfl rfl (by omega) (by omega) ?_; intro px pc pL php phL ph1 ph2))
        go_ret
        exact ⟨rfl, rqR_of own_it⟩
      · have ha : addOk q.R t := ⟨by omega, by omega, fun h => hw (.inr h)⟩
        have hor : ¬ (0 < q.n ∨ q.waits t) := by simp [hn, hw]
        have e1 : q.awaitE t = 0 := (if_neg hor).trans (if_pos ha)
        have e2 : q.await t = { q with R := q.R ++ [t] } := (if_neg hor).trans (by rw [show addOne q.R t = q.R ++ [t] from if_pos ha])
        have hd : decide (t ∈ q.S ∨ t ∈ q.R) = false := decide_eq_false hw
        have Hd := hid hd
        rw [e1, e2]
        clear e1 e2 hml hn hw hd ha hor
        go_enter Try.func53, Try.ntmps53
        go_wp2_with (first | (at_builtin; refine wpList_append_nums rfl rfl rfl rfl (by omega) ?_; intro ap ac aL aw ahL ah1 ah2 ahs _) | (refine wpList_slice_from rfl rfl rfl rfl (by omega) (by omega) ?_; intro px pc pL php phL ph1 ph2) | (refine wpList_slice_to rfl rfl rfl rfl (by omega) (by omega) ?_; intro px pc pL php phL ph1 ph2))
        refine (rqWaits b q.room t (msgs q) q.S (heldOf q) q.R w0 _ F (rqR_of own_it)).mono ?_
        rintro e w' ⟨rfl, rfl⟩
        rw [Hd.out]
        go_wp2_with (first | (at_builtin; refine wpList_append_nums rfl rfl rfl rfl (by omega) ?_; intro ap ac aL aw ahL ah1 ah2 ahs _) | (refine wpList_slice_from rfl rfl rfl rfl (by omega) (by omega) ?_; intro px pc pL php phL ph1 ph2) | (refine wpList_slice_to rfl rfl rfl rfl (by omega) (by omega) ?_; intro px pc pL php phL ph1 ph2))
        go_ret
        refine ⟨rfl, ?_⟩
        clear Hd
        unfold Hid at *
        subst_vars
        simp only [List.nil_append] at ahs ⊢
        exact rqR_of own_it

theorem getD_map0 (S : List Int) (f : Int → Int) {t : Int} (ht : t ∈ S) : (S.map f).getD (S.idxOf t) 0 = f t := by
  have hk : S.idxOf t < S.length := List.idxOf_lt_length_iff.2 ht
  simp [List.getD, hk]
theorem held_at {q : Mq} {t : Int} (ht : t ∈ q.S) : (heldOf q).getD (q.S.idxOf t) 0 = q.H.getD t.toNat 0 := getD_map0 q.S _ ht
theorem rqLeave_q (b : Nat) (q : Mq) (t : Int) (vL vR : Value) (w0 w : World) (F : HP) (hs : Sat w0 w (rqX b q.room vL vR q.S (heldOf q) * F)) (hok : MqOk q) (ht : t ∈ q.S) :
    Calls Try.prog 63 #[.pointer (some ⟨b, 0, none⟩), .int .i64 t] w (RetV w0 (.int .u32 (q.H.getD t.toNat 0)) (rqX b q.room vL vR (q.S.erase t) (heldOf { q with S := q.S.erase t }) * F)) := by
  have h := rqLeave b q.room t vL vR q.S (heldOf q) w0 w F hs ht (heldOf_len q) (rowOk_len hok.s)
  rw [held_at ht, filter_erase hok.s, ← heldOf_erase] at h
  exact h

set_option maxHeartbeats 2000000 in
theorem rqCancel (b : Nat) (q : Mq) (t : Int) (w0 w : World) (F : HP) (hs : Sat w0 w (rqP b q * F)) (hok : MqOk q) (hdis : t ∈ q.S → t ∉ q.R) :
    Calls Try.prog 54 #[.pointer (some ⟨b, 0, none⟩), .int .i64 t] w (RetV w0 (.bool (decide (q.waits t))) (rqP b (q.cancel t) * F)) := by
  have hlen := rowOk_len hok.r
  obtain ⟨a1, c1, a2, c2, a3, c3, a4, c4, hs⟩ := rqR_out hs
  generalize hd : decide (q.waits t) = dd
  have Hd := hid hd
  clear hd
  by_cases ht : t ∈ q.S
  · have hi := idx_in ht
    have e1 : q.cancel t = { q with S := q.S.erase t } := if_pos ht
    have hnr := hdis ht
    have e2 := filter_erase hok.r t
    rw [List.erase_of_not_mem hnr] at e2
    have He := hid e2
    rw [e1]
    clear e1 e2 hnr
    have Ht := hid ht
    clear ht
    go_enter Try.func54, Try.ntmps54
    go_wp2_with fail
    refine (rqWaits b q.room t (msgs q) q.S (heldOf q) q.R w0 _ F (rqR_of own_it)).mono ?_
    rintro e w' ⟨rfl, rfl⟩
    rw [show decide (t ∈ q.S ∨ t ∈ q.R) = dd from Hd.out]
    go_wp2_with (first | (at_builtin; refine wpList_append_nums rfl rfl rfl rfl (by omega) ?_; intro ap ac aL aw ahL ah1 ah2 ahs _) | (refine wpList_slice_from rfl rfl rfl rfl (by omega) (by omega) ?_; intro px pc pL php phL ph1 ph2) | (refine wpList_slice_to rfl rfl rfl rfl (by omega) (by omega) ?_; intro px pc pL php phL ph1 ph2))
    refine (refIndex _ q.S t _ rd).mono ?_
    rintro e w' ⟨rfl, rfl⟩
    generalize idx q.S t = i at *
    go_wp2_with (first | (at_builtin; refine wpList_append_nums rfl rfl rfl rfl (by omega) ?_; intro ap ac aL aw ahL ah1 ah2 ahs _) | (refine wpList_slice_from rfl rfl rfl rfl (by omega) (by omega) ?_; intro px pc pL php phL ph1 ph2) | (refine wpList_slice_to rfl rfl rfl rfl (by omega) (by omega) ?_; intro px pc pL php phL ph1 ph2))
    refine (rqLeave_q b q t _ _ w0 _ _ (rqX_at own_it) hok Ht.out).mono ?_
    rintro e w2 ⟨rfl, hs2⟩
    obtain ⟨a2, c2, a3, c3, hs2⟩ := rqX_out hs2
    go_wp2_with (first | (at_builtin; refine wpList_append_nums rfl rfl rfl rfl (by omega) ?_; intro ap ac aL aw ahL ah1 ah2 ahs _) | (refine wpList_slice_from rfl rfl rfl rfl (by omega) (by omega) ?_; intro px pc pL php phL ph1 ph2) | (refine wpList_slice_to rfl rfl rfl rfl (by omega) (by omega) ?_; intro px pc pL php phL ph1 ph2))
    refine (refWithout _ q.R t w0 _ _ own_it stays_in (by omega)).mono ?_
    rintro e w3 ⟨v3, rfl, hs3⟩
    rw [He.out] at hs3
    obtain ⟨a5, c5, rfl⟩ := hs3.slice_form
    go_wp2_with (first | (at_builtin; refine wpList_append_nums rfl rfl rfl rfl (by omega) ?_; intro ap ac aL aw ahL ah1 ah2 ahs _) | (refine wpList_slice_from rfl rfl rfl rfl (by omega) (by omega) ?_; intro px pc pL php phL ph1 ph2) | (refine wpList_slice_to rfl rfl rfl rfl (by omega) (by omega) ?_; intro px pc pL php phL ph1 ph2))
    go_ret
    exact ⟨rfl, rqR_of own_it⟩
  · have hi := idx_out ht
    have e1 : q.cancel t = { q with R := q.R.erase t } := if_neg ht
    have e2 := filter_erase hok.r t
    have He := hid e2
    have Hi := hid hi
    rw [e1]
    clear e1 e2 ht hi
    generalize q.R.erase t = R2 at *
    go_enter Try.func54, Try.ntmps54
    go_wp2_with fail
    refine (rqWaits b q.room t (msgs q) q.S (heldOf q) q.R w0 _ F (rqR_of own_it)).mono ?_
    rintro e w' ⟨rfl, rfl⟩
    rw [show decide (t ∈ q.S ∨ t ∈ q.R) = dd from Hd.out]
    go_wp2_with (first | (at_builtin; refine wpList_append_nums rfl rfl rfl rfl (by omega) ?_; intro ap ac aL aw ahL ah1 ah2 ahs _) | (refine wpList_slice_from rfl rfl rfl rfl (by omega) (by omega) ?_; intro px pc pL php phL ph1 ph2) | (refine wpList_slice_to rfl rfl rfl rfl (by omega) (by omega) ?_; intro px pc pL php phL ph1 ph2))
    refine (refIndex _ q.S t _ rd).mono ?_
    rintro e w' ⟨rfl, rfl⟩
    rw [Hi.out]
    go_wp2_with (first | (at_builtin; refine wpList_append_nums rfl rfl rfl rfl (by omega) ?_; intro ap ac aL aw ahL ah1 ah2 ahs _) | (refine wpList_slice_from rfl rfl rfl rfl (by omega) (by omega) ?_; intro px pc pL php phL ph1 ph2) | (refine wpList_slice_to rfl rfl rfl rfl (by omega) (by omega) ?_; intro px pc pL php phL ph1 ph2))
    refine (refWithout _ q.R t w0 _ _ own_it stays_in (by omega)).mono ?_
    rintro e w3 ⟨v3, rfl, hs3⟩
    rw [He.out] at hs3
    obtain ⟨a5, c5, rfl⟩ := hs3.slice_form
    go_wp2_with (first | (at_builtin; refine wpList_append_nums rfl rfl rfl rfl (by omega) ?_; intro ap ac aL aw ahL ah1 ah2 ahs _) | (refine wpList_slice_from rfl rfl rfl rfl (by omega) (by omega) ?_; intro px pc pL php phL ph1 ph2) | (refine wpList_slice_to rfl rfl rfl rfl (by omega) (by omega) ?_; intro px pc pL php phL ph1 ph2))
    go_ret
    exact ⟨rfl, rqR_of own_it⟩

end Go.Proofs.Ytbnfkfbebnkdnaa
