/-
  The walk of MailOrder.
-/
import Derived.Test.YtbnfkfbebnkdnaaMailRests
import Derived.Test.YtbnfkfbebnkdnaaMailT
namespace Go.Proofs.Ytbnfkfbebnkdnaa
open Go.RowKit Go.Sx

/-- What was let in, what was received, and what is held. -/
structure OrdOk (q : Mq) (In Out hd : List Int) (k : Nat) : Prop where
  ok : MqOk q
  eq : In = Out ++ msgs q
  hl : hd.length = 64
  hh : ∀ t ∈ q.S, hd.getD t.toNat 0 = q.H.getD t.toNat 0
  li : In.length ≤ k
  lo : Out.length ≤ k
theorem ord_send {q : Mq} {In Out hd : List Int} {k : Nat} (h : OrdOk q In Out hd k) (v : Int) :
    (q.sendE = 0 ∧ q.sendT [] = 255 ∧ OrdOk (q.send [] v) (In ++ [v]) Out hd (k + 1)) ∨ (q.sendE = 0 ∧ q.sendT [] ≠ 255 ∧ OrdOk (q.send [] v) In Out hd (k + 1)) ∨ (q.sendE = 7 ∧ OrdOk (q.send [] v) In Out hd (k + 1)) := by
  have hk := mqOk_send h.ok [] v
  have hli := h.li
  have hlo := h.lo
  by_cases hR : q.R = []
  · by_cases hn : q.n = q.room
    · refine .inr (.inr ⟨by simp [Mq.sendE, hR, hn], ?_⟩)
      have e : q.send [] v = q := by simp [Mq.send, hR, hn]
      rw [e] at hk ⊢
      exact ⟨hk, h.eq, h.hl, h.hh, by omega, by omega⟩
    · refine .inl ⟨by simp [Mq.sendE, hR, hn], by simp [Mq.sendT, hR], ?_⟩
      have e : q.send [] v = q.push v := by simp [Mq.send, hR, hn]
      have := h.ok.n; have := h.ok.hi
      rw [e] at hk ⊢
      exact ⟨hk, by rw [msgs_push h.ok.pushOk (by omega), h.eq, List.append_assoc], h.hl, h.hh, by simp; omega, by omega⟩
  · refine .inr (.inl ⟨by simp [Mq.sendE, hR], ?_, ?_⟩)
    · have := h.ok.r.2 _ (best_in [] q.R hR)
      simp only [Mq.sendT, ne_eq, hR, not_false_eq_true, if_true]
      omega
    · have e : q.send [] v = { q with R := q.R.erase (bestOf [] q.R) } := by simp [Mq.send, hR]
      rw [e] at hk ⊢
      exact ⟨hk, h.eq, h.hl, h.hh, by omega, by omega⟩
theorem ord_hold {q : Mq} {In Out hd : List Int} {k : Nat} (h : OrdOk q In Out hd k) (t v : Int) :
    (q.holdE t = 0 ∧ 0 ≤ t ∧ t < 64 ∧ OrdOk (q.hold t v) In Out (hd.set t.toNat v) (k + 1)) ∨ (q.holdE t = 1 ∧ OrdOk (q.hold t v) In Out hd (k + 1)) := by
  have hk := mqOk_hold h.ok t v
  have hli := h.li
  have hlo := h.lo
  by_cases hw : q.n < q.room ∨ q.waits t
  · refine .inr ⟨if_pos hw, ?_⟩
    rw [show q.hold t v = q from if_pos hw]
    exact ⟨h.ok, h.eq, h.hl, h.hh, by omega, by omega⟩
  · by_cases ha : addOk q.S t
    · refine .inl ⟨(if_neg hw).trans (if_pos ha), ha.1, ha.2.1, ?_⟩
      have e : q.hold t v = { q with S := addOne q.S t, H := q.H.set t.toNat v } := (if_neg hw).trans (if_pos ha)
      rw [e] at hk ⊢
      refine ⟨hk, h.eq, by rw [List.length_set]; exact h.hl, fun x hx => ?_, by omega, by omega⟩
      have hx : x ∈ q.S ++ [t] := by rw [← (if_pos ha : addOne q.S t = _)]; exact hx
      have h1 := ha.1; have h2 := ha.2.1
      rcases List.mem_append.1 hx with hx | hx
      · have hne : t.toNat ≠ x.toNat := by
          have := (h.ok.s.2 x hx).1
          intro e
          have : t = x := by omega
          exact ha.2.2 (this ▸ hx)
        have := h.hh x hx
        simp only [List.getD, List.getElem?_set_ne hne] at this ⊢
        exact this
      · obtain rfl : x = t := by simpa using hx
        simp [List.getD, List.getElem?_set_self (show x.toNat < q.H.length by rw [h.ok.h]; omega), List.getElem?_set_self (show x.toNat < hd.length by rw [h.hl]; omega)]
    · refine .inr ⟨(if_neg hw).trans (if_neg ha), ?_⟩
      rw [show q.hold t v = q from (if_neg hw).trans (if_neg ha)]
      exact ⟨h.ok, h.eq, h.hl, h.hh, by omega, by omega⟩
theorem ord_recv {q : Mq} {In Out hd : List Int} {k : Nat} (h : OrdOk q In Out hd k) :
    (q.recvE = 8 ∧ q.recvT [] = 255 ∧ OrdOk (q.recv []) In Out hd (k + 1)) ∨ (q.recvE = 0 ∧ q.recvT [] = 255 ∧ OrdOk (q.recv []) In (Out ++ [q.recvV]) hd (k + 1)) ∨
    (q.recvE = 0 ∧ ∃ m : Nat, m < 64 ∧ q.recvT [] = (m : Int) ∧ OrdOk (q.recv []) (In ++ [hd.getD m 0]) (Out ++ [q.recvV]) hd (k + 1)) := by
  have hk := mqOk_recv h.ok []
  have hli := h.li
  have hlo := h.lo
  have heq := h.eq
  have hn1 := h.ok.n; have hhi := h.ok.hi
  by_cases hn : q.n = 0
  · refine .inl ⟨if_pos hn, if_pos (.inl hn), ?_⟩
    rw [show q.recv [] = q from if_pos hn]
    exact ⟨h.ok, h.eq, h.hl, h.hh, by omega, by omega⟩
  · have hv : q.recvV = q.C.getD q.f 0 := if_neg hn
    have hp := msgs_pop h.ok hn
    rw [hp] at heq
    by_cases hS : q.S = []
    · refine .inr (.inl ⟨if_neg hn, if_pos (.inr hS), ?_⟩)
      have e : q.recv [] = q.pop := (if_neg hn).trans (if_pos hS)
      rw [e] at hk ⊢
      exact ⟨hk, by rw [heq, hv]; simp, h.hl, (fun t ht => by rw [show q.pop.S = q.S from rfl, hS] at ht; cases ht), by omega, by simp; omega⟩
    · have hin := best_in [] q.S hS
      have hb := h.ok.s.2 _ hin
      refine .inr (.inr ⟨if_neg hn, (bestOf [] q.S).toNat, by omega, ?_, ?_⟩)
      · rw [Int.toNat_of_nonneg hb.1]
        exact if_neg (by simp [hn, hS])
      · have e : q.recv [] = (q.take []).push (q.H.getD (bestOf [] q.S).toNat 0) := (if_neg hn).trans (if_neg hS)
        rw [h.hh _ hin]
        have e5 : msgs ((q.take []).push (q.H.getD (bestOf [] q.S).toNat 0)) = msgs q.pop ++ [q.H.getD (bestOf [] q.S).toNat 0] := by
          rw [msgs_push (q := q.take []) ⟨h.ok.c, Nat.mod_lt _ (by decide), by show q.n - 1 ≤ q.room; omega, hhi⟩ (by show q.n - 1 < 64; omega)]; rfl
        rw [e] at hk ⊢
        exact ⟨hk, by rw [e5, heq, hv]; simp, h.hl, fun t ht => h.hh t (List.mem_of_mem_erase ht), by simp; omega, by simp; omega⟩
theorem ord_await {q : Mq} {In Out hd : List Int} {k : Nat} (h : OrdOk q In Out hd k) (t : Int) : OrdOk (q.await t) In Out hd (k + 1) := by
  have hk := mqOk_await h.ok t
  have hli := h.li
  have hlo := h.lo
  have e : msgs (q.await t) = msgs q ∧ (q.await t).S = q.S ∧ (q.await t).H = q.H := by unfold Mq.await; split <;> exact ⟨rfl, rfl, rfl⟩
  exact ⟨hk, by rw [e.1]; exact h.eq, h.hl, by rw [e.2.1, e.2.2]; exact h.hh, by omega, by omega⟩
theorem ord_cancel {q : Mq} {In Out hd : List Int} {k : Nat} (h : OrdOk q In Out hd k) (t : Int) : OrdOk (q.cancel t) In Out hd (k + 1) := by
  have hk := mqOk_cancel h.ok t
  have hli := h.li
  have hlo := h.lo
  have e : msgs (q.cancel t) = msgs q ∧ (∀ x ∈ (q.cancel t).S, x ∈ q.S) ∧ (q.cancel t).H = q.H := by
    unfold Mq.cancel; split
    · exact ⟨rfl, fun x hx => List.mem_of_mem_erase hx, rfl⟩
    · exact ⟨rfl, fun x hx => hx, rfl⟩
  exact ⟨hk, by rw [e.1]; exact h.eq, h.hl, fun x hx => by rw [e.2.2]; exact h.hh x (e.2.1 x hx), by omega, by omega⟩
theorem ord_skip {q : Mq} {In Out hd : List Int} {k : Nat} (h : OrdOk q In Out hd k) : OrdOk q In Out hd (k + 1) :=
  ⟨h.ok, h.eq, h.hl, h.hh, Nat.le_succ_of_le h.li, Nat.le_succ_of_le h.lo⟩

set_option linter.unusedSimpArgs false in
set_option maxRecDepth 100000 in
set_option maxHeartbeats 16000000 in
theorem mailOrder_walk (u : Int) (v0 : Value) (n0 : Nat) (f0 : Nat → Nat → Int) (w0 : World) (_z0 : (Lit.int .i64 u).wf = true) (h0 : RdK [.i64, .i64, .u32] w0 v0 n0 f0) :
    Calls Try.prog 13 #[.int .i64 u, v0] w0 (RetV w0 (.bool true) emp) := by
  have hs := Sat.start w0
  obtain ⟨a, cap, b, off, rfl, hcap, hbig, ha, hc⟩ := id h0
  unfold maxLen at hbig
  by_cases hu : 1 ≤ u ∧ u ≤ 64
  · obtain ⟨room, rfl⟩ := Int.eq_ofNat_of_zero_le (show 0 ≤ u by omega)
    by_cases c2 : 300 < n0
    · have d2 : decide ((300 : Int) < (n0 : Int)) = true := by simp; omega
      go_enter Try.func13, Try.ntmps13
      go_wp2_with fail
      refine (mailNew_yes room _ rfl w0 _ _ hs hu).mono ?_
      rintro e w1 ⟨rfl, hs1⟩
      go_wp2_with fail
      refine (mailAwake w0 _ _ hs1).mono ?_
      rintro e w2 ⟨rfl, hs2⟩
      go_wp2_with fail
      refine (mailAwake w0 _ _ hs2).mono ?_
      rintro e w2 ⟨rfl, hs2⟩
      go_wp2_with fail
      go_ret
      exact ⟨rfl, hs2.left⟩
    · have d2 : decide ((300 : Int) < (n0 : Int)) = false := by simp; omega
      have hok0 : MqOk ⟨List.replicate 64 0, 0, 0, room, [], [], List.replicate 64 0⟩ := mqOk_new (by omega)
      have ho0 : OrdOk ⟨List.replicate 64 0, 0, 0, room, [], [], List.replicate 64 0⟩ [] [] (List.replicate 64 0) 0 := ⟨hok0, rfl, by simp, fun t ht => (by cases ht), Nat.le_refl _, Nat.le_refl _⟩
      have hn300 : n0 ≤ 300 := by omega
      go_enter Try.func13, Try.ntmps13
      go_wp2_with fail
      refine (mailNew_yes room _ rfl w0 _ _ hs hu).mono ?_
      rintro e w1 ⟨rfl, hs1⟩
      go_wp2_with fail
      refine (mailAwake w0 _ _ hs1).mono ?_
      rintro e w2 ⟨rfl, hs2⟩
      generalize w0.heap.size = qb at *
      go_wp2_with fail
      refine wp_gen (w0 := w0) ?_
      intro w3 hs3
      generalize w2.heap.size = hb at *
      have hs3 : Sat w0 w3 (pts hb 0 ((List.replicate 64 0).map (Value.int .u32)) * (mqP qb ⟨List.replicate 64 0, 0, 0, room, [], [], List.replicate 64 0⟩ * emp)) := hs3
      go_loopw [7, 8, 40] (fun i1 i2 i wr => ∃ (k : Nat) (q : Mq) (In Out hd : List Int), k ≤ n0 ∧ i = .int .i64 k ∧ OrdOk q In Out hd k ∧ Sat w0 wr (mqP qb q * (numsP .u32 i1 In * (numsP .u32 i2 Out * (pts hb 0 (hd.map (Value.int .u32)) * any))))) (fun _ _ i _ => n0 - (intOf i).toNat)
      case atStart =>
        refine ⟨0, _, [], [], List.replicate 64 0, Nat.zero_le _, rfl, ho0, ?_⟩
        rw [numsP_nil, emp_star, emp_star]
        exact own_left
      case round =>
        obtain ⟨k, q, In, Out, hd, hk, rfl, hok, hs4⟩ := hrel
        clear hs hs1 hs2 hs3 hok0 ho0
        obtain ⟨b1, e1, rfl⟩ := (hs4.pull (Q := numsP .u32 u7 In)).slice_form
        obtain ⟨b2, e2, rfl⟩ := (hs4.pull (Q := numsP .u32 u8 Out)).slice_form
        have hIn := hok.li
        have hOut := hok.lo
        by_cases hlt : k < n0
        · obtain rfl := ha (by omega)
          have k0 := (hc k 0 _ hlt rfl).1
          have k1 := (hc k 1 _ hlt rfl).1
          have k2 := (hc k 2 _ hlt rfl).1
          simp only [List.length_cons, List.length_nil, Nat.zero_add, Nat.add_zero, ← Nat.add_assoc] at k0 k1 k2
          generalize f0 k 0 = kd at *
          generalize f0 k 1 = tk at *
          generalize f0 k 2 = vv at *
          haveI o0 : Old w0 b (off + k * 3) (.int .i64 kd) := ⟨k0⟩
          haveI o1 : Old w0 b (off + k * 3 + 1) (.int .i64 tk) := ⟨k1⟩
          haveI o2 : Old w0 b (off + k * 3 + 2) (.int .u32 vv) := ⟨k2⟩
          clear k0 k1 k2 hc ha
          by_cases k1 : kd = 1
          · subst k1
            have hcs := ord_send hok vv
            go_wp2_with fail
            refine (mailSend qb q vv _ [] w0 _ _ own (rdNil _ _) hok.ok).mono ?_
            rintro e w3 ⟨rfl, hs7⟩
            rcases hcs with ⟨hE, hT, hok'⟩ | ⟨hE, hT, hok'⟩ | ⟨hE, hok'⟩
            · rw [hE, hT]
              clear hE hT
              go_wp2_with (first | (at_builtin; refine wpList_append_nums rfl rfl rfl rfl (by omega) ?_; intro ap ac aL aw ahL ah1 ah2 ahs _) | (refine wpList_slice_from rfl rfl rfl rfl (by omega) (by omega) ?_; intro px pc pL php phL ph1 ph2) | (refine wpList_slice_to rfl rfl rfl rfl (by omega) (by omega) ?_; intro px pc pL php phL ph1 ph2))
              go_roundw
              case rel =>
                refine ⟨k + 1, _, _, _, _, by omega, by go_num, hok', ?_⟩
                obtain rfl := ahL.out
                exact own_left
              case measure => simp [intOf]; omega
            · rw [hE]
              clear hE
              generalize q.sendT [] = tt at *
              have hbt : (tt == 255) = false := by simp [hT]
              go_wp2_with (first | (at_builtin; refine wpList_append_nums rfl rfl rfl rfl (by omega) ?_; intro ap ac aL aw ahL ah1 ah2 ahs _) | (refine wpList_slice_from rfl rfl rfl rfl (by omega) (by omega) ?_; intro px pc pL php phL ph1 ph2) | (refine wpList_slice_to rfl rfl rfl rfl (by omega) (by omega) ?_; intro px pc pL php phL ph1 ph2))
              go_roundw
              case rel => exact ⟨k + 1, _, _, _, _, by omega, by go_num, hok', own_left⟩
              case measure => simp [intOf]; omega
            · rw [hE]
              clear hE
              generalize q.sendT [] = tt at *
              go_wp2_with (first | (at_builtin; refine wpList_append_nums rfl rfl rfl rfl (by omega) ?_; intro ap ac aL aw ahL ah1 ah2 ahs _) | (refine wpList_slice_from rfl rfl rfl rfl (by omega) (by omega) ?_; intro px pc pL php phL ph1 ph2) | (refine wpList_slice_to rfl rfl rfl rfl (by omega) (by omega) ?_; intro px pc pL php phL ph1 ph2))
              go_roundw
              case rel => exact ⟨k + 1, _, _, _, _, by omega, by go_num, hok', own_left⟩
              case measure => simp [intOf]; omega
          · have b1 : (kd == 1) = false := by simp [k1]
            by_cases k2 : kd = 2
            · subst k2
              have hcs := ord_hold hok tk vv
              go_wp2_with fail
              refine (mailHold qb q tk vv w0 _ _ own hok.ok).mono ?_
              rintro e w3 ⟨rfl, hs7⟩
              rcases hcs with ⟨hE, ht0, ht1, hok'⟩ | ⟨hE, hok'⟩
              · rw [hE]
                clear hE
                obtain ⟨m, rfl⟩ := Int.eq_ofNat_of_zero_le ht0
                rw [Int.toNat_natCast] at hok'
                haveI : Lt m hd.length := ⟨by rw [hok.hl]; omega⟩
                have hm : m < 64 := by omega
                have d64 : decide (m < 64) = true := by simp [hm]
                go_wp2_with (first | (at_builtin; refine wpList_append_nums rfl rfl rfl rfl (by omega) ?_; intro ap ac aL aw ahL ah1 ah2 ahs _) | (refine wpList_slice_from rfl rfl rfl rfl (by omega) (by omega) ?_; intro px pc pL php phL ph1 ph2) | (refine wpList_slice_to rfl rfl rfl rfl (by omega) (by omega) ?_; intro px pc pL php phL ph1 ph2))
                go_roundw
                case rel => exact ⟨k + 1, _, _, _, _, by omega, by go_num, hok', own_left⟩
                case measure => simp [intOf]; omega
              · rw [hE]
                clear hE
                go_wp2_with (first | (at_builtin; refine wpList_append_nums rfl rfl rfl rfl (by omega) ?_; intro ap ac aL aw ahL ah1 ah2 ahs _) | (refine wpList_slice_from rfl rfl rfl rfl (by omega) (by omega) ?_; intro px pc pL php phL ph1 ph2) | (refine wpList_slice_to rfl rfl rfl rfl (by omega) (by omega) ?_; intro px pc pL php phL ph1 ph2))
                go_roundw
                case rel => exact ⟨k + 1, _, _, _, _, by omega, by go_num, hok', own_left⟩
                case measure => simp [intOf]; omega
            · have b2 : (kd == 2) = false := by simp [k2]
              by_cases k3 : kd = 3
              · subst k3
                have hcs := ord_recv hok
                go_wp2_with fail
                refine (mailRecv qb q _ [] w0 _ _ own (fun w _ => rdNil _ w) hok.ok).mono ?_
                rintro e w3 ⟨rfl, hs7⟩
                rcases hcs with ⟨hE, hT, hok'⟩ | ⟨hE, hT, hok'⟩ | ⟨hE, m, hm, hT, hok'⟩
                · rw [hE, hT]
                  clear hE hT
                  go_wp2_with (first | (at_builtin; refine wpList_append_nums rfl rfl rfl rfl (by omega) ?_; intro ap ac aL aw ahL ah1 ah2 ahs _) | (refine wpList_slice_from rfl rfl rfl rfl (by omega) (by omega) ?_; intro px pc pL php phL ph1 ph2) | (refine wpList_slice_to rfl rfl rfl rfl (by omega) (by omega) ?_; intro px pc pL php phL ph1 ph2))
                  go_roundw
                  case rel => exact ⟨k + 1, _, _, _, _, by omega, by go_num, hok', own_left⟩
                  case measure => simp [intOf]; omega
                · rw [hE, hT]
                  clear hE hT
                  generalize q.recvV = xv at *
                  go_wp2_with (first | (at_builtin; refine wpList_append_nums rfl rfl rfl rfl (by omega) ?_; intro ap ac aL aw ahL ah1 ah2 ahs _) | (refine wpList_slice_from rfl rfl rfl rfl (by omega) (by omega) ?_; intro px pc pL php phL ph1 ph2) | (refine wpList_slice_to rfl rfl rfl rfl (by omega) (by omega) ?_; intro px pc pL php phL ph1 ph2))
                  go_roundw
                  case rel =>
                    refine ⟨k + 1, _, _, _, _, by omega, by go_num, hok', ?_⟩
                    obtain rfl := ahL.out
                    exact own_left
                  case measure => simp [intOf]; omega
                · rw [hE, hT]
                  clear hE hT
                  generalize q.recvV = xv at *
                  haveI : Lt m hd.length := ⟨by rw [hok.hl]; exact hm⟩
                  have d64 : decide (m < 64) = true := by simp [hm]
                  have hb2 : ((m : Int) != 255) = true := by simp; omega
                  generalize hhx : hd.getD m 0 = hx at hok'
                  haveI hcell : Cell (pts hb 0 (hd.map (Value.int .u32))) hb m (.int .u32 hx) := hhx ▸ inferInstance
                  go_wp2_with (first | (at_builtin; refine wpList_append_nums rfl rfl rfl rfl (by omega) ?_; intro ap ac aL aw ahL ah1 ah2 ahs _) | (refine wpList_slice_from rfl rfl rfl rfl (by omega) (by omega) ?_; intro px pc pL php phL ph1 ph2) | (refine wpList_slice_to rfl rfl rfl rfl (by omega) (by omega) ?_; intro px pc pL php phL ph1 ph2))
                  go_roundw
                  case rel =>
                    refine ⟨k + 1, _, _, _, _, by omega, by go_num, hok', ?_⟩
                    unfold Hid at *
                    subst_vars
                    exact own_left
                  case measure => simp [intOf]; omega
              · have b3 : (kd == 3) = false := by simp [k3]
                by_cases k4 : kd = 4
                · subst k4
                  go_wp2_with fail
                  refine (mailAwait qb q tk w0 _ _ own hok.ok).mono ?_
                  rintro e w3 ⟨rfl, hs7⟩
                  go_wp2_with fail
                  go_roundw
                  case rel => exact ⟨k + 1, _, _, _, _, by omega, by go_num, ord_await hok tk, own_left⟩
                  case measure => simp [intOf]; omega
                · have b4 : (kd == 4) = false := by simp [k4]
                  by_cases k5 : kd = 5
                  · subst k5
                    go_wp2_with fail
                    refine (mailCancel qb q tk w0 _ _ own hok.ok).mono ?_
                    rintro e w3 ⟨rfl, hs7⟩
                    go_wp2_with fail
                    go_roundw
                    case rel => exact ⟨k + 1, _, _, _, _, by omega, by go_num, ord_cancel hok tk, own_left⟩
                    case measure => simp [intOf]; omega
                  · have b5 : (kd == 5) = false := by simp [k5]
                    go_wp2_with fail
                    go_roundw
                    case rel => exact ⟨k + 1, _, _, _, _, by omega, by go_num, ord_skip hok, own_left⟩
                    case measure => simp [intOf]; omega
        · have hml := msgs_len q
          have hn64 := hok.ok.n; have hhi := hok.ok.hi
          go_wp2_with fail
          refine (mailList qb q w0 _ _ own hok.ok).mono ?_
          rintro e w5 ⟨v5, rfl, hs7⟩
          obtain ⟨a5, c5, rfl⟩ := hs7.slice_form
          have hm64 : (msgs q).length ≤ 64 := by omega
          clear hml
          go_wp2_with (first | (at_builtin; refine wpList_append_nums rfl rfl rfl rfl (by omega) ?_; intro ap ac aL aw ahL ah1 ah2 ahs _) | (refine wpList_slice_from rfl rfl rfl rfl (by omega) (by omega) ?_; intro px pc pL php phL ph1 ph2) | (refine wpList_slice_to rfl rfl rfl rfl (by omega) (by omega) ?_; intro px pc pL php phL ph1 ph2))
          refine (same19 _ _ In aL _ rd rd).mono ?_
          rintro e w6 ⟨rfl, n6, rfl⟩
          rw [decide_eq_true (hok.eq.trans ahL.out.symm : In = aL)]
          go_wp2_with fail
          go_ret
          exact ⟨rfl, own_left⟩
  · go_enter Try.func13, Try.ntmps13
    go_wp2_with fail
    refine (mailNew_no u _ hu).mono ?_
    rintro e w1 ⟨rfl, rfl⟩
    go_wp2_with fail
    refine (mailAwake w0 _ _ hs).mono ?_
    rintro e w2 ⟨rfl, hs2⟩
    go_wp2_with fail
    refine (mailAwake w0 _ _ hs2).mono ?_
    rintro e w2 ⟨rfl, hs2⟩
    go_wp2_with fail
    go_ret
    exact ⟨rfl, hs2⟩
end Go.Proofs.Ytbnfkfbebnkdnaa
