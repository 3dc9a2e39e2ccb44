/-
  The walk of MailRests.
-/
import Derived.Test.YtbnfkfbebnkdnaaMailLawA
import Derived.Test.YtbnfkfbebnkdnaaAuto
namespace Go.Proofs.Ytbnfkfbebnkdnaa
open Go.RowKit Go.Sx

theorem room_send (q : Mq) (lv : List Int) (v : Int) : (q.send lv v).room = q.room := by unfold Mq.send; split; rfl; split <;> rfl
theorem room_hold (q : Mq) (t v : Int) : (q.hold t v).room = q.room := by unfold Mq.hold; split; rfl; split <;> rfl
theorem room_recv (q : Mq) (lv : List Int) : (q.recv lv).room = q.room := by unfold Mq.recv; split; rfl; split <;> rfl
theorem room_await (q : Mq) (t : Int) : (q.await t).room = q.room := by unfold Mq.await; split <;> rfl
theorem room_cancel (q : Mq) (t : Int) : (q.cancel t).room = q.room := by unfold Mq.cancel; split <;> rfl

set_option linter.unusedSimpArgs false in
set_option maxRecDepth 100000 in
set_option maxHeartbeats 8000000 in
theorem mailRests_walk (u : Int) (v1 : Value) (l1 : List Int) (v0 : Value) (n0 : Nat) (f0 : Nat → Nat → Int) (w0 : World) (_z0 : (Lit.int .i64 u).wf = true) (h1 : RdN .i64 w0 v1 l1) (_z1 : ∀ n ∈ l1, (Lit.int .i64 n).wf = true) (h0 : RdK [.i64, .i64, .u32] w0 v0 n0 f0) :
    Calls Try.prog 16 #[.int .i64 u, v1, v0] w0 (RetV w0 (.bool true) emp) := by
  have hs := Sat.start w0
  haveI r1 : OldR w0 .i64 v1 l1 := ⟨h1⟩
  obtain ⟨a, cap, b, off, rfl, hcap, hbig, ha, hc⟩ := id h0
  obtain ⟨la, lcap, lb, loff, rfl, hlcap, hlbig, hla, hlc⟩ := id h1
  unfold maxLen at hbig hlbig
  by_cases hu : 1 ≤ u ∧ u ≤ 64
  · obtain ⟨room, rfl⟩ := Int.eq_ofNat_of_zero_le (show 0 ≤ u by omega)
    by_cases c1 : 100 < l1.length
    · have d1 : decide ((100 : Int) < (l1.length : Int)) = true := by simp; omega
      go_enter Try.func16, Try.ntmps16
      go_wp2_with fail
      refine (mailNew_yes room _ rfl w0 _ _ hs hu).mono ?_
      rintro e w1 ⟨rfl, hs1⟩
      go_wp2_with fail
      refine (mailAwake w0 _ _ hs1).mono ?_
      rintro e w2 ⟨rfl, hs2⟩
      go_wp2_with fail
      refine (mailAwake w0 _ _ hs2).mono ?_
      rintro e w2 ⟨rfl, hs2⟩
      go_wp2_with fail
      go_ret
      exact ⟨rfl, hs2.drop⟩
    · have d1 : decide ((100 : Int) < (l1.length : Int)) = false := by simp; omega
      by_cases c2 : 300 < n0
      · have d2 : decide ((300 : Int) < (n0 : Int)) = true := by simp; omega
        go_enter Try.func16, Try.ntmps16
        go_wp2_with fail
        refine (mailNew_yes room _ rfl w0 _ _ hs hu).mono ?_
        rintro e w1 ⟨rfl, hs1⟩
        go_wp2_with fail
        refine (mailAwake w0 _ _ hs1).mono ?_
        rintro e w2 ⟨rfl, hs2⟩
        go_wp2_with fail
        refine (mailAwake w0 _ _ hs2).mono ?_
        rintro e w2 ⟨rfl, hs2⟩
        go_wp2_with fail
        go_ret
        exact ⟨rfl, hs2.drop⟩
      · have d2 : decide ((300 : Int) < (n0 : Int)) = false := by simp; omega
        have hok0 : MqOk ⟨List.replicate 64 0, 0, 0, room, [], [], List.replicate 64 0⟩ := mqOk_new (by omega)
        go_enter Try.func16, Try.ntmps16
        go_wp2_with fail
        refine (mailNew_yes room _ rfl w0 _ _ hs hu).mono ?_
        rintro e w1 ⟨rfl, hs1⟩
        go_wp2_with fail
        refine (mailAwake w0 _ _ hs1).mono ?_
        rintro e w2 ⟨rfl, hs2⟩
        generalize w0.heap.size = qb at *
        go_wp2_with fail
        go_loopw [40] (fun i wr => ∃ (k : Nat) (q : Mq), k ≤ n0 ∧ i = .int .i64 k ∧ MqOk q ∧ q.room = room ∧ Sat w0 wr (mqP qb q * any)) (fun i _ => n0 - (intOf i).toNat)
        case atStart => exact ⟨0, _, Nat.zero_le _, rfl, hok0, rfl, own_any⟩
        case round =>
          obtain ⟨k, q, hk, rfl, hok, hroom, hs4⟩ := hrel
          clear hs hs1 hs2 hok0
          by_cases hlt : k < n0
          · obtain rfl := ha (by omega)
            have k0 := (hc k 0 _ hlt rfl).1
            have k1 := (hc k 1 _ hlt rfl).1
            have k2 := (hc k 2 _ hlt rfl).1
            simp only [List.length_cons, List.length_nil, Nat.zero_add, Nat.add_zero, ← Nat.add_assoc] at k0 k1 k2
            generalize f0 k 0 = kd at *
            generalize f0 k 1 = tk at *
            generalize f0 k 2 = vv at *
            haveI o0 : Old w0 b (off + k * 3) (.int .i64 kd) := ⟨k0⟩
            haveI o1 : Old w0 b (off + k * 3 + 1) (.int .i64 tk) := ⟨k1⟩
            haveI o2 : Old w0 b (off + k * 3 + 2) (.int .u32 vv) := ⟨k2⟩
            clear k0 k1 k2 hc ha hla hlc
            have Hroom := hid hroom
            clear hroom
            go_upto_block 2 with fail
            go_cut [40] (fun iv wx => ∃ q' : Mq, iv = .int .i64 k ∧ MqOk q' ∧ q'.room = q.room ∧ Sat w0 wx (mqP qb q' * any))
            case first =>
              by_cases k1 : kd = 1
              · subst k1
                go_wp2_with fail
                refine (mailSend qb q vv _ l1 w0 _ _ own rd hok).mono ?_
                rintro e w3 ⟨rfl, hs7⟩
                go_wp2_with fail
                go_meet
                exact ⟨_, rfl, mqOk_send hok l1 vv, room_send q l1 vv, own_any⟩
              · have b1 : (kd == 1) = false := by simp [k1]
                by_cases k2 : kd = 2
                · subst k2
                  go_wp2_with fail
                  refine (mailHold qb q tk vv w0 _ _ own hok).mono ?_
                  rintro e w3 ⟨rfl, hs7⟩
                  go_wp2_with fail
                  go_meet
                  exact ⟨_, rfl, mqOk_hold hok tk vv, room_hold q tk vv, own_any⟩
                · have b2 : (kd == 2) = false := by simp [k2]
                  by_cases k3 : kd = 3
                  · subst k3
                    go_wp2_with fail
                    refine (mailRecv qb q _ l1 w0 _ _ own stays_old hok).mono ?_
                    rintro e w3 ⟨rfl, hs7⟩
                    go_wp2_with fail
                    go_meet
                    exact ⟨_, rfl, mqOk_recv hok l1, room_recv q l1, own_any⟩
                  · have b3 : (kd == 3) = false := by simp [k3]
                    by_cases k4 : kd = 4
                    · subst k4
                      go_wp2_with fail
                      refine (mailAwait qb q tk w0 _ _ own hok).mono ?_
                      rintro e w3 ⟨rfl, hs7⟩
                      go_wp2_with fail
                      go_meet
                      exact ⟨_, rfl, mqOk_await hok tk, room_await q tk, own_any⟩
                    · have b4 : (kd == 4) = false := by simp [k4]
                      by_cases k5 : kd = 5
                      · subst k5
                        go_wp2_with fail
                        refine (mailCancel qb q tk w0 _ _ own hok).mono ?_
                        rintro e w3 ⟨rfl, hs7⟩
                        go_wp2_with fail
                        go_meet
                        exact ⟨_, rfl, mqOk_cancel hok tk, room_cancel q tk, own_any⟩
                      · have b5 : (kd == 5) = false := by simp [k5]
                        go_wp2_with fail
                        go_meet
                        exact ⟨q, rfl, hok, rfl, own_any⟩
            case rest =>
              obtain ⟨q', rfl, hok', hr', hs6⟩ := hcut
              have hml := msgs_len q'
              have hn := hok'.n
              have hroom : q'.room = room := hr'.trans Hroom.out
              clear hr'
              have e1 : decide (room < (msgs q').length) = false := by rw [decide_eq_false_iff_not]; omega
              by_cases f1 : q'.n < q'.room
              · have e2 : decide ((msgs q').length < room) = true := by rw [decide_eq_true_iff]; omega
                have e4 := hok'.full f1
                by_cases f2 : 0 < q'.n
                · have e3 : decide (0 < (msgs q').length) = true := by rw [decide_eq_true_iff]; omega
                  have e3' : decide ((0 : Int) < ((msgs q').length : Int)) = true := by rw [decide_eq_true_iff]; omega
                  have e5 := hok'.some f2
                  have Hr := hid hroom
                  have hm := hid hml
                  clear hroom hml
                  go_wp2_with fail
                  refine (mailList qb q' w0 _ _ own hok').mono ?_
                  rintro e w3 ⟨v3, rfl, hs7⟩
                  obtain ⟨a3, c3, rfl⟩ := hs7.slice_form
                  go_wp2_with fail
                  refine (mailSenders qb q' w0 _ _ own hok').mono ?_
                  rintro e w4 ⟨v4, rfl, hs8⟩
                  rw [e4] at hs8
                  obtain ⟨a4, c4, rfl⟩ := hs8.slice_form
                  go_wp2_with fail
                  refine (mailReceivers qb q' w0 _ _ own hok').mono ?_
                  rintro e w5 ⟨v5, rfl, hs9⟩
                  rw [e5] at hs9
                  obtain ⟨a5, c5, rfl⟩ := hs9.slice_form
                  go_wp2_with fail
                  go_roundw
                  case rel => exact ⟨k + 1, q', by omega, by go_num, hok', Hr.out, own_any⟩
                  case measure => simp [intOf]; omega
                · have e3 : decide (0 < (msgs q').length) = false := by rw [decide_eq_false_iff_not]; omega
                  have e3' : decide ((0 : Int) < ((msgs q').length : Int)) = false := by rw [decide_eq_false_iff_not]; omega
                  have Hr := hid hroom
                  have hm := hid hml
                  clear hroom hml
                  go_wp2_with fail
                  refine (mailList qb q' w0 _ _ own hok').mono ?_
                  rintro e w3 ⟨v3, rfl, hs7⟩
                  obtain ⟨a3, c3, rfl⟩ := hs7.slice_form
                  go_wp2_with fail
                  refine (mailSenders qb q' w0 _ _ own hok').mono ?_
                  rintro e w4 ⟨v4, rfl, hs8⟩
                  rw [e4] at hs8
                  obtain ⟨a4, c4, rfl⟩ := hs8.slice_form
                  go_wp2_with fail
                  go_roundw
                  case rel => exact ⟨k + 1, q', by omega, by go_num, hok', Hr.out, own_any⟩
                  case measure => simp [intOf]; omega
              · have e2 : decide ((msgs q').length < room) = false := by rw [decide_eq_false_iff_not]; omega
                by_cases f2 : 0 < q'.n
                · have e3 : decide (0 < (msgs q').length) = true := by rw [decide_eq_true_iff]; omega
                  have e3' : decide ((0 : Int) < ((msgs q').length : Int)) = true := by rw [decide_eq_true_iff]; omega
                  have e5 := hok'.some f2
                  have Hr := hid hroom
                  have hm := hid hml
                  clear hroom hml
                  go_wp2_with fail
                  refine (mailList qb q' w0 _ _ own hok').mono ?_
                  rintro e w3 ⟨v3, rfl, hs7⟩
                  obtain ⟨a3, c3, rfl⟩ := hs7.slice_form
                  go_wp2_with fail
                  refine (mailReceivers qb q' w0 _ _ own hok').mono ?_
                  rintro e w5 ⟨v5, rfl, hs9⟩
                  rw [e5] at hs9
                  obtain ⟨a5, c5, rfl⟩ := hs9.slice_form
                  go_wp2_with fail
                  go_roundw
                  case rel => exact ⟨k + 1, q', by omega, by go_num, hok', Hr.out, own_any⟩
                  case measure => simp [intOf]; omega
                · have e3 : decide (0 < (msgs q').length) = false := by rw [decide_eq_false_iff_not]; omega
                  have e3' : decide ((0 : Int) < ((msgs q').length : Int)) = false := by rw [decide_eq_false_iff_not]; omega
                  have Hr := hid hroom
                  have hm := hid hml
                  clear hroom hml
                  go_wp2_with fail
                  refine (mailList qb q' w0 _ _ own hok').mono ?_
                  rintro e w3 ⟨v3, rfl, hs7⟩
                  obtain ⟨a3, c3, rfl⟩ := hs7.slice_form
                  go_wp2_with fail
                  go_roundw
                  case rel => exact ⟨k + 1, q', by omega, by go_num, hok', Hr.out, own_any⟩
                  case measure => simp [intOf]; omega
          · go_wp2_with fail
            go_ret
            exact ⟨rfl, hs4.left⟩
  · have hu : ¬ (1 ≤ u ∧ u ≤ 64) := hu
    go_enter Try.func16, Try.ntmps16
    go_wp2_with fail
    refine (mailNew_no u _ hu).mono ?_
    rintro e w1 ⟨rfl, rfl⟩
    go_wp2_with fail
    refine (mailAwake w0 _ _ hs).mono ?_
    rintro e w2 ⟨rfl, hs2⟩
    go_wp2_with fail
    refine (mailAwake w0 _ _ hs2).mono ?_
    rintro e w3 ⟨rfl, hs3⟩
    go_wp2_with fail
    go_ret
    exact ⟨rfl, hs3⟩
end Go.Proofs.Ytbnfkfbebnkdnaa
