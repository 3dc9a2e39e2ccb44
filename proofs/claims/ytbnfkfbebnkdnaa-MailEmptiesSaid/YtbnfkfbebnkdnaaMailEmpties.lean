/-
  The walk of MailEmpties.
-/
import Derived.Test.YtbnfkfbebnkdnaaMailRests
import Derived.Test.YtbnfkfbebnkdnaaMailT
namespace Go.Proofs.Ytbnfkfbebnkdnaa
open Go.RowKit Go.Sx

/-- How many are to come. -/
def Mq.left (q : Mq) : Nat := (msgs q).length + q.S.length
theorem left_recv {q : Mq} (h : MqOk q) (lv : List Int) (hl : 0 < q.left) : q.recvE = 0 ∧ (q.recv lv).left + 1 = q.left := by
  have hml := msgs_len q
  have hlo := h.lo
  have hn : q.n ≠ 0 := by
    intro hn
    have : q.S = [] := h.full (by omega)
    unfold Mq.left at hl
    rw [this] at hl
    simp at hl; omega
  refine ⟨if_neg hn, ?_⟩
  by_cases hS : q.S = []
  · rw [show q.recv lv = q.pop from (if_neg hn).trans (if_pos hS)]
    have h1 := msgs_len q.pop
    have h2 : q.pop.n = q.n - 1 := rfl
    have h3 : q.pop.S = q.S := rfl
    unfold Mq.left
    rw [h1, h2, h3, hml]; omega
  · rw [show q.recv lv = (q.take lv).push (q.H.getD (bestOf lv q.S).toNat 0) from (if_neg hn).trans (if_neg hS)]
    have h1 := msgs_len ((q.take lv).push (q.H.getD (bestOf lv q.S).toNat 0))
    have h2 : ((q.take lv).push (q.H.getD (bestOf lv q.S).toNat 0)).n = q.n - 1 + 1 := rfl
    have h3 : ((q.take lv).push (q.H.getD (bestOf lv q.S).toNat 0)).S = q.S.erase (bestOf lv q.S) := rfl
    have h4 := List.length_erase_of_mem (best_in lv q.S hS)
    have h5 : 0 < q.S.length := List.length_pos_iff.2 hS
    unfold Mq.left
    rw [h1, h2, h3, hml, h4]; omega
theorem left_none {q : Mq} (hl : q.left = 0) (lv : List Int) : q.recvE = 8 ∧ q.recvT lv = 255 ∧ q.recv lv = q ∧ msgs q = [] ∧ q.S = [] := by
  have hml := msgs_len q
  unfold Mq.left at hl
  have h1 : (msgs q).length = 0 := by omega
  have hn : q.n = 0 := by omega
  exact ⟨if_pos hn, if_pos (.inl hn), if_pos hn, List.eq_nil_of_length_eq_zero h1, List.eq_nil_of_length_eq_zero (by omega)⟩

set_option linter.unusedSimpArgs false in
set_option maxRecDepth 100000 in
set_option maxHeartbeats 16000000 in
theorem mailEmpties_walk (u : Int) (v1 : Value) (l1 : List Int) (v0 : Value) (n0 : Nat) (f0 : Nat → Nat → Int) (w0 : World) (_z0 : (Lit.int .i64 u).wf = true) (h1 : RdN .i64 w0 v1 l1) (_z1 : ∀ n ∈ l1, (Lit.int .i64 n).wf = true) (h0 : RdK [.i64, .i64, .u32] w0 v0 n0 f0) :
    Calls Try.prog 14 #[.int .i64 u, v1, v0] w0 (RetV w0 (.bool true) emp) := by
  have hs := Sat.start w0
  haveI r1 : OldR w0 .i64 v1 l1 := ⟨h1⟩
  obtain ⟨a, cap, b, off, rfl, hcap, hbig, ha, hc⟩ := id h0
  obtain ⟨la, lcap, lb, loff, rfl, hlcap, hlbig, hla, hlc⟩ := id h1
  unfold maxLen at hbig hlbig
  by_cases hu : 1 ≤ u ∧ u ≤ 64
  · obtain ⟨room, rfl⟩ := Int.eq_ofNat_of_zero_le (show 0 ≤ u by omega)
    by_cases c1 : 100 < l1.length
    · have d1 : decide ((100 : Int) < (l1.length : Int)) = true := by simp; omega
      go_enter Try.func14, Try.ntmps14
      go_wp2_with fail
      refine (mailNew_yes room _ rfl w0 _ _ hs hu).mono ?_
      rintro e w1 ⟨rfl, hs1⟩
      go_wp2_with fail
      refine (mailAwake w0 _ _ hs1).mono ?_
      rintro e w2 ⟨rfl, hs2⟩
      go_wp2_with fail
      refine (mailAwake w0 _ _ hs2).mono ?_
      rintro e w2 ⟨rfl, hs2⟩
      go_wp2_with fail
      go_ret
      exact ⟨rfl, hs2.drop⟩
    · have d1 : decide ((100 : Int) < (l1.length : Int)) = false := by simp; omega
      by_cases c2 : 300 < n0
      · have d2 : decide ((300 : Int) < (n0 : Int)) = true := by simp; omega
        go_enter Try.func14, Try.ntmps14
        go_wp2_with fail
        refine (mailNew_yes room _ rfl w0 _ _ hs hu).mono ?_
        rintro e w1 ⟨rfl, hs1⟩
        go_wp2_with fail
        refine (mailAwake w0 _ _ hs1).mono ?_
        rintro e w2 ⟨rfl, hs2⟩
        go_wp2_with fail
        refine (mailAwake w0 _ _ hs2).mono ?_
        rintro e w2 ⟨rfl, hs2⟩
        go_wp2_with fail
        go_ret
        exact ⟨rfl, hs2.drop⟩
      · have d2 : decide ((300 : Int) < (n0 : Int)) = false := by simp; omega
        have hok0 : MqOk ⟨List.replicate 64 0, 0, 0, room, [], [], List.replicate 64 0⟩ := mqOk_new (by omega)
        go_enter Try.func14, Try.ntmps14
        go_wp2_with fail
        refine (mailNew_yes room _ rfl w0 _ _ hs hu).mono ?_
        rintro e w1 ⟨rfl, hs1⟩
        go_wp2_with fail
        refine (mailAwake w0 _ _ hs1).mono ?_
        rintro e w2 ⟨rfl, hs2⟩
        generalize w0.heap.size = qb at *
        go_wp2_with fail
        go_loopw [46] (fun i wr => ∃ (k : Nat) (q : Mq), k ≤ n0 ∧ i = .int .i64 k ∧ MqOk q ∧ Sat w0 wr (mqP qb q * any)) (fun i _ => n0 - (intOf i).toNat)
        case atStart => exact ⟨0, _, Nat.zero_le _, rfl, hok0, own_any⟩
        case round =>
          obtain ⟨k, q, hk, rfl, hok, hs4⟩ := hrel
          clear hs hs1 hs2 hok0
          by_cases hlt : k < n0
          · obtain rfl := ha (by omega)
            have k0 := (hc k 0 _ hlt rfl).1
            have k1 := (hc k 1 _ hlt rfl).1
            have k2 := (hc k 2 _ hlt rfl).1
            simp only [List.length_cons, List.length_nil, Nat.zero_add, Nat.add_zero, ← Nat.add_assoc] at k0 k1 k2
            generalize f0 k 0 = kd at *
            generalize f0 k 1 = tk at *
            generalize f0 k 2 = vv at *
            haveI o0 : Old w0 b (off + k * 3) (.int .i64 kd) := ⟨k0⟩
            haveI o1 : Old w0 b (off + k * 3 + 1) (.int .i64 tk) := ⟨k1⟩
            haveI o2 : Old w0 b (off + k * 3 + 2) (.int .u32 vv) := ⟨k2⟩
            clear k0 k1 k2 hc ha hla hlc
            by_cases k1 : kd = 1
            · subst k1
              go_wp2_with fail
              refine (mailSend qb q vv _ l1 w0 _ _ own rd hok).mono ?_
              rintro e w3 ⟨rfl, hs7⟩
              go_wp2_with fail
              go_roundw
              case rel => exact ⟨k + 1, _, by omega, by go_num, mqOk_send hok l1 vv, own_any⟩
              case measure => simp [intOf]; omega
            · have b1 : (kd == 1) = false := by simp [k1]
              by_cases k2 : kd = 2
              · subst k2
                go_wp2_with fail
                refine (mailHold qb q tk vv w0 _ _ own hok).mono ?_
                rintro e w3 ⟨rfl, hs7⟩
                go_wp2_with fail
                go_roundw
                case rel => exact ⟨k + 1, _, by omega, by go_num, mqOk_hold hok tk vv, own_any⟩
                case measure => simp [intOf]; omega
              · have b2 : (kd == 2) = false := by simp [k2]
                go_wp2_with fail
                go_roundw
                case rel => exact ⟨k + 1, _, by omega, by go_num, hok, own_any⟩
                case measure => simp [intOf]; omega
          · have hml := msgs_len q
            have hn64 := hok.n
            have hhi := hok.hi
            have hlS := rowOk_len hok.s
            have hm64 : (msgs q).length ≤ 64 := by omega
            clear hml hc ha hla hlc
            go_wp2_with fail
            refine (mailList qb q w0 _ _ own hok).mono ?_
            rintro e w5 ⟨v5, rfl, hs7⟩
            obtain ⟨a5, c5, rfl⟩ := hs7.slice_form
            go_wp2_with fail
            refine (mailSenders qb q w0 _ _ own hok).mono ?_
            rintro e w6 ⟨v6, rfl, hs8⟩
            obtain ⟨a6, c6, rfl⟩ := hs8.slice_form
            have e0 : ((msgs q).length : Int) + (q.S.length : Int) = (q.left : Int) := by simp [Mq.left]
            have e0' : ((msgs q).length : Int) + (q.S.length : Int) = (((msgs q).length + q.S.length : Nat) : Int) := by simp
            generalize hN : (msgs q).length + q.S.length = N at *
            have HN : q.left = N := hN
            have HN := hid HN
            clear hN
            go_wp2_with fail
            go_loopw [76] (fun i wr => ∃ (k : Nat) (q : Mq), k ≤ N ∧ i = .int .i64 k ∧ MqOk q ∧ q.left = N - k ∧ Sat w0 wr (mqP qb q * any)) (fun i _ => N - (intOf i).toNat)
            case atStart => exact ⟨0, q, Nat.zero_le _, rfl, hok, HN.out, own_any⟩
            case round =>
              obtain ⟨k, q2, hk2, rfl, hok2, hleft, hs9⟩ := hrel
              by_cases hlt2 : k < N
              · obtain ⟨hE, hL⟩ := left_recv hok2 l1 (by omega)
                have HL := hid (show (q2.recv l1).left = N - (k + 1) by omega)
                clear hleft hL
                go_wp2_with fail
                refine (mailRecv qb q2 _ l1 w0 _ _ own stays_old hok2).mono ?_
                rintro e w3 ⟨rfl, hsA⟩
                rw [hE]
                generalize q2.recvT l1 = tt
                generalize q2.recvV = xv
                clear hE
                go_wp2_with fail
                go_roundw
                case rel => exact ⟨k + 1, _, by omega, by go_num, mqOk_recv hok2 l1, HL.out, own_any⟩
                case measure => simp [intOf]; omega
              · obtain ⟨hE, hT, hR, hm, hS⟩ := left_none (show q2.left = 0 by omega) l1
                have Hm := hid hm
                have HS := hid hS
                clear hleft hm hS
                go_wp2_with fail
                refine (mailRecv qb q2 _ l1 w0 _ _ own stays_old hok2).mono ?_
                rintro e w3 ⟨rfl, hsA⟩
                rw [hE, hT]
                rw [hR] at hsA
                generalize q2.recvV = xv
                clear hE hT hR
                go_wp2_with fail
                refine (mailList qb q2 w0 _ _ own hok2).mono ?_
                rintro e w5 ⟨v5, rfl, hsB⟩
                rw [Hm.out] at hsB
                obtain ⟨a7, c7, rfl⟩ := hsB.slice_form
                go_wp2_with fail
                refine (mailSenders qb q2 w0 _ _ own hok2).mono ?_
                rintro e w6 ⟨v6, rfl, hsC⟩
                rw [HS.out] at hsC
                obtain ⟨a8, c8, rfl⟩ := hsC.slice_form
                go_wp2_with fail
                go_ret
                exact ⟨rfl, own_left⟩
  · have hu : ¬ (1 ≤ u ∧ u ≤ 64) := hu
    go_enter Try.func14, Try.ntmps14
    go_wp2_with fail
    refine (mailNew_no u _ hu).mono ?_
    rintro e w1 ⟨rfl, rfl⟩
    go_wp2_with fail
    refine (mailAwake w0 _ _ hs).mono ?_
    rintro e w2 ⟨rfl, hs2⟩
    go_wp2_with fail
    refine (mailAwake w0 _ _ hs2).mono ?_
    rintro e w3 ⟨rfl, hs3⟩
    go_wp2_with fail
    go_ret
    exact ⟨rfl, hs3⟩
end Go.Proofs.Ytbnfkfbebnkdnaa
