/-
  DeltaApart: the walk.
-/
import Derived.Test.YtfphgcplpokigaaDeltaI
namespace Go.Proofs.Ytfphgcplpokigaa
open Go.RowKit Go.Sx Go.Dl
attribute [local simp, local go_sem] zeroList zeroL_size zeroL_ne

structure ApOk (id : Int) (P Q : List Ck) : Prop where
  q : SOk Q
  e : P = delS id Q
theorem ApOk.p {id : Int} {P Q : List Ck} (h : ApOk id P Q) : SOk P := h.e ▸ sok_del h.q id
theorem ap_put {id : Int} {P Q : List Ck} (h : ApOk id P Q) (i t : Int) (hi : i ≠ id) : ApOk id (putS P i t) (putS Q i t) :=
  ⟨sok_putS h.q i t, by rw [del_put h.q, if_neg hi, h.e]⟩
theorem ap_put' {id : Int} {P Q : List Ck} (h : ApOk id P Q) (t : Int) : ApOk id P (putS Q id t) :=
  ⟨sok_putS h.q id t, by rw [del_put h.q, if_pos rfl, h.e]⟩
theorem ap_del {id : Int} {P Q : List Ck} (h : ApOk id P Q) (i : Int) : ApOk id (delS i P) (delS i Q) :=
  ⟨sok_del h.q i, by rw [h.e, del_comm]⟩
theorem ap_del' {id : Int} {P Q : List Ck} (h : ApOk id P Q) : ApOk id P (delS id Q) :=
  ⟨sok_del h.q id, by rw [del_idem, h.e]⟩
theorem ap_tick {id : Int} {P Q : List Ck} (h : ApOk id P Q) : ApOk id (tickS P) (tickS Q) :=
  ⟨sok_tick h.q, by rw [h.e, del_tick]⟩

set_option maxRecDepth 100000 in
set_option maxHeartbeats 16000000 in
theorem deltaApart_walk (v0 : Value) (n0 : Nat) (f0 : Nat → Nat → Int) (id : Int) (w0 : World) (h0 : RdK [.i64, .i64, .i64] w0 v0 n0 f0) (_z1 : (Lit.int .i64 id).wf = true) :
    Calls Try.prog 5 #[v0, .int .i64 id] w0 (RetV w0 (.bool true) emp) := by
  have hs := Sat.start w0
  obtain ⟨a, cap, b, off, rfl, hcap, hbig, ha, hc⟩ := (show RdK [.i64, .i64, .i64] w0 v0 n0 f0 from h0)
  unfold maxLen at hbig
  by_cases c2 : 200 < n0
  · have d2 : decide ((200 : Int) < (n0 : Int)) = true := by simp; omega
    go_enter Try.func5, Try.ntmps5
    go_wp2_with fail
    refine (delAwake w0 _ _ hs).mono ?_
    rintro e w1 ⟨rfl, hs1⟩
    go_wp2_with fail
    refine (delAwake w0 _ _ hs1).mono ?_
    rintro e w2 ⟨rfl, hs2⟩
    go_wp2_with fail
    go_ret
    exact ⟨rfl, hs2⟩
  · have d2 : decide ((200 : Int) < (n0 : Int)) = false := by simp; omega
    have hn200 : n0 ≤ 200 := by omega
    go_enter Try.func5, Try.ntmps5
    go_wp2_with fail
    refine (delAwake w0 _ _ hs).mono ?_
    rintro e w1 ⟨rfl, hs1⟩
    have hs2 := delP_new (delP_new hs1 27) 27
    rw [show (w1.alloc (.cells zeroL 27)).heap.size = w1.heap.size + 1 by simp] at hs2
    have hs2 : Sat w0 ((w1.alloc (.cells Try.zeroCells27 27)).alloc (.cells Try.zeroCells27 27)) (delP (w1.heap.size + 1) [] * (delP w1.heap.size [] * emp)) := hs2
    go_wp2_with fail
    refine wp_gen (w0 := w0) ?_
    intro w3 hs3
    generalize w1.heap.size = pb at *
    clear hs hs1 hs2
    go_loopw [19] (fun i wr => ∃ (k : Nat) (P Q : List Ck), k ≤ n0 ∧ i = .int .i64 k ∧ ApOk id P Q ∧ Sat w0 wr (delP (pb + 1) Q * (delP pb P * any))) (fun i _ => n0 - (intOf i).toNat)
    case atStart => exact ⟨0, [], [], Nat.zero_le _, rfl, ⟨sok_nil, rfl⟩, own_left⟩
    case round =>
      obtain ⟨k, P, Q, hk, rfl, hok, hs4⟩ := hrel
      clear hs3
      by_cases hlt : k < n0
      · obtain rfl := ha (by omega)
        have k0 := (hc k 0 _ hlt rfl).1
        have k1 := (hc k 1 _ hlt rfl).1
        have k2 := (hc k 2 _ hlt rfl).1
        simp only [List.length_cons, List.length_nil, Nat.zero_add, Nat.add_zero, ← Nat.add_assoc] at k0 k1 k2
        generalize f0 k 0 = kd at *
        generalize f0 k 1 = ii at *
        generalize f0 k 2 = tt at *
        haveI o0 : Old w0 b (off + k * 3) (.int .i64 kd) := ⟨k0⟩
        haveI o1 : Old w0 b (off + k * 3 + 1) (.int .i64 ii) := ⟨k1⟩
        haveI o2 : Old w0 b (off + k * 3 + 2) (.int .i64 tt) := ⟨k2⟩
        clear k0 k1 k2 hc ha
        by_cases k1 : kd = 1
        · subst k1
          go_wp2_with fail
          refine (delPut _ Q ii tt w0 _ _ own hok.q).mono ?_
          rintro e w5 ⟨rfl, hs5⟩
          by_cases hi : ii = id
          · subst hi
            have hb : (ii != ii) = false := by simp
            go_wp2_with fail
            go_roundw
            case rel => exact ⟨k + 1, _, _, by omega, by go_num, ap_put' hok tt, own_left⟩
            case measure => simp [intOf]; omega
          · have hb : (ii != id) = true := by simp [hi]
            go_wp2_with fail
            refine (delPut _ P ii tt w0 _ _ own hok.p).mono ?_
            rintro e w6 ⟨rfl, hs6⟩
            go_wp2_with fail
            go_roundw
            case rel => exact ⟨k + 1, _, _, by omega, by go_num, ap_put hok ii tt hi, own_left⟩
            case measure => simp [intOf]; omega
        · have b1 : (kd == 1) = false := by simp [k1]
          by_cases k2 : kd = 2
          · subst k2
            go_wp2_with fail
            refine (delCancel _ Q ii w0 _ _ own hok.q).mono ?_
            rintro e w5 ⟨rfl, hs5⟩
            by_cases hi : ii = id
            · subst hi
              have hb : (ii != ii) = false := by simp
              go_wp2_with fail
              go_roundw
              case rel => exact ⟨k + 1, _, _, by omega, by go_num, ap_del' hok, own_left⟩
              case measure => simp [intOf]; omega
            · have hb : (ii != id) = true := by simp [hi]
              go_wp2_with fail
              refine (delCancel _ P ii w0 _ _ own hok.p).mono ?_
              rintro e w6 ⟨rfl, hs6⟩
              go_wp2_with fail
              go_roundw
              case rel => exact ⟨k + 1, _, _, by omega, by go_num, ap_del hok ii, own_left⟩
              case measure => simp [intOf]; omega
          · have b2 : (kd == 2) = false := by simp [k2]
            by_cases k3 : kd = 3
            · subst k3
              go_wp2_with fail
              case inl h1 =>
                go_loopw [59] (fun i wr => i = .int .i64 0 ∧ Sat w0 wr (delP (pb + 1) Q * (delP pb P * any))) (fun _ _ => 0)
                case atStart => exact ⟨rfl, own_left⟩
                case round =>
                  clear hs4
                  obtain ⟨rfl, hs4⟩ := hrel
                  go_wp2_with fail
                  go_roundw
                  case rel => exact ⟨k + 1, _, _, by omega, by go_num, hok, own_left⟩
                  case measure => simp [intOf]; omega
              case inr.inl h1 _ =>
                go_loopw [59] (fun i wr => ∃ (j : Nat) (P Q : List Ck), j ≤ 5 ∧ i = .int .i64 j ∧ ApOk id P Q ∧ Sat w0 wr (delP (pb + 1) Q * (delP pb P * any))) (fun i _ => 5 - (intOf i).toNat)
                case atStart => exact ⟨0, P, Q, by omega, rfl, hok, own_left⟩
                case round =>
                  clear hs4 hok
                  clear P Q
                  obtain ⟨j, P, Q, hj, rfl, hok, hs4⟩ := hrel
                  by_cases hj5 : j < 5
                  · go_wp2_with fail
                    refine (delTick _ P w0 _ _ own hok.p).mono ?_
                    rintro e w5 ⟨v5, rfl, hs5⟩
                    go_wp2_with fail
                    refine (delTick _ Q w0 _ _ own hok.q).mono ?_
                    rintro e w6 ⟨v6, rfl, hs6⟩
                    go_wp2_with fail
                    go_roundw
                    case rel => exact ⟨j + 1, _, _, by omega, by go_num, ap_tick hok, own_left⟩
                    case measure => simp [intOf]; omega
                  · go_wp2_with fail
                    go_roundw
                    case rel => exact ⟨k + 1, _, _, by omega, by go_num, hok, own_left⟩
                    case measure => simp [intOf]; omega
              case inr.inr h1 h2 =>
                go_loopw [59] (fun i wr => ∃ (j : Nat) (P Q : List Ck), j ≤ 5 ∧ i = .int .i64 j ∧ ApOk id P Q ∧ Sat w0 wr (delP (pb + 1) Q * (delP pb P * any))) (fun i _ => 5 - (intOf i).toNat)
                case atStart => exact ⟨0, P, Q, by omega, rfl, hok, own_left⟩
                case round =>
                  clear hs4 hok
                  clear P Q
                  obtain ⟨j, P, Q, hj, rfl, hok, hs4⟩ := hrel
                  by_cases hj5 : (j : Int) < tt
                  · go_wp2_with fail
                    refine (delTick _ P w0 _ _ own hok.p).mono ?_
                    rintro e w5 ⟨v5, rfl, hs5⟩
                    go_wp2_with fail
                    refine (delTick _ Q w0 _ _ own hok.q).mono ?_
                    rintro e w6 ⟨v6, rfl, hs6⟩
                    go_wp2_with fail
                    go_roundw
                    case rel => exact ⟨j + 1, _, _, by omega, by go_num, ap_tick hok, own_left⟩
                    case measure => simp [intOf]; omega
                  · go_wp2_with fail
                    go_roundw
                    case rel => exact ⟨k + 1, _, _, by omega, by go_num, hok, own_left⟩
                    case measure => simp [intOf]; omega
            · have b3 : (kd == 3) = false := by simp [k3]
              go_wp2_with fail
              go_roundw
              case rel => exact ⟨k + 1, _, _, by omega, by go_num, hok, own_left⟩
              case measure => simp [intOf]; omega
      · go_wp2_with fail
        refine (delCancel _ Q id w0 _ _ own hok.q).mono ?_
        rintro e w5 ⟨rfl, hs5⟩
        go_wp2_with fail
        have hok' := ap_del' hok
        refine (delDues_some _ P w0 _ _ own hok.p).mono ?_
        rintro e w6 ⟨v6, rfl, hs6⟩
        go_wp2_with fail
        refine (delDues_some _ (delS id Q) w0 _ _ own hok'.q).mono ?_
        rintro e w7 ⟨v7, rfl, hs7⟩
        go_wp2_with fail
        refine (delSameS _ _ P (delS id Q) w0 _ _ hs7 rdr rdr).mono ?_
        rintro e w8 ⟨rfl, hs8⟩
        rw [decide_eq_true hok.e]
        go_wp2_with fail
        go_ret
        exact ⟨rfl, own_left⟩
end Go.Proofs.Ytfphgcplpokigaa
