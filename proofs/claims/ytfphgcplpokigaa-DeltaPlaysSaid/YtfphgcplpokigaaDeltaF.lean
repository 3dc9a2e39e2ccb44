/-
  Contracts of delta lists: Dues, Left, From.
-/
import Derived.Test.YtfphgcplpokigaaDeltaC
namespace Go.Proofs.Ytfphgcplpokigaa
open Go.RowKit Go.Sx Go.Dl

theorem elemD : ElemT Try.prog 43 52 2 16 (.agg #[.int .i64 0, .int .i64 0]) := ⟨by kernel_rfl, by kernel_rfl, rfl⟩
instance : ElemR Try.prog 43 Ck 2 encCk 52 16 (.agg #[.int .i64 0, .int .i64 0]) := ⟨elemD, by decide⟩

theorem pre_lt {S : List Ck} (h : SOk S) (k : Nat) : pre S k < 4294967296 := by
  unfold pre
  split
  · omega
  · by_cases hk : k - 1 < S.length
    · rw [List.getD_eq_getElem?_getD, List.getElem?_eq_getElem hk]
      exact (h.lf _ (List.getElem_mem hk)).2
    · rw [List.getD_eq_getElem?_getD, List.getElem?_eq_none (by omega)]
      decide

set_option maxRecDepth 100000 in
theorem delDues_nil (w0 w : World) (F : HP) (hs : Sat w0 w F) :
    Calls Try.prog 30 #[.pointer none] w (Ret w0 fun v => recsP v ([] : List Ck) * F) := by
  go_enter Try.func30, Try.ntmps30
  go_wp2_with fail
  go_ret
  refine ⟨_, rfl, ?_⟩
  have h2 : Sat w0 w (recsP (.slice none 0 0) ([] : List Ck) * F) := by rw [recsP_nil, emp_star]; exact hs
  exact h2

set_option maxRecDepth 100000 in
set_option maxHeartbeats 4000000 in
theorem delDues_some (b : Nat) (S : List Ck) (w0 w : World) (F : HP) (hs : Sat w0 w (delP b S * F)) (hok : SOk S) :
    Calls Try.prog 30 #[.pointer (some ⟨b, 0, none⟩)] w (Ret w0 fun v => recsP v S * (delP b S * F)) := by
  have hl := sok_len hok
  obtain ⟨a, c, hs⟩ := delP_out hs
  have hdl := diff_len 0 S
  rw [hdl] at hs
  have Hget := hid (fun k hk => diff_get S k hk)
  have Hnn := hid (fun k hk => pre_nonneg hok k hk)
  have Hlt := hid (pre_lt hok)
  have hlf := hid hok.lf
  clear hok
  generalize hD : diff 0 S = D at *
  have HD := hid hD
  clear hD
  go_enter Try.func30, Try.ntmps30
  go_wp2_with fail
  go_loopw [3, 4, 14] (fun ov acc i wr => ∃ (k : Nat), k ≤ S.length ∧ i = .int .i64 k ∧ acc = .int .i64 (pre S k) ∧ Sat w0 wr (recsP ov (S.take k) * (pts b 0 [.slice a S.length c] * (recsP (.slice a S.length c) D * (pts b 1 ((runsOf S).map Value.bool) * F))))) (fun _ _ i _ => S.length - (intOf i).toNat)
  case atStart =>
    refine ⟨0, Nat.zero_le _, rfl, rfl, ?_⟩
    rw [List.take_zero, recsP_nil, emp_star]
    exact hs
  case round =>
    obtain ⟨k, hk, rfl, rfl, hs2⟩ := hrel
    clear hs
    obtain ⟨a3, c3, rfl⟩ := (hs2.pull (Q := recsP u3 (S.take k))).recs_form
    have hT : (S.take k).length = k := by rw [List.length_take]; omega
    generalize hTk : S.take k = T at *
    have HT := hid hTk
    clear hTk
    subst hT
    by_cases hlt : T.length < S.length
    · obtain ⟨g, off, rfl⟩ := (hs2.pull (Q := recsP (.slice a S.length c) D)).someR (E := encCk) a S.length c (show 0 < D.length by omega)
      haveI : Lt T.length D.length := ⟨by omega⟩
      have g1 := Hget.out T.length hlt
      have p1 := Hnn.out T.length hk
      have p2 := Hlt.out T.length
      have f1 := hlf.out (S.getD T.length (0, 0)) (by simp [List.getD, hlt])
      have Hp1 : Hid (pre S (T.length + 1) = (S.getD T.length (0, 0)).2) := pre_succ S T.length
      have Ht1 : Hid (S.take (T.length + 1) = T ++ [S.getD T.length (0, 0)]) := by
        rw [Hid, List.take_add_one, HT.out, List.getD_eq_getElem?_getD, List.getElem?_eq_getElem hlt]; rfl
      generalize S.getD T.length (0, 0) = y at *
      generalize pre S T.length = p at *
      obtain ⟨id, l⟩ := y
      dsimp only at f1 g1
      obtain ⟨f2, f3⟩ := f1
      haveI e0 : EncAt (D.getD T.length (0, 0)) 0 (.int .i64 id) := ⟨by rw [g1]; rfl⟩
      haveI e1 : EncAt (D.getD T.length (0, 0)) 1 (.int .i64 (l - p)) := ⟨by rw [g1]; rfl⟩
      clear g1
      have hw1 : IntKind.i64.wrap (p + (l - p)) = l := by rw [IntKind.wrap_i64]; omega
      have hw2 : p + (l - p) = l := by omega
      go_wp2_with (at_builtin; refine wpList_append_recs rfl rfl rfl rfl (by omega) ?_; intro ap ac aL aw ahL ah1 ah2 ahs _)
      go_roundw
      case rel =>
        refine ⟨T.length + 1, by omega, by go_num, by rw [Hp1.out], ?_⟩
        rw [Ht1.out]
        obtain rfl := ahL.out
        exact own_left
      case measure => simp [intOf]; omega
    · obtain rfl : S = T := by rw [← HT.out, List.take_of_length_le (by omega)]
      go_wp2_with fail
      go_ret
      refine ⟨_, rfl, ?_⟩
      have h7 : Sat w0 wr (delP b S * (recsP (.slice a3 S.length c3) S * F)) := delP_of own_it HD.out.symm rfl
      exact h7.perm (by ac_rfl)

set_option maxRecDepth 100000 in
theorem delLeft_nil (id : Int) (w0 w : World) (F : HP) (hs : Sat w0 w F) :
    Calls Try.prog 34 #[.pointer none, .int .i64 id] w (RetV w0 (.int .i64 0) F) := by
  go_enter Try.func34, Try.ntmps34
  go_wp2_with fail
  refine (delDues_nil w0 _ F hs).mono ?_
  rintro e w1 ⟨v, rfl, hs1⟩
  obtain ⟨a, c, rfl⟩ := hs1.recs_form
  go_wp2_with fail
  go_loopw [10] (fun i wr => i = .int .i64 0 ∧ Sat w0 wr F) (fun _ _ => 0)
  case atStart => exact ⟨rfl, hs1.drop⟩
  case round =>
    obtain ⟨rfl, hs2⟩ := hrel
    clear hs hs1
    go_wp2_with fail
    go_ret
    exact ⟨rfl, hs2⟩

set_option maxRecDepth 100000 in
set_option maxHeartbeats 4000000 in
theorem delLeft_some (b : Nat) (S : List Ck) (id : Int) (w0 w : World) (F : HP) (hs : Sat w0 w (delP b S * F)) (hok : SOk S) :
    Calls Try.prog 34 #[.pointer (some ⟨b, 0, none⟩), .int .i64 id] w (RetV w0 (.int .i64 (Go.Dl.leftOf S id)) (delP b S * F)) := by
  have hl := sok_len hok
  have hnd := hid hok.nd
  go_enter Try.func34, Try.ntmps34
  go_wp2_with fail
  refine (delDues_some b S w0 _ _ own hok).mono ?_
  rintro e w1 ⟨v, rfl, hs1⟩
  obtain ⟨a, c, rfl⟩ := hs1.recs_form
  clear hok
  go_wp2_with fail
  go_loopw [10] (fun i wr => ∃ k : Nat, k ≤ S.length ∧ i = .int .i64 k ∧ (∀ y ∈ S.take k, ¬ y.1 = id) ∧ Sat w0 wr (recsP (.slice a S.length c) S * (delP b S * F))) (fun i _ => S.length - (intOf i).toNat)
  case atStart => exact ⟨0, Nat.zero_le _, rfl, by simp, hs1⟩
  case round =>
    obtain ⟨k, hk, rfl, hno, hs2⟩ := hrel
    clear hs hs1
    have Hno := hid hno
    clear hno
    by_cases hlt : k < S.length
    · obtain ⟨g, off, rfl⟩ := hs2.someR (E := encCk) a S.length c (show 0 < S.length by omega)
      haveI : Lt k S.length := ⟨hlt⟩
      have hmem : S.getD k (0, 0) ∈ S := by simp [List.getD, hlt]
      have Ht1 : Hid (S.take (k + 1) = S.take k ++ [S.getD k (0, 0)]) := by
        rw [Hid, List.take_add_one, List.getD_eq_getElem?_getD, List.getElem?_eq_getElem hlt]; rfl
      have hlm := left_mem hnd.out hmem
      obtain ⟨⟨i1, l1⟩, hy⟩ : ∃ y, S.getD k (0, 0) = y := ⟨_, rfl⟩
      haveI e0 : EncAt (S.getD k (0, 0)) 0 (.int .i64 i1) := ⟨by rw [hy]; rfl⟩
      haveI e1 : EncAt (S.getD k (0, 0)) 1 (.int .i64 l1) := ⟨by rw [hy]; rfl⟩
      rw [hy] at hlm Ht1
      dsimp only at hlm
      have Hlm := hid hlm
      clear hlm hy hmem
      by_cases hi : i1 = id
      · subst hi
        go_wp2_with fail
        go_ret
        refine ⟨?_, own_left⟩
        rw [Hlm.out]; rfl
      · have hb : (i1 == id) = false := by simp [hi]
        go_wp2_with fail
        go_roundw
        case rel =>
          refine ⟨k + 1, by omega, by go_num, ?_, own_left⟩
          rw [Ht1.out]
          intro y hy
          rcases List.mem_append.1 hy with h | h
          · exact Hno.out y h
          · rw [List.mem_singleton] at h; subst h; exact hi
        case measure => simp [intOf]; omega
    · have Hl0 : Hid (Go.Dl.leftOf S id = 0) := left_none fun h => by
        obtain ⟨x, hx, e⟩ := List.mem_map.1 h
        have h2 := Hno.out x
        rw [List.take_of_length_le (by omega)] at h2
        exact h2 hx e
      go_wp2_with fail
      go_ret
      refine ⟨?_, own_left⟩
      rw [Hl0.out]; rfl

theorem from_snoc (T : List Ck) (y : Ck) (id : Int) : fromOf (T ++ [y]) id = fromOf T id + if id ≤ y.1 then 1 else 0 := by
  unfold fromOf
  rw [List.countP_append, List.countP_cons, List.countP_nil]
  by_cases h : id ≤ y.1 <;> simp [h]
theorem from_le (T : List Ck) (id : Int) : 0 ≤ fromOf T id ∧ fromOf T id ≤ T.length := by
  unfold fromOf
  have := List.countP_le_length (p := fun x : Ck => decide (id ≤ x.1)) (l := T)
  omega

set_option maxRecDepth 100000 in
theorem delFrom_nil (id : Int) (w0 w : World) (F : HP) (hs : Sat w0 w F) :
    Calls Try.prog 47 #[.pointer none, .int .i64 id] w (RetV w0 (.int .i64 0) F) := by
  go_enter Try.func47, Try.ntmps47
  go_wp2_with fail
  go_ret
  exact ⟨rfl, hs⟩

set_option maxRecDepth 100000 in
set_option maxHeartbeats 4000000 in
theorem delFrom_some (b : Nat) (S : List Ck) (id : Int) (w0 w : World) (F : HP) (hs : Sat w0 w (delP b S * F)) (hok : SOk S) :
    Calls Try.prog 47 #[.pointer (some ⟨b, 0, none⟩), .int .i64 id] w (RetV w0 (.int .i64 (fromOf S id)) (delP b S * F)) := by
  have hl := sok_len hok
  obtain ⟨a, c, hs⟩ := delP_out hs
  have hdl := diff_len 0 S
  rw [hdl] at hs
  have Hget := hid (fun k hk => diff_get S k hk)
  clear hok
  generalize hD : diff 0 S = D at *
  have HD := hid hD
  clear hD
  go_enter Try.func47, Try.ntmps47
  go_wp2_with fail
  go_loopw [5, 15] (fun n i wr => ∃ (k : Nat), k ≤ S.length ∧ i = .int .i64 k ∧ n = .int .i64 (fromOf (S.take k) id) ∧ Sat w0 wr (pts b 0 [.slice a S.length c] * (recsP (.slice a S.length c) D * (pts b 1 ((runsOf S).map Value.bool) * F)))) (fun _ i _ => S.length - (intOf i).toNat)
  case atStart => exact ⟨0, Nat.zero_le _, rfl, rfl, hs⟩
  case round =>
    obtain ⟨k, hk, rfl, rfl, hs2⟩ := hrel
    clear hs
    have hn := from_le (S.take k) id
    rw [List.length_take] at hn
    have hn1 : fromOf (S.take k) id ≤ 256 := by omega
    have hn0 := hn.1
    clear hn
    by_cases hlt : k < S.length
    · obtain ⟨g, off, rfl⟩ := (hs2.pull (Q := recsP (.slice a S.length c) D)).someR (E := encCk) a S.length c (show 0 < D.length by omega)
      haveI : Lt k D.length := ⟨by omega⟩
      have g1 := Hget.out k hlt
      have Ht1 : Hid (fromOf (S.take (k + 1)) id = fromOf (S.take k) id + if id ≤ (S.getD k (0, 0)).1 then 1 else 0) := by
        rw [Hid, List.take_add_one, List.getElem?_eq_getElem hlt, List.getD_eq_getElem?_getD, List.getElem?_eq_getElem hlt]; exact from_snoc _ _ id
      generalize S.getD k (0, 0) = y at *
      generalize fromOf (S.take k) id = m at *
      obtain ⟨i1, l1⟩ := y
      dsimp only at g1 Ht1
      haveI e0 : EncAt (D.getD k (0, 0)) 0 (.int .i64 i1) := ⟨by rw [g1]; rfl⟩
      clear g1
      by_cases hi : id ≤ i1
      · rw [if_pos hi] at Ht1
        have hd : decide (id ≤ i1) = true := by simp [hi]
        go_wp2_with fail
        go_roundw
        case rel => exact ⟨k + 1, by omega, by go_num, by rw [Ht1.out], own_left⟩
        case measure => simp [intOf]; omega
      · rw [if_neg hi] at Ht1
        have hd : decide (id ≤ i1) = false := by simp [hi]
        go_wp2_with fail
        go_roundw
        case rel => exact ⟨k + 1, by omega, by go_num, by rw [Ht1.out, Int.add_zero], own_left⟩
        case measure => simp [intOf]; omega
    · have hkS : Hid (S.take k = S) := List.take_of_length_le (by omega)
      rw [hkS.out] at *
      go_wp2_with fail
      go_ret
      exact ⟨rfl, delP_of own_it HD.out.symm rfl⟩
end Go.Proofs.Ytfphgcplpokigaa
