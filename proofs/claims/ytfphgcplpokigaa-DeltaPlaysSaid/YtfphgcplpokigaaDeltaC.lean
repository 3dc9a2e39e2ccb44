/-
  Delta lists: what a list has, in memory; the contract of Put.
-/
import Derived.Test.YtfphgcplpokigaaDeltaB
import Derived.Test.YtfphgcplpokigaaWait
namespace Go.Proofs.Ytfphgcplpokigaa
open Go.RowKit Go.Sx Go.Dl

instance : Elem Try.prog 22 .i64 3 8 (.int .i64 0) := ⟨elemI, by decide⟩

def runsOf (S : List Ck) : List Bool := (List.range 256).map fun i : Nat => decide (has S (i : Int))
theorem runs_len (S : List Ck) : (runsOf S).length = 256 := by simp [runsOf]
theorem runs_at (S : List Ck) {m : Nat} (h : m < 256) : (runsOf S).getD m false = decide (has S (m : Int)) := by
  simp [runsOf, List.getD, h]
theorem runs_set {S T : List Ck} {m : Nat} (v : Bool) (h1 : decide (has T (m : Int)) = v) (h2 : ∀ i : Nat, i ≠ m → (has T (i : Int) ↔ has S (i : Int))) : (runsOf S).set m v = runsOf T := by
  refine List.ext_getElem (by simp [runs_len]) fun i hi1 hi2 => ?_
  rw [List.getElem_set]
  by_cases e : m = i
  · subst e
    rw [if_pos rfl]
    simp [runsOf, ← h1]
  · rw [if_neg e]
    simp [runsOf, h2 i (Ne.symm e)]
theorem has_ins {S : List Ck} {id t x : Int} : has (insS (id, t) S) x ↔ x = id ∨ has S x := by
  have h := ((insS_perm (id, t) S).map Prod.fst).mem_iff (a := x)
  simpa [has] using h
theorem has_del {S : List Ck} {id x : Int} : has (delS id S) x ↔ x ≠ id ∧ has S x := by
  unfold has delS
  simp only [List.mem_map, List.mem_filter, bne_iff_ne]
  constructor
  · rintro ⟨y, ⟨h1, h2⟩, rfl⟩; exact ⟨h2, y, h1, rfl⟩
  · rintro ⟨h1, y, h2, rfl⟩; exact ⟨y, ⟨h2, h1⟩, rfl⟩
theorem runs_put {S : List Ck} {m : Nat} (t : Int) : (runsOf S).set m true = runsOf (insS ((m : Int), t) S) :=
  runs_set true (decide_eq_true (has_ins.2 (.inl rfl))) fun i hi => by rw [has_ins]; exact ⟨fun h => h.resolve_left (by omega), .inr⟩
theorem runs_del {S : List Ck} {m : Nat} : (runsOf S).set m false = runsOf (delS (m : Int) S) :=
  runs_set false (decide_eq_false fun h => (has_del.1 h).1 rfl) fun i hi => by rw [has_del]; exact ⟨fun h => h.2, fun h => ⟨by omega, h⟩⟩

def delP (b : Nat) (S : List Ck) : HP := ex fun v => pts b 0 [v] * (recsP v (diff 0 S) * pts b 1 ((runsOf S).map Value.bool))
section
variable {w0 w : World} {P F F1 F2 F3 : HP} {b : Nat} {S D : List Ck} {rs : List Bool} {v : Value}
theorem delP_out (hs : Sat w0 w (delP b S * F)) : ∃ a c, Sat w0 w (pts b 0 [.slice a (diff 0 S).length c] * (recsP (.slice a (diff 0 S).length c) (diff 0 S) * (pts b 1 ((runsOf S).map Value.bool) * F))) := by
  obtain ⟨v, hs⟩ := hs.ex_out
  obtain ⟨a, c, rfl⟩ := (hs.pull (Q := recsP v (diff 0 S))).recs_form
  exact ⟨a, c, hs.perm (by ac_rfl)⟩
theorem delP_of (hs : Sat w0 w P) [h0 : PullP P b 0 [v] F1] [h1 : PullR F1 encCk v D F2] [h2 : PullP F2 b 1 (rs.map Value.bool) F3] [h3 : Frm F3 F] (hD : D = diff 0 S) (hr : rs = runsOf S) : Sat w0 w (delP b S * F) := by
  subst hD
  subst hr
  have h6 : Sat w0 w ((pts b 0 [v] * (recsP v (diff 0 S) * pts b 1 ((runsOf S).map Value.bool))) * F3) := hs.perm (by rw [h0.eq, h1.eq, h2.eq]; ac_rfl)
  exact Sat.ex_in (f := fun v => pts b 0 [v] * (recsP v (diff 0 S) * pts b 1 ((runsOf S).map Value.bool))) v (h3.out h6)
end

def putOk (S : List Ck) (id t : Int) : Prop := 0 ≤ id ∧ id < 256 ∧ 1 ≤ t ∧ t < 4294967296 ∧ ¬ has S id
instance (S : List Ck) (id t : Int) : Decidable (putOk S id t) := by unfold putOk; infer_instance
def putE (S : List Ck) (id t : Int) : Int := if putOk S id t then 0 else 1
def putS (S : List Ck) (id t : Int) : List Ck := if putOk S id t then insS (id, t) S else S
theorem sok_putS {S : List Ck} (h : SOk S) (id t : Int) : SOk (putS S id t) := by
  unfold putS
  split
  · rename_i hp
    exact sok_put h ⟨hp.1, hp.2.1⟩ ⟨hp.2.2.1, hp.2.2.2.1⟩ hp.2.2.2.2
  · exact h
theorem sok_len {S : List Ck} (h : SOk S) : S.length ≤ 256 := by
  have h1 : ((S.map Prod.fst).map Int.toNat).Nodup := by
    rw [List.nodup_iff_pairwise_ne, List.pairwise_map]
    refine h.nd.imp_of_mem ?_
    intro a b ha hb hne e
    obtain ⟨x, hx, rfl⟩ := List.mem_map.1 ha
    obtain ⟨y, hy, rfl⟩ := List.mem_map.1 hb
    have := h.id x hx; have := h.id y hy
    omega
  have h2 : ((S.map Prod.fst).map Int.toNat) ⊆ List.range 256 := by
    intro z hz
    obtain ⟨t, ht, rfl⟩ := List.mem_map.1 hz
    obtain ⟨x, hx, rfl⟩ := List.mem_map.1 ht
    have := h.id x hx
    rw [List.mem_range]; omega
  simpa using nodup_len _ _ h1 h2
theorem pre_nonneg {S : List Ck} (h : SOk S) (k : Nat) (hk : k ≤ S.length) : 0 ≤ pre S k := by
  unfold pre
  split
  · exact Int.le_refl _
  · have hlt : k - 1 < S.length := by omega
    have := (h.lf S[k - 1] (List.getElem_mem hlt)).1
    simp only [List.getD, List.getElem?_eq_getElem hlt, Option.getD_some]
    omega
theorem pre_le {S : List Ck} {t : Int} (ht : 1 ≤ t) {k : Nat} (hk : k ≤ S.length) (h : ∀ x ∈ S.take k, x.2 ≤ t) : pre S k ≤ t := by
  unfold pre
  split
  · omega
  · have hlt : k - 1 < S.length := by omega
    simp only [List.getD, List.getElem?_eq_getElem hlt, Option.getD_some]
    refine h _ ?_
    rw [List.mem_take_iff_getElem]
    exact ⟨k - 1, by omega, rfl⟩
theorem take_le {S : List Ck} {t : Int} {k : Nat} (hk : k < S.length) (h : ∀ x ∈ S.take k, x.2 ≤ t) (hq : (S.getD k (0, 0)).2 ≤ t) : ∀ x ∈ S.take (k + 1), x.2 ≤ t := by
  intro x hx
  rw [List.take_succ_eq_append_getElem hk, List.mem_append] at hx
  rcases hx with hx | hx
  · exact h x hx
  · obtain rfl : x = S[k] := by simpa using hx
    simpa [List.getD, hk] using hq
theorem set_split {α : Type} (D : List α) (k : Nat) (y : α) (hk : k < D.length) : (D.set k y).take k = D.take k ∧ (D.set k y).drop k = y :: D.drop (k + 1) := by
  constructor
  · rw [List.take_set_of_le (Nat.le_refl _)]
  · rw [List.drop_eq_getElem_cons (by simpa using hk), List.getElem_set_self, List.drop_set_of_lt (by omega)]

theorem delPut_no (b : Nat) (S : List Ck) (id t : Int) (w0 w : World) (F : HP) (hs : Sat w0 w (delP b S * F)) (hno : ¬ putOk S id t) :
    Calls Try.prog 21 #[.pointer (some ⟨b, 0, none⟩), .int .i64 id, .int .i64 t] w (RetV w0 (.int .i64 1) (delP b S * F)) := by
  have hs0 := hs
  obtain ⟨a, c, hs⟩ := delP_out hs
  by_cases h1 : id < 0
  · go_enter Try.func21, Try.ntmps21
    go_wp2_with fail
    go_ret
    exact ⟨rfl, hs0⟩
  · by_cases h2 : 256 ≤ id
    · go_enter Try.func21, Try.ntmps21
      go_wp2_with fail
      go_ret
      exact ⟨rfl, hs0⟩
    · by_cases h3 : t < 1
      · go_enter Try.func21, Try.ntmps21
        go_wp2_with fail
        go_ret
        exact ⟨rfl, hs0⟩
      · by_cases h4 : 4294967296 ≤ t
        · go_enter Try.func21, Try.ntmps21
          go_wp2_with fail
          go_ret
          exact ⟨rfl, hs0⟩
        · have hh : has S id := Decidable.byContradiction fun h => hno ⟨by omega, by omega, by omega, by omega, h⟩
          obtain ⟨m, rfl⟩ := Int.eq_ofNat_of_zero_le (show 0 ≤ id by omega)
          have hm : m < 256 := by omega
          have d256 : decide (m < 256) = true := by simp [hm]
          haveI : Lt m (runsOf S).length := ⟨by rw [runs_len]; exact hm⟩
          haveI : Cell (pts b 1 ((runsOf S).map Value.bool)) b (1 + m) (.bool true) := by
            have := Cell.bln b 1 m (runsOf S)
            rwa [runs_at S hm, decide_eq_true hh] at this
          clear hh hno
          go_enter Try.func21, Try.ntmps21
          go_wp2_with fail
          go_ret
          exact ⟨rfl, hs0⟩

set_option maxRecDepth 100000 in
set_option maxHeartbeats 4000000 in
theorem delPut_yes (b : Nat) (S : List Ck) (id t : Int) (w0 w : World) (F : HP) (hs : Sat w0 w (delP b S * F)) (hok : SOk S) (hp : putOk S id t) :
    Calls Try.prog 21 #[.pointer (some ⟨b, 0, none⟩), .int .i64 id, .int .i64 t] w (RetV w0 (.int .i64 0) (delP b (insS (id, t) S) * F)) := by
  have hl := sok_len hok
  have hdl := diff_len 0 S
  obtain ⟨p1, p2, p3, p4, p5⟩ := hp
  obtain ⟨m, rfl⟩ := Int.eq_ofNat_of_zero_le p1
  have hm : m < 256 := by omega
  have d256 : decide (m < 256) = true := by simp [hm]
  obtain ⟨a, c, hs⟩ := delP_out hs
  haveI : Lt m (runsOf S).length := ⟨by rw [runs_len]; exact hm⟩
  haveI : Cell (pts b 1 ((runsOf S).map Value.bool)) b (1 + m) (.bool false) := by
    have := Cell.bln b 1 m (runsOf S)
    rwa [runs_at S hm, decide_eq_false p5] at this
  have Hrow := hid (fun k hk h1 h2 => (put_row S (m : Int) t k hk h1 h2).2)
  have Hend := hid (fun h1 => (put_end S (m : Int) t h1).2)
  have Hruns := hid (runs_put (S := S) (m := m) t)
  have Hget := hid (fun k hk => diff_get S k hk)
  generalize hD : diff 0 S = D at *
  have HD := hid hD
  have hnz := hid (fun k hk => pre_nonneg hok k hk)
  have hlf := hid hok.lf
  clear hok p5 hD
  rw [hdl] at hs
  have Hdl := hid hdl
  have hDl : D.length ≤ 256 := by omega
  clear hdl
  go_enter Try.func21, Try.ntmps21
  go_wp2_with fail
  go_loop [2, 7] (fun tv iv => ∃ k : Nat, k ≤ S.length ∧ iv = .int .i64 k ∧ tv = .int .i64 (t - pre S k) ∧ ∀ x ∈ S.take k, x.2 ≤ t) (fun _ i => S.length - (intOf i).toNat)
  case atStart => exact ⟨0, Nat.zero_le _, rfl, by simp [pre], by simp⟩
  case round =>
    obtain ⟨k, hk, rfl, rfl, hall⟩ := hrel
    have q1 := hnz.out k hk
    have q2 := pre_le p3 hk hall
    have Hall := hid hall
    clear hall
    by_cases hlt : k < S.length
    · obtain ⟨g, off, rfl⟩ : ∃ g off, a = some ⟨g, off, none⟩ := by
        rcases (hs.pull (Q := recsP (.slice a S.length c) D)).slice_out with ⟨e, _⟩ | ⟨g, off, cap, sp, e, _⟩
        · simp only [Value.slice.injEq] at e; omega
        · simp only [Value.slice.injEq] at e; exact ⟨g, off, e.1⟩
      have hg := Hget.out k hlt
      have hq := hlf.out (S.getD k (0, 0)) (by simp [List.getD, hlt])
      have Hps := hid (pre_succ S k)
      have Hq := hid hq
      have htl := hid (fun hle => take_le hlt Hall.out hle)
      have hrow := hid (fun hge => Hrow.out k hlt Hall.out hge)
      generalize S.getD k (0, 0) = y at *
      obtain ⟨yi, q⟩ := y
      haveI : Lt k D.length := ⟨by have := Hdl.out; omega⟩
      have hkd : decide (k < S.length) = true := by simp [hlt]
      haveI e1 : EncAt (D.getD k (0, 0)) 1 (.int .i64 (q - pre S k)) := ⟨by rw [hg]; rfl⟩
      haveI e0 : EncAt (D.getD k (0, 0)) 0 (.int .i64 yi) := ⟨by rw [hg]; rfl⟩
      have hq1 := Hq.out.1
      have hq2 := Hq.out.2
      dsimp only at hq1 hq2
      have Hg := hid hg
      clear hg hq
      generalize hpp : pre S k = p at *
      have Hpp := hid hpp
      clear hpp
      by_cases hle : q ≤ t
      · have hdd : decide (q - p ≤ t - p) = true := by rw [decide_eq_true_iff]; omega
        have hsub : t - p - (q - p) = t - q := by omega
        have Hsub := hid hsub
        clear hsub
        go_wp2_with fail
        go_round
        case rel => exact ⟨k + 1, by omega, by go_num, by rw [Hps.out, ← Hsub.out], htl.out hle⟩
        case measure => simp [intOf]; omega
      · have hdd : decide (q - p ≤ t - p) = false := by rw [decide_eq_false_iff_not]; omega
        have hrw := hid (hrow (by omega))
        have hk256 : k ≤ 256 := by omega
        clear hrow htl Hps hkd
        have Hl1 : ∀ y', (D.set k y').length ≤ 256 := fun y' => by rw [List.length_set]; exact hDl
        have Hl2 : ∀ y', k ≤ (D.set k y').length := fun y' => by rw [List.length_set]; have := Hdl.out; omega
        have hkD : k < D.length := by have := Hdl.out; omega
        have hkd2 : decide (k < S.length) = true := by simp [hlt]
        go_wp2_with fail
        refine (slicesInsert _ (D.set k ((D.getD k (0, 0)).1, q - p - (t - p))) k _ (m : Int) (t - p) w0 _ _ own2 whole_at (Hl2 _) (Hl1 _)).mono ?_
        rintro e w2 ⟨v2, rfl, hs2⟩
        generalize hL : List.take k (D.set k ((D.getD k (0, 0)).1, q - p - (t - p))) ++ ((m : Int), t - p) :: List.drop k (D.set k ((D.getD k (0, 0)).1, q - p - (t - p))) = L at hs2
        have HL := hid hL
        clear hL Hl1 Hl2
        obtain ⟨a5, c5, rfl⟩ := hs2.recs_form
        go_wp2_with fail
        go_ret
        refine ⟨rfl, delP_of own_it ?_ Hruns.out⟩
        have hss := set_split D k ((D.getD k (0, 0)).1, q - p - (t - p)) hkD
        have h1 := hrw.out
        rw [← HL.out, hss.1, hss.2, Hg.out]
        rw [h1]
        congr 3
        show ((yi, q - p - (t - p)) : Ck) = (yi, q - t)
        congr 1
        omega
    · have hke : k = S.length := by omega
      subst hke
      have hkd : decide (S.length < S.length) = false := by simp
      have hall := Hall.out
      rw [List.take_length] at hall
      have hrw := hid (Hend.out hall)
      have Hl2 : S.length ≤ D.length := by have := Hdl.out; omega
      clear hall
      generalize hpp : pre S S.length = p at *
      have Hpp := hid hpp
      clear hpp
      go_wp2_with fail
      refine (slicesInsert _ D S.length _ (m : Int) (t - p) w0 _ _ own2 whole_at Hl2 hDl).mono ?_
      rintro e w2 ⟨v2, rfl, hs2⟩
      generalize hL : List.take S.length D ++ ((m : Int), t - p) :: List.drop S.length D = L at hs2
      have HL := hid hL
      clear hL
      obtain ⟨a5, c5, rfl⟩ := hs2.recs_form
      go_wp2_with fail
      go_ret
      refine ⟨rfl, delP_of own_it ?_ Hruns.out⟩
      have h1 := hrw.out
      rw [← HL.out, h1, ← Hdl.out, List.take_length, List.drop_length]
end Go.Proofs.Ytfphgcplpokigaa
