/-
  The walk of WaitDrains.
-/
import Derived.Test.YtbnfkfbebnkdnaaWaitLawA
namespace Go.Proofs.Ytbnfkfbebnkdnaa
open Go.RowKit Go.Sx

theorem idx_of_mem {l : List Int} {t : Int} (h : t ∈ l) : idx l t = (l.idxOf t : Int) := by unfold idx; rw [if_pos h]
theorem idxOf_ne {z x : Int} {r : List Int} (h : z ≠ x) : (z :: r).idxOf x = r.idxOf x + 1 := by
  rw [List.idxOf_cons, beq_eq_false_iff_ne.2 h]; rfl
theorem idx_pair {x y : Int} {l : List Int} (hs : [x, y].Sublist l) (hd : l.Nodup) : idx l x < idx l y := by
  rw [idx_of_mem (hs.mem (by simp)), idx_of_mem (hs.mem (by simp))]
  have key : ∀ (l : List Int), [x, y].Sublist l → l.Nodup → l.idxOf x < l.idxOf y := by
    intro l
    induction l with
    | nil => intro h _; cases h
    | cons z r ih =>
      intro h hd
      rw [List.nodup_cons] at hd
      cases h with
      | cons _ h =>
        have hx : x ∈ r := h.mem (by simp)
        have hy : y ∈ r := h.mem (by simp)
        have h1 : z ≠ x := fun e => hd.1 (e ▸ hx)
        have h2 : z ≠ y := fun e => hd.1 (e ▸ hy)
        rw [idxOf_ne h1, idxOf_ne h2]
        have := ih h hd.2
        omega
      | cons_cons _ h =>
        have hy : y ∈ r := h.mem (by simp)
        have h2 : x ≠ y := fun e => hd.1 (e ▸ hy)
        rw [List.idxOf_cons_self, idxOf_ne h2]
        omega
  have := key l hs hd
  omega

/-- t may come behind last. -/
def After (lv order : List Int) (last t : Int) : Prop := beats lv last t ∨ (¬ beats lv t last ∧ idx order last < idx order t)
theorem after_best {lv order L : List Int} (hs : L.Sublist order) (hd : order.Nodup) (hne : L ≠ []) : ∀ t ∈ L.erase (bestOf lv L), After lv order (bestOf lv L) t := by
  obtain ⟨A, C, e, ha, hc⟩ := best_split lv L hne
  generalize bestOf lv L = b at *
  subst e
  have hnd : (A ++ b :: C).Nodup := hs.nodup hd
  have hb : b ∉ A := fun h => by
    have := List.nodup_append.1 hnd
    exact this.2.2 b h b (by simp) rfl
  rw [List.erase_append_right _ hb, List.erase_cons_head]
  intro t ht
  rcases List.mem_append.1 ht with h | h
  · exact .inl (ha t h)
  · refine .inr ⟨hc t h, idx_pair (List.Sublist.trans ?_ hs) hd⟩
    have h1 : [t].Sublist C := by simpa using h
    exact (h1.cons_cons b).trans (List.sublist_append_right A (b :: C))

set_option maxRecDepth 100000 in
set_option maxHeartbeats 2000000 in
theorem waitDrains_walk (v0 : Value) (l0 : List Int) (v1 : Value) (l1 : List Int) (w0 : World) (h0 : RdN .i64 w0 v0 l0) (_z0 : ∀ n ∈ l0, (Lit.int .i64 n).wf = true) (h1 : RdN .i64 w0 v1 l1) (_z1 : ∀ n ∈ l1, (Lit.int .i64 n).wf = true) :
    Calls Try.prog 5 #[v0, v1] w0 (RetV w0 (.bool true) emp) := by
  have hs := Sat.start w0
  have r1 := h1.stays emp
  obtain ⟨a, cap, b, off, rfl, hcap, hbig, ha, hc⟩ := id h0
  obtain ⟨la, lcap, lb, loff, rfl, hlcap, hlbig, hla, hlc⟩ := id h1
  unfold maxLen at hbig hlbig
  by_cases c1 : 100 < l0.length
  · have d1 : decide ((100 : Int) < (l0.length : Int)) = true := by simp; omega
    go_enter Try.func5, Try.ntmps5
    go_wp2_with fail
    refine (waitAwake w0 _ emp hs).mono ?_
    rintro e w1 ⟨rfl, hs1⟩
    go_wp2_with fail
    refine (waitAwake w0 _ emp hs1).mono ?_
    rintro e w2 ⟨rfl, hs2⟩
    go_wp2_with fail
    go_ret
    exact ⟨rfl, hs2⟩
  · have d1 : decide ((100 : Int) < (l0.length : Int)) = false := by simp; omega
    by_cases c2 : 100 < l1.length
    · have d2 : decide ((100 : Int) < (l1.length : Int)) = true := by simp; omega
      go_enter Try.func5, Try.ntmps5
      go_wp2_with fail
      refine (waitAwake w0 _ emp hs).mono ?_
      rintro e w1 ⟨rfl, hs1⟩
      go_wp2_with fail
      refine (waitAwake w0 _ emp hs1).mono ?_
      rintro e w2 ⟨rfl, hs2⟩
      go_wp2_with fail
      go_ret
      exact ⟨rfl, hs2⟩
    · have d2 : decide ((100 : Int) < (l1.length : Int)) = false := by simp; omega
      go_enter Try.func5, Try.ntmps5
      go_wp2_with fail
      refine (waitAwake w0 _ emp hs).mono ?_
      rintro e w1 ⟨rfl, hs1⟩
      have hs2 := rowP_new hs1 25
      go_wp2_with fail
      go_loopw [33] (fun i wr => ∃ k : Nat, k ≤ l0.length ∧ i = .int .i64 k ∧ Sat w0 wr (rowP w1.heap.size 0 ((l0.take k).foldl addOne []) * emp)) (fun i _ => l0.length - (intOf i).toNat)
      case atStart => exact ⟨0, Nat.zero_le _, rfl, hs2⟩
      case round =>
        obtain ⟨k, hk, rfl, hs3⟩ := hrel
        clear hs hs1 hs2
        have hok := addAll_ok (l0.take k)
        by_cases hlt : k < l0.length
        · obtain rfl := ha (by intro h; simp [h] at hlt)
          have hcell := hs3.keep (hc k hlt)
          have hnext := hid (addAll_next hlt)
          generalize l0.getD k 0 = x at hcell hnext
          generalize (l0.take k).foldl addOne [] = L at *
          clear hc ha hlc hla
          go_wp2_with fail
          refine (rowAdd _ _ L x _ _ _ hs3 hok).mono ?_
          rintro e w2 ⟨rfl, hs4⟩
          clear hcell hs3
          go_wp2_with fail
          go_roundw
          case rel => exact ⟨k + 1, by omega, by go_num, by rw [hnext.out]; exact hs4⟩
          case measure => simp [intOf]; omega
        · have hk' : l0.take k = l0 := List.take_of_length_le (by omega)
          rw [hk'] at hs3 hok
          generalize l0.foldl addOne [] = order at *
          have hlen := rowOk_len hok
          clear hc ha hk'
          go_wp2_with fail
          refine (rowAll _ _ order w0 _ _ hs3 (by omega)).mono ?_
          rintro e w2 ⟨v2, rfl, hs4⟩
          clear hs3
          obtain ⟨oa, ocap, rfl⟩ := hs4.slice_form
          generalize w1.heap.size = rb at *
          have hs5 : Sat w0 w2 (rowP rb 0 order * (numsP .i64 (.slice oa order.length ocap) order * emp)) := hs4.perm (by ac_rfl)
          clear hs4
          go_wp2_with fail
          go_loopw [9, 43] (fun lst i wr => ∃ (k : Nat) (L : List Int) (last : Int), i = .int .i64 k ∧ lst = .int .i64 last ∧ L.Sublist order ∧ L.length + k = order.length ∧ (last = -1 ∨ (0 ≤ last ∧ ∀ t ∈ L, After l1 order last t)) ∧ Sat w0 wr (rowP rb 0 L * (numsP .i64 (.slice oa order.length ocap) order * emp))) (fun _ i _ => order.length - (intOf i).toNat)
          case atStart => exact ⟨0, order, -1, rfl, rfl, List.Sublist.refl _, rfl, .inl rfl, hs5⟩
          case round =>
            obtain ⟨k, L, last, rfl, rfl, hsub, hlk, haft, hs6⟩ := hrel
            clear hs5
            have hokL : RowOk L := ⟨hsub.nodup hok.1, fun t ht => hok.2 t (hsub.mem ht)⟩
            by_cases hlt : k < order.length
            · have hne : L ≠ [] := by intro h; simp [h] at hlk; omega
              have haft2 := after_best (lv := l1) hsub hok.1 hne
              have hbin := best_in l1 L hne
              have hb0 := (hokL.2 _ hbin).1
              go_wp2_with fail
              refine (rowBest _ _ L _ l1 _ _ _ hs6 (r1.rd (hs6.perm (by ac_rfl : _ = rowP rb 0 L * numsP .i64 (.slice oa order.length ocap) order * emp))) hokL).mono ?_
              rintro e w3 ⟨rfl, n3, rfl⟩
              have hs7 := hs6.drewN n3
              rw [decide_eq_true hne]
              generalize bestOf l1 L = t at *
              have dt : decide (t < 0) = false := by simp; omega
              go_wp2_with fail
              refine (rowRemove _ _ L t _ _ _ hs7 hokL).mono ?_
              rintro e w4 ⟨rfl, hs8⟩
              rw [decide_eq_true hbin]
              have hsub2 : (L.erase t).Sublist order := List.erase_sublist.trans hsub
              have hlen2 : (L.erase t).length = L.length - 1 := List.length_erase_of_mem hbin
              have hpos : 0 < L.length := List.length_pos_iff.2 hne
              clear hs6 hs7
              obtain ⟨tn, rfl⟩ := Int.eq_ofNat_of_zero_le hb0
              have haftT : last = -1 ∨ (0 ≤ last ∧ After l1 order last tn) := haft.imp id fun h => ⟨h.1, h.2 _ hbin⟩
              have hn1 : (L.erase (tn : Int)).length + (k + 1) = order.length := by omega
              clear haft hbin hb0 dt hlen2 hlk hokL hsub hne hpos
              generalize L.erase (tn : Int) = L2 at *
              rcases haftT with rfl | ⟨hl0, haftT⟩
              · go_wp2_with fail
                go_roundw
                case rel => exact ⟨k + 1, L2, tn, by go_num, rfl, hsub2, hn1, .inr ⟨by omega, haft2⟩, hs8⟩
                case measure => simp [intOf]; omega
              · obtain ⟨ln, rfl⟩ := Int.eq_ofNat_of_zero_le hl0
                have ro := (hs8.perm (by ac_rfl : _ = numsP .i64 (.slice oa order.length ocap) order * (rowP rb 0 L2 * emp))).rdN
                go_wp2_with fail
                refine (refIndex _ order ln _ ro).mono ?_
                rintro e w5 ⟨rfl, rfl⟩
                go_wp2_with fail
                refine (refIndex _ order tn _ ro).mono ?_
                rintro e w5 ⟨rfl, rfl⟩
                unfold After beats at haftT
                have haftT := hid haftT
                generalize idx order ln = ia at *
                generalize idx order tn = ib at *
                have e1 : lvAt l1 (tn : Int) = l1.getD tn 0 := rfl
                have e2 : lvAt l1 (ln : Int) = l1.getD ln 0 := rfl
                rw [e1, e2] at haftT
                clear e1 e2 ro
                have haft2 := hid haft2
                by_cases kn : tn < l1.length
                · obtain rfl := hla (by intro e; simp [e] at kn)
                  have dk : decide (tn < l1.length) = true := by simp [kn]
                  have bf : ln < l1.length := by have := haftT.out; omega
                  have db : decide (ln < l1.length) = true := by simp [bf]
                  have ct := hs8.keep (hlc tn kn)
                  have cl := hs8.keep (hlc ln bf)
                  generalize l1.getD tn 0 = x at *
                  generalize l1.getD ln 0 = y at *
                  have dxy : decide (x < y) = false := by have := haftT.out; simp; omega
                  clear hlc hla
                  by_cases hxy : x = y
                  · have dc : (x == y) = true := by simp [hxy]
                    have dab : decide (ib < ia) = false := by have := haftT.out; simp; omega
                    have hxy := hid hxy
                    go_wp2_with fail
                    go_quiet (fail)
                    go_wp2_with fail
                    go_roundw
                    case rel => exact ⟨k + 1, L2, tn, by go_num, rfl, hsub2, hn1, .inr ⟨by omega, haft2.out⟩, hs8.drewN _⟩
                    case measure => simp [intOf]; omega
                  · have dc : (x == y) = false := by simp [hxy]
                    go_wp2_with fail
                    go_quiet (fail)
                    go_wp2_with fail
                    go_roundw
                    case rel => exact ⟨k + 1, L2, tn, by go_num, rfl, hsub2, hn1, .inr ⟨by omega, haft2.out⟩, hs8.drewN _⟩
                    case measure => simp [intOf]; omega
                · have dk : decide (tn < l1.length) = false := by simp; omega
                  clear hlc hla
                  by_cases bf : ln < l1.length
                  · have db : decide (ln < l1.length) = true := by simp [bf]
                    go_wp2_with fail
                    go_quiet (fail)
                    go_wp2_with fail
                    go_roundw
                    case rel => exact ⟨k + 1, L2, tn, by go_num, rfl, hsub2, hn1, .inr ⟨by omega, haft2.out⟩, hs8.drewN _⟩
                    case measure => simp [intOf]; omega
                  · have db : decide (ln < l1.length) = false := by simp; omega
                    have dab : decide (ib < ia) = false := by have := haftT.out; simp; omega
                    go_wp2_with fail
                    go_quiet (fail)
                    go_wp2_with fail
                    go_roundw
                    case rel => exact ⟨k + 1, L2, tn, by go_num, rfl, hsub2, hn1, .inr ⟨by omega, haft2.out⟩, hs8.drewN _⟩
                    case measure => simp [intOf]; omega
            · have hL : L = [] := List.eq_nil_of_length_eq_zero (by omega)
              subst hL
              go_wp2_with fail
              refine (rowBest _ _ [] _ l1 _ _ _ hs6 (r1.rd (hs6.perm (by ac_rfl : _ = rowP rb 0 [] * numsP .i64 (.slice oa order.length ocap) order * emp))) rowOk_nil).mono ?_
              rintro e w3 ⟨rfl, n3, rfl⟩
              have hs7 := hs6.drewN n3
              go_wp2_with fail
              refine (rowAll _ _ [] w0 _ _ hs7 (by simp)).mono ?_
              rintro e w4 ⟨v4, rfl, hs8⟩
              obtain ⟨a4, cap4, rfl⟩ := hs8.slice_form
              go_wp2_with fail
              go_ret
              exact ⟨rfl, hs8.drop.drop.drop⟩
end Go.Proofs.Ytbnfkfbebnkdnaa
