/-
  The walks of wait, more: Remove, Best; the reference's Without and Best; Ints.
-/
import Derived.Test.YtigjeflofbdahaaWait
namespace Go.Proofs.Ytigjeflofbdahaa
open Go.RowKit Go.Sx

theorem rowRemove_no (b o : Nat) (l : List Int) (t : Int) (w0 w : World) (F : HP) (hs : Sat w0 w (rowP b o l * F)) (hn : t ∉ l) :
    Calls Try.prog 19 #[.pointer (some ⟨b, o, none⟩), .int .i64 t] w fun e w' => e = .returned (.bool false) ∧ w = w' := by
  have hd : decide (t ∈ l) = false := by simp [hn]
  go_enter Try.func19, Try.ntmps19
  go_wp2_with fail
  refine (rowHas b o l t _ _ _ hs).mono ?_
  rintro e w' ⟨rfl, rfl⟩
  rw [hd]
  go_wp2
  go_ret
  exact ⟨rfl, rfl⟩
theorem rowRemove_nil (t : Int) (w : World) :
    Calls Try.prog 19 #[.pointer none, .int .i64 t] w fun e w' => e = .returned (.bool false) ∧ w = w' := by
  go_enter Try.func19, Try.ntmps19
  go_wp2_with fail
  refine (rowHas_nil t _).mono ?_
  rintro e w' ⟨rfl, rfl⟩
  go_wp2
  go_ret
  exact ⟨rfl, rfl⟩

theorem rowRemove_yes (b o : Nat) (l : List Int) (t : Int) (w0 w : World) (F : HP) (hs : Sat w0 w (rowP b o l * F)) (hn : t ∈ l) (hl : l.length ≤ 1000000) :
    Calls Try.prog 19 #[.pointer (some ⟨b, o, none⟩), .int .i64 t] w (RetV w0 (.bool true) (rowP b o (l.erase t) * F)) := by
  obtain ⟨v, hs1⟩ := hs.ex_out
  have hs2 := hs1.perm (by ac_rfl : _ = numsP .i64 v l * (pts b o [v] * F))
  have hs3 := hs1.perm (by ac_rfl : _ = pts b o [v] * (numsP .i64 v l * F))
  have c0 := hs3.c0
  have hr := hs2.rdN
  have hk : l.idxOf t < l.length := List.idxOf_lt_length_iff.2 hn
  have hi : idx l t = (l.idxOf t : Int) := by unfold idx; rw [if_pos hn]
  have hb : (l.idxOf t : Int) ≤ 1000000 := by omega
  have hd : decide (t ∈ l) = true := by simp [hn]
  have he : l.eraseIdx (l.idxOf t) = l.erase t := by rw [List.erase_eq_eraseIdx_of_idxOf rfl]
  go_enter Try.func19, Try.ntmps19
  go_wp2_with fail
  refine (rowHas b o l t _ _ _ hs).mono ?_
  rintro e w' ⟨rfl, rfl⟩
  rw [hd]
  clear hd
  go_wp2_with fail
  refine (slicesIndex v l t _ hr).mono ?_
  rintro e w' ⟨rfl, rfl⟩
  rw [hi]
  clear hi
  generalize l.idxOf t = k at hk hb he ⊢
  have he := hid he
  go_wp2_with fail
  refine (slicesDelete v l k _ _ _ hs2 hk hl _ rfl).mono ?_
  rintro e w' ⟨v', rfl, hs'⟩
  generalize l.eraseIdx k = L at hs' he
  obtain ⟨a', cap', rfl⟩ := hs'.slice_form
  have hs4 := hs'.perm (by ac_rfl : _ = pts b o [v] * (numsP .i64 (.slice a' L.length cap') L * F))
  have c0' := hs4.c0
  have f0' := hs4.f0
  go_wp2
  go_ret
  rw [← he.out]
  exact ⟨rfl, rowP_in (v := .slice a' L.length cap') (hs4.set0 _)⟩

/-! ### Best -/
def lvAt (lv : List Int) (t : Int) : Int := lv.getD t.toNat 0
def bestStep (lv : List Int) (best t : Int) : Int := if t < lv.length ∧ ((lv.length : Int) ≤ best ∨ lvAt lv t < lvAt lv best) then t else best
def bestOf (lv : List Int) : List Int → Int
  | [] => 0
  | t :: r => r.foldl (bestStep lv) t

theorem bestOf_mem (lv : List Int) : ∀ (r : List Int) (t : Int), r.foldl (bestStep lv) t = t ∨ r.foldl (bestStep lv) t ∈ r
  | [], t => .inl rfl
  | x :: r, t => by
    rw [List.foldl_cons]
    rcases bestOf_mem lv r (bestStep lv t x) with h | h
    · rw [h]
      unfold bestStep
      split
      · exact .inr (by simp)
      · exact .inl rfl
    · exact .inr (by simp [h])

theorem rowBest_none (b o : Nat) (lv : Value) (w0 w : World) (F : HP) (hs : Sat w0 w (rowP b o [] * F)) :
    Calls Try.prog 18 #[.pointer (some ⟨b, o, none⟩), lv] w fun e w' => e = .returned (.tuple #[.int .i64 0, .bool false]) ∧ w = w' := by
  obtain ⟨v, hs1⟩ := hs.ex_out
  have c0 := (hs1.perm (by ac_rfl : _ = pts b o [v] * (numsP .i64 v [] * F))).c0
  obtain ⟨a, cap, rfl⟩ := (hs1.perm (by ac_rfl : _ = numsP .i64 v [] * (pts b o [v] * F))).slice_form
  go_enter Try.func18, Try.ntmps18
  go_wp2
  go_ret2
  exact ⟨rfl, rfl⟩
theorem rowBest_nil (lv : Value) (w : World) :
    Calls Try.prog 18 #[.pointer none, lv] w fun e w' => e = .returned (.tuple #[.int .i64 0, .bool false]) ∧ w = w' := by
  go_enter Try.func18, Try.ntmps18
  go_wp2
  go_ret2
  exact ⟨rfl, rfl⟩

theorem bestOf_nonneg (lv : List Int) (r : List Int) (t0 : Int) (h0 : 0 ≤ t0) (h : ∀ t ∈ r, 0 ≤ t) (k : Nat) : 0 ≤ (r.take k).foldl (bestStep lv) t0 := by
  rcases bestOf_mem lv (r.take k) t0 with e | e
  · rw [e]; exact h0
  · exact h _ (List.mem_of_mem_take e)
theorem fold_next (f : Int → Int → Int) (r : List Int) (t0 : Int) (k m : Nat) (hk : k < r.length) (hm : r.getD k 0 = m) : (r.take (k + 1)).foldl f t0 = f ((r.take k).foldl f t0) m := by
  have e : r[k] = (m : Int) := by rw [← hm]; simp [List.getD, hk]
  rw [List.take_succ_eq_append_getElem hk, List.foldl_append, e]; rfl
theorem int_congr {κ : IntKind} {a b : Int} (h : a = b) : Value.int κ a = Value.int κ b := by rw [h]

def Drawn (v : Value) (w : World) (e : Ending) (w' : World) : Prop := e = .returned v ∧ ∃ n, w' = w.drewN n

theorem rowBest_some (b o : Nat) (t0 : Int) (r : List Int) (lv : Value) (levels : List Int) (w0 w : World) (F : HP) (hs : Sat w0 w (rowP b o (t0 :: r) * F)) (hlv : RdN .i64 w lv levels) (hok : ∀ t ∈ t0 :: r, 0 ≤ t) (hl : r.length ≤ 1000000) :
    Calls Try.prog 18 #[.pointer (some ⟨b, o, none⟩), lv] w (Drawn (.tuple #[.int .i64 (bestOf levels (t0 :: r)), .bool true]) w) := by
  obtain ⟨v, hs1⟩ := hs.ex_out
  have c0 := (hs1.perm (by ac_rfl : _ = pts b o [v] * (numsP .i64 v (t0 :: r) * F))).c0
  obtain ⟨a, cap, g, off, rfl, hcap, hbig, ha, hc⟩ := (hs1.perm (by ac_rfl : _ = numsP .i64 v (t0 :: r) * (pts b o [v] * F))).rdN
  obtain rfl := ha (by simp)
  obtain ⟨la, lcap, lb, loff, rfl, hlcap, hlbig, hla, hlc⟩ := hlv
  unfold maxLen at hbig hlbig
  have hc0 : w.cell? ⟨g, off, none⟩ = some (.int .i64 t0) := hc 0 (by simp)
  simp only [List.length_cons] at hcap hc c0 ⊢
  have hr1 : ∀ k, k < r.length → w.cell? ⟨g, off + 1 + k, none⟩ = some (.int .i64 (r.getD k 0)) := fun k hk => by
    have := hc (k + 1) (by omega)
    rw [show off + (k + 1) = off + 1 + k by omega] at this
    simpa using this
  clear hc
  by_cases h1 : cap = 1
  · have hr0 : r = [] := List.eq_nil_of_length_eq_zero (by omega)
    subst hr0
    subst h1
    clear hr1
    go_enter Try.func18, Try.ntmps18
    go_wp2_with fail
    go_loopw [6, 31] (fun bst i wr => i = .int .i64 0 ∧ bst = .int .i64 t0 ∧ wr = w) (fun _ _ _ => 0)
    case atStart => exact ⟨rfl, rfl, rfl⟩
    case round =>
      obtain ⟨rfl, rfl, rfl⟩ := hrel
      go_wp2
      go_ret2
      exact ⟨rfl, 0, rfl⟩
  · have h0 : 0 ≤ t0 := hok t0 (by simp)
    have hok' : ∀ t ∈ r, 0 ≤ t := fun t ht => hok t (by simp [ht])
    go_enter Try.func18, Try.ntmps18
    go_wp2_with fail
    go_loopw [6, 31] (fun bst i wr => ∃ k n : Nat, k ≤ r.length ∧ i = .int .i64 k ∧ bst = .int .i64 ((r.take k).foldl (bestStep levels) t0) ∧ wr = w.drewN n) (fun _ i _ => r.length - (intOf i).toNat)
    case atStart => exact ⟨0, 0, Nat.zero_le _, rfl, rfl, rfl⟩
    case round =>
      obtain ⟨k, n, hk, rfl, rfl, rfl⟩ := hrel
      by_cases hlt : k < r.length
      · obtain ⟨m, hm⟩ := Int.eq_ofNat_of_zero_le (hok' (r.getD k 0) (by simp [List.getD, hlt]))
        obtain ⟨q, hq⟩ := Int.eq_ofNat_of_zero_le (bestOf_nonneg levels r t0 h0 hok' k)
        have hcell : w.cell? ⟨g, off + 1 + k, none⟩ = some (.int .i64 (m : Int)) := by rw [← hm]; exact hr1 k hlt
        have hnext := hid (fold_next (bestStep levels) r t0 k m hlt hm)
        have hq' := hid hq
        rw [hq]
        clear hr1 hm hq hok hok' hs hs1 c0 hc0
        by_cases c1 : m < levels.length
        · obtain rfl := hla (by intro e; simp [e] at c1)
          have d1 : decide (m < levels.length) = true := by simp [c1]
          have l1 := hlc m c1
          by_cases c2 : levels.length ≤ q
          · have d2 : decide (levels.length ≤ q) = true := by simp [c2]
            clear hlc hla
            go_wp2_with fail
            go_quiet (fail)
            go_wp2
            go_roundw
            case rel => exact ⟨k + 1, _, by omega, by go_num, int_congr (by rw [hnext.out, hq'.out]; unfold bestStep; rw [if_pos ⟨by omega, .inl (by omega)⟩]), rfl⟩
            case measure => simp [intOf]; omega
          · have d2 : decide (levels.length ≤ q) = false := by simp; omega
            have l2 := hlc q (by omega)
            have e1 : lvAt levels (m : Int) = levels.getD m 0 := rfl
            have e2 : lvAt levels (q : Int) = levels.getD q 0 := rfl
            generalize levels.getD m 0 = x at l1 e1
            generalize levels.getD q 0 = y at l2 e2
            have e1 := hid e1
            have e2 := hid e2
            clear hlc hla
            by_cases hxy : x < y
            · have d3 : decide (x < y) = true := by simp [hxy]
              go_wp2_with fail
              go_quiet (fail)
              go_wp2
              go_roundw
              case rel => exact ⟨k + 1, _, by omega, by go_num, int_congr (by rw [hnext.out, hq'.out]; unfold bestStep; rw [if_pos ⟨by omega, .inr (by rw [e1.out, e2.out]; exact hxy)⟩]), rfl⟩
              case measure => simp [intOf]; omega
            · have d3 : decide (x < y) = false := by simp; omega
              go_wp2_with fail
              go_quiet (fail)
              go_wp2
              go_roundw
              case rel => exact ⟨k + 1, _, by omega, by go_num, int_congr (by rw [hnext.out, hq'.out]; unfold bestStep; rw [if_neg (by rw [e1.out, e2.out]; omega)]), rfl⟩
              case measure => simp [intOf]; omega
        · have d1 : decide (m < levels.length) = false := by simp; omega
          clear hlc hla
          go_wp2_with fail
          go_quiet (fail)
          go_wp2
          go_roundw
          case rel => exact ⟨k + 1, _, by omega, by go_num, int_congr (by rw [hnext.out, hq'.out]; unfold bestStep; rw [if_neg (by omega)]), rfl⟩
          case measure => simp [intOf]; omega
      · have hk' : r.take k = r := List.take_of_length_le (by omega)
        rw [hk']
        clear hr1 hlc hla hs hs1 hc0 c0
        go_wp2
        go_ret2
        exact ⟨rfl, n, rfl⟩

theorem without_next {l : List Int} {t : Int} {k : Nat} (hk : k < l.length) : (l.take (k + 1)).filter (· != t) = (l.take k).filter (· != t) ++ if l.getD k 0 = t then [] else [l.getD k 0] := by
  rw [List.take_succ_eq_append_getElem hk, List.filter_append]
  congr 1
  have : l.getD k 0 = l[k] := by simp [List.getD, hk]
  rw [this]
  by_cases e : l[k] = t <;> simp [e]

end Go.Proofs.Ytigjeflofbdahaa
