/-
  The walks of the package slices (at int) and of wait.
-/
import Derived.Test.YtigjeflofbdahaaProg
import Derived.Test.YtigjeflofbdahaaLaw
import Derived.Deep.QuietTactic
import Derived.BigQuiet
import Derived.WalkSpells
import Derived.StillTailTactics
namespace Go.Proofs.Ytigjeflofbdahaa
open Go.RowKit Go.Sx

theorem elemI : ElemT Try.prog 22 3 1 8 (.int .i64 0) := ⟨by kernel_rfl, by kernel_rfl, rfl⟩

def idx (l : List Int) (t : Int) : Int := if t ∈ l then (l.idxOf t : Int) else -1
theorem idx_hit {l : List Int} {t : Int} {k : Nat} (hk : k < l.length) (h : l[k] = t) (hn : t ∉ l.take k) : idx l t = k := by
  have hm : t ∈ l := by rw [← h]; exact List.getElem_mem hk
  unfold idx
  rw [if_pos hm]
  have hd : l = l.take k ++ l[k] :: l.drop (k + 1) := by simp
  congr 1
  rw [hd, h, List.idxOf_append, if_neg hn, List.idxOf_cons_self]
  simp; omega
theorem idx_miss {l : List Int} {t : Int} {k : Nat} (hk : l.length ≤ k) (hn : t ∉ l.take k) : idx l t = -1 := by
  unfold idx
  rw [if_neg (by rwa [List.take_of_length_le hk] at hn)]
theorem notin_next {l : List Int} {t : Int} {k : Nat} (hk : k < l.length) (h : l[k] ≠ t) (hn : t ∉ l.take k) : t ∉ l.take (k + 1) := by
  rw [List.take_succ_eq_append_getElem hk, List.mem_append]
  rintro (h1 | h1)
  · exact hn h1
  · simp at h1; exact h h1.symm
theorem idx_nonneg {l : List Int} {t : Int} : decide (0 ≤ idx l t) = decide (t ∈ l) := by
  unfold idx; split <;> simp [*]

theorem slicesIndex (v : Value) (l : List Int) (t : Int) (w : World) (h : RdN .i64 w v l) :
    Calls Try.prog 25 #[v, .int .i64 t] w fun e w' => e = .returned (.int .i64 (idx l t)) ∧ w = w' := by
  obtain ⟨a, cap, b, off, rfl, hcap, hbig, ha, hc⟩ := h
  unfold maxLen at hbig
  go_enter Try.func25, Try.ntmps25
  go_wp2
  go_loop [8] (fun i => ∃ k : Nat, k ≤ l.length ∧ i = .int .i64 k ∧ t ∉ l.take k) (fun i => l.length - (intOf i).toNat)
  case atStart => exact ⟨0, Nat.zero_le _, rfl, by simp⟩
  case round =>
    obtain ⟨k, hk, rfl, hn⟩ := hrel
    by_cases hlt : k < l.length
    · obtain rfl := ha (by intro h; simp [h] at hlt)
      have hcell := hc k hlt
      clear hc ha
      go_wp2
      · go_ret
        have e : (t == l[k]) = true := by assumption
        exact ⟨by rw [idx_hit hlt (by simpa using (beq_iff_eq.1 e).symm) hn]; rfl, rfl⟩
      · go_round
        have e : (t == l[k]) = false := by assumption
        case rel => exact ⟨k + 1, by omega, by go_num, notin_next hlt (fun h => by rw [h] at e; simp at e) hn⟩
        case measure => simp [intOf]; omega
    · clear hc ha
      go_wp2
      go_ret
      exact ⟨by rw [idx_miss (by omega) hn]; rfl, rfl⟩

theorem slicesContains (v : Value) (l : List Int) (t : Int) (w : World) (h : RdN .i64 w v l) :
    Calls Try.prog 27 #[v, .int .i64 t] w fun e w' => e = .returned (.bool (decide (t ∈ l))) ∧ w = w' := by
  go_enter Try.func27, Try.ntmps27
  go_wp2_with fail
  refine (slicesIndex v l t _ h).mono ?_
  rintro e w' ⟨rfl, rfl⟩
  go_wp2
  go_ret
  exact ⟨by rw [← idx_nonneg]; rfl, rfl⟩

theorem slicesClone (v : Value) (l : List Int) (w0 w : World) (F : HP) (hs : Sat w0 w F) (h : RdN .i64 w v l) (hl : l.length ≤ 1000000) :
    Calls Try.prog 16 #[v] w (Ret w0 fun v' => numsP .i64 v' l * F) := by
  obtain ⟨a, cap, b, off, rfl, hcap, hbig, ha, hc⟩ := id h
  have hnw := h.news
  clear hc ha
  have q : ∀ (w : World) (a : Option Addr) (n c : Nat), (binOp .eql 22 (.slice a n c) (.slice none 0 0)).run Try.prog w = .ok (.bool a.isNone) w := fun w a n c => Lib.run_eql_slice_nil w _ _ a n c 0 0 Try.underlying22
  cases a with
  | none =>
    have h0 := hnw.2.1 rfl
    have hl0 : l = [] := List.eq_nil_of_length_eq_zero h0
    subst hl0
    clear h hnw
    go_enter Try.func16, Try.ntmps16
    go_wp2
    go_ret
    exact ⟨_, rfl, hs.slice_nil 1⟩
  | some ad =>
    go_enter Try.func16, Try.ntmps16
    go_wp2_with (at_builtin; refine wpList_append_sat (by rfl) (.tmp 5) (.tmp 6) (by rfl) elemI (by rfl) (hs.empty_slice 1 3) (some ad) l.length cap (l.map (Value.int .i64)) (by rfl) (by simp) (by simp) (fun a' ha' j u hj => cell_alloc (hnw.2.2 a' ha' j u hj) _) (oneCell_ints l) (by unfold maxLen; omega) (by omega) ?_)
    intro v' w' hs' _
    go_wp2
    go_ret
    exact ⟨_, rfl, by simpa [numsP] using hs'⟩

/-! ### wait.Row -/
def RowOk (l : List Int) : Prop := l.Nodup ∧ ∀ t ∈ l, 0 ≤ t ∧ t < 64
def rowP (b o : Nat) (l : List Int) : HP := ex fun v => pts b o [v] * numsP .i64 v l

theorem rowP_in {w0 w : World} {F : HP} {b o : Nat} {v : Value} {l : List Int} (hs : Sat w0 w (pts b o [v] * (numsP .i64 v l * F))) : Sat w0 w (rowP b o l * F) :=
  Sat.ex_in (f := fun v => pts b o [v] * numsP .i64 v l) v (hs.perm (by ac_rfl))
theorem nodup_len : ∀ (l l' : List Nat), l.Nodup → l ⊆ l' → l.length ≤ l'.length
  | [], _, _, _ => Nat.zero_le _
  | a :: l, l', nd, sub => by
    have ha : a ∈ l' := sub (by simp)
    rw [List.nodup_cons] at nd
    have h := nodup_len l (l'.erase a) nd.2 (fun x hx => (List.mem_erase_of_ne (by rintro rfl; exact nd.1 hx)).2 (sub (by simp [hx])))
    rw [List.length_erase_of_mem ha] at h
    have := List.length_pos_of_mem ha
    simp; omega
theorem rowOk_len {l : List Int} (h : RowOk l) : l.length ≤ 64 := by
  have h1 : (l.map Int.toNat).Nodup := by
    rw [List.nodup_iff_pairwise_ne, List.pairwise_map]
    refine h.1.imp_of_mem ?_
    intro a b ha hb hne e
    have := h.2 a ha; have := h.2 b hb
    omega
  have h2 : (l.map Int.toNat) ⊆ List.range 64 := by
    intro x hx
    obtain ⟨t, ht, rfl⟩ := List.mem_map.1 hx
    have := h.2 t ht
    rw [List.mem_range]; omega
  simpa using nodup_len _ _ h1 h2

theorem rowHas (b o : Nat) (l : List Int) (t : Int) (w0 w : World) (F : HP) (hs : Sat w0 w (rowP b o l * F)) :
    Calls Try.prog 24 #[.pointer (some ⟨b, o, none⟩), .int .i64 t] w fun e w' => e = .returned (.bool (decide (t ∈ l))) ∧ w = w' := by
  obtain ⟨v, hs1⟩ := hs.ex_out
  have c0 := (hs1.perm (by ac_rfl : _ = pts b o [v] * (numsP .i64 v l * F))).c0
  have hr := (hs1.perm (by ac_rfl : _ = numsP .i64 v l * (pts b o [v] * F))).rdN
  go_enter Try.func24, Try.ntmps24
  go_wp2_with fail
  refine (slicesContains v l t _ hr).mono ?_
  rintro e w' ⟨rfl, rfl⟩
  go_wp2
  go_ret
  exact ⟨rfl, rfl⟩
theorem rowHas_nil (t : Int) (w : World) :
    Calls Try.prog 24 #[.pointer none, .int .i64 t] w fun e w' => e = .returned (.bool false) ∧ w = w' := by
  go_enter Try.func24, Try.ntmps24
  go_wp2
  go_ret
  exact ⟨rfl, rfl⟩

theorem rowAll (b o : Nat) (l : List Int) (w0 w : World) (F : HP) (hs : Sat w0 w (rowP b o l * F)) (hl : l.length ≤ 1000000) :
    Calls Try.prog 15 #[.pointer (some ⟨b, o, none⟩)] w (Ret w0 fun v' => numsP .i64 v' l * (rowP b o l * F)) := by
  obtain ⟨v, hs1⟩ := hs.ex_out
  have c0 := (hs1.perm (by ac_rfl : _ = pts b o [v] * (numsP .i64 v l * F))).c0
  have hr := (hs1.perm (by ac_rfl : _ = numsP .i64 v l * (pts b o [v] * F))).rdN
  go_enter Try.func15, Try.ntmps15
  go_wp2_with fail
  refine (slicesClone v l w0 _ _ hs hr hl).mono ?_
  rintro e w' ⟨v', rfl, hs'⟩
  go_wp2
  go_ret
  exact ⟨v', rfl, hs'⟩
theorem rowAll_nil (w0 w : World) (F : HP) (hs : Sat w0 w F) :
    Calls Try.prog 15 #[.pointer none] w (Ret w0 fun v' => numsP .i64 v' [] * F) := by
  go_enter Try.func15, Try.ntmps15
  go_wp2
  go_ret
  exact ⟨_, rfl, hs.slice_nil 1⟩

def addOk (l : List Int) (t : Int) : Prop := 0 ≤ t ∧ t < 64 ∧ t ∉ l
instance (l : List Int) (t : Int) : Decidable (addOk l t) := by unfold addOk; infer_instance

theorem rowAdd_no (b o : Nat) (l : List Int) (t : Int) (w0 w : World) (F : HP) (hs : Sat w0 w (rowP b o l * F)) (hn : ¬ addOk l t) :
    Calls Try.prog 22 #[.pointer (some ⟨b, o, none⟩), .int .i64 t] w fun e w' => e = .returned (.int .i64 1) ∧ w = w' := by
  by_cases h1 : t < 0
  · go_enter Try.func22, Try.ntmps22
    go_wp2_with fail
    go_ret
    exact ⟨rfl, rfl⟩
  · by_cases h2 : 64 ≤ t
    · go_enter Try.func22, Try.ntmps22
      go_wp2_with fail
      go_ret
      exact ⟨rfl, rfl⟩
    · have hm : t ∈ l := Decidable.byContradiction fun h => hn ⟨by omega, by omega, h⟩
      go_enter Try.func22, Try.ntmps22
      go_wp2_with fail
      refine (rowHas b o l t _ _ _ hs).mono ?_
      rintro e w' ⟨rfl, rfl⟩
      go_wp2_with fail
      go_ret
      exact ⟨rfl, rfl⟩

theorem rowAdd_yes (b o : Nat) (l : List Int) (t : Int) (w0 w : World) (F : HP) (hs : Sat w0 w (rowP b o l * F)) (hn : addOk l t) (hl : l.length ≤ 1000000) :
    Calls Try.prog 22 #[.pointer (some ⟨b, o, none⟩), .int .i64 t] w (RetV w0 (.int .i64 0) (rowP b o (l ++ [t]) * F)) := by
  obtain ⟨v, hs1⟩ := hs.ex_out
  have hs2 := hs1.perm (by ac_rfl : _ = numsP .i64 v l * (pts b o [v] * F))
  have c0 := (hs1.perm (by ac_rfl : _ = pts b o [v] * (numsP .i64 v l * F))).c0
  obtain ⟨h1, h2, h3⟩ := hn
  have hd : decide (t ∈ l) = false := by simp [h3]
  go_enter Try.func22, Try.ntmps22
  go_wp2_with fail
  refine (rowHas b o l t _ _ _ hs).mono ?_
  rintro e w' ⟨rfl, rfl⟩
  rw [hd]
  clear hd
  go_wp2_with (at_builtin; refine wpList_append_new (by rfl) (.tmp 24) (.tmp 26) (by rfl) elemI (by rfl) hs2 (by rfl) (by rfl) (by simp [Value.oneCell']) (by unfold maxLen; omega) (by omega) ?_)
  intro v' w' hs' _
  obtain ⟨a', cap', rfl⟩ := hs'.slice_form
  have hs3 := hs'.perm (by ac_rfl : _ = pts b o [v] * (sliceP 1 (.slice a' (l.length + 1) cap') (l.length + 1) (l.map (Value.int .i64) ++ [Value.int .i64 t]) * F))
  have c0' := hs3.c0
  have f0' := hs3.f0
  go_wp2
  go_ret
  refine ⟨rfl, rowP_in (v := .slice a' (l.length + 1) cap') ?_⟩
  simpa [numsP] using hs3.set0 (.slice a' (l.length + 1) cap')

theorem erase_split (l : List Int) (k : Nat) (hk : k < l.length) (f : Int → Value) (sp : List Value) :
    (l.take k).map f ++ (l.drop (k + 1)).map f ++ ((l.drop k).map f ++ sp).drop ((l.drop (k + 1)).map f).length = (l.eraseIdx k).map f ++ ([f (l.getD (l.length - 1) 0)] ++ sp) := by
  rw [List.eraseIdx_eq_take_drop_succ, List.map_append]
  congr 1
  have h1 : ((l.drop k).map f ++ sp).drop ((l.drop (k + 1)).map f).length = ((l.drop k).map f).drop (l.length - (k + 1)) ++ sp := by
    rw [List.drop_append_of_le_length (by simp; omega)]
    simp
  rw [h1]
  congr 1
  rw [← List.map_drop, List.drop_drop, show k + (l.length - (k + 1)) = l.length - 1 by omega, List.drop_eq_getElem_cons (by omega), show l.length - 1 + 1 = l.length by omega]
  simp [List.getD, show l.length - 1 < l.length by omega]

set_option maxRecDepth 100000 in
set_option maxHeartbeats 1600000 in
theorem slicesDelete (v : Value) (l : List Int) (k : Nat) (w0 w : World) (F : HP) (hs : Sat w0 w (numsP .i64 v l * F)) (hk : k < l.length) (hl : l.length ≤ 1000000) (k1 : Int) (hk1 : k1 = k + 1) :
    Calls Try.prog 26 #[v, .int .i64 k, .int .i64 k1] w (Ret w0 fun v' => numsP .i64 v' (l.eraseIdx k) * F) := by
  rcases hs.slice_out with ⟨_, h0, _, _⟩ | ⟨g, off, cap, sp, rfl, hc, hcm, hx, hsp, hs'⟩
  · omega
  unfold maxLen at hcm
  subst hk1
  have hs1 : Sat w0 w.drew (pts g off ((l.take k).map (Value.int .i64) ++ ((l.drop k).map (Value.int .i64) ++ sp)) * F) := hs'.drew.perm (by rw [← List.append_assoc, ← List.map_append, List.take_append_drop])
  obtain ⟨i, hi, h2, h3, h4⟩ := info_parts elemI.hi
  have hlt : ((l.drop (k + 1)).map (Value.int .i64)).length = (l.length - (k + 1)) * 1 := by simp
  have hnews : ∀ j u, ((l.drop (k + 1)).map (Value.int .i64))[j]? = some u → w.drew.cell? ((⟨g, off + (k + 1), none⟩ : Addr).add j) = some u := fun j u hj => by
    rw [Addr.add_lit, Nat.add_assoc]
    refine hs'.drew.cell ?_
    have hj' := (List.getElem?_eq_some_iff.1 hj).1
    simp at hj'
    rw [List.getElem?_append_left (by simp; omega)]
    rw [List.getElem?_map, List.getElem?_drop] at hj
    rw [List.getElem?_map]; exact hj
  have hsp' : ∀ j, j < ((l.drop (k + 1)).map (Value.int .i64)).length → (w.drew.cell? ⟨g, off + k * 1 + j, none⟩).isSome = true ∧ w.drew.frozen? ⟨g, off + k * 1 + j, none⟩ = false := fun j hj => by
    simp at hj
    rw [Nat.mul_one, Nat.add_assoc]
    refine ⟨?_, hs'.drew.frz (by simp; omega)⟩
    rw [hs'.drew.cell (j := k + j) (List.getElem?_eq_getElem (by simp; omega))]; rfl
  have hs2 := Sat.setCells ((l.drop (k + 1)).map (Value.int .i64)) w.drew ((l.take k).map (Value.int .i64)) ((l.drop k).map (Value.int .i64) ++ sp) hs1 (by simp; omega)
  rw [erase_split l k hk] at hs2
  have hs3 := hs2.perm (congrArg (· * F) (pts_append _ _ _ _))
  have hs4 := hs3.perm (congrArg (fun x => _ * x * F) (pts_append _ _ _ _))
  have hs5 := hs4.perm (by ac_rfl : _ = pts g (off + ((l.eraseIdx k).map (Value.int .i64)).length) [Value.int .i64 (l.getD (l.length - 1) 0)] * (pts g off ((l.eraseIdx k).map (Value.int .i64)) * pts g (off + ((l.eraseIdx k).map (Value.int .i64)).length + [Value.int .i64 (l.getD (l.length - 1) 0)].length) sp * F))
  clear hs2 hs3 hs4
  have hle : ((l.eraseIdx k).map (Value.int .i64)).length = l.length - 1 := by simp [List.length_eraseIdx, hk]
  have hlk : ((l.take k).map (Value.int .i64)).length = k := by simp; omega
  rw [hle, hlk] at hs5
  have hkc : k ≤ cap := by omega
  have hkl : k + 1 ≤ l.length := by omega
  have hkI : (k : Int) + 1 ≤ (l.length : Int) := by omega
  have hk0 : (0 : Int) ≤ (k : Int) + 1 := by omega
  have hk00 : (k : Int) ≤ (k : Int) + 1 := by omega
  have hlk1 : l.length - 1 ≤ l.length := by omega
  have hnews2 : cap = k + 1 → ∀ (ad : Addr) j u, ((l.drop (k + 1)).map (Value.int .i64))[j]? = some u → w.drew.cell? (ad.add j) = some u := fun h ad j u hj => by
    have := (List.getElem?_eq_some_iff.1 hj).1
    simp at this; omega
  have hsz : 0 < l.length := by omega
  have hq : k + (l.length - (k + 1)) = l.length - 1 := by omega
  have hq1 : l.length - (l.length - 1) = 1 := by omega
  have e0 : (Builtin.zeroCells (Value.int .i64 0).cells 1).toList = [Value.int .i64 0] := by kernel_rfl
  have hone : ∀ u ∈ (Builtin.zeroCells (Value.int .i64 0).cells 1).toList, u.oneCell' = true := by rw [e0]; simp [Value.oneCell']
  have fin : ∀ (w' : World) (cp : Nat), Sat w0 w' (pts g (off + (l.length - 1)) (Builtin.zeroCells (Value.int .i64 0).cells 1).toList * (pts g off ((l.eraseIdx k).map (Value.int .i64)) * pts g (off + (l.length - 1) + [Value.int .i64 (l.getD (l.length - 1) 0)].length) sp * F)) →
      l.length ≤ cp → cp ≤ maxLen → sp.length = cp - l.length → Sat w0 w' (numsP .i64 (.slice (some ⟨g, off, none⟩) (l.length - 1) cp) (l.eraseIdx k) * F) := fun w' cp h h1 h2 h3 => by
    rw [e0] at h
    have e1 : pts g off ((l.eraseIdx k).map (Value.int .i64) ++ ([Value.int .i64 0] ++ sp)) = pts g off ((l.eraseIdx k).map (Value.int .i64)) * (pts g (off + (l.length - 1)) [Value.int .i64 0] * pts g (off + (l.length - 1) + 1) sp) := by
      rw [pts_append, pts_append, hle]; rfl
    have h4 : Sat w0 w' (pts g off ((l.eraseIdx k).map (Value.int .i64) ++ ([Value.int .i64 0] ++ sp)) * F) := by
      rw [e1]; exact h.perm (by simp only [List.length_singleton]; ac_rfl)
    have hll : (l.eraseIdx k).length = l.length - 1 := by simp [List.length_eraseIdx, hk]
    unfold numsP
    rw [hll]
    exact Sat.slice_in h4 (by omega) h2 (by simp [hll]) (by simp; omega)
  by_cases hne : cap = k + 1
  · subst hne
    have hl1 : l.length - (k + 1) = 0 := by omega
    have hnil : (l.drop (k + 1)).map (Value.int .i64) = [] := by rw [List.drop_eq_nil_of_le (by omega)]; rfl
    rw [hnil] at hs5
    go_enter Try.func26, Try.ntmps26
    go_wp2_with fail
    go_still_tail 6, (by kernel_rfl)
    change wpList _ _ _ _ _ w.drew
    refine wpList_append_room (by rfl) (.tmp 22) (.tmp 25) (by rfl) elemI g off k (k + 1) (by rfl) _ 0 _ [] (by rfl) rfl (fun j u h => by cases h) (fun u h => by cases h) (by omega) (fun j h => absurd h (Nat.not_lt_zero _)) ?_
    rw [show k + 0 = l.length - 1 by omega, Nat.mul_one]
    generalize w.drew.setCells g (off + k) [] = w1 at hs5 ⊢
    clear hsp' hnews hnews2 hs1 hs' hs
    go_wp2_with (refine wpList_clear (o := ⟨none, _, _, _, _, _⟩) (by rfl) (.tmp 31) (by rfl) elemI (b := g) (off := off + (l.length - 1)) (n := 1) (cap := k + 1 - (l.length - 1)) (by rfl) (by decide) hs5 rfl hone ?_)
    intro w' hs'
    go_wp2
    go_ret
    exact ⟨_, rfl, fin _ _ hs' (by omega) (by unfold maxLen; omega) (by omega)⟩
  · go_enter Try.func26, Try.ntmps26
    go_wp2_with fail
    go_still_tail 6, (by kernel_rfl)
    change wpList _ _ _ _ _ w.drew
    refine wpList_append_room (by rfl) (.tmp 22) (.tmp 25) (by rfl) elemI g off k cap (by rfl) _ (l.length - (k + 1)) _ ((l.drop (k + 1)).map (Value.int .i64)) (by rfl) hlt hnews (oneCell_ints _) (by omega) hsp' ?_
    rw [hq, Nat.mul_one]
    generalize w.drew.setCells g (off + k) ((l.drop (k + 1)).map (Value.int .i64)) = w1 at hs5 ⊢
    clear hsp' hnews hnews2 hs1 hs' hs
    go_wp2_with (refine wpList_clear (o := ⟨none, _, _, _, _, _⟩) (by rfl) (.tmp 31) (by rfl) elemI (b := g) (off := off + (l.length - 1)) (n := 1) (cap := cap - (l.length - 1)) (by rfl) (by decide) hs5 rfl hone ?_)
    intro w' hs'
    go_wp2
    go_ret
    exact ⟨_, rfl, fin _ _ hs' (by omega) (by unfold maxLen; omega) (by omega)⟩
end Go.Proofs.Ytigjeflofbdahaa
