/-
  The walks of sema, and of the reference's semaphore.
-/
import Derived.Test.YtbnfkfbebnkdnaaWaitLawA
import Derived.Test.YtbnfkfbebnkdnaaLawB
namespace Go.Proofs.Ytbnfkfbebnkdnaa
open Go.RowKit Go.Sx

def semP (b : Nat) (u : Int) (l : List Int) : HP := pts b 0 [.int .i64 u] * rowP b 1 l
def rsemP (b : Nat) (u : Int) (l : List Int) : HP := ex fun v => pts b 0 [.int .i64 u, v] * numsP .i64 v l
structure SemOk (u : Int) (l : List Int) : Prop where
  lo : 0 ≤ u
  hi : u ≤ 255
  row : RowOk l
  rest : 0 < u → l = []
theorem rsemP_in {w0 w : World} {F : HP} {b : Nat} {u : Int} {v : Value} {l : List Int} (hs : Sat w0 w (pts b 0 [.int .i64 u, v] * (numsP .i64 v l * F))) : Sat w0 w (rsemP b u l * F) :=
  Sat.ex_in (f := fun v => pts b 0 [.int .i64 u, v] * numsP .i64 v l) v (hs.perm (by ac_rfl))

def addE (l : List Int) (t : Int) : Int := if addOk l t then 0 else 1
theorem rowAddE (b o : Nat) (l : List Int) (t : Int) (w0 w : World) (F : HP) (hs : Sat w0 w (rowP b o l * F)) (hl : RowOk l) :
    Calls Try.prog 19 #[.pointer (some ⟨b, o, none⟩), .int .i64 t] w (RetV w0 (.int .i64 (addE l t)) (rowP b o (addOne l t) * F)) := rowAdd b o l t w0 w F hs hl
/-! What a semaphore answers, and has. -/
def takeE (u : Int) : Int := if u = 0 then 8 else 0
def takeU (u : Int) : Int := if u = 0 then u else u - 1
def awaitE (u : Int) (l : List Int) (t : Int) : Int := if 0 < u then 1 else addE l t
def awaitL (u : Int) (l : List Int) (t : Int) : List Int := if 0 < u then l else addOne l t
def postT (lv l : List Int) : Int := if l ≠ [] then bestOf lv l else 255
def postE (u : Int) (l : List Int) : Int := if l ≠ [] then 0 else if u = 255 then 7 else 0
def postU (u : Int) (l : List Int) : Int := if l ≠ [] then u else if u = 255 then u else u + 1
def postL (lv l : List Int) : List Int := if l ≠ [] then l.erase (bestOf lv l) else l
theorem semOk_take {u : Int} {l : List Int} (h : SemOk u l) : SemOk (takeU u) l := by
  have := h.lo; have := h.hi
  unfold takeU
  split
  · exact h
  · exact ⟨by omega, by omega, h.row, fun h' => h.rest (by omega)⟩
theorem semOk_await {u : Int} {l : List Int} (h : SemOk u l) (t : Int) : SemOk u (awaitL u l t) := by
  unfold awaitL
  split
  · exact h
  · exact ⟨h.lo, h.hi, addOne_ok h.row t, fun h' => absurd h' (by assumption)⟩
theorem semOk_post {u : Int} {l : List Int} (h : SemOk u l) (lv : List Int) : SemOk (postU u l) (postL lv l) := by
  have := h.lo; have := h.hi
  unfold postU postL
  by_cases hl : l = []
  · simp only [hl, ne_eq, not_true_eq_false, if_false]
    split
    · exact ⟨h.lo, h.hi, rowOk_nil, fun _ => rfl⟩
    · exact ⟨by omega, by omega, rowOk_nil, fun _ => rfl⟩
  · have hu : ¬ 0 < u := fun h' => hl (h.rest h')
    simp only [ne_eq, hl, not_false_eq_true, if_true]
    exact ⟨h.lo, h.hi, rowOk_erase h.row _, fun h' => absurd h' hu⟩
theorem semOk_cancel {u : Int} {l : List Int} (h : SemOk u l) (t : Int) : SemOk u (l.erase t) := ⟨h.lo, h.hi, rowOk_erase h.row t, fun h' => by rw [h.rest h']; rfl⟩

theorem semNew_no (u : Int) (w : World) (h : ¬ (0 ≤ u ∧ u ≤ 255)) :
    Calls Try.prog 28 #[.int .i64 u] w fun e w' => e = .returned (.tuple #[.pointer none, .int .i64 1]) ∧ w = w' := by
  by_cases h1 : u < 0
  · have d : decide (u < 0) = true := by simp [h1]
    go_enter Try.func28, Try.ntmps28
    go_wp2
    go_ret2
    exact ⟨rfl, rfl⟩
  · have d : decide (u < 0) = false := by simp; omega
    have d2 : decide ((255 : Int) < u) = true := by simp; omega
    go_enter Try.func28, Try.ntmps28
    go_wp2
    go_ret2
    exact ⟨rfl, rfl⟩
theorem semP_new {w0 w : World} {F : HP} (u : Int) (hs : Sat w0 w F) (t : TypeId) : Sat w0 (w.alloc (.cells #[.int .i64 u, .slice none 0 0] t)) (semP w.heap.size u [] * F) := by
  have h1 : Sat w0 _ (pts w.heap.size 0 [.int .i64 u, .slice none 0 0] * F) := hs.alloc #[.int .i64 u, .slice none 0 0] t
  rw [pts_cons] at h1
  have h2 := (h1.slice_nil 1).perm (by ac_rfl : _ = pts w.heap.size (0 + 1) [.slice none 0 0] * (sliceP 1 (.slice none 0 0) 0 [] * (pts w.heap.size 0 [.int .i64 u] * F)))
  have h3 : Sat w0 _ (rowP w.heap.size 1 [] * (pts w.heap.size 0 [.int .i64 u] * F)) := rowP_in (v := .slice none 0 0) h2
  exact h3.perm (by unfold semP; ac_rfl)
theorem semNew_yes (u : Int) (w0 w : World) (F : HP) (hs : Sat w0 w F) (h : 0 ≤ u ∧ u ≤ 255) :
    Calls Try.prog 28 #[.int .i64 u] w (RetV w0 (.tuple #[.pointer (some ⟨w.heap.size, 0, none⟩), .int .i64 0]) (semP w.heap.size u [] * F)) := by
  have d : decide (u < 0) = false := by simp; omega
  have d2 : decide ((255 : Int) < u) = false := by simp; omega
  have hs1 := semP_new u hs 90
  go_enter Try.func28, Try.ntmps28
  go_wp2
  go_ret2
  exact ⟨rfl, hs1⟩

theorem semTake_c (b : Nat) (u : Int) (l : List Int) (w0 w : World) (F : HP) (hs : Sat w0 w (semP b u l * F)) (hok : SemOk u l) :
    Calls Try.prog 34 #[.pointer (some ⟨b, 0, none⟩)] w (RetV w0 (.int .i64 (takeE u)) (semP b (takeU u) l * F)) := by
  have hs1 := hs.perm (by unfold semP; ac_rfl : _ = pts b 0 [.int .i64 u] * (rowP b 1 l * F))
  have c0 := hs1.c0
  have f0 := hs1.f0
  have := hok.lo; have := hok.hi
  unfold takeE takeU
  by_cases h : u = 0
  · rw [if_pos h, if_pos h]
    subst h
    go_enter Try.func34, Try.ntmps34
    go_wp2
    go_ret
    exact ⟨rfl, hs⟩
  · rw [if_neg h, if_neg h]
    have d : (u == 0) = false := by simp [h]
    go_enter Try.func34, Try.ntmps34
    go_wp2
    go_ret
    exact ⟨rfl, (hs1.set0 (.int .i64 (u - 1))).perm (by unfold semP; ac_rfl)⟩
theorem semTake_nil (w : World) :
    Calls Try.prog 34 #[.pointer none] w fun e w' => e = .returned (.int .i64 16) ∧ w = w' := by
  go_enter Try.func34, Try.ntmps34
  go_wp2
  go_ret
  exact ⟨rfl, rfl⟩

theorem semAwait_c (b : Nat) (u : Int) (l : List Int) (t : Int) (w0 w : World) (F : HP) (hs : Sat w0 w (semP b u l * F)) (hok : SemOk u l) :
    Calls Try.prog 32 #[.pointer (some ⟨b, 0, none⟩), .int .i64 t] w (RetV w0 (.int .i64 (awaitE u l t)) (semP b u (awaitL u l t) * F)) := by
  have hs1 := hs.perm (by unfold semP; ac_rfl : _ = pts b 0 [.int .i64 u] * (rowP b 1 l * F))
  have c0 := hs1.c0
  unfold awaitE awaitL
  by_cases h : 0 < u
  · rw [if_pos h, if_pos h]
    have d : decide (0 < u) = true := by simp [h]
    go_enter Try.func32, Try.ntmps32
    go_wp2
    go_ret
    exact ⟨rfl, hs⟩
  · rw [if_neg h, if_neg h]
    have d : decide (0 < u) = false := by simp; omega
    go_enter Try.func32, Try.ntmps32
    go_wp2_with fail
    refine (rowAddE b 1 l t w0 _ _ (hs1.perm (by ac_rfl : _ = rowP b 1 l * (pts b 0 [.int .i64 u] * F))) hok.row).mono ?_
    rintro e w' ⟨rfl, hs2⟩
    go_wp2_with fail
    go_ret
    exact ⟨rfl, hs2.perm (by unfold semP; ac_rfl)⟩
theorem semAwait_nil (t : Int) (w : World) :
    Calls Try.prog 32 #[.pointer none, .int .i64 t] w fun e w' => e = .returned (.int .i64 16) ∧ w = w' := by
  go_enter Try.func32, Try.ntmps32
  go_wp2
  go_ret
  exact ⟨rfl, rfl⟩

theorem semPost_c (b : Nat) (u : Int) (l : List Int) (lv : Value) (levels : List Int) (w0 w : World) (F : HP) (hs : Sat w0 w (semP b u l * F)) (hlv : RdN .i64 w lv levels) (hok : SemOk u l) :
    Calls Try.prog 30 #[.pointer (some ⟨b, 0, none⟩), lv] w (RetV w0 (.tuple #[.int .i64 (postT levels l), .int .i64 (postE u l)]) (semP b (postU u l) (postL levels l) * F)) := by
  have hs1 := hs.perm (by unfold semP; ac_rfl : _ = rowP b 1 l * (pts b 0 [.int .i64 u] * F))
  have := hok.lo; have := hok.hi
  unfold postT postE postU postL
  by_cases h : l = []
  · subst h
    simp only [ne_eq, not_true_eq_false, if_false]
    by_cases hu : u = 255
    · rw [if_pos hu, if_pos hu]
      subst hu
      go_enter Try.func30, Try.ntmps30
      go_wp2_with fail
      refine (rowBest b 1 [] lv levels w0 _ _ hs1 hlv hok.row).mono ?_
      rintro e w' ⟨rfl, n, rfl⟩
      have hs2 := (hs1.drewN n).perm (by ac_rfl : _ = pts b 0 [.int .i64 255] * (rowP b 1 [] * F))
      have c0 := hs2.c0
      go_wp2_with fail
      go_ret2
      exact ⟨rfl, hs2.perm (by unfold semP; ac_rfl)⟩
    · rw [if_neg hu, if_neg hu]
      have d : (u == 255) = false := by simp [hu]
      go_enter Try.func30, Try.ntmps30
      go_wp2_with fail
      refine (rowBest b 1 [] lv levels w0 _ _ hs1 hlv hok.row).mono ?_
      rintro e w' ⟨rfl, n, rfl⟩
      have hs2 := (hs1.drewN n).perm (by ac_rfl : _ = pts b 0 [.int .i64 u] * (rowP b 1 [] * F))
      have c0 := hs2.c0
      have f0 := hs2.f0
      have hs3 := hs2.set0 (.int .i64 (u + 1))
      generalize w.drewN n = w2 at *
      go_wp2_with fail
      go_ret2
      exact ⟨rfl, hs3.perm (by unfold semP; ac_rfl)⟩
  · simp only [ne_eq, h, not_false_eq_true, if_true]
    have hd : decide (l ≠ []) = true := by simp [h]
    go_enter Try.func30, Try.ntmps30
    go_wp2_with fail
    refine (rowBest b 1 l lv levels w0 _ _ hs1 hlv hok.row).mono ?_
    rintro e w' ⟨rfl, n, rfl⟩
    rw [hd]
    clear hd
    have hs2 := hs1.drewN n
    have hin := best_in levels l h
    generalize bestOf levels l = t at *
    generalize w.drewN n = w2 at *
    go_wp2_with fail
    refine (rowRemove_yes b 1 l t w0 _ _ hs2 hin (by have := rowOk_len hok.row; omega)).mono ?_
    rintro e w' ⟨rfl, hs3⟩
    go_wp2_with fail
    go_ret2
    exact ⟨rfl, hs3.perm (by unfold semP; ac_rfl)⟩
theorem semPost_nil (lv : Value) (w : World) :
    Calls Try.prog 30 #[.pointer none, lv] w fun e w' => e = .returned (.tuple #[.int .i64 255, .int .i64 16]) ∧ w = w' := by
  go_enter Try.func30, Try.ntmps30
  go_wp2
  go_ret2
  exact ⟨rfl, rfl⟩

theorem semCancel_c (b : Nat) (u : Int) (l : List Int) (t : Int) (w0 w : World) (F : HP) (hs : Sat w0 w (semP b u l * F)) (hok : SemOk u l) :
    Calls Try.prog 38 #[.pointer (some ⟨b, 0, none⟩), .int .i64 t] w (RetV w0 (.bool (decide (t ∈ l))) (semP b u (l.erase t) * F)) := by
  have hs1 := hs.perm (by unfold semP; ac_rfl : _ = rowP b 1 l * (pts b 0 [.int .i64 u] * F))
  go_enter Try.func38, Try.ntmps38
  go_wp2_with fail
  refine (rowRemove b 1 l t w0 _ _ hs1 hok.row).mono ?_
  rintro e w' ⟨rfl, hs3⟩
  go_wp2_with fail
  go_ret
  exact ⟨rfl, hs3.perm (by unfold semP; ac_rfl)⟩
theorem semCancel_nil (t : Int) (w : World) :
    Calls Try.prog 38 #[.pointer none, .int .i64 t] w fun e w' => e = .returned (.bool false) ∧ w = w' := by
  go_enter Try.func38, Try.ntmps38
  go_wp2
  go_ret
  exact ⟨rfl, rfl⟩
theorem semUnits_c (b : Nat) (u : Int) (l : List Int) (w0 w : World) (F : HP) (hs : Sat w0 w (semP b u l * F)) :
    Calls Try.prog 31 #[.pointer (some ⟨b, 0, none⟩)] w fun e w' => e = .returned (.int .i64 u) ∧ w = w' := by
  have c0 := (hs.perm (by unfold semP; ac_rfl : _ = pts b 0 [.int .i64 u] * (rowP b 1 l * F))).c0
  go_enter Try.func31, Try.ntmps31
  go_wp2
  go_ret
  exact ⟨rfl, rfl⟩
theorem semUnits_nil (w : World) :
    Calls Try.prog 31 #[.pointer none] w fun e w' => e = .returned (.int .i64 0) ∧ w = w' := by
  go_enter Try.func31, Try.ntmps31
  go_wp2
  go_ret
  exact ⟨rfl, rfl⟩
theorem semWaiting_c (b : Nat) (u : Int) (l : List Int) (w0 w : World) (F : HP) (hs : Sat w0 w (semP b u l * F)) (hok : SemOk u l) :
    Calls Try.prog 33 #[.pointer (some ⟨b, 0, none⟩)] w (Ret w0 fun v' => numsP .i64 v' l * (semP b u l * F)) := by
  have hs1 := hs.perm (by unfold semP; ac_rfl : _ = rowP b 1 l * (pts b 0 [.int .i64 u] * F))
  go_enter Try.func33, Try.ntmps33
  go_wp2_with fail
  refine (rowAll b 1 l w0 _ _ hs1 (by have := rowOk_len hok.row; omega)).mono ?_
  rintro e w' ⟨v, rfl, hs2⟩
  go_wp2_with fail
  go_ret
  exact ⟨v, rfl, hs2.perm (by unfold semP; ac_rfl)⟩
theorem semWaiting_nil (w0 w : World) (F : HP) (hs : Sat w0 w F) :
    Calls Try.prog 33 #[.pointer none] w (Ret w0 fun v' => numsP .i64 v' [] * F) := by
  go_enter Try.func33, Try.ntmps33
  go_wp2
  go_ret
  exact ⟨_, rfl, hs.slice_nil 1⟩

/-! ### The reference -/
theorem rsemTake_c (b : Nat) (u : Int) (l : List Int) (w0 w : World) (F : HP) (hs : Sat w0 w (rsemP b u l * F)) (hok : SemOk u l) :
    Calls Try.prog 35 #[.pointer (some ⟨b, 0, none⟩)] w (RetV w0 (.int .i64 (takeE u)) (rsemP b (takeU u) l * F)) := by
  obtain ⟨v, hs0⟩ := hs.ex_out
  have hs1 := hs0.perm (by ac_rfl : _ = pts b 0 [.int .i64 u, v] * (numsP .i64 v l * F))
  have c0 := hs1.c0
  have f0 := hs1.f0
  have := hok.lo; have := hok.hi
  unfold takeE takeU
  by_cases h : u = 0
  · rw [if_pos h, if_pos h]
    subst h
    go_enter Try.func35, Try.ntmps35
    go_wp2
    go_ret
    exact ⟨rfl, hs⟩
  · rw [if_neg h, if_neg h]
    have d : (u == 0) = false := by simp [h]
    go_enter Try.func35, Try.ntmps35
    go_wp2
    go_ret
    exact ⟨rfl, rsemP_in (hs1.set0 (.int .i64 (u - 1)))⟩

theorem rsemAwait_c (b : Nat) (u : Int) (l : List Int) (t : Int) (w0 w : World) (F : HP) (hs : Sat w0 w (rsemP b u l * F)) (hok : SemOk u l) :
    Calls Try.prog 36 #[.pointer (some ⟨b, 0, none⟩), .int .i64 t] w (RetV w0 (.int .i64 (awaitE u l t)) (rsemP b u (awaitL u l t) * F)) := by
  obtain ⟨v, hs0⟩ := hs.ex_out
  have hs1 := hs0.perm (by ac_rfl : _ = pts b 0 [.int .i64 u, v] * (numsP .i64 v l * F))
  have hs2 := hs0.perm (by ac_rfl : _ = numsP .i64 v l * (pts b 0 [.int .i64 u, v] * F))
  have c0 := hs1.c0
  have c1 := hs1.c01
  have rl := hs2.rdN
  have hlen := rowOk_len hok.row
  obtain ⟨a, cap, rfl⟩ := hs2.slice_form
  unfold awaitE awaitL
  by_cases h : 0 < u
  · rw [if_pos h, if_pos h]
    have d : decide (0 < u) = true := by simp [h]
    go_enter Try.func36, Try.ntmps36
    go_wp2
    go_ret
    exact ⟨rfl, hs⟩
  · rw [if_neg h, if_neg h]
    have d : decide (0 < u) = false := by simp; omega
    by_cases ho : addOk l t
    · have e1 : addE l t = 0 := if_pos ho
      have e2 : addOne l t = l ++ [t] := if_pos ho
      rw [e1, e2]
      obtain ⟨a1, a2, a3⟩ := ho
      have hx : idx l t = -1 := by unfold idx; rw [if_neg a3]
      have d1 : decide (t < 0) = false := by simp; omega
      have d2 : decide ((63 : Int) < t) = false := by simp; omega
      clear a3
      go_enter Try.func36, Try.ntmps36
      go_wp2_with fail
      refine (refIndex _ l t _ rl).mono ?_
      rintro e w' ⟨rfl, rfl⟩
      rw [hx]
      clear hx e1 e2
      have hnw := rl.news
      have c1a : ∀ o, (w.alloc o).cell? ⟨b, 1, none⟩ = some (.slice a l.length cap) := fun o => cell_alloc c1 o
      go_wp2_with (at_builtin; refine wpList_append_sat (by rfl) (.tmp 28) (.tmp 32) (by rfl) elemI (by rfl) (hs1.empty_slice 1 3) a l.length cap (l.map (Value.int .i64)) (by rfl) (by simp) hnw.2.1 (fun a' ha' j u hj => cell_alloc (hnw.2.2 a' ha' j u hj) _) (oneCell_ints l) (by unfold maxLen; omega) (by omega) ?_)
      intro v' w2 hs3 _
      clear hnw rl
      have hs4 : Sat w0 w2 (sliceP 1 v' l.length (l.map (Value.int .i64)) * (pts b 0 [.int .i64 u, .slice a l.length cap] * (numsP .i64 (.slice a l.length cap) l * F))) := by simpa using hs3
      go_wp2_with (at_builtin; refine wpList_append_new (by rfl) (.tmp 33) (.tmp 35) (by rfl) elemI (by rfl) hs4 (by rfl) (by rfl) (by simp [Value.oneCell']) (by unfold maxLen; omega) (by omega) ?_)
      intro v'' w3 hs5 _
      obtain ⟨a', cap', rfl⟩ := hs5.slice_form
      have hs6 := hs5.perm (by ac_rfl : _ = pts b 0 [.int .i64 u, .slice a l.length cap] * (numsP .i64 (.slice a l.length cap) l * (sliceP 1 (.slice a' (l.length + 1) cap') (l.length + 1) (l.map (Value.int .i64) ++ [Value.int .i64 t]) * F)))
      have c1' := hs6.c01
      have f1' := hs6.f01
      clear hs3 hs4 hs5
      go_wp2_with fail
      go_ret
      have hs7 : Sat w0 (w3.setCell ⟨b, 1, none⟩ (.slice a' (l.length + 1) cap')) (pts b 0 [.int .i64 u, .slice a' (l.length + 1) cap'] * (numsP .i64 (.slice a l.length cap) l * (sliceP 1 (.slice a' (l.length + 1) cap') (l.length + 1) (l.map (Value.int .i64) ++ [Value.int .i64 t]) * F))) := by simpa using hs6.set1 (.slice a' (l.length + 1) cap')
      have hs8 := (hs7.perm (by ac_rfl : _ = numsP .i64 (.slice a l.length cap) l * (pts b 0 [.int .i64 u, .slice a' (l.length + 1) cap'] * (sliceP 1 (.slice a' (l.length + 1) cap') (l.length + 1) (l.map (Value.int .i64) ++ [Value.int .i64 t]) * F)))).drop
      exact ⟨rfl, rsemP_in (v := .slice a' (l.length + 1) cap') (hs8.perm (by simp [numsP]))⟩
    · have e1 : addE l t = 1 := if_neg ho
      have e2 : addOne l t = l := if_neg ho
      rw [e1, e2]
      by_cases h1 : t < 0
      · have d1 : decide (t < 0) = true := by simp [h1]
        go_enter Try.func36, Try.ntmps36
        go_wp2
        go_ret
        exact ⟨rfl, hs⟩
      · have d1 : decide (t < 0) = false := by simp; omega
        by_cases h2 : 63 < t
        · have d2 : decide ((63 : Int) < t) = true := by simp [h2]
          go_enter Try.func36, Try.ntmps36
          go_wp2
          go_ret
          exact ⟨rfl, hs⟩
        · have d2 : decide ((63 : Int) < t) = false := by simp; omega
          have hm : t ∈ l := Decidable.byContradiction fun h => ho ⟨by omega, by omega, h⟩
          have hx : decide (0 ≤ idx l t) = true := by rw [idx_nonneg]; simp [hm]
          clear e1 e2
          go_enter Try.func36, Try.ntmps36
          go_wp2_with fail
          refine (refIndex _ l t _ rl).mono ?_
          rintro e w' ⟨rfl, rfl⟩
          go_wp2_with fail
          go_ret
          exact ⟨rfl, hs⟩

theorem rsemPost_c (b : Nat) (u : Int) (l : List Int) (lv : Value) (levels : List Int) (w0 w : World) (F : HP) (hs : Sat w0 w (rsemP b u l * F)) (hlv : RdN .i64 w lv levels) (hok : SemOk u l) :
    Calls Try.prog 37 #[.pointer (some ⟨b, 0, none⟩), lv] w (RetV w0 (.tuple #[.int .i64 (postT levels l), .int .i64 (postE u l)]) (rsemP b (postU u l) (postL levels l) * F)) := by
  obtain ⟨v, hs0⟩ := hs.ex_out
  have hs1 := hs0.perm (by ac_rfl : _ = pts b 0 [.int .i64 u, v] * (numsP .i64 v l * F))
  have hs2 := hs0.perm (by ac_rfl : _ = numsP .i64 v l * (pts b 0 [.int .i64 u, v] * F))
  have c0 := hs1.c0
  have c1 := hs1.c01
  have f0 := hs1.f0
  have rl := hs2.rdN
  have hlen := rowOk_len hok.row
  have hnn : ∀ x ∈ l, 0 ≤ x := fun x hx => (hok.row.2 x hx).1
  obtain ⟨a, cap, rfl⟩ := hs2.slice_form
  have := hok.lo; have := hok.hi
  unfold postT postE postU postL
  by_cases h : l = []
  · subst h
    simp only [ne_eq, not_true_eq_false, if_false]
    by_cases hu : u = 255
    · rw [if_pos hu, if_pos hu]
      subst hu
      go_enter Try.func37, Try.ntmps37
      go_wp2_with fail
      refine (refBest _ lv [] levels _ rl hlv hnn (by simp)).mono ?_
      rintro e w' ⟨rfl, n, rfl⟩
      rw [show rBest levels [] = -1 from rfl]
      go_wp2_with fail
      go_ret2
      exact ⟨rfl, hs.drewN n⟩
    · rw [if_neg hu, if_neg hu]
      have d : (u == 255) = false := by simp [hu]
      go_enter Try.func37, Try.ntmps37
      go_wp2_with fail
      refine (refBest _ lv [] levels _ rl hlv hnn (by simp)).mono ?_
      rintro e w' ⟨rfl, n, rfl⟩
      rw [show rBest levels [] = -1 from rfl]
      have hs3 := hs1.drewN n
      have c0' := hs3.c0
      have f0' := hs3.f0
      have hs4 := hs3.set0 (.int .i64 (u + 1))
      generalize w.drewN n = w2 at *
      go_wp2_with fail
      go_ret2
      exact ⟨rfl, rsemP_in hs4⟩
  · simp only [ne_eq, h, not_false_eq_true, if_true]
    have hag : rBest levels l = bestOf levels l := by
      cases l with
      | nil => exact absurd rfl h
      | cons x r => exact best_agree levels x r (hnn x (by simp)) (fun y hy => hnn y (by simp [hy]))
    have hin := hnn _ (best_in levels l h)
    have hef : l.erase (bestOf levels l) = l.filter (· != bestOf levels l) := hok.row.1.erase_eq_filter _
    have hef := hid hef
    go_enter Try.func37, Try.ntmps37
    go_wp2_with fail
    refine (refBest _ lv l levels _ rl hlv hnn (by omega)).mono ?_
    rintro e w' ⟨rfl, n, rfl⟩
    rw [hag]
    clear hag
    have hs3 := hs1.drewN n
    have c1' := hs3.c01
    have hs3' := hs2.drewN n
    generalize bestOf levels l = t at *
    generalize w.drewN n = w2 at *
    have dt : decide (0 ≤ t) = true := by simp [hin]
    go_wp2_with fail
    refine (refWithout _ l t w0 _ _ hs3' (stays_own rfl) (by omega)).mono ?_
    rintro e w3 ⟨v', rfl, hs5⟩
    generalize hL : l.filter (· != t) = L at *
    change Sat w0 w3 (numsP .i64 v' L * (numsP .i64 (.slice a l.length cap) l * (pts b 0 [.int .i64 u, .slice a l.length cap] * F))) at hs5
    obtain ⟨a', cap', rfl⟩ := hs5.slice_form
    have hs6 := hs5.perm (by ac_rfl : _ = pts b 0 [.int .i64 u, .slice a l.length cap] * (numsP .i64 (.slice a l.length cap) l * (numsP .i64 (.slice a' L.length cap') L * F)))
    have c2 := hs6.c01
    have f2 := hs6.f01
    have hL := hid hL
    clear hs3 hs3' hs5 rl hlv c0 c1 f0 c1'
    go_wp2_with fail
    go_ret2
    have hs7 : Sat w0 (w3.setCell ⟨b, 1, none⟩ (.slice a' L.length cap')) (pts b 0 [.int .i64 u, .slice a' L.length cap'] * (numsP .i64 (.slice a l.length cap) l * (numsP .i64 (.slice a' L.length cap') L * F))) := by simpa using hs6.set1 (.slice a' L.length cap')
    have hs8 := (hs7.perm (by ac_rfl : _ = numsP .i64 (.slice a l.length cap) l * (pts b 0 [.int .i64 u, .slice a' L.length cap'] * (numsP .i64 (.slice a' L.length cap') L * F)))).drop
    refine ⟨rfl, ?_⟩
    rw [hef.out]
    exact rsemP_in hs8

theorem rsemCancel_c (b : Nat) (u : Int) (l : List Int) (t : Int) (w0 w : World) (F : HP) (hs : Sat w0 w (rsemP b u l * F)) (hok : SemOk u l) :
    Calls Try.prog 39 #[.pointer (some ⟨b, 0, none⟩), .int .i64 t] w (RetV w0 (.bool (decide (t ∈ l))) (rsemP b u (l.erase t) * F)) := by
  obtain ⟨v, hs0⟩ := hs.ex_out
  have hs1 := hs0.perm (by ac_rfl : _ = pts b 0 [.int .i64 u, v] * (numsP .i64 v l * F))
  have hs2 := hs0.perm (by ac_rfl : _ = numsP .i64 v l * (pts b 0 [.int .i64 u, v] * F))
  have c1 := hs1.c01
  have rl := hs2.rdN
  have hlen := rowOk_len hok.row
  obtain ⟨a, cap, rfl⟩ := hs2.slice_form
  have hef : l.erase t = l.filter (· != t) := hok.row.1.erase_eq_filter t
  have hef := hid hef
  have hge : decide (0 ≤ idx l t) = decide (t ∈ l) := idx_nonneg
  go_enter Try.func39, Try.ntmps39
  go_wp2_with fail
  refine (refIndex _ l t _ rl).mono ?_
  rintro e w' ⟨rfl, rfl⟩
  go_wp2_with fail
  refine (refWithout _ l t w0 _ _ hs2 (stays_own rfl) (by omega)).mono ?_
  rintro e w3 ⟨v', rfl, hs5⟩
  generalize hL : l.filter (· != t) = L at *
  change Sat w0 w3 (numsP .i64 v' L * (numsP .i64 (.slice a l.length cap) l * (pts b 0 [.int .i64 u, .slice a l.length cap] * F))) at hs5
  obtain ⟨a', cap', rfl⟩ := hs5.slice_form
  have hs6 := hs5.perm (by ac_rfl : _ = pts b 0 [.int .i64 u, .slice a l.length cap] * (numsP .i64 (.slice a l.length cap) l * (numsP .i64 (.slice a' L.length cap') L * F)))
  have c2 := hs6.c01
  have f2 := hs6.f01
  have hL := hid hL
  clear hs2 hs5 rl c1
  go_wp2_with fail
  go_ret
  have hs7 : Sat w0 (w3.setCell ⟨b, 1, none⟩ (.slice a' L.length cap')) (pts b 0 [.int .i64 u, .slice a' L.length cap'] * (numsP .i64 (.slice a l.length cap) l * (numsP .i64 (.slice a' L.length cap') L * F))) := by simpa using hs6.set1 (.slice a' L.length cap')
  have hs8 := (hs7.perm (by ac_rfl : _ = numsP .i64 (.slice a l.length cap) l * (pts b 0 [.int .i64 u, .slice a' L.length cap'] * (numsP .i64 (.slice a' L.length cap') L * F)))).drop
  refine ⟨rfl, ?_⟩
  rw [hef.out]
  exact rsemP_in hs8
end Go.Proofs.Ytbnfkfbebnkdnaa
