/-
  Locks: awake.
-/
import Derived.Test.YtigjeflofbdahaaLockQ
import Derived.Test.YtigjeflofbdahaaLockD
import Derived.Test.YtigjeflofbdahaaInts
namespace Go.Proofs.Ytigjeflofbdahaa
open Go.RowKit Go.Sx Go.Lk
set_option linter.unusedSimpArgs false
set_option linter.unusedVariables false

theorem lit_nums {w0 w : World} {F : HP} (hs : Sat w0 w F) (l : List Int) (t : TypeId) (n : Nat) (hn : n = l.length) (h : l.length ≤ maxLen) (cs : List Value) (hcs : cs = l.map (Value.int .i64)) :
    Sat w0 (w.alloc (.cells cs.toArray t)) (numsP .i64 (.slice (some ⟨w.heap.size, 0, none⟩) n n) l * F) := by
  subst hcs hn
  exact Sat.slice_in (k := 1) (n := l.length) (cap := l.length) (sp := []) ((hs.alloc (l.map (Value.int .i64)).toArray t).perm (by simp)) (Nat.le_refl _) h (by simp) (by simp)
def s0 : Lk := ⟨[5, 3, 1], [5, 3, 1], [-1, -1, -1], [255, 255], [[], []]⟩
def s1 : Lk := ⟨[5, 3, 1], [5, 3, 1], [-1, -1, -1], [0, 255], [[], []]⟩
def s2 : Lk := ⟨[5, 3, 1], [5, 3, 1], [-1, -1, -1], [0, 1], [[], []]⟩
def s3 : Lk := ⟨[5, 3, 1], [3, 3, 1], [-1, 0, -1], [0, 1], [[1], []]⟩
def s4 : Lk := ⟨[5, 3, 1], [1, 1, 1], [-1, 0, 1], [0, 1], [[1], [2]]⟩
def s5 : Lk := ⟨[5, 3, 1], [5, 1, 1], [-1, -1, 1], [1, 1], [[], [2]]⟩
theorem g0 : Good s0 := good_new [5, 3, 1] 2 (by decide) (by decide) (by intro x hx; simp at hx; omega)
theorem g1 : Good s1 := ⟨fit_take (L := s0) (m := 0) (t := 0) g0.fit (by decide) (by decide) (by decide), lev_take (L := s0) (m := 0) (t := 0) g0.fit g0.lev (by decide) (by decide)⟩
theorem g2 : Good s2 := ⟨fit_take (L := s1) (m := 1) (t := 1) g1.fit (by decide) (by decide) (by decide), lev_take (L := s1) (m := 1) (t := 1) g1.fit g1.lev (by decide) (by decide)⟩
theorem n2 : ¬ Go.Lk.Reach s2 0 1 := fun h => absurd (reach_inv h (by decide)).1 (by decide)
theorem n3 : ¬ Go.Lk.Reach s3 1 2 := fun h => absurd (reach_inv (show Go.Lk.Reach s3 0 2 from (reach_inv h (by decide)).2) (by decide)).1 (by decide)
theorem r4 : Go.Lk.Reach s4 1 0 := .step (L := s4) (s := 1) (t := 1) .refl (by decide)
theorem now_is {L : Lk} {now nw : List Int} (h1 : Fit { L with now := now }) (h2 : Lev { L with now := now }) (e : refLv L.own L.ow L.rows = nw) : now = nw := (good_now (L := { L with now := now }) ⟨h1, h2⟩).trans e
set_option maxRecDepth 100000 in
set_option maxHeartbeats 4000000 in
theorem lkAwake (w0 w : World) (F : HP) (hs : Sat w0 w F) :
    Calls Try.prog 5 #[] w (RetV w0 (.bool true) F) := by
  have hs1 := lit_nums hs [5, 3, 1] 3 3 rfl (by decide) [.int .i64 5, .int .i64 3, .int .i64 1] rfl
  go_enter Try.func5, Try.ntmps5
  go_wp2_with fail
  refine (lkNew_fits _ [5, 3, 1] 2 w0 _ F hs1 (by decide) (by decide)).mono ?_
  rintro en w1 ⟨hyes, _⟩
  obtain ⟨b, rfl, hs2⟩ := hyes (by intro x hx; simp at hx; omega)
  have hs2 : Sat w0 w1 (lkP b s0 * F) := Sat.drop (P := numsP .i64 (.slice (some ⟨w.heap.size, 0, none⟩) 3 3) [5, 3, 1]) (hs2.perm (by show lkP b s0 * _ = _; ac_rfl))
  clear hs hs1 hyes
  go_wp2_with fail
  refine (lkLock_take b s0 0 0 w0 _ F hs2 g0.fit (by decide) (by decide) (by decide) (by decide)).mono ?_
  rintro en w2 ⟨rfl, hs3⟩
  have hs3 : Sat w0 w2 (lkP b s1 * F) := hs3
  clear hs2
  go_wp2_with fail
  refine (lkLock_take b s1 1 1 w0 _ F hs3 g1.fit (by decide) (by decide) (by decide) (by decide)).mono ?_
  rintro en w3 ⟨rfl, hs4⟩
  have hs4 : Sat w0 w3 (lkP b s2 * F) := hs4
  clear hs3
  go_wp2_with fail
  refine (lkLock_wait b s2 1 0 w0 _ F hs4 g2.fit g2.lev (by decide) (by decide) (by decide) (by decide) (by decide) n2).mono ?_
  rintro en w4 ⟨rfl, now3, f3, l3, hs5⟩
  obtain rfl := now_is f3 l3 (nw := [3, 3, 1]) (by decide)
  have f3 : Fit s3 := f3
  have l3 : Lev s3 := l3
  have hs5 : Sat w0 w4 (lkP b s3 * F) := hs5
  clear hs4
  have G3 := hid (Good.mk f3 l3)
  clear f3 l3
  go_wp2_with fail
  refine (lkLock_wait b s3 2 1 w0 _ F hs5 G3.out.fit G3.out.lev (by decide) (by decide) (by decide) (by decide) (by decide) n3).mono ?_
  rintro en w5 ⟨rfl, now4, f4, l4, hs6⟩
  obtain rfl := now_is f4 l4 (nw := [1, 1, 1]) (by decide)
  have G4 : Hid (Good s4) := ⟨f4, l4⟩
  have hs6 : Sat w0 w5 (lkP b s4 * F) := hs6
  clear hs5 f4 l4 G3
  go_wp2_with fail
  refine (lkLevels b s4 w0 _ F hs6 G4.out.fit).mono ?_
  rintro en w6 ⟨v6, rfl, hs7⟩
  have hs7 : Sat w0 w6 (numsP .i64 v6 [1, 1, 1] * (lkP b s4 * F)) := hs7
  obtain ⟨a6, c6, rfl⟩ := hs7.slice_form
  clear hs6
  go_wp2_with fail
  have hs8 := hs7.alloc #[.int .i64 1, .int .i64 1, .int .i64 1] 3
  have hl8 := rdN_lit .i64 [1, 1, 1] w6 3 (by decide)
  refine (intsS _ _ [1, 1, 1] [1, 1, 1] w0 _ _ hs8 rd hl8).mono ?_
  rintro en w7 ⟨rfl, hs9⟩
  rw [decide_eq_true (rfl : ([1, 1, 1] : List Int) = [1, 1, 1])]
  clear hs8 hl8
  have hs9 : Sat w0 w7 (lkP b s4 * F) := own_left
  clear hs7
  go_wp2_with fail
  refine (lkLock_circle b s4 0 1 w0 _ F hs9 G4.out.fit (by decide) (by decide) (by decide) (by decide) (by decide) r4).mono ?_
  rintro en w8 ⟨rfl, hsa⟩
  clear hs9
  go_wp2_with fail
  refine (lkUnlock_give b s4 0 0 w0 _ F hsa G4.out.fit (by decide) (by decide) (by decide) (by decide)).mono ?_
  rintro en w9 ⟨x, hx, rfl, now5, f5, l5, hsb⟩
  obtain rfl : x = 1 := by
    have h1 : bestOf s4.now (rg s4.rows 0) = 1 := by decide
    rw [h1] at hx; omega
  obtain rfl := now_is f5 l5 (nw := [5, 1, 1]) (by decide)
  have G5 : Hid (Good s5) := ⟨f5, l5⟩
  have hsb : Sat w0 w9 (lkP b s5 * F) := hsb
  clear hsa f5 l5 hx G4
  go_wp2_with fail
  refine (lkLevels b s5 w0 _ F hsb G5.out.fit).mono ?_
  rintro en wa ⟨va, rfl, hsc⟩
  have hsc : Sat w0 wa (numsP .i64 va [5, 1, 1] * (lkP b s5 * F)) := hsc
  obtain ⟨aa, ca, rfl⟩ := hsc.slice_form
  clear hsb
  go_wp2_with fail
  have hsd := hsc.alloc #[.int .i64 5, .int .i64 1, .int .i64 1] 3
  have hld := rdN_lit .i64 [5, 1, 1] wa 3 (by decide)
  refine (intsS _ _ [5, 1, 1] [5, 1, 1] w0 _ _ hsd rd hld).mono ?_
  rintro en wb ⟨rfl, hse⟩
  rw [decide_eq_true (rfl : ([5, 1, 1] : List Int) = [5, 1, 1])]
  clear hsd hld
  have hse : Sat w0 wb (lkP b s5 * F) := own_left
  clear hsc
  go_wp2_with fail
  refine (lkOwner b s5 0 w0 _ F hse G5.out.fit).mono ?_
  rintro en wc ⟨rfl, hsf⟩
  rw [show ownerOf s5 0 = 1 by decide]
  clear hse
  go_wp2_with fail
  refine (lkWaits b s5 2 w0 _ F hsf G5.out.fit).mono ?_
  rintro en wd ⟨rfl, hsg⟩
  rw [show waitsOf s5 2 = 1 by decide]
  go_wp2_with fail
  go_ret
  exact ⟨rfl, hsg.drop⟩
end Go.Proofs.Ytigjeflofbdahaa
