/-
  Delta lists: awake.
-/
import Derived.Test.YtfphgcplpokigaaDeltaG
namespace Go.Proofs.Ytfphgcplpokigaa
open Go.RowKit Go.Sx Go.Dl
attribute [local simp, local go_sem] zeroList zeroL_size zeroL_ne

theorem intsS (v u : Value) (l m : List Int) (w0 w : World) (P : HP) (hs : Sat w0 w P) (h : RdN .i64 w v l) (hm : RdN .i64 w u m) :
    Calls Try.prog 33 #[v, u] w (RetV w0 (.bool (decide (l = m))) P) :=
  (ints v u l m w h hm).mono (by rintro e w' ⟨rfl, n, rfl⟩; exact ⟨rfl, hs.drewN n⟩)
theorem delSameS (v u : Value) (l m : List Ck) (w0 w : World) (P : HP) (hs : Sat w0 w P) (h : RdR w v l) (hm : RdR w u m) :
    Calls Try.prog 29 #[v, u] w (RetV w0 (.bool (decide (l = m))) P) :=
  (delSame v u l m w h hm).mono (by rintro e w' ⟨rfl, n, rfl⟩; exact ⟨rfl, hs.drewN n⟩)

set_option maxRecDepth 100000 in
set_option maxHeartbeats 1000000 in
theorem delAwake (w0 w : World) (F : HP) (hs : Sat w0 w F) :
    Calls Try.prog 20 #[] w (RetV w0 (.bool true) F) := by
  have k0 := sok_nil
  have k1 : SOk [(7, 2)] := sok_put (id := 7) (t := 2) k0 (by decide) (by decide) (by decide)
  have k2 : SOk [(3, 1), (7, 2)] := sok_put (id := 3) (t := 1) k1 (by decide) (by decide) (by decide)
  have k3 : SOk [(3, 1), (7, 2), (5, 2)] := sok_put (id := 5) (t := 2) k2 (by decide) (by decide) (by decide)
  have k4 : SOk [(7, 1), (5, 1)] := sok_tick k3
  have k5 : SOk [(7, 1), (5, 1), (9, 1)] := sok_put (id := 9) (t := 1) k4 (by decide) (by decide) (by decide)
  have K0 := hid k0
  have K1 := hid k1
  have K2 := hid k2
  have K3 := hid k3
  have K4 := hid k4
  have K5 := hid k5
  clear k0 k1 k2 k3 k4 k5
  have hs1 := delP_new hs 27
  go_enter Try.func20, Try.ntmps20
  go_wp2_with fail
  generalize w.heap.size = b at *
  refine (delPut_yes b [] 7 2 w0 _ F hs1 K0.out (by decide)).mono ?_
  rintro e w1 ⟨rfl, hs2⟩
  have hs2 : Sat w0 w1 (delP b [(7, 2)] * F) := hs2
  go_wp2_with fail
  refine (delPut_yes b [(7, 2)] 3 1 w0 _ F hs2 K1.out (by decide)).mono ?_
  rintro e w2 ⟨rfl, hs3⟩
  have hs3 : Sat w0 w2 (delP b [(3, 1), (7, 2)] * F) := hs3
  go_wp2_with fail
  refine (delPut_yes b [(3, 1), (7, 2)] 5 2 w0 _ F hs3 K2.out (by decide)).mono ?_
  rintro e w3 ⟨rfl, hs4⟩
  have hs4 : Sat w0 w3 (delP b [(3, 1), (7, 2), (5, 2)] * F) := hs4
  clear hs hs1 hs2 hs3
  go_wp2_with fail
  refine (delDues_some b [(3, 1), (7, 2), (5, 2)] w0 _ F hs4 K3.out).mono ?_
  rintro e w4 ⟨v, rfl, hs5⟩
  obtain ⟨a5, c5, rfl⟩ := hs5.recs_form
  go_wp2_with fail
  have hs6 := hs5.alloc #[.int .i64 3, .int .i64 1, .int .i64 7, .int .i64 2, .int .i64 5, .int .i64 2] 52
  have hlit : RdR (w4.alloc (.cells #[.int .i64 3, .int .i64 1, .int .i64 7, .int .i64 2, .int .i64 5, .int .i64 2] 52)) (.slice (some ⟨w4.heap.size, 0, none⟩) 3 3) ([(3, 1), (7, 2), (5, 2)] : List Ck) := rdR_lit [(3, 1), (7, 2), (5, 2)] w4 _ _ rfl 3 rfl (by decide)
  have hrd : RdR (w4.alloc (.cells #[.int .i64 3, .int .i64 1, .int .i64 7, .int .i64 2, .int .i64 5, .int .i64 2] 52)) (.slice a5 3 c5) ([(3, 1), (7, 2), (5, 2)] : List Ck) := (hs6.pull (Q := recsP (.slice a5 3 c5) ([(3, 1), (7, 2), (5, 2)] : List Ck))).rdR
  refine (delSame _ _ _ _ _ hrd hlit).mono ?_
  rintro e w' ⟨rfl, n1, rfl⟩
  rw [decide_eq_true (rfl : ([(3, 1), (7, 2), (5, 2)] : List Ck) = [(3, 1), (7, 2), (5, 2)])]
  have hs7 := hs6.drewN n1
  generalize (w4.alloc (.cells #[.int .i64 3, .int .i64 1, .int .i64 7, .int .i64 2, .int .i64 5, .int .i64 2] 52)).drewN n1 = w5 at hs7 ⊢
  clear hs4 hs5 hs6 hlit hrd
  have hs7 : Sat w0 w5 (delP b [(3, 1), (7, 2), (5, 2)] * F) := own_left
  go_wp2_with fail
  refine (delTick_some b (3, 1) [(7, 2), (5, 2)] w0 _ F hs7 K3.out).mono ?_
  rintro e w6 ⟨v6, rfl, hs8⟩
  have hs8 : Sat w0 w6 (numsP .i64 v6 [3] * (delP b [(7, 1), (5, 1)] * F)) := hs8
  obtain ⟨a6, c6, rfl⟩ := hs8.slice_form
  go_wp2_with fail
  refine (delPut_yes b [(7, 1), (5, 1)] 9 1 w0 _ (numsP .i64 (.slice a6 1 c6) [3] * F) (hs8.perm (by ac_rfl)) K4.out (by decide)).mono ?_
  rintro e w7 ⟨rfl, hs9⟩
  have hs9 : Sat w0 w7 (delP b [(7, 1), (5, 1), (9, 1)] * (numsP .i64 (.slice a6 1 c6) [3] * F)) := hs9
  go_wp2_with fail
  refine (delTick_some b (7, 1) [(5, 1), (9, 1)] w0 _ _ hs9 K5.out).mono ?_
  rintro e w8 ⟨v8, rfl, hsA⟩
  have hsA : Sat w0 w8 (numsP .i64 v8 [7, 5, 9] * (delP b [] * (numsP .i64 (.slice a6 1 c6) [3] * F))) := hsA
  obtain ⟨a8, c8, rfl⟩ := hsA.slice_form
  clear hs7 hs8 hs9
  go_wp2_with fail
  have hsB := hsA.alloc #[.int .i64 3] 3
  have hlB := rdN_lit .i64 [3] w8 3 (by decide)
  refine (intsS _ _ [3] [3] w0 _ _ hsB rd hlB).mono ?_
  rintro e w9 ⟨rfl, hsC⟩
  rw [decide_eq_true (rfl : ([3] : List Int) = [3])]
  clear hsB hlB
  generalize w8.heap.size = lb1 at hsC ⊢
  clear hsA
  go_wp2_with fail
  have hsD := hsC.alloc #[.int .i64 7, .int .i64 5, .int .i64 9] 3
  have hlD := rdN_lit .i64 [7, 5, 9] w9 3 (by decide)
  refine (intsS _ _ [7, 5, 9] [7, 5, 9] w0 _ _ hsD rd hlD).mono ?_
  rintro e wA ⟨rfl, hsE⟩
  rw [decide_eq_true (rfl : ([7, 5, 9] : List Int) = [7, 5, 9])]
  clear hsC hsD hlD
  go_wp2_with fail
  refine (delPut_no b [] 256 1 w0 _ F own_left (by decide)).mono ?_
  rintro e wB ⟨rfl, hsF⟩
  clear hsE
  go_wp2_with fail
  refine (delPut_no b [] 1 0 w0 _ F hsF (by decide)).mono ?_
  rintro e wC ⟨rfl, hsG⟩
  go_wp2_with fail
  go_ret
  exact ⟨rfl, own_left⟩
end Go.Proofs.Ytfphgcplpokigaa
