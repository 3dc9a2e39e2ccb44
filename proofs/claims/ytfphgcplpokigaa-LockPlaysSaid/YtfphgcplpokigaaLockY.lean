/-
  Locks and the reference's: the contract of alike.
-/
import Derived.Test.YtfphgcplpokigaaLockX
import Derived.Test.YtfphgcplpokigaaInts
namespace Go.Proofs.Ytfphgcplpokigaa
open Go.RowKit Go.Sx Go.Lk
set_option linter.unusedSimpArgs false
set_option linter.unusedVariables false

theorem Sat.slice_cell {w0 w : World} {F : HP} {g off cap n : Nat} {xs : List Value} (hs : Sat w0 w (sliceP 1 (.slice (some ⟨g, off, none⟩) n cap) n xs * F)) {k : Nat} (hk : k < xs.length) :
    w.cell? ⟨g, off + k, none⟩ = some (xs.getD k .nilFunc) ∧ w.frozen? ⟨g, off + k, none⟩ = false := by
  rcases hs.slice_out with ⟨e, _⟩ | ⟨g', off', cap', sp, e, _, _, hx, _, hs'⟩
  · cases e
  · simp only [Value.slice.injEq, Option.some.injEq, Addr.mk.injEq] at e
    obtain ⟨⟨rfl, rfl, _⟩, _, _⟩ := e
    exact pts_split hs' (by rw [List.getElem?_append_left hk]; simp [List.getD, hk])
/-- The reference's locks, all named that its cells hold. -/
def lrV (b : Nat) (L : Lk) (a0 : Option Addr) (c0 : Nat) (a1 : Option Addr) (c1 : Nat) (a2 : Option Addr) (c2 : Nat) (xs : List Value) : HP :=
  pts b 0 [.slice a0 L.own.length c0, .slice a1 L.ow.length c1, .slice a2 L.rows.length c2] * (numsP .i64 (.slice a0 L.own.length c0) L.own * (numsP .i64 (.slice a1 L.ow.length c1) L.ow * (sliceP 1 (.slice a2 L.rows.length c2) L.rows.length xs * allN xs L.rows)))
/-- Number i of the slices. -/
class RowIs (xs : List Value) (i : Nat) (v : outParam Value) : Prop where
  eq : xs.getD i .nilFunc = v
  lt : i < xs.length
section
variable {b : Nat} {L : Lk} {a0 : Option Addr} {c0 : Nat} {a1 : Option Addr} {c1 : Nat} {a2 : Option Addr} {c2 : Nat} {xs : List Value} {w0 w : World} {F : HP}
theorem lrV_in (hl : xs.length = L.rows.length) (hs : Sat w0 w (lrV b L a0 c0 a1 c1 a2 c2 xs * F)) : Sat w0 w (lrP b L * F) :=
  by
  have h1 : Sat w0 w (sliceP 1 (.slice a2 L.rows.length c2) L.rows.length xs * (allN xs L.rows * (pts b 0 [.slice a0 L.own.length c0, .slice a1 L.ow.length c1, .slice a2 L.rows.length c2] * (numsP .i64 (.slice a0 L.own.length c0) L.own * (numsP .i64 (.slice a1 L.ow.length c1) L.ow * F))))) := hs.perm (by unfold lrV; ac_rfl)
  exact lrP_in (v0 := .slice a0 L.own.length c0) (v1 := .slice a1 L.ow.length c1) (v2 := .slice a2 L.rows.length c2) ((rowsP_in (xs := xs) hl h1).perm (by ac_rfl))
theorem lrV_out (hs : Sat w0 w (lrP b L * F)) : ∃ a0 c0 a1 c1 a2 c2 xs, xs.length = L.rows.length ∧ Sat w0 w (lrV b L a0 c0 a1 c1 a2 c2 xs * F) := by
  obtain ⟨a0, c0, a1, c1, a2, c2, h⟩ := lrP_out hs
  obtain ⟨xs, hl, h⟩ := rowsP_out (h.perm (by ac_rfl : _ = rowsP (.slice a2 L.rows.length c2) L.rows * (pts b 0 [.slice a0 L.own.length c0, .slice a1 L.ow.length c1, .slice a2 L.rows.length c2] * (numsP .i64 (.slice a0 L.own.length c0) L.own * (numsP .i64 (.slice a1 L.ow.length c1) L.ow * F)))))
  exact ⟨a0, c0, a1, c1, a2, c2, xs, hl, h.perm (by unfold lrV; ac_rfl)⟩
theorem lrV_rd (hl : xs.length = L.rows.length) (hs : Sat w0 w (lrV b L a0 c0 a1 c1 a2 c2 xs * F)) : RdRl w b L := lrP_rd (lrV_in hl hs)
theorem lrV_row (hl : xs.length = L.rows.length) (hs : Sat w0 w (lrV b L a0 c0 a1 c1 a2 c2 xs * F)) {i : Nat} (hi : i < L.rows.length) : RdN .i64 w (xs.getD i .nilFunc) (rg L.rows i) := by
  refine Sat.rdN (F := allX i xs L.rows * (sliceP 1 (.slice a2 L.rows.length c2) L.rows.length xs * (pts b 0 [.slice a0 L.own.length c0, .slice a1 L.ow.length c1, .slice a2 L.rows.length c2] * (numsP .i64 (.slice a0 L.own.length c0) L.own * (numsP .i64 (.slice a1 L.ow.length c1) L.ow * F))))) (hs.perm ?_)
  unfold lrV
  rw [allN_at i xs L.rows hl hi]; ac_rfl
theorem lrV_form (hl : xs.length = L.rows.length) (hs : Sat w0 w (lrV b L a0 c0 a1 c1 a2 c2 xs * F)) {i : Nat} (hi : i < L.rows.length) : ∃ a c, xs.getD i .nilFunc = .slice a (rg L.rows i).length c := by
  obtain ⟨a, c, _, _, h, _⟩ := lrV_row hl hs hi
  exact ⟨a, c, h⟩
theorem lrV_some1 (hs : Sat w0 w (lrV b L a0 c0 a1 c1 a2 c2 xs * F)) (h : 0 < L.ow.length) : ∃ g o, a1 = some ⟨g, o, none⟩ :=
  Sat.someA (hs.perm (by unfold lrV; ac_rfl : _ = numsP .i64 (.slice a1 L.ow.length c1) L.ow * (pts b 0 [.slice a0 L.own.length c0, .slice a1 L.ow.length c1, .slice a2 L.rows.length c2] * (numsP .i64 (.slice a0 L.own.length c0) L.own * (sliceP 1 (.slice a2 L.rows.length c2) L.rows.length xs * allN xs L.rows)) * F))) a1 h
theorem lrV_some2 (hs : Sat w0 w (lrV b L a0 c0 a1 c1 a2 c2 xs * F)) (h : 0 < L.rows.length) : ∃ g o, a2 = some ⟨g, o, none⟩ := by
  rcases (hs.perm (by unfold lrV; ac_rfl : _ = sliceP 1 (.slice a2 L.rows.length c2) L.rows.length xs * (pts b 0 [.slice a0 L.own.length c0, .slice a1 L.ow.length c1, .slice a2 L.rows.length c2] * (numsP .i64 (.slice a0 L.own.length c0) L.own * (numsP .i64 (.slice a1 L.ow.length c1) L.ow * allN xs L.rows)) * F))).slice_out with ⟨_, e, _⟩ | ⟨g, o, _, _, e, _⟩
  · omega
  · cases e; exact ⟨g, o, rfl⟩
end
section
variable (b : Nat) (L : Lk) (a0 : Option Addr) (c0 : Nat) (a1 : Option Addr) (c1 : Nat) (a2 : Option Addr) (c2 : Nat) (xs : List Value)
instance lrV_c0 : Cell (lrV b L a0 c0 a1 c1 a2 c2 xs) b 0 (.slice a0 L.own.length c0) :=
  ⟨fun hs => Cell.cell (P := _ * _) (b := b) (o := 0) hs, fun hs => Cell.free (P := _ * _) (b := b) (o := 0) hs⟩
instance lrV_c1 : Cell (lrV b L a0 c0 a1 c1 a2 c2 xs) b 1 (.slice a1 L.ow.length c1) :=
  ⟨fun hs => Cell.cell (P := _ * _) (b := b) (o := 1) hs, fun hs => Cell.free (P := _ * _) (b := b) (o := 1) hs⟩
instance lrV_c2 : Cell (lrV b L a0 c0 a1 c1 a2 c2 xs) b 2 (.slice a2 L.rows.length c2) :=
  ⟨fun hs => Cell.cell (P := _ * _) (b := b) (o := 2) hs, fun hs => Cell.free (P := _ * _) (b := b) (o := 2) hs⟩
instance lrV_ow (g o k : Nat) [h : Lt k L.ow.length] : Cell (lrV b L a0 c0 (some ⟨g, o, none⟩) c1 a2 c2 xs) g (o + k) (.int .i64 (lg L.ow k)) :=
  ⟨fun {w0 w F} hs => (Sat.nums_cell (hs.perm (by unfold lrV; ac_rfl : _ = numsP .i64 (.slice (some ⟨g, o, none⟩) L.ow.length c1) L.ow * (pts b 0 [.slice a0 L.own.length c0, .slice (some ⟨g, o, none⟩) L.ow.length c1, .slice a2 L.rows.length c2] * (numsP .i64 (.slice a0 L.own.length c0) L.own * (sliceP 1 (.slice a2 L.rows.length c2) L.rows.length xs * allN xs L.rows)) * F))) h.lt).1,
   fun {w0 w F} hs => (Sat.nums_cell (hs.perm (by unfold lrV; ac_rfl : _ = numsP .i64 (.slice (some ⟨g, o, none⟩) L.ow.length c1) L.ow * (pts b 0 [.slice a0 L.own.length c0, .slice (some ⟨g, o, none⟩) L.ow.length c1, .slice a2 L.rows.length c2] * (numsP .i64 (.slice a0 L.own.length c0) L.own * (sliceP 1 (.slice a2 L.rows.length c2) L.rows.length xs * allN xs L.rows)) * F))) h.lt).2⟩
instance lrV_rw (g o k : Nat) (v : Value) [h : RowIs xs k v] : Cell (lrV b L a0 c0 a1 c1 (some ⟨g, o, none⟩) c2 xs) g (o + k) v :=
  ⟨fun {w0 w F} hs => h.eq ▸ (Sat.slice_cell (hs.perm (by unfold lrV; ac_rfl : _ = sliceP 1 (.slice (some ⟨g, o, none⟩) L.rows.length c2) L.rows.length xs * (pts b 0 [.slice a0 L.own.length c0, .slice a1 L.ow.length c1, .slice (some ⟨g, o, none⟩) L.rows.length c2] * (numsP .i64 (.slice a0 L.own.length c0) L.own * (numsP .i64 (.slice a1 L.ow.length c1) L.ow * allN xs L.rows)) * F))) h.lt).1,
   fun {w0 w F} hs => (Sat.slice_cell (hs.perm (by unfold lrV; ac_rfl : _ = sliceP 1 (.slice (some ⟨g, o, none⟩) L.rows.length c2) L.rows.length xs * (pts b 0 [.slice a0 L.own.length c0, .slice a1 L.ow.length c1, .slice (some ⟨g, o, none⟩) L.rows.length c2] * (numsP .i64 (.slice a0 L.own.length c0) L.own * (numsP .i64 (.slice a1 L.ow.length c1) L.ow * allN xs L.rows)) * F))) h.lt).2⟩
end
set_option maxRecDepth 100000 in
set_option maxHeartbeats 16000000 in
theorem lkAlike (pb rb : Nat) (L : Lk) (w0 w : World) (F : HP) (hs : Sat w0 w (lkP pb L * (lrP rb L * F))) (hg : Good L) :
    Calls Try.prog 40 #[.pointer (some ⟨pb, 0, none⟩), .pointer (some ⟨rb, 0, none⟩)] w (RetV w0 (.bool true) (lkP pb L * (lrP rb L * F))) := by
  obtain ⟨a0, c0, a1, c1, a2, c2, xs, hl, hs1⟩ := lrV_out (hs.perm (by ac_rfl : _ = lrP rb L * (lkP pb L * F)))
  have hs1 : Sat w0 w (lkP pb L * (lrV rb L a0 c0 a1 c1 a2 c2 xs * F)) := hs1.perm (by ac_rfl)
  have Hl := hid hl
  have Hg := hid hg
  have Hnow := hid (good_now hg)
  have Hln := hid hg.fit.ln
  have Hlr := hid hg.fit.lr
  have hn64 := hg.fit.n
  have hm32 := hg.fit.m
  clear hs hg hl
  go_enter Try.func40, Try.ntmps40
  go_wp2_with fail
  refine (lkLevels pb L w0 _ _ own Hg.out.fit).mono ?_
  rintro en w1 ⟨v1, rfl, hs2⟩
  obtain ⟨la, lc, rfl⟩ := hs2.slice_form
  clear hs1
  go_wp2_with fail
  refine (lrLevels rb L w0 _ _ own_it (lrV_rd Hl.out (own (Q := lrV rb L a0 c0 a1 c1 a2 c2 xs))) Hg.out.fit).mono ?_
  rintro en w2 ⟨v2, rfl, hs3⟩
  dsimp only at hs3
  rw [← Hnow.out] at hs3
  obtain ⟨ra, rc, rfl⟩ := hs3.slice_form
  clear hs2
  go_wp2_with fail
  refine (intsS _ _ L.now L.now w0 _ _ own_it rd rd).mono ?_
  rintro en w3 ⟨rfl, hs4⟩
  rw [decide_eq_true (rfl : L.now = L.now)]
  clear hs3
  go_wp2_with fail
  go_loopw [18] (fun i wr => ∃ k : Nat, k ≤ L.ow.length ∧ i = .int .i64 k ∧ Sat w0 wr (lkP pb L * (lrV rb L a0 c0 a1 c1 a2 c2 xs * (F * any)))) (fun i _ => L.ow.length - natOf i)
  case atStart => exact ⟨0, Nat.zero_le _, rfl, own_left⟩
  case round =>
    obtain ⟨k, hk, rfl, hs5⟩ := hrel
    clear hs4
    by_cases hlt : k < L.ow.length
    · have i1 : (k : Int) < (L.ow.length : Int) := by omega
      have i2 : decide (k < L.ow.length) = true := by simp; omega
      have hkr : k < L.rows.length := by rw [Hlr.out]; exact hlt
      have i3 : (k : Int) < (L.rows.length : Int) := by omega
      have i4 : decide (k < L.rows.length) = true := by simp; omega
      haveI : Lt k L.ow.length := ⟨hlt⟩
      have hsx := hs5.perm (by ac_rfl : _ = lrV rb L a0 c0 a1 c1 a2 c2 xs * (lkP pb L * (F * any)))
      obtain ⟨g1, o1, rfl⟩ := lrV_some1 hsx (by omega)
      obtain ⟨g2, o2, rfl⟩ := lrV_some2 hsx (by omega)
      obtain ⟨xa, xc, hx⟩ := lrV_form Hl.out hsx hkr
      haveI : RowIs xs k (.slice xa (rg L.rows k).length xc) := ⟨hx, by rw [Hl.out]; exact hkr⟩
      have hrow : Hid (∀ {wz : World} {G : HP}, Sat w0 wz (lrV rb L a0 c0 (some ⟨g1, o1, none⟩) c1 (some ⟨g2, o2, none⟩) c2 xs * G) → RdN .i64 wz (.slice xa (rg L.rows k).length xc) (rg L.rows k)) := fun h => hx ▸ lrV_row Hl.out h hkr
      have hoe : Hid (ownerOf L k = lg L.ow k) := by
        show (if _ then _ else _) = _
        rw [if_pos ⟨by omega, by omega⟩]; rfl
      have hre : Hid (rowOf L k = rg L.rows k) := by
        show (if _ then _ else _) = _
        rw [if_pos ⟨by omega, by omega⟩]; rfl
      have hne : (lg L.ow k != lg L.ow k) = false := by simp
      clear hsx hx
      go_wp2_with fail
      refine wp_region_early (fun w' => Sat w0 w' (lrV rb L a0 c0 (some ⟨g1, o1, none⟩) c1 (some ⟨g2, o2, none⟩) c2 xs * any)) [(0, true), (1, true), (3, true), (4, true), (5, true), (6, true), (7, true), (8, true), (9, true), (2, false), (10, true), (11, true), (12, true), (13, true), (15, true), (16, true), (17, true), (18, true), (19, true), (20, true), (21, true), (14, false), (22, false), (23, true), (24, true)] (by kernel_rfl) (by kernel_rfl) (fun _ _ _ _ h => h) own_any ?_
      iterate 9 (refine early_read (fun K hK => ?_); simp only [List.getElem?_cons_succ, List.getElem?_cons_zero]; (first | (rw [if_pos (by rfl)]; apply Exists.intro; refine ⟨fun w hSw => ?_, hK _ ?_⟩; (focus ((try dsimp only at hSw); go_simp; try with_reducible rfl))) | (rw [if_neg (ne_true_of_eq_false (by rfl))]; refine hK _ ?_)); clear hK K; simp only [Act.put, List.setIfInBounds_toArray, List.set_cons_zero, List.set_cons_succ])
      refine early_run (fun K hK => ?_); simp only [List.getElem?_cons_succ, List.getElem?_cons_zero]; rw [if_pos (by rfl)]
      go_wp2_with fail
      refine (lkOwner pb L k w0 _ _ own Hg.out.fit).mono ?_
      rintro en w6 ⟨rfl, hs6⟩
      rw [hoe.out]
      clear hs5
      go_wp2_with fail
      refine ⟨own_any, ?_⟩
      iterate 11 (refine early_read (fun K hK => ?_); simp only [List.getElem?_cons_succ, List.getElem?_cons_zero]; (first | (rw [if_pos (by rfl)]; apply Exists.intro; refine ⟨fun w hSw => ?_, hK _ ?_⟩; (focus ((try dsimp only at hSw); go_simp; try with_reducible rfl))) | (rw [if_neg (ne_true_of_eq_false (by rfl))]; refine hK _ ?_)); clear hK K; simp only [Act.put, List.setIfInBounds_toArray, List.set_cons_zero, List.set_cons_succ])
      refine early_run (fun K hK => ?_); simp only [List.getElem?_cons_succ, List.getElem?_cons_zero]; rw [if_pos (by rfl)]
      go_wp2_with fail
      refine (lkWaiting pb L k w0 _ _ own Hg.out.fit).mono ?_
      rintro en w7 ⟨v7, rfl, hs7⟩
      rw [hre.out] at hs7
      obtain ⟨a7, c7, rfl⟩ := hs7.slice_form
      clear hs6
      go_wp2_with fail
      refine ⟨own_any, ?_⟩
      refine early_run (fun K hK => ?_); simp only [List.getElem?_cons_succ, List.getElem?_cons_zero]; rw [if_pos (by rfl)]
      go_wp2_with fail
      refine (intsS _ _ (rg L.rows k) (rg L.rows k) w0 _ _ own_it rd (hrow.out (own (Q := lrV rb L a0 c0 (some ⟨g1, o1, none⟩) c1 (some ⟨g2, o2, none⟩) c2 xs)))).mono ?_
      rintro en w8 ⟨rfl, hs8⟩
      rw [decide_eq_true (rfl : rg L.rows k = rg L.rows k)]
      clear hs7
      go_wp2_with fail
      refine ⟨own_any, ?_⟩
      iterate 2 (refine early_read (fun K hK => ?_); simp only [List.getElem?_cons_succ, List.getElem?_cons_zero]; (first | (rw [if_pos (by rfl)]; apply Exists.intro; refine ⟨fun w hSw => ?_, hK _ ?_⟩; (focus ((try dsimp only at hSw); go_simp; try with_reducible rfl))) | (rw [if_neg (ne_true_of_eq_false (by rfl))]; refine hK _ ?_)); clear hK K; simp only [Act.put, List.setIfInBounds_toArray, List.set_cons_zero, List.set_cons_succ])
      refine early_done ?_
      go_wp2_with fail
      go_roundw
      case rel => exact ⟨k + 1, by omega, by go_num, own_left⟩
      case measure => simp [natOf, intOf]; omega
    · have i1 : ¬ (k : Int) < (L.ow.length : Int) := by omega
      go_wp2_with fail
      go_loopw [52] (fun i wr => ∃ k : Nat, k ≤ L.own.length ∧ i = .int .i64 k ∧ Sat w0 wr (lkP pb L * (lrV rb L a0 c0 a1 c1 a2 c2 xs * (F * any)))) (fun i _ => L.own.length - natOf i)
      case atStart => exact ⟨0, Nat.zero_le _, rfl, own_left⟩
      case round =>
        obtain ⟨q, hq, rfl, hs6⟩ := hrel
        clear hs5
        by_cases hql : q < L.own.length
        · have j1 : (q : Int) < (L.own.length : Int) := by omega
          have hhe : Hid (heldOf L q = heldK L.ow q L.ow.length) := if_pos ⟨by omega, by omega⟩
          have hne : (waitsOf L q != waitsOf L q) = false := by simp
          go_wp2_with fail
          go_wp2_with fail
          refine (lkWaits pb L q w0 _ _ own Hg.out.fit).mono ?_
          rintro en w7 ⟨rfl, hs7⟩
          clear hs6
          go_wp2_with fail
          refine (lrWaits rb L q _ (lrV_rd Hl.out (own (Q := lrV rb L a0 c0 a1 c1 a2 c2 xs))) Hg.out.fit).mono ?_
          rintro en w8 ⟨rfl, rfl⟩
          go_wp2_with fail
          refine (lkHeld pb L q w0 _ _ own Hg.out.fit).mono ?_
          rintro en w9 ⟨v9, rfl, hs9⟩
          rw [hhe.out] at hs9
          obtain ⟨a9, c9, rfl⟩ := hs9.slice_form
          clear hs7
          go_wp2_with fail
          refine (lrHeld rb L q _ (lrV_rd Hl.out (own (Q := lrV rb L a0 c0 a1 c1 a2 c2 xs))) Hg.out.fit).mono ?_
          rintro en wa ⟨va, rfl, hsa0⟩
          have hsa := Sat.over own_it hsa0
          obtain ⟨aa, ca, rfl⟩ := hsa0.slice_form
          clear hsa0 hs9
          dsimp only at hsa
          go_wp2_with fail
          refine (intsS _ _ (heldK L.ow q L.ow.length) (heldK L.ow q L.ow.length) w0 _ _ own_it rd rd).mono ?_
          rintro en wb ⟨rfl, hsb⟩
          rw [decide_eq_true (rfl : heldK L.ow q L.ow.length = heldK L.ow q L.ow.length)]
          clear hsa
          go_wp2_with fail
          go_roundw
          case rel => exact ⟨q + 1, by omega, by go_num, own_left⟩
          case measure => simp [natOf, intOf]; omega
        · have j1 : ¬ (q : Int) < (L.own.length : Int) := by omega
          have e1 : ownerOf L (-1) = 255 := if_neg (by omega)
          have e2 : ownerOf L L.ow.length = 255 := if_neg (by omega)
          have e3 : rowOf L L.ow.length = [] := if_neg (by omega)
          have e4 : waitsOf L (-1) = -1 := if_neg (by omega)
          have e5 : waitsOf L L.own.length = -1 := if_neg (by omega)
          have E1 := hid e1
          have E2 := hid e2
          have E3 := hid e3
          have E4 := hid e4
          have E5 := hid e5
          clear e1 e2 e3 e4 e5
          go_wp2_with fail
          refine (lkOwner pb L (-1) w0 _ _ own Hg.out.fit).mono ?_
          rintro en w7 ⟨rfl, hs7⟩
          rw [E1.out]
          clear hs6
          go_wp2_with fail
          refine (lkOwner pb L L.ow.length w0 _ _ own Hg.out.fit).mono ?_
          rintro en w8 ⟨rfl, hs8⟩
          rw [E2.out]
          clear hs7
          go_wp2_with fail
          refine (lkWaiting pb L L.ow.length w0 _ _ own Hg.out.fit).mono ?_
          rintro en w9 ⟨v9, rfl, hs9⟩
          rw [E3.out] at hs9
          obtain ⟨a9, c9, rfl⟩ := hs9.slice_form
          clear hs8
          go_wp2_with fail
          refine (lkWaits pb L (-1) w0 _ _ own Hg.out.fit).mono ?_
          rintro en wa ⟨rfl, hsa⟩
          rw [E4.out]
          clear hs9
          go_wp2_with fail
          refine (lkWaits pb L L.own.length w0 _ _ own Hg.out.fit).mono ?_
          rintro en wb ⟨rfl, hsb⟩
          rw [E5.out]
          clear hsa
          go_wp2_with fail
          go_ret
          refine ⟨rfl, ?_⟩
          exact (lrV_in Hl.out (own_left : Sat w0 _ (lrV rb L a0 c0 a1 c1 a2 c2 xs * (lkP pb L * F)))).perm (by ac_rfl)
end Go.Proofs.Ytfphgcplpokigaa
