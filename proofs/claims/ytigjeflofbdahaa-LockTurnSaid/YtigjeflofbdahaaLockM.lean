/-
  Locks: the contract of New.
-/
import Derived.Test.YtigjeflofbdahaaLockL
import Derived.Test.YtigjeflofbdahaaRegionD
import Derived.Deep.DeepCutAuto
namespace Go.Proofs.Ytigjeflofbdahaa
open Go.RowKit Go.Sx Go.Lk
set_option linter.unusedSimpArgs false
set_option linter.unusedVariables false

instance : Elem Try.prog 22 .i64 3 8 (.int .i64 0) := ⟨elemI, by decide⟩
instance (g i : Nat) (xs : List Int) (rs : List (List Int)) [h : Lt i xs.length] [e : SameLen xs rs] : Cell (mutR g 0 xs rs) g (i * 2) (.int .i64 (lg xs i)) :=
  ⟨fun {w0 w F} hs => by have := Cell.cell (P := mutR g 0 xs rs) (b := g) (o := 0 + i * 2) (v := .int .i64 (lg xs i)) hs; rwa [Nat.zero_add] at this,
   fun {w0 w F} hs => by have := Cell.free (P := mutR g 0 xs rs) (b := g) (o := 0 + i * 2) (v := .int .i64 (lg xs i)) hs; rwa [Nat.zero_add] at this⟩
instance (g i : Nat) (xs : List Int) (rs : List (List Int)) (x : Int) [h : Lt i xs.length] [e : SameLen xs rs] : Upd (mutR g 0 xs rs) g (i * 2) (.int .i64 x) (mutR g 0 (xs.set i x) rs) :=
  ⟨fun {w0 w F} hs => by have := Upd.upd (P := mutR g 0 xs rs) (b := g) (o := 0 + i * 2) (v := .int .i64 x) (P' := mutR g 0 (xs.set i x) rs) hs; rwa [Nat.zero_add] at this⟩
theorem made2 (x y : Value) : ∀ n : Nat, (madeCells #[x, y] (n * 2)).toList = (List.replicate n [x, y]).flatten
  | 0 => by simp [madeCells]
  | n + 1 => by
    have ih := made2 x y n
    unfold madeCells at ih ⊢
    simp only [Array.toList_map, Array.toList_range] at ih ⊢
    rw [show (n + 1) * 2 = n * 2 + 1 + 1 by omega, List.range_succ_eq_map, List.range_succ_eq_map, List.replicate_succ, List.flatten_cons, ← ih]
    simp only [List.map_cons, List.map_map, List.cons_append, List.nil_append]
    have e : (fun i => #[x, y][i % (#[x, y] : Array Value).size]!) ∘ Nat.succ ∘ Nat.succ = fun i => #[x, y][i % (#[x, y] : Array Value).size]! := by
      funext i
      show #[x, y][(i + 2) % 2]! = #[x, y][i % 2]!
      rw [Nat.add_mod_right]
    rw [e]
    rfl
theorem mut_made {w0 w : World} (g : Nat) : ∀ (n o : Nat) (F : HP), Sat w0 w (pts g o ((List.replicate n [Value.int .i64 0, Value.slice none 0 0]).flatten) * F) → Sat w0 w (mutR g o (List.replicate n 0) (List.replicate n []) * F)
  | 0, o, F, h => by
    rw [List.replicate_zero, List.flatten_nil, pts_nil] at h; exact h
  | n + 1, o, F, h => by
    rw [List.replicate_succ, List.flatten_cons, pts_append] at h
    have h1 := mut_made g n (o + 2) (pts g o [Value.int .i64 0, Value.slice none 0 0] * F) (h.perm (by simp only [List.length_cons, List.length_nil]; ac_rfl))
    rw [pts_cons] at h1
    have h2 : Sat w0 w (pts g (o + 1) [Value.slice none 0 0] * (mutR g (o + 2) (List.replicate n 0) (List.replicate n []) * (pts g o [Value.int .i64 0] * F))) := h1.perm (by ac_rfl)
    have h3 : Sat w0 w (rowP g (o + 1) [] * (mutR g (o + 2) (List.replicate n 0) (List.replicate n []) * (pts g o [Value.int .i64 0] * F))) := rowP_in ((h2.slice_nil 1).perm (by
      show numsP .i64 (.slice none 0 0) [] * (pts g (o + 1) [Value.slice none 0 0] * _) = _; ac_rfl))
    show Sat w0 w (pts g o [.int .i64 0] * (rowP g (o + 1) [] * mutR g (o + 2) (List.replicate n 0) (List.replicate n [])) * F)
    exact h3.perm (by ac_rfl)
def newL (l : List Int) (M : Nat) : Lk := ⟨l, l, List.replicate l.length (-1), List.replicate M 255, List.replicate M []⟩
def LvOk (l : List Int) : Prop := ∀ x ∈ l, 0 ≤ x ∧ x < 32
theorem mutElem : ElemT Try.prog 46 45 2 32 (.agg #[.int .i64 0, .slice none 0 0]) := ⟨by kernel_rfl, by kernel_rfl, rfl⟩
theorem mutMake (M : Nat) (hM : M ≤ 32) (w : World) : (Instr.makeSlice 46 (.int .i64 M) (.int .i64 M)).run Try.prog w = .ok (.slice (some ⟨w.heap.size, 0, none⟩) M M) (w.alloc (.cells ((List.replicate M [Value.int .i64 0, Value.slice none 0 0]).flatten).toArray 45)) := by
  obtain ⟨i, hi, hz, h2, h3⟩ := info_parts mutElem.hi
  have hc : (Value.agg #[.int .i64 0, .slice none 0 0]).cells = #[Value.int .i64 0, Value.slice none 0 0] := by rfl
  have hr := run_make (P := Try.prog) w 46 45 i _ mutElem.ht hi hz .i64 .i64 M M (by omega) (Int.le_refl _) (by
    rw [h3]; omega) (by omega)
  rw [hr, hc, h2]
  simp only [Int.toNat_natCast]
  rw [← made2]
set_option maxRecDepth 100000 in
set_option maxHeartbeats 8000000 in
theorem lkNew_fits (v : Value) (l : List Int) (M : Nat) (w0 w : World) (F : HP) (hs : Sat w0 w (numsP .i64 v l * F)) (hl : l.length ≤ 64) (hM : M ≤ 32) :
    Calls Try.prog 11 #[v, .int .i64 M] w fun en w' => (LvOk l → ∃ b, en = .returned (.tuple #[.pointer (some ⟨b, 0, none⟩), .int .i64 0]) ∧ Sat w0 w' (lkP b (newL l M) * (numsP .i64 v l * F))) ∧
      (¬ LvOk l → en = .returned (.tuple #[.pointer none, .int .i64 1]) ∧ Sat w0 w' (numsP .i64 v l * F)) := by
  obtain ⟨a, cap, rfl⟩ := hs.slice_form
  have d1 : decide ((64 : Int) < (l.length : Int)) = false := by simp; omega
  have d2 : decide ((32 : Int) < (M : Int)) = false := by simp; omega
  have d3 : decide ((M : Int) < 0) = false := by simp
  have hmk := mutMake M hM
  go_enter Try.func11, Try.ntmps11
  go_upto_region 3 with fail
  go_cut [6] (fun p wx => ∃ b a0 c0 a1 c1 g, p = .pointer (some ⟨b, 0, none⟩) ∧ Sat w0 wx (pts b 0 [.slice a0 l.length c0, .slice a1 l.length c1, .slice none 0 0, .slice (some ⟨g, 0, none⟩) M M] * (numsP .i64 (.slice a0 l.length c0) l * (numsP .i64 (.slice a1 l.length c1) l * (mutR g 0 (List.replicate M 0) (List.replicate M []) * (numsP .i64 (.slice a l.length cap) l * F))))))
  case first =>
    refine wp_region_tree (fun _ => True) (.read 0 (.read 2 (.read 4 (.alt 1 (.alt 3 (.run 5 (.read 6 (.run 7 (.read 8 .done)))) 5 (.run 3 (.read 6 (.run 7 (.read 8 .done))))) 5 (.run 1 (.run 3 (.read 6 (.run 7 (.read 8 .done))))))))) (by kernel_rfl) (by kernel_rfl) (fun _ _ _ _ h => h) trivial ?_
    iterate 3 (refine tree_read (fun K hK => ?_); simp only [List.getElem?_cons_succ, List.getElem?_cons_zero]; (first | (rw [if_pos (by rfl)]; apply Exists.intro; refine ⟨fun w hSw => ?_, hK _ ?_⟩; (focus ((try dsimp only at hSw); go_simp; try with_reducible rfl))) | (rw [if_neg (ne_true_of_eq_false (by rfl))]; refine hK _ ?_)); clear hK K; simp only [Act.put, List.setIfInBounds_toArray, List.set_cons_zero, List.set_cons_succ])
    refine tree_alt ?_ ?_
    · refine tree_run (fun K hK => ?_); simp only [List.getElem?_cons_succ, List.getElem?_cons_zero]; rw [if_pos (by rfl)]
      go_wp2_with fail
      refine (slicesClone _ l w0 _ _ own_it rd (by omega)).mono ?_
      rintro en w1 ⟨v1, rfl, hs1⟩
      obtain ⟨a1, c1, rfl⟩ := hs1.slice_form
      go_wp2_with fail
      refine ⟨fun _ => True, fun _ h => h, trivial, ?_⟩
      refine tree_alt ?_ ?_
      · refine tree_run (fun K hK => ?_); simp only [List.getElem?_cons_succ, List.getElem?_cons_zero]; rw [if_pos (by rfl)]
        go_wp2_with fail
        refine (slicesClone (.slice a l.length cap) l w0 _ _ own_it rd (by omega)).mono ?_
        rintro en w2 ⟨v2, rfl, hs2⟩
        obtain ⟨a2, c2, rfl⟩ := hs2.slice_form
        go_wp2_with fail
        refine ⟨fun _ => True, fun _ h => h, trivial, ?_⟩
        refine tree_run (fun K hK => ?_); simp only [List.getElem?_cons_succ, List.getElem?_cons_zero]; rw [if_pos (by rfl)]
        go_wp2_with fail
        refine ⟨fun _ => True, fun _ h => h, trivial, ?_⟩
        iterate 1 (refine tree_read (fun K hK => ?_); simp only [List.getElem?_cons_succ, List.getElem?_cons_zero]; (first | (rw [if_pos (by rfl)]; apply Exists.intro; refine ⟨fun w hSw => ?_, hK _ ?_⟩; (focus ((try dsimp only at hSw); go_simp; try with_reducible rfl))) | (rw [if_neg (ne_true_of_eq_false (by rfl))]; refine hK _ ?_)); clear hK K; simp only [Act.put, List.setIfInBounds_toArray, List.set_cons_zero, List.set_cons_succ])
        refine tree_run (fun K hK => ?_); simp only [List.getElem?_cons_succ, List.getElem?_cons_zero]; rw [if_pos (by rfl)]
        go_wp2_with fail
        refine ⟨fun _ => True, fun _ h => h, trivial, ?_⟩
        iterate 1 (refine tree_read (fun K hK => ?_); simp only [List.getElem?_cons_succ, List.getElem?_cons_zero]; (first | (rw [if_pos (by rfl)]; apply Exists.intro; refine ⟨fun w hSw => ?_, hK _ ?_⟩; (focus ((try dsimp only at hSw); go_simp; try with_reducible rfl))) | (rw [if_neg (ne_true_of_eq_false (by rfl))]; refine hK _ ?_)); clear hK K; simp only [Act.put, List.setIfInBounds_toArray, List.set_cons_zero, List.set_cons_succ])
        refine tree_done ?_
        go_wp2_with fail
        go_meet
        refine ⟨_, a1, c1, a2, c2, w2.heap.size, rfl, ?_⟩
        exact (mut_made w2.heap.size M 0 _ own).perm (by ac_rfl)
      · refine tree_run (fun K hK => ?_); simp only [List.getElem?_cons_succ, List.getElem?_cons_zero]; rw [if_pos (by rfl)]
        go_wp2_with fail
        refine ⟨fun _ => True, fun _ h => h, trivial, ?_⟩
        refine tree_run (fun K hK => ?_); simp only [List.getElem?_cons_succ, List.getElem?_cons_zero]; rw [if_pos (by rfl)]
        go_wp2_with fail
        refine (slicesClone (.slice a l.length cap) l w0 _ _ own_it rd (by omega)).mono ?_
        rintro en w2 ⟨v2, rfl, hs2⟩
        obtain ⟨a2, c2, rfl⟩ := hs2.slice_form
        go_wp2_with fail
        refine ⟨fun _ => True, fun _ h => h, trivial, ?_⟩
        iterate 1 (refine tree_read (fun K hK => ?_); simp only [List.getElem?_cons_succ, List.getElem?_cons_zero]; (first | (rw [if_pos (by rfl)]; apply Exists.intro; refine ⟨fun w hSw => ?_, hK _ ?_⟩; (focus ((try dsimp only at hSw); go_simp; try with_reducible rfl))) | (rw [if_neg (ne_true_of_eq_false (by rfl))]; refine hK _ ?_)); clear hK K; simp only [Act.put, List.setIfInBounds_toArray, List.set_cons_zero, List.set_cons_succ])
        refine tree_run (fun K hK => ?_); simp only [List.getElem?_cons_succ, List.getElem?_cons_zero]; rw [if_pos (by rfl)]
        go_wp2_with fail
        refine ⟨fun _ => True, fun _ h => h, trivial, ?_⟩
        iterate 1 (refine tree_read (fun K hK => ?_); simp only [List.getElem?_cons_succ, List.getElem?_cons_zero]; (first | (rw [if_pos (by rfl)]; apply Exists.intro; refine ⟨fun w hSw => ?_, hK _ ?_⟩; (focus ((try dsimp only at hSw); go_simp; try with_reducible rfl))) | (rw [if_neg (ne_true_of_eq_false (by rfl))]; refine hK _ ?_)); clear hK K; simp only [Act.put, List.setIfInBounds_toArray, List.set_cons_zero, List.set_cons_succ])
        refine tree_done ?_
        go_wp2_with fail
        go_meet
        refine ⟨_, a1, c1, a2, c2, w1.heap.size, rfl, ?_⟩
        exact (mut_made w1.heap.size M 0 _ own).perm (by ac_rfl)
    · refine tree_run (fun K hK => ?_); simp only [List.getElem?_cons_succ, List.getElem?_cons_zero]; rw [if_pos (by rfl)]
      go_wp2_with fail
      refine ⟨fun _ => True, fun _ h => h, trivial, ?_⟩
      refine tree_run (fun K hK => ?_); simp only [List.getElem?_cons_succ, List.getElem?_cons_zero]; rw [if_pos (by rfl)]
      go_wp2_with fail
      refine (slicesClone (.slice a l.length cap) l w0 _ _ own_it rd (by omega)).mono ?_
      rintro en w1 ⟨v1, rfl, hs1⟩
      obtain ⟨a1, c1, rfl⟩ := hs1.slice_form
      go_wp2_with fail
      refine ⟨fun _ => True, fun _ h => h, trivial, ?_⟩
      refine tree_run (fun K hK => ?_); simp only [List.getElem?_cons_succ, List.getElem?_cons_zero]; rw [if_pos (by rfl)]
      go_wp2_with fail
      refine (slicesClone (.slice a l.length cap) l w0 _ _ own_it rd (by omega)).mono ?_
      rintro en w2 ⟨v2, rfl, hs2⟩
      obtain ⟨a2, c2, rfl⟩ := hs2.slice_form
      go_wp2_with fail
      refine ⟨fun _ => True, fun _ h => h, trivial, ?_⟩
      iterate 1 (refine tree_read (fun K hK => ?_); simp only [List.getElem?_cons_succ, List.getElem?_cons_zero]; (first | (rw [if_pos (by rfl)]; apply Exists.intro; refine ⟨fun w hSw => ?_, hK _ ?_⟩; (focus ((try dsimp only at hSw); go_simp; try with_reducible rfl))) | (rw [if_neg (ne_true_of_eq_false (by rfl))]; refine hK _ ?_)); clear hK K; simp only [Act.put, List.setIfInBounds_toArray, List.set_cons_zero, List.set_cons_succ])
      refine tree_run (fun K hK => ?_); simp only [List.getElem?_cons_succ, List.getElem?_cons_zero]; rw [if_pos (by rfl)]
      go_wp2_with fail
      refine ⟨fun _ => True, fun _ h => h, trivial, ?_⟩
      iterate 1 (refine tree_read (fun K hK => ?_); simp only [List.getElem?_cons_succ, List.getElem?_cons_zero]; (first | (rw [if_pos (by rfl)]; apply Exists.intro; refine ⟨fun w hSw => ?_, hK _ ?_⟩; (focus ((try dsimp only at hSw); go_simp; try with_reducible rfl))) | (rw [if_neg (ne_true_of_eq_false (by rfl))]; refine hK _ ?_)); clear hK K; simp only [Act.put, List.setIfInBounds_toArray, List.set_cons_zero, List.set_cons_succ])
      refine tree_done ?_
      go_wp2_with fail
      go_meet
      refine ⟨_, a1, c1, a2, c2, w.heap.size, rfl, ?_⟩
      exact (mut_made w.heap.size M 0 _ own).perm (by ac_rfl)
  case rest =>
    obtain ⟨b, a0, c0, a1, c1, g, rfl, hs1⟩ := hcut
    clear hs hmk
    go_wp2_with fail
    go_loopw [31] (fun i wr => ∃ (k : Nat) (a2 : Option Addr) (c2 : Nat) (O : List Int), k ≤ l.length ∧ i = .int .i64 k ∧ Hid (O = List.replicate k (-1)) ∧ Hid (∀ x ∈ l.take k, 0 ≤ x ∧ x < 32) ∧
        Sat w0 wr (pts b 0 [.slice a0 l.length c0, .slice a1 l.length c1, .slice a2 O.length c2, .slice (some ⟨g, 0, none⟩) M M] * (numsP .i64 (.slice a0 l.length c0) l * (numsP .i64 (.slice a1 l.length c1) l * (numsP .i64 (.slice a2 O.length c2) O * (mutR g 0 (List.replicate M 0) (List.replicate M []) * (numsP .i64 (.slice a l.length cap) l * F))))))) (fun i _ => l.length - natOf i)
    case atStart => exact ⟨0, none, 0, [], Nat.zero_le _, rfl, rfl, fun x hx => by simp at hx, (hs1.slice_nil 1).perm (by
      show numsP .i64 (.slice none 0 0) [] * _ = _; rw [numsP_nil, emp_star]; show _ = _ * (_ * (_ * (numsP .i64 (.slice none 0 0) [] * _))); rw [numsP_nil, emp_star]; rfl)⟩
    case round =>
      obtain ⟨k, a2, c2, O, hk, rfl, hO, hin, hs2⟩ := hrel
      clear hs1
      by_cases hlt : k < l.length
      · have i1 : (k : Int) < (l.length : Int) := by omega
        have i2 : decide (k < l.length) = true := by simp; omega
        haveI : Lt k l.length := ⟨hlt⟩
        have hOl : O.length ≤ 64 := by rw [hO.out, List.length_replicate]; omega
        have hmem : lg l k ∈ l := by simp [lg, List.getD, hlt]
        have Hmem := hid hmem
        clear hmem
        obtain ⟨gA, oA, rfl⟩ := Sat.someA hs2 a (by omega)
        by_cases x1 : lg l k < 0
        · have e1 : decide (lg l k < 0) = true := by simp [x1]
          have hno : Hid (¬ LvOk l) := fun h => by have := h _ Hmem.out; omega
          clear x1
          go_wp2_with fail
          go_returns
          exact ⟨fun h => absurd h hno.out, fun _ => ⟨rfl, own_left⟩⟩
        · have e1 : decide (lg l k < 0) = false := by simp; omega
          by_cases x2 : 32 ≤ lg l k
          · have e2 : decide (32 ≤ lg l k) = true := by simp [x2]
            have hno : Hid (¬ LvOk l) := fun h => by have := h _ Hmem.out; omega
            clear x1 x2
            go_wp2_with fail
            go_returns
            exact ⟨fun h => absurd h hno.out, fun _ => ⟨rfl, own_left⟩⟩
          · have e2 : decide (32 ≤ lg l k) = false := by simp; omega
            have hin' : Hid (∀ x ∈ l.take (k + 1), 0 ≤ x ∧ x < 32) := fun x hx => by
              rw [List.take_succ_eq_append_getElem hlt, List.mem_append, List.mem_singleton] at hx
              rcases hx with hx | rfl
              · exact hin.out x hx
              · have : lg l k = l[k] := by simp [lg, List.getD, hlt]
                omega
            clear x1 x2
            go_wp2_with (first | (at_builtin; refine wpList_append_nums rfl rfl rfl rfl (by omega) ?_; intro ap ac aL aw ahL ah1 ah2 ahs _) | (refine wpList_slice_from rfl rfl rfl rfl (by omega) (by omega) ?_; intro px pc pL php phL ph1 ph2) | (refine wpList_slice_to rfl rfl rfl rfl (by omega) (by omega) ?_; intro px pc pL php phL ph1 ph2))
            go_roundw
            case rel =>
              refine ⟨k + 1, ap, ac, aL, by omega, by go_num, ?_, hin', own_left⟩
              unfold Hid
              rw [ahL.out, hO.out, List.replicate_succ']
            case measure => simp [natOf, intOf]; omega
      · have i1 : ¬ (k : Int) < (l.length : Int) := by omega
        have hkl : Hid (k = l.length) := by unfold Hid; omega
        have hall : Hid (LvOk l) := fun x hx => hin.out x (by rw [hkl.out, List.take_length]; exact hx)
        have hO' : Hid (O = List.replicate l.length (-1)) := by unfold Hid; rw [hO.out, hkl.out]
        clear hin hO
        go_wp2_with fail
        go_loopw [56] (fun i wr => ∃ (j : Nat) (ow : List Int), j ≤ M ∧ i = .int .i64 j ∧ Hid (ow = List.replicate j 255 ++ List.replicate (M - j) 0) ∧
            Sat w0 wr (pts b 0 [.slice a0 l.length c0, .slice a1 l.length c1, .slice a2 O.length c2, .slice (some ⟨g, 0, none⟩) M M] * (numsP .i64 (.slice a0 l.length c0) l * (numsP .i64 (.slice a1 l.length c1) l * (numsP .i64 (.slice a2 O.length c2) O * (mutR g 0 ow (List.replicate M []) * (numsP .i64 (.slice a l.length cap) l * F))))))) (fun i _ => M - natOf i)
        case atStart => exact ⟨0, List.replicate M 0, Nat.zero_le _, rfl, by simp [Hid], own_left⟩
        case round =>
          obtain ⟨j, ow, hj, rfl, how, hs3⟩ := hrel
          clear hs2
          by_cases hjl : j < M
          · have i3 : (j : Int) < (M : Int) := by omega
            have i4 : decide (j < M) = true := by simp; omega
            have hol : ow.length = M := by rw [how.out]; simp; omega
            haveI : Lt j ow.length := ⟨by omega⟩
            haveI : SameLen ow (List.replicate M []) := ⟨by rw [List.length_replicate, hol]⟩
            clear hol
            go_wp2_with fail
            go_roundw
            case rel =>
              refine ⟨j + 1, ow.set j 255, by omega, by go_num, ?_, own_left⟩
              unfold Hid
              rw [how.out, List.set_append_right _ _ (by simp), List.length_replicate, Nat.sub_self, show M - j = (M - (j + 1)) + 1 by omega, List.replicate_succ, List.set_cons_zero, List.replicate_succ', List.append_assoc]
              rfl
            case measure => simp [natOf, intOf]; omega
          · have i3 : ¬ (j : Int) < (M : Int) := by omega
            have how' : Hid (ow = List.replicate M 255) := by
              unfold Hid
              rw [how.out, show j = M by omega]; simp
            clear how
            go_wp2_with fail
            go_ret2
            refine ⟨fun _ => ⟨b, rfl, ?_⟩, fun h => absurd hall.out h⟩
            refine lkP_of (L := newL l M) (v0 := .slice a0 l.length c0) (v1 := .slice a1 l.length c1) (v2 := .slice a2 O.length c2) (g := g) (off := 0) (cap := M) ?_
            unfold Hid at hO' how'
            subst how'
            have hOl : O.length = l.length := by rw [hO']; simp
            rw [hOl] at hs3 ⊢
            subst hO'
            dsimp only [newL]
            rw [List.length_replicate]
            exact own_left
theorem lkNew_no (v : Value) (l : List Int) (M : Int) (w0 w : World) (F : HP) (hs : Sat w0 w (numsP .i64 v l * F)) (hl : l.length ≤ 1000) (h : 64 < l.length ∨ M < 0 ∨ 32 < M) :
    Calls Try.prog 11 #[v, .int .i64 M] w (RetV w0 (.tuple #[.pointer none, .int .i64 1]) (numsP .i64 v l * F)) := by
  obtain ⟨a, cap, rfl⟩ := hs.slice_form
  by_cases h1 : 64 < l.length
  · have d1 : decide ((64 : Int) < (l.length : Int)) = true := by simp; omega
    clear h
    go_enter Try.func11, Try.ntmps11
    go_wp2_with fail
    go_ret2
    exact ⟨rfl, hs⟩
  · have d1 : decide ((64 : Int) < (l.length : Int)) = false := by simp; omega
    by_cases h2 : M < 0
    · have d3 : decide (M < 0) = true := by simp [h2]
      clear h
      go_enter Try.func11, Try.ntmps11
      go_wp2_with fail
      go_ret2
      exact ⟨rfl, hs⟩
    · have d3 : decide (M < 0) = false := by simp; omega
      have d2 : decide ((32 : Int) < M) = true := by simp; omega
      clear h h2
      go_enter Try.func11, Try.ntmps11
      go_wp2_with fail
      go_ret2
      exact ⟨rfl, hs⟩
end Go.Proofs.Ytigjeflofbdahaa
