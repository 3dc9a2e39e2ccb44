/-
  The reference's locks in memory, and what only reads them.
-/
import Derived.Test.YtfphgcplpokigaaLockS
import Derived.Test.YtfphgcplpokigaaWaitD
namespace Go.Proofs.Ytfphgcplpokigaa
open Go.RowKit Go.Sx Go.Lk
set_option linter.unusedSimpArgs false
set_option linter.unusedVariables false

/-- What was owned ahead of a call that starts from nothing stays owned. -/
theorem Sat.over {w0 w w' : World} {P Q : HP} (h1 : Sat w0 w P) (h2 : Sat w w' Q) : Sat w0 w' (Q * P) := by
  obtain ⟨b1, hp, p1, k1⟩ := h1
  obtain ⟨b2, hq, p2, k2⟩ := h2
  have hlt : ∀ b o v, hp b o = some v → b < w.heap.size := fun b o v hv => World.block_lt_of_cell? w ⟨b, o, none⟩ (k1 b o v hv).2.1
  refine ⟨⟨b2.os.trans b1.os, b2.tape.trans b1.tape, b2.output.trans b1.output, Nat.le_trans b1.size b2.size, fun i hi => (b2.block i (Nat.lt_of_lt_of_le hi b1.size)).trans (b1.block i hi)⟩, fun b o => (hq b o).or (hp b o), ⟨hq, hp, fun b o => ?_, fun _ _ => rfl, p2, p1⟩, fun b o v hv => ?_⟩
  · show hq b o = none ∨ hp b o = none
    cases hx : hq b o with
    | none => exact .inl rfl
    | some x =>
      right
      cases hy : hp b o with
      | none => rfl
      | some y =>
        have a := (k2 b o x hx).1
        have c := hlt b o y hy
        omega
  · have hv : (hq b o).or (hp b o) = some v := hv
    cases hx : hq b o with
    | some x =>
      rw [hx] at hv
      have a := k2 b o x hx
      cases hv
      exact ⟨Nat.le_trans b1.size a.1, a.2⟩
    | none =>
      rw [hx] at hv
      have hv : hp b o = some v := by simpa using hv
      obtain ⟨a, c, d⟩ := k1 b o v hv
      have hl := hlt b o v hv
      refine ⟨a, by rw [b2.cell hl]; exact c, ?_⟩
      have hb := b2.block b hl
      simp only [World.frozen?] at d ⊢
      rw [hb]; exact d
/-- The slice v reads as these rows. -/
def RdRows (w : World) (v : Value) (rows : List (List Int)) : Prop :=
  ∃ a cap b off, v = .slice a rows.length cap ∧ rows.length ≤ cap ∧ cap ≤ maxLen ∧ (0 < rows.length → a = some ⟨b, off, none⟩) ∧ ∀ i, i < rows.length → ∃ x, w.cell? ⟨b, off + i, none⟩ = some x ∧ RdN .i64 w x (rg rows i)
/-- The slices xs are these rows. -/
def allN : List Value → List (List Int) → HP
  | x :: xs, r :: rs => numsP .i64 x r * allN xs rs
  | _, _ => emp
def allX : Nat → List Value → List (List Int) → HP
  | 0, _ :: xs, _ :: rs => allN xs rs
  | i + 1, x :: xs, r :: rs => numsP .i64 x r * allX i xs rs
  | _, _, _ => emp
theorem allN_at : ∀ (i : Nat) (xs : List Value) (rs : List (List Int)) (_ : xs.length = rs.length) (_ : i < rs.length), allN xs rs = numsP .i64 (xs.getD i .nilFunc) (rg rs i) * allX i xs rs
  | _, [], [], _, h => absurd h (by simp)
  | _, [], _ :: _, h, _ => by simp at h
  | _, _ :: _, [], h, _ => by simp at h
  | 0, x :: xs, r :: rs, _, _ => by simp [allN, allX, rg, List.getD]
  | i + 1, x :: xs, r :: rs, hl, hi => by
    have e := allN_at i xs rs (by simpa using hl) (by simpa using hi)
    show numsP .i64 x r * allN xs rs = _
    rw [e]
    have e1 : (x :: xs).getD (i + 1) .nilFunc = xs.getD i .nilFunc := by simp [List.getD]
    have e2 : rg (r :: rs) (i + 1) = rg rs i := by simp [rg, List.getD]
    rw [e1, e2]
    show _ = numsP .i64 (xs.getD i .nilFunc) (rg rs i) * (numsP .i64 x r * allX i xs rs)
    ac_rfl
theorem allX_set : ∀ (i : Nat) (xs : List Value) (rs : List (List Int)) (x : Value) (r : List Int), allX i (xs.set i x) (rs.set i r) = allX i xs rs
  | i, [], rs, x, r => by cases i <;> cases rs <;> rfl
  | i, y :: ys, [], x, r => by cases i <;> rfl
  | 0, y :: ys, q :: qs, x, r => rfl
  | i + 1, y :: ys, q :: qs, x, r => by
    show numsP .i64 y q * allX i (ys.set i x) (qs.set i r) = _
    rw [allX_set i ys qs x r]; rfl
theorem allN_push : ∀ (xs : List Value) (rs : List (List Int)) (_ : xs.length = rs.length) (x : Value) (r : List Int), allN (xs ++ [x]) (rs ++ [r]) = numsP .i64 x r * allN xs rs
  | [], [], _, x, r => rfl
  | [], _ :: _, h, _, _ => by simp at h
  | _ :: _, [], h, _, _ => by simp at h
  | y :: ys, q :: qs, h, x, r => by
    show numsP .i64 y q * allN (ys ++ [x]) (qs ++ [r]) = numsP .i64 x r * (numsP .i64 y q * allN ys qs)
    rw [allN_push ys qs (by simpa using h) x r]; ac_rfl
def rowsP (v : Value) (rows : List (List Int)) : HP := ex fun xs : List Value => pur (xs.length = rows.length) * (sliceP 1 v rows.length xs * allN xs rows)
theorem rowsP_in {w0 w : World} {F : HP} {v : Value} {xs : List Value} {rows : List (List Int)} (hl : xs.length = rows.length) (hs : Sat w0 w (sliceP 1 v rows.length xs * (allN xs rows * F))) : Sat w0 w (rowsP v rows * F) :=
  Sat.ex_in xs ((Sat.pur_in hl hs).perm (by ac_rfl))
theorem rowsP_out {w0 w : World} {F : HP} {v : Value} {rows : List (List Int)} (hs : Sat w0 w (rowsP v rows * F)) : ∃ xs, xs.length = rows.length ∧ Sat w0 w (sliceP 1 v rows.length xs * (allN xs rows * F)) := by
  obtain ⟨xs, hs⟩ := hs.ex_out
  obtain ⟨hl, hs⟩ := (hs.perm (by ac_rfl : _ = pur (xs.length = rows.length) * (sliceP 1 v rows.length xs * (allN xs rows * F)))).pur_out
  exact ⟨xs, hl, hs⟩
theorem rowsP_form {w0 w : World} {F : HP} {v : Value} {rows : List (List Int)} (hs : Sat w0 w (rowsP v rows * F)) : ∃ a c, v = .slice a rows.length c := by
  obtain ⟨xs, hl, hs⟩ := rowsP_out hs
  exact hs.slice_form
/-- Row i of them: where its slice stands, and that another may be put there. -/
theorem rowsP_at {w0 w : World} {F : HP} {v : Value} {rows : List (List Int)} {i : Nat} (hs : Sat w0 w (rowsP v rows * F)) (hi : i < rows.length) :
    ∃ g off cap x, v = .slice (some ⟨g, off, none⟩) rows.length cap ∧ ∃ R, Sat w0 w (pts g (off + i) [x] * (numsP .i64 x (rg rows i) * (R * F))) ∧
      ∀ {w1 w2 : World} {G : HP} (y : Value) (r : List Int), Sat w1 w2 (pts g (off + i) [y] * (numsP .i64 y r * (R * G))) → Sat w1 w2 (rowsP v (rows.set i r) * G) := by
  obtain ⟨xs, hl, hs⟩ := rowsP_out hs
  rcases hs.slice_out with ⟨_, h0, _, _⟩ | ⟨g, off, cap, sp, rfl, h1, h2, h3, h4, hs⟩
  · omega
  · have hix : i < xs.length := by omega
    have split : ∀ y : Value, pts g off (xs.set i y ++ sp) = pts g (off + i) [y] * (pts g off (xs.take i) * pts g (off + (i + 1)) (xs.drop (i + 1) ++ sp)) := fun y => by
      have e : xs.set i y ++ sp = xs.take i ++ ([y] ++ (xs.drop (i + 1) ++ sp)) := by
        rw [List.set_eq_take_append_cons_drop, if_pos hix]; simp
      rw [e, pts_append, pts_append]
      simp only [List.length_take, List.length_cons, List.length_nil, Nat.zero_add, Nat.min_eq_left (Nat.le_of_lt hix), Nat.add_assoc]
      ac_rfl
    have hself : xs.set i (xs.getD i .nilFunc) = xs := by
      refine List.ext_getElem (by simp) fun j h1 h2 => ?_
      rw [List.getElem_set]
      split
      · rename_i e; subst e; simp [List.getD, hix]
      · rfl
    refine ⟨g, off, cap, xs.getD i .nilFunc, rfl, pts g off (xs.take i) * pts g (off + (i + 1)) (xs.drop (i + 1) ++ sp) * allX i xs rows, ?_, fun {w1 w2 G} y r h => ?_⟩
    · refine hs.perm ?_
      have := split (xs.getD i .nilFunc)
      rw [hself] at this
      rw [this, allN_at i xs rows hl hi]; ac_rfl
    · refine rowsP_in (xs := xs.set i y) (by simp [hl]) ?_
      rw [List.length_set]
      refine Sat.slice_in (sp := sp) ?_ h1 h2 (by simp; omega) h4
      rw [split, allN_at i (xs.set i y) (rows.set i r) (by simp [hl]) (by simpa using hi), allX_set, rg_set (by omega), if_pos rfl]
      rw [show (xs.set i y).getD i .nilFunc = y by simp [List.getD, hix]]
      exact h.perm (by ac_rfl)
theorem rowsP_rd {w0 w : World} {F : HP} {v : Value} {rows : List (List Int)} (hs : Sat w0 w (rowsP v rows * F)) : RdRows w v rows := by
  by_cases h : 0 < rows.length
  · obtain ⟨g, off, cap, x, rfl, R, _, _⟩ := rowsP_at hs h
    have hb : rows.length ≤ cap ∧ cap ≤ maxLen := by
      obtain ⟨xs, hl, hs⟩ := rowsP_out hs
      rcases hs.slice_out with ⟨h0, _⟩ | ⟨g', off', cap', sp, e, h1, h2, _⟩
      · cases h0
      · cases e; exact ⟨h1, h2⟩
    refine ⟨_, cap, g, off, rfl, hb.1, hb.2, fun _ => rfl, fun i hi => ?_⟩
    obtain ⟨g', off', cap', x, e, R, h3, _⟩ := rowsP_at hs hi
    cases e
    exact ⟨x, h3.c0, (h3.perm (by ac_rfl : _ = numsP .i64 x (rg rows i) * (pts g (off + i) [x] * (R * F)))).rdN⟩
  · obtain ⟨xs, hl, hs⟩ := rowsP_out hs
    rcases hs.slice_out with ⟨rfl, h0, _, _⟩ | ⟨g', off', cap', sp, rfl, h1, h2, _⟩
    · exact ⟨none, 0, 0, 0, by rw [h0], by omega, by unfold maxLen; omega, fun h' => absurd h' h, fun i hi => absurd (show 0 < rows.length by omega) h⟩
    · exact ⟨_, cap', g', off', rfl, h1, h2, fun _ => rfl, fun i hi => absurd (show 0 < rows.length by omega) h⟩
theorem rowsP_nil {w0 w : World} {F : HP} (hs : Sat w0 w F) : Sat w0 w (rowsP (.slice none 0 0) [] * F) :=
  rowsP_in (xs := []) rfl ((hs.slice_nil 1).perm (by show _ = sliceP 1 (.slice none 0 0) 0 [] * (emp * F); rw [emp_star]))
/-- The reference's locks at the front of block b. -/
def lrP (b : Nat) (L : Lk) : HP := ex fun v0 => ex fun v1 => ex fun v2 => pts b 0 [v0, v1, v2] * (numsP .i64 v0 L.own * (numsP .i64 v1 L.ow * rowsP v2 L.rows))
theorem lrP_in {w0 w : World} {F : HP} {b : Nat} {L : Lk} {v0 v1 v2 : Value} (hs : Sat w0 w (pts b 0 [v0, v1, v2] * (numsP .i64 v0 L.own * (numsP .i64 v1 L.ow * (rowsP v2 L.rows * F))))) : Sat w0 w (lrP b L * F) :=
  Sat.ex_in v0 (Sat.ex_in v1 (Sat.ex_in v2 (hs.perm (by ac_rfl))))
theorem lrP_out {w0 w : World} {F : HP} {b : Nat} {L : Lk} (hs : Sat w0 w (lrP b L * F)) : ∃ a0 c0 a1 c1 a2 c2, Sat w0 w (pts b 0 [.slice a0 L.own.length c0, .slice a1 L.ow.length c1, .slice a2 L.rows.length c2] * (numsP .i64 (.slice a0 L.own.length c0) L.own * (numsP .i64 (.slice a1 L.ow.length c1) L.ow * (rowsP (.slice a2 L.rows.length c2) L.rows * F)))) := by
  obtain ⟨v0, hs⟩ := hs.ex_out
  obtain ⟨v1, hs⟩ := hs.ex_out
  obtain ⟨v2, hs⟩ := hs.ex_out
  have h0 : Sat w0 w (numsP .i64 v0 L.own * (numsP .i64 v1 L.ow * (pts b 0 [v0, v1, v2] * (rowsP v2 L.rows * F)))) := hs.perm (by ac_rfl)
  obtain ⟨a0, c0, rfl⟩ := h0.slice_form
  have h1 := h0.perm (by ac_rfl : _ = numsP .i64 v1 L.ow * (numsP .i64 (.slice a0 L.own.length c0) L.own * (pts b 0 [.slice a0 L.own.length c0, v1, v2] * (rowsP v2 L.rows * F))))
  obtain ⟨a1, c1, rfl⟩ := h1.slice_form
  have h2 := h1.perm (by ac_rfl : _ = rowsP v2 L.rows * (numsP .i64 (.slice a0 L.own.length c0) L.own * (numsP .i64 (.slice a1 L.ow.length c1) L.ow * (pts b 0 [.slice a0 L.own.length c0, .slice a1 L.ow.length c1, v2] * F))))
  obtain ⟨a2, c2, rfl⟩ := rowsP_form h2
  exact ⟨a0, c0, a1, c1, a2, c2, h2.perm (by ac_rfl)⟩
/-- It reads as the reference's locks. -/
def RdRl (w : World) (b : Nat) (L : Lk) : Prop :=
  ∃ v0 v1 v2, w.cell? ⟨b, 0, none⟩ = some v0 ∧ w.cell? ⟨b, 1, none⟩ = some v1 ∧ w.cell? ⟨b, 2, none⟩ = some v2 ∧ RdN .i64 w v0 L.own ∧ RdN .i64 w v1 L.ow ∧ RdRows w v2 L.rows
theorem lrP_rd {w0 w : World} {F : HP} {b : Nat} {L : Lk} (hs : Sat w0 w (lrP b L * F)) : RdRl w b L := by
  obtain ⟨a0, c0, a1, c1, a2, c2, h⟩ := lrP_out hs
  exact ⟨_, _, _, h.c0, h.c01, h.c02, (h.perm (by ac_rfl : _ = numsP .i64 (.slice a0 L.own.length c0) L.own * (pts b 0 [.slice a0 L.own.length c0, .slice a1 L.ow.length c1, .slice a2 L.rows.length c2] * (numsP .i64 (.slice a1 L.ow.length c1) L.ow * (rowsP (.slice a2 L.rows.length c2) L.rows * F))))).rdN,
    (h.perm (by ac_rfl : _ = numsP .i64 (.slice a1 L.ow.length c1) L.ow * (pts b 0 [.slice a0 L.own.length c0, .slice a1 L.ow.length c1, .slice a2 L.rows.length c2] * (numsP .i64 (.slice a0 L.own.length c0) L.own * (rowsP (.slice a2 L.rows.length c2) L.rows * F))))).rdN,
    rowsP_rd (h.perm (by ac_rfl : _ = rowsP (.slice a2 L.rows.length c2) L.rows * (pts b 0 [.slice a0 L.own.length c0, .slice a1 L.ow.length c1, .slice a2 L.rows.length c2] * (numsP .i64 (.slice a0 L.own.length c0) L.own * (numsP .i64 (.slice a1 L.ow.length c1) L.ow * F)))))⟩
end Go.Proofs.Ytfphgcplpokigaa
