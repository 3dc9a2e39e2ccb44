/-
  copy onto owned cells; append of a number of zero records; the shape of a block. Nothing of any program stands here.
-/
import Derived.Test.YtigjeflofbdahaaRec
import Derived.Laws.IdiomCopy
import Derived.Lib.Overlaps
import Derived.Lib.AppendZerosOnto
namespace Go.Sx
open Go.RowKit

theorem shape_of_cell {w : World} {b o : Nat} {v : Value} (h : w.cell? ⟨b, o, none⟩ = some v) : ∃ t k, w.shape? b = some (t, k) ∧ k ≠ 0 := by
  unfold World.cell? at h
  unfold World.shape?
  split at h
  · rename_i c e f he
    simp only at he
    rw [he]
    simp only [Option.isSome_none, Bool.false_eq_true, if_false] at h
    refine ⟨e, c.size, rfl, fun h0 => ?_⟩
    have := (Array.getElem?_eq_some_iff.1 h).1
    omega
  · cases h
/-- A block that was just laid: its type, its size; no mark behind its end. -/
def Whole (w : World) (b n : Nat) : Prop := ∃ t, w.shape? b = some (t, n) ∧ w.frozen? ⟨b, n, none⟩ = false
theorem whole_alloc (w : World) (l : List Value) (t : TypeId) : Whole (w.alloc (.cells l.toArray t)) w.heap.size l.length :=
  ⟨t, by
    have e : (w.alloc (.cells l.toArray t)).heap[w.heap.size]? = some (.cells l.toArray t) := by
      show (w.heap.push _)[w.heap.size]? = _
      exact Array.getElem?_push_size
    unfold World.shape?
    rw [e]
    simp, World.frozen?_alloc_new w _ t _⟩
theorem whole_at {w : World} {l : List Value} {t : TypeId} {n : Nat} [s : Size w n] : Whole (w.alloc (.cells l.toArray t)) n l.length := s.eq ▸ whole_alloc w l t
theorem Whole.lt {w : World} {b n o : Nat} {v : Value} (h : Whole w b n) (hc : w.cell? ⟨b, o, none⟩ = some v) : o < n := by
  obtain ⟨t, h1, _⟩ := h
  unfold World.cell? at hc
  unfold World.shape? at h1
  split at hc
  · rename_i c e f he
    simp only at he
    rw [he] at h1
    simp only [Option.some.injEq, Prod.mk.injEq] at h1
    simp only [Option.isSome_none, Bool.false_eq_true, if_false] at hc
    have := (Array.getElem?_eq_some_iff.1 hc).1
    omega
  · cases hc
theorem Whole.drew {w : World} {b n : Nat} (h : Whole w b n) : Whole w.drew b n := h

theorem run_copy_cells_k {P : Program} (w : World) (dT sT ty elem : TypeId) (sz : Nat) (b o dLen dCap : Nat) (a : Addr) (sLen sCap : Nat) (cs : List Value)
    (hu : P.underlying dT = some (.slice elem)) (hs : (P.info? elem).map (·.size) = some sz) (hn : cs.length = Nat.min sLen dLen * sz)
    (hsrc : ∀ j v, cs[j]? = some v → w.cell? (a.add j) = some v) (hc : ∀ j, j < cs.length → (w.cell? ⟨b, o + j, none⟩).isSome = true) (hf : ∀ j, j < cs.length → w.frozen? ⟨b, o + j, none⟩ = false) (h1 : ∀ v ∈ cs, v.oneCell' = true) :
    (Builtin.copy_ #[dT, sT] ty #[.slice (some ⟨b, o, none⟩) dLen dCap, .slice (some a) sLen sCap]).run P w = .ok (goInt (Nat.min sLen dLen)) (w.setCells b o cs) := by
  have hl := run_loadCells_list (P := P) w a cs hsrc
  have hst := run_storeCells_cells (P := P) b o cs 0 w (by simpa using hc) (by simpa using hf) h1
  cases hq : P.info? elem with
  | none => simp [hq] at hs
  | some i =>
    have hi : i.size = sz := by simpa [hq] using hs
    simp [Builtin.copy_, run_underlying hu, Builtin.lenOf, Builtin.firstCells, sizeOf, typeInfo, hq, hi, ← hn, hl, hst]

section
variable {P : Program} {w0 w : World} {F : HP} {t e sz bytes : Nat} {z : Value} {o : Oper} {a : Act} {Q : Exit → Act → World → Prop} {d s : Operand} {b off dl dc sl sc o0 : Nat} {sa : Addr} {cs xs ys : List Value}
theorem wp_copy_cells {K : Act → World → Prop} (ho : o.op = .call { callee := .builtin .copy, args := #[d, s], argTypes := #[t, t] }) (E : ElemT P t e sz bytes z)
    (hd : a.eval d = .slice (some ⟨b, off, none⟩) dl dc) (hx : a.eval s = .slice (some sa) sl sc) (hn : cs.length = Nat.min sl dl * sz) (hsrc : ∀ j v, cs[j]? = some v → w.cell? (sa.add j) = some v) (h1 : ∀ v ∈ cs, v.oneCell' = true)
    (hs : Sat w0 w (pts b o0 (xs ++ ys) * F)) (ho0 : off = o0 + xs.length) (hl : cs.length ≤ ys.length)
    (h : ∀ w', Sat w0 w' (pts b o0 (xs ++ cs ++ ys.drop cs.length) * F) → w'.heap.size = w.heap.size → K (a.put o.dst (goInt (Nat.min sl dl))) w') : o.wp P a w K Q := by
  subst ho0
  obtain ⟨inf, hi, h2, h3, h4⟩ := info_parts E.hi
  have hr := run_copy_cells_k (P := P) w t t o.type e sz b (o0 + xs.length) dl dc sa sl sc cs E.ht (by rw [hi]; simp [h3]) hn hsrc
    (fun j hj => by
      have := hs.cell (j := xs.length + j) (v := (xs ++ ys)[xs.length + j]'(by simp; omega)) (List.getElem?_eq_getElem _)
      rw [← Nat.add_assoc] at this; rw [this]; rfl)
    (fun j hj => by
      have := hs.frz (j := xs.length + j) (by simp; omega)
      rwa [← Nat.add_assoc] at this) h1
  unfold Oper.wp execOp
  simp only [ho, resolve, invoke, builtin, Sem.run_bind, Sem.run_pure, Result.andThen_ok, List.map_toArray, List.map_cons, List.map_nil, hd, hx, hr]
  exact h _ (Sat.setCells cs w xs ys hs hl) (size_setCells _ _ _ _)
theorem wpList_copy_cells {ops : Array Oper} {rest : List Oper} (hgd : o.guard = none) (ho : o.op = .call { callee := .builtin .copy, args := #[d, s], argTypes := #[t, t] }) (E : ElemT P t e sz bytes z)
    (hd : a.eval d = .slice (some ⟨b, off, none⟩) dl dc) (hx : a.eval s = .slice (some sa) sl sc) (hn : cs.length = Nat.min sl dl * sz) (hsrc : ∀ j v, cs[j]? = some v → w.cell? (sa.add j) = some v) (h1 : ∀ v ∈ cs, v.oneCell' = true)
    (hs : Sat w0 w (pts b o0 (xs ++ ys) * F)) (ho0 : off = o0 + xs.length) (hl : cs.length ≤ ys.length)
    (h : ∀ w', Sat w0 w' (pts b o0 (xs ++ cs ++ ys.drop cs.length) * F) → w'.heap.size = w.heap.size → wpList P ops Q rest (a.put o.dst (goInt (Nat.min sl dl))) w') : wpList P ops Q (o :: rest) a w :=
  wpList_plain hgd fun _ hK => wp_copy_cells ho E hd hx hn hsrc h1 hs ho0 hl fun w' h2 h3 => hK _ _ (h w' h2 h3)
end

/-- append of so many zero records where there is no room. -/
theorem wpList_append_zeros {P : Program} {w0 w : World} {F : HP} {t tn e sz bytes : Nat} {z : Value} {o : Oper} {a : Act} {Q : Exit → Act → World → Prop} {s x : Operand} {ops : Array Oper} {rest : List Oper} {sa : Addr} {n c k m : Nat} {i : Int} {kn kq : IntKind} {olds : List Value}
    (hgd : o.guard = none) (ho : o.op = .call { callee := .builtin .append, args := #[s, x], argTypes := #[t, tn] }) (E : ElemT P t e sz bytes z) (htn : P.underlying tn = some (.int kn))
    (hv : a.eval s = .slice (some sa) n c) (hx : a.eval x = .int kq i) (hi : i = (k : Int)) (hm : n + k = m) (hs : Sat w0 w F) (hl : olds.length = n * sz) (ho2 : ∀ j v, olds[j]? = some v → w.cell? (sa.add j) = some v)
    (h0 : 0 < k) (hsz : 0 < sz) (hg : c < n + k) (h63 : n + k ≤ 1000000) (hb : bytes ≤ 100)
    (h : ∀ w' gc sp, m ≤ gc → gc ≤ maxLen → sp.length = (gc - m) * sz → Sat w0 w' (pts w.heap.size 0 (olds ++ (Builtin.zeroCells z.cells k).toList ++ sp) * F) → w'.heap.size = w.heap.size + 1 →
      wpList P ops Q rest (a.put o.dst (.slice (some ⟨w.heap.size, 0, none⟩) m gc)) w') : wpList P ops Q (o :: rest) a w := by
  subst hm
  subst hi
  refine wpList_plain hgd fun K hK => ?_
  obtain ⟨inf, hi, h2, h3, h4⟩ := info_parts E.hi
  have hold : (Builtin.firstCells inf.size n (.slice (some sa) n c)).run P w.drew = .ok olds.toArray w.drew := by
    rw [h3]
    exact run_firstCells_some w.drew sz n sa n c olds hl ho2
  have hbb : (n + k) * inf.bytes ≤ 140737488355328 := Nat.le_trans (Nat.mul_le_mul h63 (by rw [h4]; exact hb)) (by decide)
  have hr := Lib.run_append_grow_zeros (P := P) w t tn o.type e inf z kq kn E.ht htn hi h2 (some sa) n c olds hold k h0 (by rw [h3]; exact hsz) hg (by omega) (Nat.le_trans (Nat.mul_le_mul_right _ (show k ≤ n + k by omega)) (by omega)) (growslice_fits (by omega) hbb)
  unfold Oper.wp execOp
  simp only [ho, resolve, invoke, builtin, Sem.run_bind, Sem.run_pure, Result.andThen_ok, List.map_toArray, List.map_cons, List.map_nil, hv, hx, hr]
  have hge := grownCap_ge w (n + k) c e
  have hcm : grownCap w (n + k) c e ≤ maxLen := grownCap_le_maxLen w (n + k) c e (by unfold maxLen; omega)
  refine hK _ _ (h _ (grownCap w (n + k) c e) (Builtin.zeroCells z.cells (grownCap w (n + k) c e - (n + k))).toList hge hcm (by simp [size_zeroCells, E.hz]) ?_ (by simp))
  have h5 := hs.drew.alloc (olds.toArray ++ Builtin.zeroCells z.cells k ++ Builtin.zeroCells z.cells (grownCap w (n + k) c e - (n + k))) e
  exact h5.perm (by simp)
end Go.Sx
