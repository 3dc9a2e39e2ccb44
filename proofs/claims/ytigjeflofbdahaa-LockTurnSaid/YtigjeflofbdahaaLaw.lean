/-
  Laws for the walk in terms of owned memory: append, clear; slices of numbers that are read. Nothing of any program stands here.
-/
import Derived.Test.YtigjeflofbdahaaSep
namespace Go.Sx
open Go.RowKit

/-- The slice type t has elements of type e: so many cells, so many bytes, the zero value z. -/
structure ElemT (P : Program) (t e size bytes : Nat) (z : Value) : Prop where
  ht : P.underlying t = some (.slice e)
  hi : (P.info? e).map (fun i => (i.zero, i.size, i.bytes)) = some (some z, size, bytes)
  hz : z.cells.size = size

section
variable {P : Program} {w0 w : World} {F : HP} {v : Value} {n : Nat} {xs : List Value} {t e size bytes : Nat} {z : Value}

theorem append_run (E : ElemT P t e size bytes z) (ty : TypeId) (hs : Sat w0 w (sliceP size v n xs * F))
    (ad : Option Addr) (m c : Nat) (news : List Value) (hl : news.length = m * size) (had : ad = none → m = 0) (hnews : ∀ a, ad = some a → ∀ j u, news[j]? = some u → w.cell? (a.add j) = some u) (h1 : ∀ u ∈ news, u.oneCell' = true)
    (h63 : n + m ≤ maxLen) (hbytes : (n + m) * bytes ≤ 140737488355328) :
    ∃ v' w', (Builtin.append_ #[t, t] ty #[v, .slice ad m c]).run P w = .ok v' w' ∧ Sat w0 w' (sliceP size v' (n + m) (xs ++ news) * F) ∧ w.heap.size ≤ w'.heap.size := by
  obtain ⟨i, hi, h2, h3, h4⟩ := info_parts E.hi
  exact append_sat t ty e i z size bytes E.ht hi h2 h3 h4 E.hz hs ad m c news hl had hnews h1 h63 hbytes

theorem wp_append_sat {o : Oper} {a : Act} {K : Act → World → Prop} {Q : Exit → Act → World → Prop} (s x : Operand)
    (ho : o.op = .call { callee := .builtin .append, args := #[s, x], argTypes := #[t, t] }) (E : ElemT P t e size bytes z)
    (hv : a.eval s = v) (hs : Sat w0 w (sliceP size v n xs * F))
    (ad : Option Addr) (m c : Nat) (news : List Value) (hx : a.eval x = .slice ad m c) (hl : news.length = m * size) (had : ad = none → m = 0) (hnews : ∀ a, ad = some a → ∀ j u, news[j]? = some u → w.cell? (a.add j) = some u) (h1 : ∀ u ∈ news, u.oneCell' = true)
    (h63 : n + m ≤ maxLen) (hbytes : (n + m) * bytes ≤ 140737488355328)
    (h : ∀ v' w', Sat w0 w' (sliceP size v' (n + m) (xs ++ news) * F) → w.heap.size ≤ w'.heap.size → K (a.put o.dst v') w') : o.wp P a w K Q := by
  obtain ⟨v', w', hr, h2, h3⟩ := append_run E o.type hs ad m c news hl had hnews h1 h63 hbytes
  unfold Oper.wp execOp
  simp only [ho, resolve, invoke, builtin, Sem.run_bind, Sem.run_pure, Result.andThen_ok, List.map_toArray, List.map_cons, List.map_nil, hv, hx, hr]
  exact h v' w' h2 h3

theorem wpList_append_sat {ops : Array Oper} {rest : List Oper} {o : Oper} {a : Act} {Q : Exit → Act → World → Prop} (hgd : o.guard = none) (s x : Operand)
    (ho : o.op = .call { callee := .builtin .append, args := #[s, x], argTypes := #[t, t] }) (E : ElemT P t e size bytes z)
    (hv : a.eval s = v) (hs : Sat w0 w (sliceP size v n xs * F))
    (ad : Option Addr) (m c : Nat) (news : List Value) (hx : a.eval x = .slice ad m c) (hl : news.length = m * size) (had : ad = none → m = 0) (hnews : ∀ a, ad = some a → ∀ j u, news[j]? = some u → w.cell? (a.add j) = some u) (h1 : ∀ u ∈ news, u.oneCell' = true)
    (h63 : n + m ≤ maxLen) (hbytes : (n + m) * bytes ≤ 140737488355328)
    (h : ∀ v' w', Sat w0 w' (sliceP size v' (n + m) (xs ++ news) * F) → w.heap.size ≤ w'.heap.size → wpList P ops Q rest (a.put o.dst v') w') : wpList P ops Q (o :: rest) a w :=
  wpList_plain hgd fun _ hK => wp_append_sat s x ho E hv hs ad m c news hx hl had hnews h1 h63 hbytes fun v' w' h2 h3 => hK _ _ (h v' w' h2 h3)

/-- append of elements that were just laid into a block of their own. -/
theorem wp_append_new {o : Oper} {a : Act} {K : Act → World → Prop} {Q : Exit → Act → World → Prop} (s x : Operand)
    (ho : o.op = .call { callee := .builtin .append, args := #[s, x], argTypes := #[t, t] }) (E : ElemT P t e size bytes z)
    (hv : a.eval s = v) (hs : Sat w0 w (sliceP size v n xs * F)) {cs : Array Value} {ct : TypeId} {m c : Nat}
    (hx : a.eval x = .slice (some ⟨w.heap.size, 0, none⟩) m c) (hl : cs.size = m * size) (h1 : ∀ u ∈ cs.toList, u.oneCell' = true)
    (h63 : n + m ≤ maxLen) (hbytes : (n + m) * bytes ≤ 140737488355328)
    (h : ∀ v' w', Sat w0 w' (sliceP size v' (n + m) (xs ++ cs.toList) * F) → w.heap.size < w'.heap.size → K (a.put o.dst v') w') : o.wp P a (w.alloc (.cells cs ct)) K Q := by
  have hs1 := hs.alloc cs ct
  have hs2 : Sat w0 (w.alloc (.cells cs ct)) (sliceP size v n xs * (pts w.heap.size 0 cs.toList * F)) := hs1.perm (by ac_rfl)
  refine wp_append_sat s x ho E hv hs2 _ m c cs.toList hx (by simpa using hl) (fun h => by cases h) (fun ad hd j u hj => ?_) h1 h63 hbytes fun v' w' h2 h3 => h v' w' ?_ ?_
  · cases hd
    rw [Addr.add_lit]
    exact hs1.cell hj
  · exact (h2.perm (by ac_rfl : _ = pts w.heap.size 0 cs.toList * (sliceP size v' (n + m) (xs ++ cs.toList) * F))).drop
  · simp at h3; omega
theorem wpList_append_new {ops : Array Oper} {rest : List Oper} {o : Oper} {a : Act} {Q : Exit → Act → World → Prop} (hgd : o.guard = none) (s x : Operand)
    (ho : o.op = .call { callee := .builtin .append, args := #[s, x], argTypes := #[t, t] }) (E : ElemT P t e size bytes z)
    (hv : a.eval s = v) (hs : Sat w0 w (sliceP size v n xs * F)) {cs : Array Value} {ct : TypeId} {m c : Nat}
    (hx : a.eval x = .slice (some ⟨w.heap.size, 0, none⟩) m c) (hl : cs.size = m * size) (h1 : ∀ u ∈ cs.toList, u.oneCell' = true)
    (h63 : n + m ≤ maxLen) (hbytes : (n + m) * bytes ≤ 140737488355328)
    (h : ∀ v' w', Sat w0 w' (sliceP size v' (n + m) (xs ++ cs.toList) * F) → w.heap.size < w'.heap.size → wpList P ops Q rest (a.put o.dst v') w') : wpList P ops Q (o :: rest) a (w.alloc (.cells cs ct)) :=
  wpList_plain hgd fun _ hK => wp_append_new s x ho E hv hs hx hl h1 h63 hbytes fun v' w' h2 h3 => hK _ _ (h v' w' h2 h3)

theorem step_append_sat {ops : Array Oper} {o : Oper} {a : Act} {K : Act → World → Prop} {Q : Exit → Act → World → Prop} {X : Prop} (hgd : o.guard = none) (s x : Operand)
    (ho : o.op = .call { callee := .builtin .append, args := #[s, x], argTypes := #[t, t] }) (E : ElemT P t e size bytes z)
    (hv : a.eval s = v) (hs : Sat w0 w (sliceP size v n xs * F))
    (ad : Option Addr) (m c : Nat) (news : List Value) (hx : a.eval x = .slice ad m c) (hl : news.length = m * size) (had : ad = none → m = 0) (hnews : ∀ a, ad = some a → ∀ j u, news[j]? = some u → w.cell? (a.add j) = some u) (h1 : ∀ u ∈ news, u.oneCell' = true)
    (h63 : n + m ≤ maxLen) (hbytes : (n + m) * bytes ≤ 140737488355328)
    (h : ∀ v' w', Sat w0 w' (sliceP size v' (n + m) (xs ++ news) * F) → w.heap.size ≤ w'.heap.size → K (a.put o.dst v') w') :
    if Region.wanted o (yielded ops a.tmps) = true then Oper.wp P o a w K Q else X := by
  have hw : Region.wanted o (yielded ops a.tmps) = true := by simp [Region.wanted, hgd]
  rw [if_pos hw]
  exact wp_append_sat s x ho E hv hs ad m c news hx hl had hnews h1 h63 hbytes h
theorem step_append_new {ops : Array Oper} {o : Oper} {a : Act} {K : Act → World → Prop} {Q : Exit → Act → World → Prop} {X : Prop} (hgd : o.guard = none) (s x : Operand)
    (ho : o.op = .call { callee := .builtin .append, args := #[s, x], argTypes := #[t, t] }) (E : ElemT P t e size bytes z)
    (hv : a.eval s = v) (hs : Sat w0 w (sliceP size v n xs * F)) {cs : Array Value} {ct : TypeId} {m c : Nat}
    (hx : a.eval x = .slice (some ⟨w.heap.size, 0, none⟩) m c) (hl : cs.size = m * size) (h1 : ∀ u ∈ cs.toList, u.oneCell' = true)
    (h63 : n + m ≤ maxLen) (hbytes : (n + m) * bytes ≤ 140737488355328)
    (h : ∀ v' w', Sat w0 w' (sliceP size v' (n + m) (xs ++ cs.toList) * F) → w.heap.size < w'.heap.size → K (a.put o.dst v') w') :
    if Region.wanted o (yielded ops a.tmps) = true then Oper.wp P o a (w.alloc (.cells cs ct)) K Q else X := by
  have hw : Region.wanted o (yielded ops a.tmps) = true := by simp [Region.wanted, hgd]
  rw [if_pos hw]
  exact wp_append_new s x ho E hv hs hx hl h1 h63 hbytes h
end

/-- append in place, written out. -/
theorem wpList_append_room {P : Program} {w : World} {ops : Array Oper} {rest : List Oper} {o : Oper} {a : Act} {Q : Exit → Act → World → Prop} (hg : o.guard = none) (s x : Operand) {t e size bytes : Nat} {z : Value}
    (hop : o.op = Op.call { callee := Callee.builtin Builtin.append, args := #[s, x], argTypes := #[t, t] }) (E : ElemT P t e size bytes z)
    (b off n cap : Nat) (hs : a.eval s = .slice (some ⟨b, off, none⟩) n cap)
    (ad : Addr) (m c : Nat) (news : List Value) (hx : a.eval x = .slice (some ad) m c) (hn : news.length = m * size) (hc : ∀ j u, news[j]? = some u → w.cell? (ad.add j) = some u) (h1c : ∀ u ∈ news, u.oneCell' = true)
    (hroom : n + m ≤ cap) (hspare : ∀ j, j < news.length → (w.cell? ⟨b, off + n * size + j, none⟩).isSome = true ∧ w.frozen? ⟨b, off + n * size + j, none⟩ = false)
    (hK : wpList P ops Q rest (a.put o.dst (.slice (some ⟨b, off, none⟩) (n + m) cap)) (w.setCells b (off + n * size) news)) : wpList P ops Q (o :: rest) a w := by
  refine wpList_plain hg fun K hK' => ?_
  obtain ⟨i, hi, _, h4, _⟩ := info_parts E.hi
  subst h4
  have hrun := run_append_room_cells (P := P) w t o.type e i E.ht hi b off n cap ad m c news hn hc h1c hroom (fun j hj => (hspare j hj).1) (fun j hj => (hspare j hj).2)
  unfold Oper.wp
  simp [execOp, hop, resolve, invoke, builtin, hs, hx, hrun, Result.andThen]
  exact hK' _ _ hK

/-! ### clear -/
theorem run_clear_cells {P : Program} (w : World) (t e : TypeId) (ty : TypeId) (i : TypeInfo) (z : Value) (ht : P.underlying t = some (.slice e)) (hi : P.info? e = some i) (hz : i.zero = some z)
    (b off n cap : Nat) (hn : 0 < n) (hc : ∀ j, j < n * z.cells.size → (w.cell? ⟨b, off + j, none⟩).isSome = true) (hf : ∀ j, j < n * z.cells.size → w.frozen? ⟨b, off + j, none⟩ = false) (h1 : ∀ u ∈ (Builtin.zeroCells z.cells n).toList, u.oneCell' = true) :
    (Builtin.clear_ #[t] ty #[.slice (some ⟨b, off, none⟩) n cap]).run P w = .ok (.tuple #[]) (w.setCells b off (Builtin.zeroCells z.cells n).toList) := by
  have hsz : (Builtin.zeroCells z.cells n).toList.length = n * z.cells.size := by simp [size_zeroCells]
  have hst := run_storeCells_cells (P := P) b off (Builtin.zeroCells z.cells n).toList 0 w (by rw [hsz]; simpa using hc) (by rw [hsz]; simpa using hf) h1
  simp only [Nat.add_zero] at hst
  obtain ⟨m, rfl⟩ : ∃ m, n = m + 1 := ⟨n - 1, by omega⟩
  simp [Builtin.clear_, run_underlying ht, zeroValue, typeInfo, hi, hz, hst]

theorem wpList_clear {P : Program} {w0 w : World} {F : HP} {t e size bytes : Nat} {z : Value} {ops : Array Oper} {rest : List Oper} {o : Oper} {a : Act} {Q : Exit → Act → World → Prop} (hgd : o.guard = none) (x : Operand)
    (ho : o.op = .call { callee := .builtin .clear, args := #[x], argTypes := #[t] }) (E : ElemT P t e size bytes z)
    {b off n cap : Nat} (hx : a.eval x = .slice (some ⟨b, off, none⟩) n cap) (hn : 0 < n) {ys : List Value} (hs : Sat w0 w (pts b off ys * F)) (hl : ys.length = n * size) (h1 : ∀ u ∈ (Builtin.zeroCells z.cells n).toList, u.oneCell' = true)
    (h : ∀ w', Sat w0 w' (pts b off (Builtin.zeroCells z.cells n).toList * F) → wpList P ops Q rest (a.put o.dst (.tuple #[])) w') : wpList P ops Q (o :: rest) a w := by
  refine wpList_plain hgd fun K hK => ?_
  obtain ⟨i, hi, h2, _, _⟩ := info_parts E.hi
  have hz := E.hz
  have hr := run_clear_cells (P := P) w t e o.type i z E.ht hi h2 b off n cap hn
    (fun j hj => by rw [hz, ← hl] at hj; rw [hs.cell (j := j) (List.getElem?_eq_getElem hj)]; rfl)
    (fun j hj => by rw [hz, ← hl] at hj; exact hs.frz hj) h1
  unfold Oper.wp execOp
  simp only [ho, resolve, invoke, builtin, Sem.run_bind, Sem.run_pure, Result.andThen_ok, List.map_toArray, List.map_cons, List.map_nil, hx, hr]
  refine hK _ _ (h _ ?_)
  have h3 := Sat.setCells (b := b) (o := off) (F := F) (Builtin.zeroCells z.cells n).toList w [] ys (hs.perm (by simp)) (by simp [size_zeroCells, hz, hl])
  have h4 : ys.drop (Builtin.zeroCells z.cells n).toList.length = [] := List.drop_eq_nil_of_le (by simp [size_zeroCells, hz, hl])
  rw [h4] at h3
  simpa using h3

/-! ### Numbers -/
/-- The slice value v reads as the numbers l. -/
def RdN (κ : IntKind) (w : World) (v : Value) (l : List Int) : Prop :=
  ∃ a cap b off, v = .slice a l.length cap ∧ l.length ≤ cap ∧ cap ≤ maxLen ∧ (l ≠ [] → a = some ⟨b, off, none⟩) ∧ ∀ j, j < l.length → w.cell? ⟨b, off + j, none⟩ = some (.int κ (l.getD j 0))
/-- It owns them. -/
def numsP (κ : IntKind) (v : Value) (l : List Int) : HP := sliceP 1 v l.length (l.map (Value.int κ))

section
variable {w0 w : World} {F : HP} {κ : IntKind} {v : Value} {l : List Int}
theorem Sat.keep {P : HP} {a : Addr} {u : Value} (hs : Sat w0 w P) (h : w0.cell? a = some u) : w.cell? a = some u := by
  rw [hs.old (World.block_lt_of_cell? w0 _ h)]; exact h
theorem RdN.drewN (h : RdN κ w v l) (n : Nat) : RdN κ (w.drewN n) v l := h
theorem RdN.later {P : HP} (h : RdN κ w0 v l) (hs : Sat w0 w P) : RdN κ w v l := by
  obtain ⟨a, cap, b, off, h1, h2, h3, h4, h5⟩ := h
  refine ⟨a, cap, b, off, h1, h2, h3, h4, fun j hj => ?_⟩
  have hc := h5 j hj
  rw [hs.old (World.block_lt_of_cell? w0 _ hc)]; exact hc
theorem Sat.rdN (hs : Sat w0 w (numsP κ v l * F)) : RdN κ w v l := by
  rcases hs.slice_out with ⟨rfl, h0, h1, _⟩ | ⟨g, off, cap, sp, rfl, hc, hcm, hx, hsp, hs'⟩
  · have : l = [] := List.eq_nil_of_length_eq_zero h0
    subst this
    exact ⟨none, 0, 0, 0, rfl, Nat.le_refl _, Nat.zero_le _, fun h => absurd rfl h, fun j hj => absurd hj (Nat.not_lt_zero _)⟩
  · refine ⟨_, cap, g, off, rfl, hc, hcm, fun _ => rfl, fun j hj => hs'.cell ?_⟩
    rw [List.getElem?_append_left (by simpa using hj)]
    simp [List.getD, hj]
/-- It reads so as long as F is owned. -/
def Stays (w0 : World) (F : HP) (κ : IntKind) (v : Value) (l : List Int) : Prop := ∀ w, Sat w0 w F → RdN κ w v l
theorem RdN.stays (h : RdN κ w0 v l) (F : HP) : Stays w0 F κ v l := fun _ hs => h.later hs
theorem stays_own {w0 : World} {F G : HP} (e : F = numsP κ v l * G) : Stays w0 F κ v l := fun _ hs => (hs.perm e).rdN
theorem Stays.rd {G : HP} (h : Stays w0 F κ v l) (hs : Sat w0 w (G * F)) : RdN κ w v l := h _ hs.drop
theorem RdN.len (h : RdN κ w v l) : l.length ≤ maxLen := by
  obtain ⟨a, cap, b, off, h1, h2, h3, h4, h5⟩ := h; omega
end

/-- The slice value v reads as n structs of one-cell numbers of the kinds κs: the number in field c of the i-th is f i c. -/
def RdK (κs : List IntKind) (w : World) (v : Value) (n : Nat) (f : Nat → Nat → Int) : Prop :=
  ∃ a cap b off, v = .slice a n cap ∧ n ≤ cap ∧ cap ≤ maxLen ∧ (0 < n → a = some ⟨b, off, none⟩) ∧ ∀ i c κ, i < n → κs[c]? = some κ → w.cell? ⟨b, off + (i * κs.length + c), none⟩ = some (.int κ (f i c)) ∧ (Lit.int κ (f i c)).wf = true

/-- It returns some value of which, and of the memory then, so much holds. -/
def Ret (w0 : World) (Q : Value → HP) (e : Ending) (w' : World) : Prop := ∃ v, e = .returned v ∧ Sat w0 w' (Q v)
/-- It returns just this value. -/
def RetV (w0 : World) (v : Value) (Q : HP) (e : Ending) (w' : World) : Prop := e = .returned v ∧ Sat w0 w' Q
theorem ret_congr {u v : Value} (h : u = v) : Ending.returned u = Ending.returned v := by rw [h]
theorem Sat.empty_slice {w0 w : World} {F : HP} (k : Nat) (hs : Sat w0 w F) (t : TypeId) : Sat w0 (w.alloc (.cells #[] t)) (sliceP k (.slice (some ⟨w.heap.size, 0, none⟩) 0 0) 0 [] * F) :=
  Sat.slice_in (sp := []) (hs.alloc #[] t) (Nat.le_refl _) (Nat.zero_le _) (by simp) (by simp)
theorem cell_alloc {w : World} {a : Addr} {v : Value} (h : w.cell? a = some v) (o : Obj) : (w.alloc o).cell? a = some v := by
  rw [World.cell?_alloc_lt _ _ _ (World.block_lt_of_cell? w _ h)]; exact h
theorem RdN.alloc {κ : IntKind} {w : World} {v : Value} {l : List Int} (h : RdN κ w v l) (o : Obj) : RdN κ (w.alloc o) v l := by
  obtain ⟨a, cap, b, off, h1, h2, h3, h4, h5⟩ := h
  exact ⟨a, cap, b, off, h1, h2, h3, h4, fun j hj => cell_alloc (h5 j hj) o⟩
theorem RdN.drew {κ : IntKind} {w : World} {v : Value} {l : List Int} (h : RdN κ w v l) : RdN κ w.drew v l := h
theorem rdN_lit (κ : IntKind) (l : List Int) (w : World) (t : TypeId) (h : l.length ≤ maxLen) : RdN κ (w.alloc (.cells (l.map (Value.int κ)).toArray t)) (.slice (some ⟨w.heap.size, 0, none⟩) l.length l.length) l :=
  ⟨_, l.length, w.heap.size, 0, rfl, Nat.le_refl _, h, fun _ => rfl, fun j hj => by
    rw [Nat.zero_add, World.cell?_alloc_new]
    simp [List.getD, hj]⟩
theorem oneCell_ints {κ : IntKind} (l : List Int) : ∀ u ∈ l.map (Value.int κ), u.oneCell' = true := by
  intro u hu
  obtain ⟨x, _, rfl⟩ := List.mem_map.1 hu
  rfl
theorem RdN.news {κ : IntKind} {w : World} {a : Option Addr} {n cap : Nat} {l : List Int} (h : RdN κ w (.slice a n cap) l) :
    n = l.length ∧ (a = none → n = 0) ∧ ∀ ad, a = some ad → ∀ j u, (l.map (Value.int κ))[j]? = some u → w.cell? (ad.add j) = some u := by
  obtain ⟨a', cap', b, off, h1, h2, h3, h4, h5⟩ := h
  simp only [Value.slice.injEq] at h1
  obtain ⟨rfl, rfl, rfl⟩ := h1
  have hne : 0 < l.length → l ≠ [] := fun h e => by simp [e] at h
  refine ⟨rfl, fun hn => ?_, fun ad had j u hu => ?_⟩
  · rcases Nat.eq_zero_or_pos l.length with h | h
    · exact h
    · have := h4 (hne h); rw [hn] at this; cases this
  · have hj : j < l.length := by simpa using (List.getElem?_eq_some_iff.1 hu).1
    have e := h4 (hne (by omega))
    rw [had] at e
    cases e
    rw [Addr.add_lit, h5 j hj]
    simpa [List.getD, hj] using hu
end Go.Sx
