/-
  Clocks that run, in plain Lean: the list of what is left, sorted; its row of steps; the list in the order in which they were put. Nothing of any program stands here.
-/
import Derived.Test.YtfphgcplpokigaaSep
namespace Go.Dl

/-- A clock's number and its ticks left. -/
abbrev Ck := Int × Int
/-- The row of steps behind acc. -/
def diff : Int → List Ck → List Ck
  | _, [] => []
  | acc, x :: r => (x.1, x.2 - acc) :: diff x.2 r
/-- A clock is put: behind all that have no more left. -/
def insS (x : Ck) : List Ck → List Ck
  | [] => [x]
  | y :: r => if y.2 ≤ x.2 then y :: insS x r else x :: y :: r
theorem insS_cons (x y : Ck) (r : List Ck) : insS x (y :: r) = if y.2 ≤ x.2 then y :: insS x r else x :: y :: r := rfl
def pre (S : List Ck) (k : Nat) : Int := if k = 0 then 0 else (S.getD (k - 1) (0, 0)).2
structure SOk (S : List Ck) : Prop where
  up : S.Pairwise fun a b => a.2 ≤ b.2
  nd : (S.map Prod.fst).Nodup
  id : ∀ x ∈ S, 0 ≤ x.1 ∧ x.1 < 256
  lf : ∀ x ∈ S, 1 ≤ x.2 ∧ x.2 < 4294967296

theorem diff_len (acc : Int) (S : List Ck) : (diff acc S).length = S.length := by
  induction S generalizing acc with
  | nil => rfl
  | cons x r ih => simp [diff, ih]
theorem diff_append (acc : Int) (A B : List Ck) : diff acc (A ++ B) = diff acc A ++ diff ((A.map Prod.snd).getLastD acc) B := by
  induction A generalizing acc with
  | nil => rfl
  | cons x r ih =>
    rw [List.cons_append, diff, diff, ih, List.cons_append]
    congr 2
    cases r with
    | nil => rfl
    | cons y r' => simp [List.getLastD]
theorem last_pre (S : List Ck) (k : Nat) (hk : k ≤ S.length) : ((S.take k).map Prod.snd).getLastD 0 = pre S k := by
  unfold pre
  split
  · rename_i h; subst h; rfl
  · rename_i h
    obtain ⟨m, rfl⟩ : ∃ m, k = m + 1 := ⟨k - 1, by omega⟩
    rw [List.take_succ_eq_append_getElem (by omega), List.map_append]
    simp [List.getD, show m < S.length by omega]
theorem diff_split (S : List Ck) (k : Nat) (hk : k ≤ S.length) : diff 0 S = diff 0 (S.take k) ++ diff (pre S k) (S.drop k) := by
  conv => lhs; rw [← List.take_append_drop k S]
  rw [diff_append, last_pre S k hk]
theorem diff_take (S : List Ck) (k : Nat) (hk : k ≤ S.length) : (diff 0 S).take k = diff 0 (S.take k) := by
  rw [diff_split S k hk, List.take_append_of_le_length (by rw [diff_len, List.length_take]; omega), List.take_of_length_le (by rw [diff_len, List.length_take]; omega)]
theorem diff_drop (S : List Ck) (k : Nat) (hk : k ≤ S.length) : (diff 0 S).drop k = diff (pre S k) (S.drop k) := by
  rw [diff_split S k hk, List.drop_append_of_le_length (by rw [diff_len, List.length_take]; omega), List.drop_of_length_le (by rw [diff_len, List.length_take]; omega), List.nil_append]
theorem diff_get (S : List Ck) (k : Nat) (hk : k < S.length) : (diff 0 S).getD k (0, 0) = ((S.getD k (0, 0)).1, (S.getD k (0, 0)).2 - pre S k) := by
  have h1 : (diff 0 S)[k]? = ((diff 0 S).drop k)[0]? := by rw [List.getElem?_drop]; rfl
  rw [List.getD_eq_getElem?_getD, h1, diff_drop S k (by omega), List.drop_eq_getElem_cons hk]
  simp [diff, List.getD, hk]
theorem pre_succ (S : List Ck) (k : Nat) : pre S (k + 1) = (S.getD k (0, 0)).2 := by simp [pre]
theorem insS_split (x : Ck) (A B : List Ck) (ha : ∀ y ∈ A, y.2 ≤ x.2) (hb : ∀ y, B.head? = some y → x.2 < y.2) : insS x (A ++ B) = A ++ x :: B := by
  induction A with
  | nil =>
    cases B with
    | nil => rfl
    | cons y r =>
      have := hb y rfl
      simp only [List.nil_append, insS]
      rw [if_neg (by omega)]
  | cons a A ih =>
    rw [List.cons_append, insS, if_pos (ha a (by simp)), ih (fun y hy => ha y (by simp [hy]))]
    rfl
/-- The row of steps behind a put: the next one's step is less, and the new one stands ahead of it. -/
theorem put_row (S : List Ck) (id t : Int) (k : Nat) (hk : k < S.length) (h1 : ∀ x ∈ S.take k, x.2 ≤ t) (h2 : t < (S.getD k (0, 0)).2) :
    insS (id, t) S = S.take k ++ (id, t) :: S.drop k ∧ diff 0 (insS (id, t) S) = (diff 0 S).take k ++ (id, t - pre S k) :: (((S.getD k (0, 0)).1, (S.getD k (0, 0)).2 - t) :: (diff 0 S).drop (k + 1)) := by
  have e0 : S.drop k = S[k] :: S.drop (k + 1) := List.drop_eq_getElem_cons hk
  have eg : S.getD k (0, 0) = S[k] := by simp [List.getD, hk]
  have e1 : insS (id, t) S = S.take k ++ (id, t) :: S.drop k := by
    conv => lhs; rw [← List.take_append_drop k S]
    refine insS_split (id, t) _ _ h1 fun y hy => ?_
    rw [e0] at hy
    simp only [List.head?_cons, Option.some.injEq] at hy
    subst hy
    rw [← eg]; exact h2
  refine ⟨e1, ?_⟩
  rw [e1, diff_append, last_pre S k (by omega), diff_take S k (by omega), diff_drop S (k + 1) (by omega), pre_succ, e0, eg]
  rfl
theorem put_end (S : List Ck) (id t : Int) (h1 : ∀ x ∈ S, x.2 ≤ t) : insS (id, t) S = S ++ [(id, t)] ∧ diff 0 (insS (id, t) S) = diff 0 S ++ [(id, t - pre S S.length)] := by
  have e1 : insS (id, t) S = S ++ [(id, t)] := by
    have := insS_split (id, t) S [] h1 (fun y hy => by cases hy)
    rwa [List.append_nil] at this
  refine ⟨e1, ?_⟩
  have h2 := last_pre S S.length (Nat.le_refl _)
  rw [List.take_length] at h2
  rw [e1, diff_append, h2]
  rfl
theorem insS_perm (x : Ck) (S : List Ck) : (insS x S).Perm (x :: S) := by
  induction S with
  | nil => exact List.Perm.refl _
  | cons y r ih =>
    unfold insS
    split
    · exact (ih.cons y).trans (List.Perm.swap x y r)
    · exact List.Perm.refl _
theorem insS_mem {x y : Ck} {S : List Ck} (h : y ∈ insS x S) : y = x ∨ y ∈ S := by
  have := (insS_perm x S).mem_iff.1 h
  simpa using this
theorem insS_up {x : Ck} {S : List Ck} (h : S.Pairwise fun a b => a.2 ≤ b.2) : (insS x S).Pairwise fun a b => a.2 ≤ b.2 := by
  induction S with
  | nil => simp [insS]
  | cons y r ih =>
    rw [List.pairwise_cons] at h
    unfold insS
    split
    · rename_i hle
      rw [List.pairwise_cons]
      refine ⟨fun z hz => ?_, ih h.2⟩
      rcases insS_mem hz with rfl | hz
      · exact hle
      · exact h.1 z hz
    · rename_i hle
      rw [List.pairwise_cons, List.pairwise_cons]
      refine ⟨fun z hz => ?_, h⟩
      rcases List.mem_cons.1 hz with rfl | hz
      · omega
      · have := h.1 z hz; omega
theorem sok_nil : SOk [] := ⟨by simp, by simp, by simp, by simp⟩
def has (S : List Ck) (id : Int) : Prop := id ∈ S.map Prod.fst
instance (S : List Ck) (id : Int) : Decidable (has S id) := inferInstanceAs (Decidable (_ ∈ _))
theorem sok_put {S : List Ck} (h : SOk S) {id t : Int} (hi : 0 ≤ id ∧ id < 256) (ht : 1 ≤ t ∧ t < 4294967296) (hn : ¬ has S id) : SOk (insS (id, t) S) := by
  refine ⟨insS_up h.up, ?_, fun x hx => ?_, fun x hx => ?_⟩
  · have hp := (insS_perm (id, t) S).map Prod.fst
    rw [hp.nodup_iff, List.map_cons, List.nodup_cons]
    exact ⟨hn, h.nd⟩
  · rcases insS_mem hx with rfl | hx
    · exact hi
    · exact h.id x hx
  · rcases insS_mem hx with rfl | hx
    · exact ht
    · exact h.lf x hx
/-- It is taken out. -/
def delS (id : Int) (S : List Ck) : List Ck := S.filter fun x => x.1 != id
theorem sok_del {S : List Ck} (h : SOk S) (id : Int) : SOk (delS id S) :=
  ⟨h.up.filter _, h.nd.sublist ((List.filter_sublist).map _), fun x hx => h.id x (List.mem_filter.1 hx).1, fun x hx => h.lf x (List.mem_filter.1 hx).1⟩
theorem del_none {S : List Ck} {id : Int} (h : ¬ has S id) : delS id S = S := by
  unfold delS
  rw [List.filter_eq_self]
  intro x hx
  simp only [bne_iff_ne, ne_eq]
  intro e
  exact h (List.mem_map.2 ⟨x, hx, e⟩)
/-- Its place. -/
def at_ (S : List Ck) (id : Int) : Nat := (S.map Prod.fst).idxOf id
theorem at_lt {S : List Ck} {id : Int} (h : has S id) : at_ S id < S.length := by
  have := List.idxOf_lt_length_iff.2 h
  simpa [at_] using this
theorem at_get {S : List Ck} {id : Int} (h : has S id) : (S.getD (at_ S id) (0, 0)).1 = id := by
  have hk := at_lt h
  have h1 : (S.map Prod.fst)[at_ S id]'(by simpa using hk) = id := List.getElem_idxOf _
  rw [List.getElem_map] at h1
  simp only [List.getD, List.getElem?_eq_getElem hk, Option.getD_some]
  exact h1
theorem at_first {S : List Ck} {id : Int} {k : Nat} (hk : k < S.length) (he : (S.getD k (0, 0)).1 = id) (hn : ∀ x ∈ S.take k, x.1 ≠ id) : at_ S id = k := by
  have e0 : S = S.take k ++ S[k] :: S.drop (k + 1) := by simp
  have eg : S.getD k (0, 0) = S[k] := by simp [List.getD, hk]
  rw [eg] at he
  unfold at_
  have h1 : S.map Prod.fst = (S.take k).map Prod.fst ++ id :: (S.drop (k + 1)).map Prod.fst := by
    conv => lhs; rw [e0]
    rw [List.map_append, List.map_cons, he]
  rw [h1, List.idxOf_append, if_neg (by intro h; obtain ⟨x, hx, hxe⟩ := List.mem_map.1 h; exact hn x hx hxe), List.idxOf_cons_self]
  simp; omega
theorem del_at {S : List Ck} (h : SOk S) {id : Int} (hi : has S id) : delS id S = S.eraseIdx (at_ S id) := by
  have hk := at_lt hi
  have e0 : S = S.take (at_ S id) ++ S[at_ S id] :: S.drop (at_ S id + 1) := by simp
  have eg : S.getD (at_ S id) (0, 0) = S[at_ S id] := by simp [List.getD, hk]
  have hg := at_get hi
  rw [eg] at hg
  rw [List.eraseIdx_eq_take_drop_succ]
  generalize hA : S.take (at_ S id) = A at *
  generalize hB : S.drop (at_ S id + 1) = B at *
  generalize S[at_ S id] = x at *
  have nd := h.nd
  rw [e0, List.map_append, List.map_cons, List.nodup_append] at nd
  obtain ⟨nA, nB, hd⟩ := nd
  rw [List.nodup_cons] at nB
  unfold delS
  conv => lhs; rw [e0]
  rw [List.filter_append, List.filter_cons_of_neg (by simp [hg]), List.filter_eq_self.2, List.filter_eq_self.2]
  · intro y hy
    simp only [bne_iff_ne, ne_eq]
    intro e
    exact nB.1 (by rw [hg, ← e]; exact List.mem_map.2 ⟨y, hy, rfl⟩)
  · intro y hy
    simp only [bne_iff_ne, ne_eq]
    intro e
    exact hd y.1 (List.mem_map.2 ⟨y, hy, rfl⟩) x.1 (by simp) (by rw [e, hg])
/-- The row of steps without it: the next one's step is as much more. -/
theorem del_row (S : List Ck) (k : Nat) (hk : k + 1 < S.length) :
    diff 0 (S.eraseIdx k) = (diff 0 S).take k ++ ((S.getD (k + 1) (0, 0)).1, (S.getD (k + 1) (0, 0)).2 - pre S k) :: (diff 0 S).drop (k + 2) := by
  have e1 : S.drop (k + 1) = S[k + 1] :: S.drop (k + 2) := List.drop_eq_getElem_cons hk
  have eg : S.getD (k + 1) (0, 0) = S[k + 1] := by simp [List.getD, hk]
  rw [List.eraseIdx_eq_take_drop_succ, diff_append, last_pre S k (by omega), diff_take S k (by omega), diff_drop S (k + 2) (by omega), pre_succ, e1, eg]
  rfl
theorem del_row_end (S : List Ck) (k : Nat) (hk : k < S.length) (he : S.length ≤ k + 1) : diff 0 (S.eraseIdx k) = (diff 0 S).take k := by
  rw [List.eraseIdx_eq_take_drop_succ, List.drop_eq_nil_of_le he, List.append_nil, diff_take S k (by omega)]

/-- One tick: those that are over, and the rest. -/
def dec (x : Ck) : Ck := (x.1, x.2 - 1)
def overS (S : List Ck) : List Int := (S.filter fun x => x.2 == 1).map Prod.fst
def tickS (S : List Ck) : List Ck := (S.filter fun x => x.2 != 1).map dec
theorem sok_tick {S : List Ck} (h : SOk S) : SOk (tickS S) := by
  unfold tickS
  refine ⟨?_, ?_, ?_, ?_⟩
  · rw [List.pairwise_map]
    exact (h.up.filter _).imp_of_mem fun _ _ h => by show _ - 1 ≤ _ - 1; omega
  · rw [List.map_map]
    exact h.nd.sublist ((List.filter_sublist).map _)
  · intro x hx
    obtain ⟨y, hy, rfl⟩ := List.mem_map.1 hx
    exact h.id y (List.mem_filter.1 hy).1
  · intro x hx
    obtain ⟨y, hy, rfl⟩ := List.mem_map.1 hx
    obtain ⟨h1, h2⟩ := List.mem_filter.1 hy
    have h3 := h.lf y h1
    have h4 : y.2 ≠ 1 := by simpa using h2
    exact ⟨by show 1 ≤ y.2 - 1; omega, by show y.2 - 1 < _; omega⟩
theorem diff_dec (x : Ck) (r : List Ck) : diff 0 ((x :: r).map dec) = (x.1, x.2 - 1) :: diff x.2 r := by
  have h : ∀ (r : List Ck) (a : Int), diff (a - 1) (r.map dec) = diff a r := by
    intro r
    induction r with
    | nil => intro a; rfl
    | cons y r ih =>
      intro a
      show (y.1, y.2 - 1 - (a - 1)) :: diff (y.2 - 1) (r.map dec) = _
      rw [ih, diff]
      congr 2
      omega
  show (x.1, x.2 - 1 - 0) :: diff (x.2 - 1) (r.map dec) = _
  rw [h]
  congr 2
  omega
theorem diff_zero (x : Ck) (r : List Ck) (hx : x.2 = 0) : diff 0 (x :: r) = (x.1, 0) :: diff 0 r := by
  rw [diff, hx]; rfl
/-- What is drained: as long as the first one has nothing left. -/
theorem drain_split {T : List Ck} (h : T.Pairwise fun a b => a.2 ≤ b.2) (h0 : ∀ x ∈ T, 0 ≤ x.2) : T = (T.filter fun x => x.2 == 0) ++ T.filter fun x => x.2 != 0 := by
  induction T with
  | nil => rfl
  | cons x r ih =>
    rw [List.pairwise_cons] at h
    by_cases hx : x.2 = 0
    · rw [List.filter_cons_of_pos (by simp [hx]), List.filter_cons_of_neg (by simp [hx]), List.cons_append, ← ih h.2 fun y hy => h0 y (by simp [hy])]
    · have h1 : ∀ y ∈ r, y.2 ≠ 0 := fun y hy => by have := h.1 y hy; have := h0 x (by simp); omega
      rw [List.filter_cons_of_neg (by simp [hx]), List.filter_cons_of_pos (by simp [hx]), List.filter_eq_nil_iff.2 (fun y hy => by simp [h1 y hy]), List.filter_eq_self.2 (fun y hy => by simp [h1 y hy])]
      rfl
theorem tick_dec (S : List Ck) : ((S.map dec).filter fun x => x.2 == 0).map Prod.fst = overS S ∧ ((S.map dec).filter fun x => x.2 != 0) = tickS S := by
  constructor
  · unfold overS
    rw [List.filter_map, List.map_map]
    have e : ((fun x : Ck => x.2 == 0) ∘ dec) = fun x => x.2 == 1 := by
      funext x
      show (x.2 - 1 == 0) = (x.2 == 1)
      rw [Bool.eq_iff_iff]; simp; omega
    rw [e]; rfl
  · unfold tickS
    rw [List.filter_map]
    have e : ((fun x : Ck => x.2 != 0) ∘ dec) = fun x => x.2 != 1 := by
      funext x
      show (x.2 - 1 != 0) = (x.2 != 1)
      rw [Bool.eq_iff_iff]; simp; omega
    rw [e]

/-! ### What is asked -/
def leftOf (S : List Ck) (id : Int) : Int := match S.find? (fun x => x.1 == id) with
  | some x => x.2
  | none => 0
def fromOf (S : List Ck) (id : Int) : Int := (S.countP fun x => decide (id ≤ x.1) : Nat)

/-! ### In the order in which they were put -/
def srt (L : List Ck) : List Ck := L.foldl (fun S x => insS x S) []
theorem srt_snoc (L : List Ck) (x : Ck) : srt (L ++ [x]) = insS x (srt L) := by simp [srt]
theorem srt_perm (L : List Ck) : (srt L).Perm L := by
  have h : ∀ (L S : List Ck), (L.foldl (fun S x => insS x S) S).Perm (S ++ L) := by
    intro L
    induction L with
    | nil => intro S; simp
    | cons x r ih =>
      intro S
      rw [List.foldl_cons]
      refine (ih _).trans ?_
      refine ((insS_perm x S).append_right r).trans ?_
      rw [List.cons_append]
      exact List.perm_middle.symm
  have := h L []
  rwa [List.nil_append] at this
theorem filter_ins (p : Ck → Bool) (x : Ck) {S : List Ck} (h : S.Pairwise fun a b => a.2 ≤ b.2) : (insS x S).filter p = if p x then insS x (S.filter p) else S.filter p := by
  induction S with
  | nil => by_cases hp : p x <;> simp [insS, hp]
  | cons y r ih =>
    rw [List.pairwise_cons] at h
    rw [insS_cons]
    by_cases hle : y.2 ≤ x.2
    · rw [if_pos hle, List.filter_cons, ih h.2]
      by_cases hy : p y
      · by_cases hp : p x
        · simp only [hy, hp, if_true, List.filter_cons]
          rw [insS_cons, if_pos hle]
        · simp [hy, hp]
      · by_cases hp : p x <;> simp [hy, hp]
    · rw [if_neg hle, List.filter_cons]
      by_cases hp : p x
      · simp only [hp, if_true]
        have hhead : ∀ z, ((y :: r).filter p).head? = some z → x.2 < z.2 := by
          intro z hz
          have hz : z ∈ (y :: r).filter p := List.mem_of_mem_head? hz
          have hz := (List.mem_filter.1 hz).1
          rcases List.mem_cons.1 hz with rfl | hz
          · omega
          · have := h.1 z hz; omega
        have := insS_split x [] ((y :: r).filter p) (fun _ h => by cases h) hhead
        rw [List.nil_append, List.nil_append] at this
        exact this.symm
      · simp [hp]
theorem srt_up (L : List Ck) : (srt L).Pairwise fun a b => a.2 ≤ b.2 := by
  have h : ∀ (L S : List Ck), (S.Pairwise fun a b => a.2 ≤ b.2) → (L.foldl (fun S x => insS x S) S).Pairwise fun a b => a.2 ≤ b.2 := by
    intro L
    induction L with
    | nil => intro S h; exact h
    | cons x r ih => intro S h; rw [List.foldl_cons]; exact ih _ (insS_up h)
  exact h L [] (by simp)
theorem list_snoc_ind {p : List Ck → Prop} (h0 : p []) (h1 : ∀ L x, p L → p (L ++ [x])) : ∀ L, p L := by
  intro L
  have h : ∀ M : List Ck, p M.reverse := by
    intro M
    induction M with
    | nil => exact h0
    | cons x r ih => rw [List.reverse_cons]; exact h1 _ _ ih
  have := h L.reverse
  rwa [List.reverse_reverse] at this
theorem srt_filter (p : Ck → Bool) (L : List Ck) : srt (L.filter p) = (srt L).filter p := by
  induction L using list_snoc_ind with
  | h0 => rfl
  | h1 L x ih =>
    rw [List.filter_append, srt_snoc, filter_ins p x (srt_up L), ← ih]
    by_cases hp : p x
    · simp only [List.filter_cons, hp, if_true, List.filter_nil, srt_snoc]
    · simp [hp]
theorem map_ins (x : Ck) (S : List Ck) : (insS x S).map dec = insS (dec x) (S.map dec) := by
  induction S with
  | nil => rfl
  | cons y r ih =>
    rw [insS_cons]
    by_cases h : y.2 ≤ x.2
    · rw [if_pos h, List.map_cons, ih]
      show _ = insS (dec x) (dec y :: r.map dec)
      rw [insS_cons, if_pos (by show y.2 - 1 ≤ x.2 - 1; omega)]
    · rw [if_neg h]
      show _ = insS (dec x) (dec y :: r.map dec)
      rw [insS_cons, if_neg (by show ¬ y.2 - 1 ≤ x.2 - 1; omega)]
      rfl
theorem srt_map (L : List Ck) : srt (L.map dec) = (srt L).map dec := by
  induction L using list_snoc_ind with
  | h0 => rfl
  | h1 L x ih => rw [List.map_append, List.map_cons, List.map_nil, srt_snoc, ih, srt_snoc, map_ins]
theorem srt_same {c : Int} {L : List Ck} (h : ∀ x ∈ L, x.2 = c) : srt L = L := by
  induction L using list_snoc_ind with
  | h0 => rfl
  | h1 L x ih =>
    have h1 := ih fun y hy => h y (by simp [hy])
    have hx := h x (by simp)
    rw [srt_snoc, h1]
    have := insS_split x L [] (fun y hy => by rw [h y (by simp [hy]), hx]; exact Int.le_refl _) (fun y hy => by cases hy)
    rwa [List.append_nil] at this
theorem srt_over (L : List Ck) : overS (srt L) = overS L := by
  unfold overS
  rw [← srt_filter, srt_same (c := 1)]
  intro x hx
  simpa using (List.mem_filter.1 hx).2
theorem srt_tick (L : List Ck) : srt (tickS L) = tickS (srt L) := by
  unfold tickS
  rw [srt_map, srt_filter]
theorem srt_del (id : Int) (L : List Ck) : srt (delS id L) = delS id (srt L) := srt_filter _ L
theorem has_perm {A B : List Ck} (h : A.Perm B) (id : Int) : has A id ↔ has B id := (h.map Prod.fst).mem_iff
theorem from_perm {A B : List Ck} (h : A.Perm B) (id : Int) : fromOf A id = fromOf B id := by unfold fromOf; rw [h.countP_eq]
theorem left_mem {S : List Ck} (nd : (S.map Prod.fst).Nodup) {x : Ck} (hx : x ∈ S) : leftOf S x.1 = x.2 := by
  induction S with
  | nil => cases hx
  | cons y r ih =>
    rw [List.map_cons, List.nodup_cons] at nd
    unfold leftOf
    rcases List.mem_cons.1 hx with rfl | hx
    · simp
    · have hne : ¬ y.1 = x.1 := fun e => nd.1 (e ▸ List.mem_map.2 ⟨x, hx, rfl⟩)
      rw [List.find?_cons_of_neg (by simp [hne])]
      exact ih nd.2 hx
theorem left_none {S : List Ck} {id : Int} (h : ¬ has S id) : leftOf S id = 0 := by
  unfold leftOf
  rw [List.find?_eq_none.2]
  intro x hx
  simp only [beq_iff_eq]
  intro e
  exact h (List.mem_map.2 ⟨x, hx, e⟩)
theorem left_perm {A B : List Ck} (h : A.Perm B) (nd : (A.map Prod.fst).Nodup) (id : Int) : leftOf A id = leftOf B id := by
  have nb : (B.map Prod.fst).Nodup := (h.map Prod.fst).nodup_iff.1 nd
  by_cases hi : has A id
  · obtain ⟨x, hx, rfl⟩ := List.mem_map.1 hi
    rw [left_mem nd hx, left_mem nb (h.mem_iff.1 hx)]
  · rw [left_none hi, left_none (fun h' => hi ((has_perm h id).2 h'))]
theorem left_pos {S : List Ck} (h : SOk S) (id : Int) : 0 < leftOf S id ↔ has S id := by
  constructor
  · intro h1
    refine Decidable.byContradiction fun hn => ?_
    rw [left_none hn] at h1
    omega
  · intro hi
    obtain ⟨x, hx, rfl⟩ := List.mem_map.1 hi
    rw [left_mem h.nd hx]
    have := (h.lf x hx).1
    omega
end Go.Dl
