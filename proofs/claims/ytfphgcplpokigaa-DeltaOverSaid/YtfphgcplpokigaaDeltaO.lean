/-
  Delta lists, in plain Lean: clocks put by their index, and how they run out.
-/
import Derived.Test.YtfphgcplpokigaaDeltaI
namespace Go.Dl

def okT (x : Int) : Bool := decide (1 ≤ x) && decide (x < 4294967296)
theorem okT_iff (x : Int) : okT x = true ↔ 1 ≤ x ∧ x < 4294967296 := by unfold okT; simp
def ovL (xs : List Int) (k : Nat) : List Ck := ((List.range k).filter fun j => okT (xs.getD j 0)).map fun j : Nat => ((j : Int), xs.getD j 0)
theorem ovL_succ (xs : List Int) (k : Nat) : ovL xs (k + 1) = ovL xs k ++ if okT (xs.getD k 0) then [((k : Int), xs.getD k 0)] else [] := by
  unfold ovL
  rw [List.range_succ, List.filter_append, List.map_append]
  congr 1
  by_cases h : okT (xs.getD k 0)
  · rw [List.filter_cons_of_pos (p := fun j : Nat => okT (xs.getD j 0)) h, if_pos h]; rfl
  · rw [List.filter_cons_of_neg (p := fun j : Nat => okT (xs.getD j 0)) h, if_neg h]; rfl
theorem ovL_has {xs : List Int} {k : Nat} {i : Int} (h : has (ovL xs k) i) : i < k := by
  unfold has ovL at h
  rw [List.map_map, List.mem_map] at h
  obtain ⟨j, hj, rfl⟩ := h
  have := List.mem_range.1 (List.mem_filter.1 hj).1
  show (j : Int) < k
  omega
theorem ovL_pos (xs : List Int) (k : Nat) : ∀ x ∈ ovL xs k, 1 ≤ x.2 := by
  intro x hx
  unfold ovL at hx
  obtain ⟨j, hj, rfl⟩ := List.mem_map.1 hx
  exact ((okT_iff _).1 (List.mem_filter.1 hj).2).1
def tkL (L : List Ck) (n : Nat) : List Ck := (L.filter fun x => decide ((n : Int) < x.2)).map fun x => (x.1, x.2 - n)
theorem tkL_zero {L : List Ck} (h : ∀ x ∈ L, 1 ≤ x.2) : tkL L 0 = L := by
  unfold tkL
  rw [List.filter_eq_self.2 (fun x hx => by have := h x hx; simp; omega)]
  conv => rhs; rw [← List.map_id L]
  refine List.map_congr_left fun x _ => ?_
  show (x.1, x.2 - ((0 : Nat) : Int)) = x
  rw [show x.2 - ((0 : Nat) : Int) = x.2 by omega]
theorem tick_tkL (L : List Ck) (n : Nat) : tickS (tkL L n) = tkL L (n + 1) := by
  unfold tickS tkL
  rw [List.filter_map, List.map_map, List.filter_filter]
  have e1 : (fun a : Ck => ((fun x : Ck => x.2 != 1) ∘ fun x => (x.1, x.2 - (n : Int))) a && decide ((n : Int) < a.2)) = fun x : Ck => decide (((n + 1 : Nat) : Int) < x.2) := by
    funext x
    show ((x.2 - (n : Int) != 1) && decide ((n : Int) < x.2)) = _
    rw [Bool.eq_iff_iff]
    simp
    omega
  have e2 : (dec ∘ fun x : Ck => (x.1, x.2 - (n : Int))) = fun x : Ck => (x.1, x.2 - ((n + 1 : Nat) : Int)) := by
    funext x
    show (x.1, x.2 - (n : Int) - 1) = _
    rw [show x.2 - (n : Int) - 1 = x.2 - ((n + 1 : Nat) : Int) by omega]
  rw [e1, e2]
theorem over_tkL (L : List Ck) (n : Nat) : overS (tkL L n) = (L.filter fun x => x.2 == ((n + 1 : Nat) : Int)).map Prod.fst := by
  unfold overS tkL
  rw [List.filter_map, List.map_map, List.filter_filter]
  have e1 : (fun a : Ck => ((fun x : Ck => x.2 == 1) ∘ fun x => (x.1, x.2 - (n : Int))) a && decide ((n : Int) < a.2)) = fun x : Ck => x.2 == ((n + 1 : Nat) : Int) := by
    funext x
    show ((x.2 - (n : Int) == 1) && decide ((n : Int) < x.2)) = _
    rw [Bool.eq_iff_iff]
    simp
    omega
  rw [e1]
  rfl
def ovP (xs : List Int) (now : Int) (j : Nat) : Bool := okT (xs.getD j 0) && (xs.getD j 0 == now)
def ovr (xs : List Int) (now : Int) : List Int := ((List.range xs.length).filter (ovP xs now)).map fun j : Nat => (j : Int)
theorem ovr_eq (xs : List Int) (now : Int) : ((ovL xs xs.length).filter fun x => x.2 == now).map Prod.fst = ovr xs now := by
  unfold ovL ovr
  rw [List.filter_map, List.map_map, List.filter_filter]
  have e : (fun a : Nat => ((fun x : Ck => x.2 == now) ∘ fun j : Nat => ((j : Int), xs.getD j 0)) a && okT (xs.getD a 0)) = ovP xs now := by
    funext j
    exact Bool.and_comm _ _
  rw [e]
  rfl
theorem ovr_mem {xs : List Int} {now y : Int} (h : y ∈ ovr xs now) : ∃ j : Nat, y = (j : Int) ∧ j < xs.length ∧ xs.getD j 0 = now := by
  obtain ⟨j, hj, rfl⟩ := List.mem_map.1 h
  have h1 := List.mem_filter.1 hj
  refine ⟨j, rfl, List.mem_range.1 h1.1, ?_⟩
  have h2 := h1.2
  unfold ovP at h2
  simp only [Bool.and_eq_true, beq_iff_eq] at h2
  exact h2.2
theorem ovr_up (xs : List Int) (now : Int) : (ovr xs now).Pairwise fun a b => a < b := by
  unfold ovr
  rw [List.pairwise_map]
  exact (List.pairwise_lt_range.filter _).imp fun h => by omega
theorem ovr_len (xs : List Int) (now : Int) : (ovr xs now).length = ((List.range xs.length).filter (ovP xs now)).length := by
  unfold ovr; rw [List.length_map]
theorem filt_succ (p : Nat → Bool) (k : Nat) : ((List.range (k + 1)).filter p).length = ((List.range k).filter p).length + if p k then 1 else 0 := by
  rw [List.range_succ, List.filter_append, List.length_append]
  by_cases h : p k
  · rw [List.filter_cons_of_pos h, if_pos h]; rfl
  · rw [List.filter_cons_of_neg h, if_neg h]; rfl
theorem filt_le (p : Nat → Bool) (k : Nat) : ((List.range k).filter p).length ≤ k := by
  have := List.length_filter_le p (List.range k)
  rwa [List.length_range] at this
def hld (xs : List Int) (k : Nat) : List Bool := (List.range 100).map fun j => decide (j < k) && okT (xs.getD j 0)
theorem hld_len (xs : List Int) (k : Nat) : (hld xs k).length = 100 := by simp [hld]
theorem hld_zero (xs : List Int) : hld xs 0 = List.replicate 100 false := by
  refine List.ext_getElem (by simp [hld]) fun i _ _ => by
    simp only [hld, List.getElem_map, List.getElem_range, List.getElem_replicate]
    simp
theorem hld_set (xs : List Int) (k : Nat) : (hld xs k).set k (okT (xs.getD k 0)) = hld xs (k + 1) := by
  refine List.ext_getElem (by simp [hld]) fun i h1 h2 => ?_
  rw [List.getElem_set]
  by_cases e : k = i
  · subst e
    rw [if_pos rfl]
    simp [hld]
  · rw [if_neg e]
    simp only [hld, List.getElem_map, List.getElem_range]
    congr 1
    rw [decide_eq_decide]
    omega
theorem hld_at (xs : List Int) {k j : Nat} (h : j < k) (h2 : j < 100) : (hld xs k).getD j false = okT (xs.getD j 0) := by
  simp [hld, List.getD, h, h2]
end Go.Dl
namespace Go.Proofs.Ytfphgcplpokigaa
open Go.RowKit Go.Sx Go.Dl
theorem ov_ok (xs : List Int) {k : Nat} : putOk (srt (ovL xs k)) k (xs.getD k 0) ↔ k < 256 ∧ okT (xs.getD k 0) := by
  rw [okT_iff]
  unfold putOk
  constructor
  · rintro ⟨a, b, c, d, e⟩; exact ⟨by omega, c, d⟩
  · rintro ⟨a, c, d⟩
    exact ⟨by omega, by omega, c, d, fun h => by have := ovL_has ((has_perm (srt_perm _) _).1 h); omega⟩
theorem ov_put (xs : List Int) {k : Nat} (hk : k < 256) : putS (srt (ovL xs k)) k (xs.getD k 0) = srt (ovL xs (k + 1)) := by
  unfold putS
  rw [ovL_succ]
  by_cases h : okT (xs.getD k 0)
  · rw [if_pos ((ov_ok xs).2 ⟨hk, h⟩), if_pos h, srt_snoc]
  · rw [if_neg (fun h' => h ((ov_ok xs).1 h').2), if_neg h, List.append_nil]
theorem ov_putE (xs : List Int) {k : Nat} (hk : k < 256) : putE (srt (ovL xs k)) k (xs.getD k 0) = if okT (xs.getD k 0) then 0 else 1 := by
  unfold putE
  by_cases h : okT (xs.getD k 0)
  · rw [if_pos ((ov_ok xs).2 ⟨hk, h⟩), if_pos h]
  · rw [if_neg (fun h' => h ((ov_ok xs).1 h').2), if_neg h]
theorem sok_ov (xs : List Int) (k : Nat) (hk : k ≤ 256) : SOk (srt (ovL xs k)) := by
  induction k with
  | zero => exact sok_nil
  | succ k ih => rw [← ov_put xs (by omega)]; exact sok_putS (ih (by omega)) _ _
theorem sok_tk {L : List Ck} (h : SOk (srt L)) (h1 : ∀ x ∈ L, 1 ≤ x.2) (n : Nat) : SOk (srt (tkL L n)) := by
  induction n with
  | zero => rw [tkL_zero h1]; exact h
  | succ n ih => rw [← tick_tkL, srt_tick]; exact sok_tick ih
end Go.Proofs.Ytfphgcplpokigaa
