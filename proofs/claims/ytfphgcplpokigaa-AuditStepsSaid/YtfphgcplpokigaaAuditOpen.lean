/-
  Audit: events that came in.
-/
import Derived.Test.YtfphgcplpokigaaAuditN
namespace Go.Proofs.Ytfphgcplpokigaa
open Go.RowKit Go.Sx Go.Au
set_option linter.unusedSimpArgs false
set_option linter.unusedVariables false

abbrev kEv : List IntKind := [.i64, .u64, .u64, .u32, .u32, .u32]
theorem wf_u32 {n : Int} (h : (Lit.int .u32 n).wf = true) : 0 ≤ n ∧ n < 4294967296 := by
  have h1 : (decide ((0 : Int) ≤ n) && decide (n ≤ 4294967295)) = true := h
  simp only [Bool.and_eq_true, decide_eq_true_eq] at h1
  omega
theorem wf_u64 {n : Int} (h : (Lit.int .u64 n).wf = true) : 0 ≤ n ∧ n < 18446744073709551616 := by
  have h1 : (decide ((0 : Int) ≤ n) && decide (n ≤ 18446744073709551615)) = true := h
  simp only [Bool.and_eq_true, decide_eq_true_eq] at h1
  omega
def evOf (f : Nat → Int) : Ev := ⟨f 0, f 1, f 2, (f 3).toNat, (f 4).toNat, (f 5).toNat⟩
theorem evOf_ok {f : Nat → Int} (h : ∀ c κ, kEv[c]? = some κ → (Lit.int κ (f c)).wf = true) : EvOk (evOf f) := by
  have h1 := wf_u64 (h 1 _ rfl)
  have h2 := wf_u64 (h 2 _ rfl)
  have h3 := wf_u32 (h 3 _ rfl)
  have h4 := wf_u32 (h 4 _ rfl)
  have h5 := wf_u32 (h 5 _ rfl)
  exact ⟨by show (f 3).toNat < _; omega, by show (f 4).toNat < _; omega, by show (f 5).toNat < _; omega, h1, h2⟩
theorem evOf_cells {f : Nat → Int} (h : ∀ c κ, kEv[c]? = some κ → (Lit.int κ (f c)).wf = true) : evCells (evOf f) = [.int .i64 (f 0), .int .u64 (f 1), .int .u64 (f 2), .int .u32 (f 3), .int .u32 (f 4), .int .u32 (f 5)] := by
  have h3 := wf_u32 (h 3 _ rfl)
  have h4 := wf_u32 (h 4 _ rfl)
  have h5 := wf_u32 (h 5 _ rfl)
  simp only [evCells, evOf, Int.toNat_of_nonneg h3.1, Int.toNat_of_nonneg h4.1, Int.toNat_of_nonneg h5.1]
theorem ev_of_rec {f : Nat → Int} (h : ∀ c κ, kEv[c]? = some κ → (Lit.int κ (f c)).wf = true) : Value.agg ((List.range kEv.length).map fun c => Value.int (kEv.getD c .i64) (f c)).toArray = evV (evOf f) := by
  have h1 := evOf_cells h
  have h2 : evV (evOf f) = .agg (evCells (evOf f)).toArray := rfl
  rw [h2, h1]; rfl
theorem evs_of_RdK {w : World} {v : Value} {n : Nat} {f : Nat → Nat → Int} (h : RdK kEv w v n f) : ∃ l : List Ev, l.length = n ∧ RdR w v l ∧ ∀ e ∈ l, EvOk e := by
  obtain ⟨a, cap, b, off, rfl, h1, h2, h3, h4⟩ := h
  refine ⟨(List.range n).map fun i => evOf (f i), by simp, ⟨a, cap, b, off, by simp, by simpa using h1, h2, fun hne => h3 ?_, fun j u hj => ?_⟩, ?_⟩
  · rcases Nat.eq_zero_or_pos n with h | h
    · subst h; simp at hne
    · exact h
  · have hlt : j < n * 6 := by
      have := (List.getElem?_eq_some_iff.1 hj).1
      rw [cellsOf_len] at this; simpa using this
    have hk : j / 6 < n := by omega
    have hc : j % 6 < 6 := Nat.mod_lt _ (by decide)
    have e1 : j / 6 * 6 + j % 6 = j := by omega
    have h5 := cellsOf_at (E := encEv) (l := (List.range n).map fun i => evOf (f i)) (k := j / 6) (c := j % 6) (by simpa using hk) hc
    rw [e1, hj] at h5
    have h6 : ((List.range n).map fun i => evOf (f i)).getD (j / 6) encEv.dft = evOf (f (j / 6)) := by simp [List.getD, hk]
    rw [h6] at h5
    have h7 : encEv.enc (evOf (f (j / 6))) = evCells (evOf (f (j / 6))) := rfl
    rw [h7, evOf_cells fun c κ hκ => (h4 (j / 6) c κ hk hκ).2] at h5
    generalize hcc : j % 6 = c at h5 e1 hc
    have h8 : ∀ κ, kEv[c]? = some κ → w.cell? ⟨b, off + j, none⟩ = some (.int κ (f (j / 6) c)) := fun κ hκ => by
      have := (h4 (j / 6) c κ hk hκ).1
      rw [show kEv.length = 6 from rfl, e1] at this
      exact this
    match c, hc with
    | 0, _ => rw [h8 _ rfl]; simpa using h5.symm
    | 1, _ => rw [h8 _ rfl]; simpa using h5.symm
    | 2, _ => rw [h8 _ rfl]; simpa using h5.symm
    | 3, _ => rw [h8 _ rfl]; simpa using h5.symm
    | 4, _ => rw [h8 _ rfl]; simpa using h5.symm
    | 5, _ => rw [h8 _ rfl]; simpa using h5.symm
  · intro e he
    obtain ⟨i, hi, rfl⟩ := List.mem_map.1 he
    exact evOf_ok fun c κ hκ => (h4 i c κ (List.mem_range.1 hi) hκ).2
end Go.Proofs.Ytfphgcplpokigaa
