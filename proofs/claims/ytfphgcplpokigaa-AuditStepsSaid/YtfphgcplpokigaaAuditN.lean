/-
  Audit: events in memory; a new auditor; the contract of Check.
-/
import Derived.Test.YtfphgcplpokigaaAuditL
namespace Go.Proofs.Ytfphgcplpokigaa
open Go.RowKit Go.Sx Go.Au
set_option linter.unusedSimpArgs false
set_option linter.unusedVariables false

instance encEv : Enc Ev 6 where
  enc e := evCells e
  len _ := rfl
  one t := by intro u hu; simp at hu; rcases hu with rfl | rfl | rfl | rfl | rfl | rfl <;> rfl
  dft := ev0
  pos := by decide
instance : ElemR Try.prog 73 Ev 6 encEv 79 40 (.agg #[.int .i64 0, .int .u64 0, .int .u64 0, .int .u32 0, .int .u32 0, .int .u32 0]) := ⟨⟨by kernel_rfl, by kernel_rfl, rfl⟩, by decide⟩
def evg (l : List Ev) (k : Nat) : Ev := l.getD k ev0

def zeroA : Array Value := (([.int .i64 0, .bool false] ++ (evCells ev0 ++ (duCells du0 ++ (cellsOf au0.ts ++ (au0.ow.map (Value.int .i64) ++ (au0.pn.map Value.bool ++ [.int .i64 0, .int .i64 0])))))) : List Value).toArray
theorem zeroAud (w : World) : Sem.run Try.prog (zeroValue 88) w = .ok (.agg zeroA) w := by kernel_rfl
theorem zeroA_eq : Try.zeroCells88 = zeroA := by kernel_rfl
theorem zeroA_size : zeroA.size = 381 := by kernel_rfl
theorem zeroA_ne : zeroA ≠ #[] := fun h => by have := zeroA_size; rw [h] at this; exact absurd this (by decide)
theorem zeroA_list : zeroA.toList = [.int .i64 0, .bool false] ++ (evCells ev0 ++ (duCells du0 ++ (cellsOf au0.ts ++ (au0.ow.map (Value.int .i64) ++ (au0.pn.map Value.bool ++ [.int .i64 0, .int .i64 0]))))) := rfl
theorem auP_new {w0 w : World} {F : HP} (hs : Sat w0 w F) (t : TypeId) : Sat w0 (w.alloc (.cells zeroA t)) (auP w.heap.size au0 * F) := by
  have h1 := hs.alloc zeroA t
  rw [zeroA_list, pts_append, pts_append, pts_append, pts_append, pts_append, pts_append] at h1
  have e : (cellsOf au0.ts).length = 320 := by rw [cellsOf_len]; rfl
  rw [e] at h1
  have h2 : Sat w0 (w.alloc (.cells zeroA t)) (auP w.heap.size au0 * F) := h1
  exact h2
/-- It reads so as long as F is owned. -/
def StaysE (w0 : World) (F : HP) (v : Value) (l : List Ev) : Prop := ∀ w, Sat w0 w F → RdR w v l
theorem staysE_old {w0 : World} {F : HP} {v : Value} {l : List Ev} (h : RdR w0 v l) : StaysE w0 F v l := fun _ hs => h.later hs

theorem rdR_pts {w0 w : World} {P G : HP} {g o : Nat} {pre l post : List Ev} (n cap : Nat) [hs : Sat w0 w P] [h : PullP P g o (cellsOf (pre ++ (l ++ post))) G] (hn : n = l.length) (hc : n ≤ cap) (hm : cap ≤ maxLen) : RdR w (.slice (some ⟨g, o + pre.length * 6, none⟩) n cap) l := by
  have h1 : Sat w0 w (pts g o (cellsOf (pre ++ (l ++ post))) * G) := hs.perm h.eq
  subst hn
  refine ⟨_, cap, g, o + pre.length * 6, rfl, hc, hm, fun _ => rfl, fun j u hj => ?_⟩
  have hj' : j < (cellsOf l).length := (List.getElem?_eq_some_iff.1 hj).1
  have h2 : (cellsOf (pre ++ (l ++ post)))[pre.length * 6 + j]? = some u := by
    rw [cellsOf_append, cellsOf_append, List.getElem?_append_right (by rw [cellsOf_len]; omega), cellsOf_len, Nat.add_sub_cancel_left, List.getElem?_append_left hj', hj]
  have := h1.cell h2
  rwa [← Nat.add_assoc] at this
attribute [local simp, local go_sem] zeroAud zeroA_size zeroA_ne
set_option maxRecDepth 100000 in
set_option maxHeartbeats 8000000 in
theorem auCheck (v : Value) (l : List Ev) (hl : l.length < 1000000) (hev : ∀ e ∈ l, EvOk e) (w0 w : World) (F : HP) (hs : Sat w0 w F) (hst : StaysE w0 F v l) :
    Calls Try.prog 50 #[v] w (RetV w0 (.int .i64 (chkI l)) F) := by
  have hst' := hid hst
  obtain ⟨a, cap, b, off, rfl, hcap, hbig, ha, hc⟩ := hst w hs
  have Ha := hid ha
  have Hev := hid hev
  clear hc ha hst hev
  unfold maxLen at hbig
  have hs1 := auP_new hs 88
  rw [← zeroA_eq] at hs1
  go_enter Try.func50, Try.ntmps50
  go_wp2_with fail
  refine wp_gen (w0 := w0) ?_
  intro wx hsx
  generalize w.heap.size = pb at *
  clear hs hs1
  go_loopw [8] (fun i wr => ∃ (k : Nat) (A : Au), k ≤ l.length ∧ i = .int .i64 k ∧ AOk A ∧ A.seen = k ∧ Run l k A ∧ Sat w0 wr (auP pb A * (F * any))) (fun i _ => l.length - (intOf i).toNat)
  case atStart => exact ⟨0, au0, by omega, rfl, aok0, rfl, run0 l, own_left⟩
  case round =>
    obtain ⟨k, A, hk, rfl, hA, hse, hrun, hs2⟩ := hrel
    have Hrun := hid hrun
    have Hse := hid hse
    clear hrun hse hsx
    by_cases hlt : k < l.length
    · have hin : l[k] ∈ l := List.getElem_mem hlt
      have hek := Hev.out _ hin
      have hrd := hst'.out wr own_left
      obtain ⟨a2, cap2, g, off2, e, h3, h4, h5, h6⟩ := hrd
      simp only [Value.slice.injEq] at e
      obtain ⟨rfl, _, rfl⟩ := e
      obtain rfl := h5 (by rintro rfl; simp at hlt)
      have hcell : ∀ c, c < 6 → wr.cell? ⟨g, off2 + k * 6 + c, none⟩ = (evCells l[k])[c]? := fun c hc => by
        have h7 := cellsOf_at (E := encEv) (l := l) (k := k) (c := c) hlt hc
        have h8 : l.getD k encEv.dft = l[k] := by simp [List.getD, hlt]
        rw [h8] at h7
        have h9 : c < (evCells l[k]).length := hc
        rw [List.getElem?_eq_getElem h9]
        rw [Nat.add_assoc]
        refine h6 _ _ (h7.trans ?_)
        exact List.getElem?_eq_getElem h9
      have q0 := hcell 0 (by decide)
      have q1 := hcell 1 (by decide)
      have q2 := hcell 2 (by decide)
      have q3 := hcell 3 (by decide)
      have q4 := hcell 4 (by decide)
      have q5 := hcell 5 (by decide)
      clear hcell h6 hin
      have Hl : Hid (∀ e, l[k] = e → l[k] = e) := fun _ h => h
      generalize hle : l[k] = e at *
      have Hle := hid hle
      clear hle Hl
      obtain ⟨ek, ecy, eco, ea, eb, ev⟩ := e
      simp only [evCells, List.getElem?_cons_zero, List.getElem?_cons_succ, Nat.add_zero] at q0 q1 q2 q3 q4 q5
      have hI : (k : Int) < (l.length : Int) := by omega
      go_wp2_with fail
      refine (auNext pb A ⟨ek, ecy, eco, ea, eb, ev⟩ w0 _ (F * any) own_left hA hek ⟨by have := Hse.out; omega, by have := Hse.out; omega⟩).mono ?_
      rintro en w2 ⟨rfl, hy, hn⟩
      clear hs2
      generalize hr : keepsR A ⟨ek, ecy, eco, ea, eb, ev⟩ = r at hy hn ⊢
      have Hr := hid hr
      clear hr
      cases r
      · have hs3 := hn rfl
        clear hn hy
        go_wp2_with fail
        go_ret
        refine ⟨?_, own_left⟩
        have := run_break hlt Hrun.out Hle.out Hr.out
        unfold chkI
        rw [this]
        rfl
      · have hs3 := hy rfl
        clear hn hy
        go_wp2_with fail
        go_roundw
        case rel => exact ⟨k + 1, stepA A ⟨ek, ecy, eco, ea, eb, ev⟩, by omega, by go_num, aok_step hA hek Hr.out, by rw [step_seen, Hse.out]; omega, run_next hlt Hrun.out Hle.out Hr.out, own_left⟩
        case measure => simp [intOf]; omega
    · have hke : k = l.length := by omega
      subst hke
      go_wp2_with fail
      go_ret
      refine ⟨?_, own_left⟩
      unfold chkI
      rw [run_end Hrun.out]
      rfl
end Go.Proofs.Ytfphgcplpokigaa
