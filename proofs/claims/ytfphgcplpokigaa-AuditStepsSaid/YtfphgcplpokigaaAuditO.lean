/-
  Audit: awake; AuditNil's walk.
-/
import Derived.Test.YtfphgcplpokigaaAuditN
namespace Go.Proofs.Ytfphgcplpokigaa
open Go.RowKit Go.Sx Go.Au
set_option linter.unusedSimpArgs false
set_option linter.unusedVariables false

def aw0 : Ev := ⟨6, 0, 0, 0, 0, 1⟩
def aw1 : Ev := ⟨5, 0, 0, 0, 255, 0⟩
def aw2 : Ev := ⟨12, 0, 0, 0, 3, 0⟩
abbrev awL : List Ev := [aw0, aw1, aw2, aw2]
theorem aw_ok : ∀ e ∈ awL, EvOk e := by
  intro e he
  simp at he
  rcases he with rfl | rfl | rfl <;> exact ⟨by decide, by decide, by decide, by decide, by decide⟩
theorem aw_c0 : chkI awL = 3 := by decide +kernel
theorem aw_c1 : chkI (awL.take 3) = -1 := by decide +kernel
theorem aw_c2 : chkI (awL.drop 1) = 0 := by decide +kernel
theorem aw_k0 : keepsR au0 aw0 = true := by decide +kernel
theorem aw_k1 : keepsR (stepA au0 aw0) aw2 = false := by decide +kernel

theorem aw_rd {w0 : World} {g : Nat} {F G : HP} (pre l post : List Ev) (n cap o : Nat) (ho : o = pre.length * 6) (hn : n = l.length) (hc : n ≤ cap) (hm : cap ≤ maxLen) (hl : pre ++ (l ++ post) = awL) (e : F = pts g 0 (cellsOf awL) * G) : StaysE w0 F (.slice (some ⟨g, o, none⟩) n cap) l := fun w hw => by
  subst e
  rw [← hl] at hw
  haveI := hw
  have := rdR_pts (g := g) (o := 0) (pre := pre) (l := l) (post := post) (w0 := w0) (w := w) n cap hn hc hm
  rw [Nat.zero_add, ← ho] at this
  exact this

attribute [local simp, local go_sem] zeroAud zeroA_size zeroA_ne
set_option maxRecDepth 100000 in
set_option maxHeartbeats 8000000 in
theorem auAwake (w0 w : World) (F : HP) (hs : Sat w0 w F) :
    Calls Try.prog 49 #[] w (RetV w0 (.bool true) F) := by
  have K1 := hid aw_k1
  have hA : Sat w0 (w.alloc (.cells #[.int .i64 6, .int .u64 0, .int .u64 0, .int .u32 0, .int .u32 0, .int .u32 1, .int .i64 5, .int .u64 0, .int .u64 0, .int .u32 0, .int .u32 255, .int .u32 0, .int .i64 12, .int .u64 0, .int .u64 0, .int .u32 0, .int .u32 3, .int .u32 0, .int .i64 12, .int .u64 0, .int .u64 0, .int .u32 0, .int .u32 3, .int .u32 0] 79)) (pts w.heap.size 0 (cellsOf awL) * F) := hs.alloc _ _
  have hB := auP_new hA 88
  rw [← zeroA_eq] at hB
  have hz : (w.alloc (.cells #[.int .i64 6, .int .u64 0, .int .u64 0, .int .u32 0, .int .u32 0, .int .u32 1, .int .i64 5, .int .u64 0, .int .u64 0, .int .u32 0, .int .u32 255, .int .u32 0, .int .i64 12, .int .u64 0, .int .u64 0, .int .u32 0, .int .u32 3, .int .u32 0, .int .i64 12, .int .u64 0, .int .u64 0, .int .u32 0, .int .u32 3, .int .u32 0] 79)).heap.size = w.heap.size + 1 := by simp
  rw [hz] at hB
  clear hz hA
  go_enter Try.func49, Try.ntmps49
  go_wp2_with fail
  generalize w.heap.size = g at *
  refine (auCheck _ awL (by decide) aw_ok w0 _ _ hB (aw_rd [] awL [] 4 4 0 rfl rfl (by decide) (by decide) rfl (by ac_rfl : _ = pts g 0 (cellsOf awL) * (auP (g + 1) au0 * F)))).mono ?_
  rintro e w1 ⟨rfl, hs1⟩
  rw [aw_c0]
  clear hB
  go_wp2_with fail
  refine (auCheck _ (awL.take 3) (by decide) (fun e he => aw_ok e (List.mem_of_mem_take he)) w0 _ _ hs1 (aw_rd [] (awL.take 3) (awL.drop 3) 3 4 0 rfl rfl (by decide) (by decide) rfl (by ac_rfl : _ = pts g 0 (cellsOf awL) * (auP (g + 1) au0 * F)))).mono ?_
  rintro e w2 ⟨rfl, hs2⟩
  rw [aw_c1]
  clear hs1
  go_wp2_with fail
  refine (auCheck _ (awL.drop 1) (by decide) (fun e he => aw_ok e (List.mem_of_mem_drop he)) w0 _ _ hs2 (aw_rd (awL.take 1) (awL.drop 1) [] 3 3 6 rfl rfl (by decide) (by decide) rfl (by ac_rfl : _ = pts g 0 (cellsOf awL) * (auP (g + 1) au0 * F)))).mono ?_
  rintro e w3 ⟨rfl, hs3⟩
  rw [aw_c2]
  clear hs2
  have hs4 : Sat w0 w3 (auP (g + 1) au0 * (pts g 0 [.int .i64 6, .int .u64 0, .int .u64 0, .int .u32 0, .int .u32 0, .int .u32 1, .int .i64 5, .int .u64 0, .int .u64 0, .int .u32 0, .int .u32 255, .int .u32 0, .int .i64 12, .int .u64 0, .int .u64 0, .int .u32 0, .int .u32 3, .int .u32 0, .int .i64 12, .int .u64 0, .int .u64 0, .int .u32 0, .int .u32 3, .int .u32 0] * F)) := hs3
  clear hs3
  go_wp2_with fail
  refine (auNext (g + 1) au0 aw0 w0 _ _ hs4 aok0 (aw_ok _ (by simp)) (by decide)).mono ?_
  rintro e w4 ⟨rfl, hy, _⟩
  have hs5 := hy aw_k0
  rw [aw_k0]
  clear hs4 hy
  go_wp2_with fail
  refine (auNext (g + 1) (stepA au0 aw0) aw2 w0 _ _ hs5 (aok_step aok0 (aw_ok _ (by simp)) aw_k0) (aw_ok _ (by simp)) (by decide)).mono ?_
  rintro e w5 ⟨rfl, _, hn⟩
  have hs6 := hn K1.out
  rw [K1.out]
  clear hs5 hn
  go_wp2_with fail
  refine (auBroken (g + 1) _ true w0 _ _ hs6).mono ?_
  rintro e w6 ⟨rfl, rfl⟩
  go_wp2_with fail
  refine (auSeen (g + 1) _ _ w0 _ _ hs6).mono ?_
  rintro e w7 ⟨rfl, rfl⟩
  go_wp2_with fail
  go_ret
  exact ⟨rfl, own_left⟩
end Go.Proofs.Ytfphgcplpokigaa
