/-
  The contract of Recv.
-/
import Derived.Test.YtbnfkfbebnkdnaaMailC
namespace Go.Proofs.Ytbnfkfbebnkdnaa
open Go.RowKit Go.Sx

def Mq.pop (q : Mq) : Mq := { q with f := (q.f + 1) % 64, n := q.n - 1 }
def Mq.recvV (q : Mq) : Int := if q.n = 0 then 0 else q.C.getD q.f 0
def Mq.recvT (lv : List Int) (q : Mq) : Int := if q.n = 0 ∨ q.S = [] then 255 else bestOf lv q.S
def Mq.recvE (q : Mq) : Int := if q.n = 0 then 8 else 0
def Mq.take (lv : List Int) (q : Mq) : Mq := { q.pop with S := q.S.erase (bestOf lv q.S) }
def Mq.recv (lv : List Int) (q : Mq) : Mq := if q.n = 0 then q else if q.S = [] then q.pop else (q.take lv).push (q.H.getD (bestOf lv q.S).toNat 0)
theorem mqOk_recv {q : Mq} (h : MqOk q) (lv : List Int) : MqOk (q.recv lv) := by
  unfold Mq.recv
  have hn := h.n
  split
  · exact h
  · rename_i h0
    have hR := h.some (by omega)
    split
    · rename_i hS
      exact ⟨h.c, h.h, Nat.mod_lt _ (by decide), by show q.n - 1 ≤ q.room; omega, h.lo, h.hi, h.s, h.r, fun _ => hS, fun _ => hR⟩
    · rename_i hS
      have hfull : ¬ q.n < q.room := fun h' => hS (h.full h')
      exact ⟨by simp [Mq.push, Mq.take, Mq.pop, h.c], h.h, Nat.mod_lt _ (by decide), by show q.n - 1 + 1 ≤ q.room; omega, h.lo, h.hi, rowOk_erase h.s _, h.r, fun h' => absurd h' (by show ¬ q.n - 1 + 1 < q.room; omega), fun _ => hR⟩

set_option linter.unusedSimpArgs false in
set_option maxHeartbeats 2000000 in
theorem mailRecv (b : Nat) (q : Mq) (lv : Value) (levels : List Int) (w0 w : World) (F : HP) (hs : Sat w0 w (mqP b q * F)) (hst : Stays w0 F .i64 lv levels) (hok : MqOk q) :
    Calls Try.prog 44 #[.pointer (some ⟨b, 0, none⟩), lv] w (RetV w0 (.tuple #[.int .u32 q.recvV, .int .i64 (q.recvT levels), .int .i64 q.recvE]) (mqP b (q.recv levels) * F)) := by
  have hC := hok.c
  have hH := hok.h
  have hf := hok.f
  have hn := hok.n
  have hhi := hok.hi
  have hS := hok.s
  have hokR := hid (mqOk_recv hok levels)
  unfold Mq.recvV Mq.recvT Mq.recvE Mq.recv
  obtain ⟨C, f, n, room, S, R, H⟩ := q
  dsimp only at hC hH hf hn hhi hS ⊢
  have hs1 := hs.perm (by unfold mqP; ac_rfl : _ = pts b 64 [.int .i64 f, .int .i64 n, .int .i64 room] * (pts b 0 (C.map (Value.int .u32)) * (rowP b 67 S * (rowP b 68 R * pts b 69 (H.map (Value.int .u32)))) * F))
  have c1 : World.cell? _ ⟨b, 65, none⟩ = some (.int .i64 n) := hs1.cell (j := 1) rfl
  by_cases h : n = 0
  · subst h
    rw [if_pos rfl, if_pos rfl, if_pos (.inl rfl), if_pos rfl]
    have c1 : World.cell? _ ⟨b, 65, none⟩ = some (.int .i64 0) := c1
    go_enter Try.func44, Try.ntmps44
    go_wp2_with fail
    go_ret3
    exact ⟨rfl, hs⟩
  · have d : ((n : Int) == 0) = false := by simp; omega
    have d2 : decide (n = 0) = false := by simp [h]
    have c0 : World.cell? _ ⟨b, 64, none⟩ = some (.int .i64 f) := hs1.cell (j := 0) rfl
    have c5 := (hs.perm (by unfold mqP; ac_rfl : _ = pts b 0 (C.map (Value.int .u32)) * (pts b 64 [.int .i64 f, .int .i64 n, .int .i64 room] * (rowP b 67 S * (rowP b 68 R * pts b 69 (H.map (Value.int .u32)))) * F))).cell (j := f) (v := .int .u32 (C.getD f 0)) (by simp [List.getD, hC, hf])
    rw [Nat.zero_add] at c5
    have hfI : (f : Int) < 64 := by omega
    have hrem : Int.tmod ((f : Int) + 1) 64 = (((f + 1) % 64 : Nat) : Int) := by rw [← rem64]; congr 1
    have hrem2 : Int.tmod (IntKind.i64.wrap ((f : Int) + 1)) 64 = (((f + 1) % 64 : Nat) : Int) := by
      rw [show IntKind.i64.wrap ((f : Int) + 1) = ((f + 1 : Nat) : Int) by rw [IntKind.wrap_i64]; omega, rem64]
    have hpop : (((n - 1 : Nat) : Int)) = (n : Int) - 1 := by omega
    have hpop := hid hpop
    by_cases hS0 : S = []
    · subst hS0
      rw [if_neg h, if_neg h, if_pos (.inr rfl), if_neg h, if_pos rfl]
      generalize C.getD f 0 = x at c5 ⊢
      have hdS : decide (([] : List Int) ≠ []) = false := by simp
      go_enter Try.func44, Try.ntmps44
      go_wp2_with fail
      go_quiet (fail)
      have hs2 := hs1.drewN nq
      clear hs1 hs c0 c1 c5
      generalize w.drewN nq = w1 at *
      have c0 : World.cell? _ ⟨b, 64, none⟩ = some (.int .i64 f) := hs2.cell (j := 0) rfl
      have f0 : World.frozen? _ ⟨b, 64, none⟩ = false := hs2.frz (j := 0) (by simp)
      have hs3 : Sat w0 (World.setCell _ ⟨b, 64, none⟩ _) (pts b 64 [.int .i64 ((f + 1) % 64 : Nat), .int .i64 n, .int .i64 room] * _) := hs2.set (j := 0) (by simp) (.int .i64 ((f + 1) % 64 : Nat))
      have c1 : World.cell? _ ⟨b, 65, none⟩ = some (.int .i64 n) := hs3.cell (j := 1) rfl
      have f1 : World.frozen? _ ⟨b, 65, none⟩ = false := hs3.frz (j := 1) (by simp)
      have hs4 : Sat w0 (World.setCell _ ⟨b, 65, none⟩ _) (pts b 64 [.int .i64 ((f + 1) % 64 : Nat), .int .i64 ((n : Int) - 1), .int .i64 room] * _) := hs3.set (j := 1) (by simp) (.int .i64 ((n : Int) - 1))
      clear hs2 hs3
      have rl := hst.rd (hs4.perm (by ac_rfl : _ = pts b 64 [.int .i64 ((f + 1) % 64 : Nat), .int .i64 ((n : Int) - 1), .int .i64 room] * (pts b 0 (C.map (Value.int .u32)) * (rowP b 67 ([] : List Int) * (rowP b 68 R * pts b 69 (H.map (Value.int .u32))))) * F))
      have hs5 := hs4.perm (by ac_rfl : _ = rowP b 67 ([] : List Int) * (pts b 0 (C.map (Value.int .u32)) * (pts b 64 [.int .i64 ((f + 1) % 64 : Nat), .int .i64 ((n : Int) - 1), .int .i64 room] * (rowP b 68 R * pts b 69 (H.map (Value.int .u32)))) * F))
      clear hs4
      generalize hpf : (f + 1) % 64 = f' at *
      have hpf := hid hpf
      have hf' : Hid (f' < 64) := hid (by have := hpf.out; omega)
      go_wp2_with fail
      refine (rowBest b 67 [] lv levels w0 _ _ hs5 rl hS).mono ?_
      rintro e w' ⟨rfl, k, rfl⟩
      rw [hdS]
      have hs6 := hs5.drewN k
      clear hs5 rl c0 f0 c1 f1 hst
      generalize World.drewN _ k = w2 at *
      go_wp2_with fail
      go_ret3
      exact ⟨rfl, hs6.perm (by unfold mqP Mq.pop; simp only [hpop.out, hpf.out]; ac_rfl)⟩
    · have hor : ¬ (n = 0 ∨ S = []) := by simp [h, hS0]
      rw [if_neg h, if_neg h, if_neg hor, if_neg h, if_neg hS0]
      have hdS : decide (S ≠ []) = true := decide_eq_true hS0
      have hin := hS.2 _ (best_in levels S hS0)
      generalize C.getD f 0 = x at c5 ⊢
      have hR := hok.r
      generalize hbb : bestOf levels S = bb at *
      obtain ⟨y0, y1⟩ := hin
      obtain ⟨m, rfl⟩ := Int.eq_ofNat_of_zero_le y0
      have hbb := hid hbb
      have hm : m < 64 := by omega
      rw [show ((m : Int)).toNat = m from Int.toNat_natCast m]
      generalize hy : H.getD m 0 = y
      have hy := hid hy
      clear hor hok
      go_enter Try.func44, Try.ntmps44
      go_wp2_with fail
      go_quiet (fail)
      have hs2 := hs1.drewN nq
      clear hs1 hs c0 c1 c5
      generalize w.drewN nq = w1 at *
      have c0 : World.cell? _ ⟨b, 64, none⟩ = some (.int .i64 f) := hs2.cell (j := 0) rfl
      have f0 : World.frozen? _ ⟨b, 64, none⟩ = false := hs2.frz (j := 0) (by simp)
      have hs3 : Sat w0 (World.setCell _ ⟨b, 64, none⟩ _) (pts b 64 [.int .i64 ((f + 1) % 64 : Nat), .int .i64 n, .int .i64 room] * _) := hs2.set (j := 0) (by simp) (.int .i64 ((f + 1) % 64 : Nat))
      have c1 : World.cell? _ ⟨b, 65, none⟩ = some (.int .i64 n) := hs3.cell (j := 1) rfl
      have f1 : World.frozen? _ ⟨b, 65, none⟩ = false := hs3.frz (j := 1) (by simp)
      have hs4 : Sat w0 (World.setCell _ ⟨b, 65, none⟩ _) (pts b 64 [.int .i64 ((f + 1) % 64 : Nat), .int .i64 ((n : Int) - 1), .int .i64 room] * _) := hs3.set (j := 1) (by simp) (.int .i64 ((n : Int) - 1))
      clear hs2 hs3
      have rl := hst.rd (hs4.perm (by ac_rfl : _ = pts b 64 [.int .i64 ((f + 1) % 64 : Nat), .int .i64 ((n : Int) - 1), .int .i64 room] * (pts b 0 (C.map (Value.int .u32)) * (rowP b 67 S * (rowP b 68 R * pts b 69 (H.map (Value.int .u32))))) * F))
      have hs5 := hs4.perm (by ac_rfl : _ = rowP b 67 S * (pts b 0 (C.map (Value.int .u32)) * (pts b 64 [.int .i64 ((f + 1) % 64 : Nat), .int .i64 ((n : Int) - 1), .int .i64 room] * (rowP b 68 R * pts b 69 (H.map (Value.int .u32)))) * F))
      clear hs4
      generalize hpf : (f + 1) % 64 = f' at *
      have hpf := hid hpf
      have hf' : Hid (f' < 64) := hid (by have := hpf.out; omega)
      go_wp2_with fail
      refine (rowBest b 67 S lv levels w0 _ _ hs5 rl hS).mono ?_
      rintro e w' ⟨rfl, k, rfl⟩
      rw [hdS, hbb.out]
      have hs6 := hs5.drewN k
      clear hs5 rl c0 f0 c1 f1 hst
      generalize World.drewN _ k = w2 at *
      go_wp2_with fail
      refine (rowRemove b 67 S m w0 _ _ hs6 hS).mono ?_
      rintro e w' ⟨rfl, hs7⟩
      clear hs6
      have hs8 := hs7.perm (by ac_rfl : _ = pts b 69 (H.map (Value.int .u32)) * (pts b 0 (C.map (Value.int .u32)) * (pts b 64 [.int .i64 (f' : Nat), .int .i64 ((n : Int) - 1), .int .i64 room] * (rowP b 67 (S.erase m) * rowP b 68 R)) * F))
      have d64 : decide (m < 64) = true := by simp [hm]
      have c5 := hs8.cell (j := m) (v := .int .u32 y) (by rw [← hy.out]; simp [List.getD, hH, hm])
      have hs9 : Sat w0 w' (mqP b ⟨C, f', n - 1, room, S.erase m, R, H⟩ * F) := hs8.perm (by unfold mqP; simp only [hpop.out]; ac_rfl)
      clear hs7 hs8
      go_wp2_with fail
      refine (mailPush b _ y w0 _ _ hs9 ⟨hC, hf'.out, by show n - 1 ≤ room; omega, hhi⟩ (by show n - 1 < 64; omega)).mono ?_
      rintro e w3 ⟨rfl, hsA⟩
      go_wp2_with fail
      go_ret3
      exact ⟨rfl, hsA.perm (by unfold Mq.take Mq.pop; simp only [hbb.out, hpf.out])⟩
end Go.Proofs.Ytbnfkfbebnkdnaa
