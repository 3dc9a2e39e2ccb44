/-
  Mail queues: what a queue has, in memory and in plain Lean; contracts of the package's functions.
-/
import Derived.Test.YtbnfkfbebnkdnaaWaitLawA
import Derived.Test.YtbnfkfbebnkdnaaSemaLawA
import Derived.Test.YtbnfkfbebnkdnaaLawB
import Derived.Test.YtbnfkfbebnkdnaaRegion
import Derived.Deep.DeepCutAuto
import Derived.Deep.CutBlock
import Derived.StillTailTactics
namespace Go.Proofs.Ytbnfkfbebnkdnaa
open Go.RowKit Go.Sx

/-- A queue: the ring's cells, the first one, how many, for how many there is room, who waits, what is held. -/
structure Mq where
  C : List Int
  f : Nat
  n : Nat
  room : Nat
  S : List Int
  R : List Int
  H : List Int
structure MqOk (q : Mq) : Prop where
  c : q.C.length = 64
  h : q.H.length = 64
  f : q.f < 64
  n : q.n ≤ q.room
  lo : 1 ≤ q.room
  hi : q.room ≤ 64
  s : RowOk q.S
  r : RowOk q.R
  full : q.n < q.room → q.S = []
  some : 0 < q.n → q.R = []
def mqP (b : Nat) (q : Mq) : HP := pts b 0 (q.C.map (Value.int .u32)) * (pts b 64 [.int .i64 q.f, .int .i64 q.n, .int .i64 q.room] * (rowP b 67 q.S * (rowP b 68 q.R * pts b 69 (q.H.map (Value.int .u32)))))
def msgs (q : Mq) : List Int := (List.range q.n).map fun i => q.C.getD ((q.f + i) % 64) 0
def Mq.push (q : Mq) (v : Int) : Mq := { q with C := q.C.set ((q.f + q.n) % 64) v, n := q.n + 1 }

theorem rem64 (x : Nat) : Int.tmod (x : Int) 64 = ((x % 64 : Nat) : Int) := by rw [Int.tmod_eq_emod_of_nonneg (by omega)]; omega

/-- What push asks of a queue. -/
structure PushOk (q : Mq) : Prop where
  c : q.C.length = 64
  f : q.f < 64
  n : q.n ≤ q.room
  hi : q.room ≤ 64
theorem MqOk.pushOk {q : Mq} (h : MqOk q) : PushOk q := ⟨h.c, h.f, h.n, h.hi⟩
theorem mailPush (b : Nat) (q : Mq) (v : Int) (w0 w : World) (F : HP) (hs : Sat w0 w (mqP b q * F)) (hok : PushOk q) (hn : q.n < 64) :
    Calls Try.prog 60 #[.pointer (some ⟨b, 0, none⟩), .int .u32 v] w (RetV w0 (.tuple #[]) (mqP b (q.push v) * F)) := by
  have h1 := hok.c; have h2 := hok.f
  have hs1 := hs.perm (by unfold mqP; ac_rfl : _ = pts b 64 [.int .i64 q.f, .int .i64 q.n, .int .i64 q.room] * (pts b 0 (q.C.map (Value.int .u32)) * (rowP b 67 q.S * (rowP b 68 q.R * pts b 69 (q.H.map (Value.int .u32)))) * F))
  have c0 := hs1.c0
  have c1 : w.cell? ⟨b, 65, none⟩ = some (.int .i64 q.n) := hs1.cell (j := 1) rfl
  have hx : (q.f + q.n) % 64 < 64 := Nat.mod_lt _ (by decide)
  have hrem : Int.tmod (IntKind.i64.wrap ((q.f : Int) + (q.n : Int))) 64 = (((q.f + q.n) % 64 : Nat) : Int) := by
    rw [show IntKind.i64.wrap ((q.f : Int) + (q.n : Int)) = ((q.f + q.n : Nat) : Int) by have := hok.n; have := hok.hi; rw [IntKind.wrap_i64]; omega, rem64]
  have hs2 := (hs1.drew).perm (by ac_rfl : _ = pts b 0 (q.C.map (Value.int .u32)) * (pts b 64 [.int .i64 q.f, .int .i64 q.n, .int .i64 q.room] * (rowP b 67 q.S * (rowP b 68 q.R * pts b 69 (q.H.map (Value.int .u32)))) * F))
  have f5 := hs2.frz (j := (q.f + q.n) % 64) (by rw [List.length_map, h1]; omega)
  have c5 := hs2.cell (j := (q.f + q.n) % 64) (v := .int .u32 (q.C.getD ((q.f + q.n) % 64) 0)) (by simp [List.getD, h1, hx])
  have hs3 := hs2.set (j := (q.f + q.n) % 64) (by rw [List.length_map, h1]; omega) (.int .u32 v)
  rw [← List.map_set] at hs3
  have hs4 := hs3.perm (by ac_rfl : _ = pts b 64 [.int .i64 q.f, .int .i64 q.n, .int .i64 q.room] * (pts b 0 ((q.C.set ((q.f + q.n) % 64) v).map (Value.int .u32)) * (rowP b 67 q.S * (rowP b 68 q.R * pts b 69 (q.H.map (Value.int .u32)))) * F))
  have c1' : World.cell? _ ⟨b, 65, none⟩ = some (.int .i64 q.n) := hs4.cell (j := 1) rfl
  have f1' : World.frozen? _ ⟨b, 65, none⟩ = false := hs4.frz (j := 1) (by simp)
  have hs5 : Sat w0 (World.setCell _ ⟨b, 65, none⟩ _) (pts b 64 [.int .i64 q.f, .int .i64 ((q.n : Int) + 1), .int .i64 q.room] * _) := hs4.set (j := 1) (by simp) (.int .i64 ((q.n : Int) + 1))
  rw [Nat.zero_add] at f5 c5
  rw [Nat.zero_add] at c1' f1' hs5
  clear hs3 hs4
  generalize hm : (q.f + q.n) % 64 = m at *
  have hm := hid hm
  have d64 : decide (m < 64) = true := by simp [hx]
  go_enter Try.func60, Try.ntmps60
  go_wp2_with fail
  go_still_tail 14, (by kernel_rfl)
  change wpList _ _ _ _ _ w.drew
  generalize w.drew = wd at *
  go_wp2_with fail
  go_end0
  exact ⟨rfl, hs5.perm (by unfold mqP Mq.push; rw [hm.out]; ac_rfl)⟩
end Go.Proofs.Ytbnfkfbebnkdnaa
