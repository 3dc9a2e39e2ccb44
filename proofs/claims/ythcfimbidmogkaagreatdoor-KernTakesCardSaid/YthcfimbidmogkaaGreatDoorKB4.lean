/-
  Parts of the proof: KernI KernJ KernK KernV KernW KernX.
-/
import Derived.Test.YthcfimbidmogkaaGreatDoorKB3
set_option linter.unusedVariables false
set_option linter.unusedSimpArgs false
set_option maxHeartbeats 32000000
set_option maxRecDepth 100000
namespace Go.Proofs.YthcfimbidmogkaaGreatDoor
open Go.RowKit Go.Sx Go.Dl Go.Lk Go.Rq Go.Au
def zG (x : Int) : Prop:=0 ≤ x ∧ x < 4294967296
structure z7T (c : Cf) : Prop where
 nt : c.ts.length ≤ 64
 nl : c.ls.length ≤ 16
 t : ∀ t,t < c.ts.length → (0 ≤ (tcg c t).lev ∧ (tcg c t).lev < 32) ∧ (1 ≤ (tcg c t).off ∧ (tcg c t).off ≤ 1073741824) ∧ (0 ≤ (tcg c t).per ∧ (tcg c t).per ≤ 1073741824) ∧ (0 ≤ (tcg c t).dl ∧ (tcg c t).dl ≤ 1073741824) ∧ (0 ≤ (tcg c t).mem ∧ (tcg c t).mem ≤ 256) ∧ (tcg c t).code.length ≤ 256
 tc : ∀ t,t < c.ts.length → ∀ i ∈ (tcg c t).code,z1y i (tcg c t).code.length false = 0 ∧ zG i.k
 l : ∀ n,n < c.ls.length → (0 ≤ (lcg c n).mem ∧ (lcg c n).mem ≤ 256) ∧ (lcg c n).code.length ≤ 256
 lc : ∀ n,n < c.ls.length → ∀ i ∈ (lcg c n).code,z1y i (lcg c n).code.length true = 0 ∧ zG i.k
 mu : 0 ≤ c.mutexes ∧ c.mutexes ≤ 32
 ns : c.sems.length ≤ 32
 sems : ∀ x ∈ c.sems,0 ≤ x ∧ x ≤ 255
 nq : c.queues.length ≤ 32
 queues : ∀ x ∈ c.queues,1 ≤ x ∧ x ≤ 64
 nm : c.timers.length ≤ 32
 timers : ∀ x ∈ c.timers,0 ≤ x ∧ x < c.sems.length
 table : 0 ≤ c.table ∧ c.table ≤ 64
 mask : c.mask < 2 ^ c.ls.length
 filter : c.filter < 4294967296
 charge : 0 ≤ c.charge ∧ c.charge ≤ 64
 cyc : 0 ≤ c.cycle ∧ c.cycle < 18446744073709551616
 cnt : 0 ≤ c.count ∧ c.count < 18446744073709551616
structure zI (i : Ins) : Prop where
 op : 1 ≤ i.op ∧ i.op ≤ 38
 a : 0 ≤ i.a ∧ i.a < 8
 b : 0 ≤ i.b ∧ i.b < 8
 c : 0 ≤ i.c ∧ i.c < 8
 d : 0 ≤ i.d ∧ i.d ≤ 2
 k : zG i.k
 form : z2K i = 0
theorem z9v {n : Int} {h : Bool} (e : z83 n h = true) : 0 ≤ n ∧ n < 8:=by
 unfold z83 at e;simp at e;exact e.1
theorem zcV {i : Ins} (h : z2K i = 0) (hk : zG i.k) : zI i:=by
 have h0:=h;unfold z2K at h
 split at h
 ·omega
 ·rename_i h1
  split at h
  ·rename_i h2
   unfold zlk at h1;simp at h1;unfold z8e at h2;simp only [Bool.and_eq_true] at h2;obtain ⟨⟨⟨⟨⟨⟨ha,hb⟩,hc⟩,hd⟩,_⟩,_⟩,_⟩:=h2;exact ⟨h1,z9v ha,z9v hb,z9v hc,of_decide_eq_true hd,hk,h0⟩
  ·omega
theorem z4o {i : Ins} {n : Int} {s : Bool} (h : z1y i n s = 0) (hk : zG i.k) : zI i:=by
 refine zcV ?_ hk;unfold z1y at h
 split at h
 ·rename_i e;exact absurd h e
 ·rename_i e;exact Classical.not_not.1 e
theorem z8h (op : Int) (h : op = 37 ∨ op = 38) : zI ⟨op,0,0,0,0,0⟩:=by
 refine zcV ?_ ⟨by simp,by simp⟩
 rcases h with rfl | rfl <;> decide
theorem z3C {l : List Ins} {n : Int} (h0 : 0 ≤ n) (h : n < l.length) : zM l n ∈ l:=by
 unfold zM;have : n.toNat < l.length:=by omega
 simp [List.getD,this]
theorem z0k {c : Cf} (hc : z7T c) {t : Nat} (ht : t < c.ts.length) {a : Int} (h0 : 0 ≤ a) : zI (z0j (tcg c t).code a 37):=by
 unfold z0j;split
 ·rename_i h
  have:=hc.tc t ht _ (z3C h0 h);exact z4o this.1 this.2
 ·exact z8h 37 (.inl rfl)
theorem z1k {c : Cf} (hc : z7T c) {t : Nat} (ht : t < c.ls.length) {a : Int} (h0 : 0 ≤ a) : zI (z0j (lcg c t).code a 38):=by
 unfold z0j;split
 ·rename_i h
  have:=hc.lc t ht _ (z3C h0 h);exact z4o this.1 this.2
 ·exact z8h 38 (.inr rfl)
structure z8a (c : Cf) (t : Nat) (x : Ts) : Prop where
 lev : 0 ≤ x.lev ∧ x.lev < 32
 late : 0 ≤ x.late ∧ x.late ≤ 255
 job : zG x.job
 rg : ∀ n,zG (x.rg.get n)
 at_ : 0 ≤ x.at_ ∧ x.at_ ≤ 300
 st : 0 ≤ x.st ∧ x.st ≤ 8
 run : x.st = 0 ∨ x.st = 1 → x.at_ ≤ (tcg c t).code.length
 blk : 2 ≤ x.st → x.st ≤ 6 → 1 ≤ x.at_ ∧ x.at_ ≤ (tcg c t).code.length
 on4 : x.st = 4 → 64 ≤ x.on ∧ x.on < 64 + c.sems.length
 on5 : x.st = 5 → 96 ≤ x.on ∧ x.on < 96 + c.queues.length
 on6 : x.st = 6 → 128 ≤ x.on ∧ x.on < 128 + c.queues.length
 on : 0 ≤ x.on ∧ x.on < 160
def z4Z (x : Ts) : Prop:=x.st = 2 ∨ x.st = 4 ∨ x.st = 5 ∨ x.st = 6
def zeH (c : Cf) (T : Nat → Ts) (id : Int) : Prop :=
 0 ≤ id ∧ (id < 64 → id < c.ts.length) ∧ (64 ≤ id → id < 128 → id - 64 < c.ts.length ∧ z4Z (T (id - 64).toNat)) ∧ (128 ≤ id → id - 128 < c.timers.length)
structure MqW (q : Mq) : Prop where
 c : ∀ w ∈ q.C,zG w
 h : ∀ w ∈ q.H,zG w
structure Inv (c : Cf) (K : Kn) : Prop where
 cf : z7T c
 cnt : 0 ≤ K.count ∧ K.count < 18446744073709551616
 cyc : 0 ≤ K.cycle ∧ K.cycle < 18446744073709551616
 rds : 0 ≤ K.reads ∧ K.reads < 18446744073709551616
 S : SOk K.S
 clk : ∀ id,has K.S id → zeH c K.T id
 R : z4x K.R
 rdy : ∀ l t,t ∈ K.R l → t < c.ts.length ∧ (K.T t).st = 1
 L : Good K.L
 Ln : K.L.own.length = c.ts.length
 Lm : (K.L.ow.length : Int) = c.mutexes
 Lw : ∀ t,t < c.ts.length → 0 ≤ z0N K.L t → (K.T t).st = 3
 T : ∀ t,t < c.ts.length → z8a c t (K.T t)
 tm : ∀ t,t < c.ts.length → (K.tm t).length = (tcg c t).mem.toNat ∧ ∀ w ∈ K.tm t,zG w
 mems : ∀ n,n < c.ls.length → (K.mems n).length = (lcg c n).mem.toNat ∧ ∀ w ∈ K.mems n,zG w
 sm : ∀ s,s < c.sems.length → z1L (K.sm s).1 (K.sm s).2
 smr : ∀ s,s < c.sems.length → ∀ t ∈ (K.sm s).2,t < c.ts.length ∧ (K.T t.toNat).st = 4 ∧ (K.T t.toNat).on = 64 + s
 ml : ∀ q,q < c.queues.length → z3Z (K.ml q) ∧ MqW (K.ml q)
 mls : ∀ q,q < c.queues.length → ∀ t ∈ (K.ml q).S,t < c.ts.length ∧ (K.T t.toNat).st = 5 ∧ (K.T t.toNat).on = 96 + q
 mlr : ∀ q,q < c.queues.length → ∀ t ∈ (K.ml q).R,t < c.ts.length ∧ (K.T t.toNat).st = 6 ∧ (K.T t.toNat).on = 128 + q
 irg : ∀ n,zG (K.irg.get n)
 iat : 0 ≤ K.iat ∧ K.iat ≤ 300
 act : K.ln.active = 255 ∨ (0 ≤ K.ln.active ∧ K.ln.active < c.ls.length ∧ K.iat ≤ (lcg c K.ln.active.toNat).code.length)
 all : K.ln.all = 2 ^ c.ls.length - 1
 pnd : K.ln.pending < 2 ^ c.ls.length
 msk : K.ln.mask < 2 ^ c.ls.length
 run : K.run = 255 ∨ (0 ≤ K.run ∧ K.run < c.ts.length)
theorem R8.set_rng {r : R8} (h : ∀ n,zG (r.get n)) {v : Int} (hv : zG v) (m : Nat) : ∀ n,zG ((r.set m v).get n):=by
 have h0:=h 0;have h1:=h 1;have h2:=h 2;have h3:=h 3;have h4:=h 4;have h5:=h 5;have h6:=h 6;have h7:=h 7;have key : ∀ a0 a1 a2 a3 a4 a5 a6 a7 : Int,zG a0 → zG a1 → zG a2 → zG a3 → zG a4 → zG a5 → zG a6 → zG a7 → ∀ n,zG (R8.get ⟨a0,a1,a2,a3,a4,a5,a6,a7⟩ n):=by
  intro a0 a1 a2 a3 a4 a5 a6 a7 g0 g1 g2 g3 g4 g5 g6 g7 n
  match n with
  | 0=>exact g0
  | 1=>exact g1
  | 2=>exact g2
  | 3=>exact g3
  | 4=>exact g4
  | 5=>exact g5
  | 6=>exact g6
  | n + 7=>exact g7
 match m with
 | 0=>exact key _ _ _ _ _ _ _ _ hv h1 h2 h3 h4 h5 h6 h7
 | 1=>exact key _ _ _ _ _ _ _ _ h0 hv h2 h3 h4 h5 h6 h7
 | 2=>exact key _ _ _ _ _ _ _ _ h0 h1 hv h3 h4 h5 h6 h7
 | 3=>exact key _ _ _ _ _ _ _ _ h0 h1 h2 hv h4 h5 h6 h7
 | 4=>exact key _ _ _ _ _ _ _ _ h0 h1 h2 h3 hv h5 h6 h7
 | 5=>exact key _ _ _ _ _ _ _ _ h0 h1 h2 h3 h4 hv h6 h7
 | 6=>exact key _ _ _ _ _ _ _ _ h0 h1 h2 h3 h4 h5 hv h7
 | m + 7=>exact key _ _ _ _ _ _ _ _ h0 h1 h2 h3 h4 h5 h6 hv
section
variable {c : Cf} {K : Kn}
@[simp] theorem zlv (kd : Nat) (a b v : Int) : (K.tell c kd a b v).count = K.count:=by unfold Kn.tell;split <;> rfl
@[simp] theorem z3V (kd : Nat) (a b v : Int) : (K.tell c kd a b v).S = K.S:=by unfold Kn.tell;split <;> rfl
@[simp] theorem zgF (kd : Nat) (a b v : Int) : (K.tell c kd a b v).R = K.R:=by unfold Kn.tell;split <;> rfl
@[simp] theorem ziI (kd : Nat) (a b v : Int) : (K.tell c kd a b v).run = K.run:=by unfold Kn.tell;split <;> rfl
@[simp] theorem ziG (kd : Nat) (a b v : Int) : (K.tell c kd a b v).iat = K.iat:=by unfold Kn.tell;split <;> rfl
@[simp] theorem ziH (kd : Nat) (a b v : Int) : (K.tell c kd a b v).irg = K.irg:=by unfold Kn.tell;split <;> rfl
@[simp] theorem zgG (kd : Nat) (a b v : Int) : (K.tell c kd a b v).mems = K.mems:=by unfold Kn.tell;split <;> rfl
@[simp] theorem z01 (kd : Nat) (a b v : Int) : (K.tell c kd a b v).T = K.T:=by unfold Kn.tell;split <;> rfl
@[simp] theorem zle (kd : Nat) (a b v : Int) : (K.tell c kd a b v).tm = K.tm:=by unfold Kn.tell;split <;> rfl
@[simp] theorem zbe (kd : Nat) (a b v : Int) : (K.tell c kd a b v).L = K.L:=by unfold Kn.tell;split <;> rfl
@[simp] theorem z5M (kd : Nat) (a b v : Int) : (K.tell c kd a b v).sm = K.sm:=by unfold Kn.tell;split <;> rfl
@[simp] theorem z5L (kd : Nat) (a b v : Int) : (K.tell c kd a b v).ml = K.ml:=by unfold Kn.tell;split <;> rfl
@[simp] theorem zld (kd : Nat) (a b v : Int) : (K.tell c kd a b v).ln = K.ln:=by unfold Kn.tell;split <;> rfl
@[simp] theorem zer (kd : Nat) (a b v : Int) : (K.tell c kd a b v).reads = K.reads:=by unfold Kn.tell;split <;> rfl
@[simp] theorem zc (kd : Nat) (a b v : Int) : (K.tell c kd a b v).stopped = K.stopped:=by unfold Kn.tell;split <;> rfl
structure zlw (K K' : Kn) : Prop where
 count : K'.count = K.count
 S : K'.S = K.S
 R : K'.R = K.R
 run : K'.run = K.run
 iat : K'.iat = K.iat
 irg : K'.irg = K.irg
 mems : K'.mems = K.mems
 T : K'.T = K.T
 tm : K'.tm = K.tm
 L : K'.L = K.L
 sm : K'.sm = K.sm
 ml : K'.ml = K.ml
 ln : K'.ln = K.ln
 reads : K'.reads = K.reads
theorem zeq (kd : Nat) (a b v : Int) : zlw K (K.tell c kd a b v):=by constructor <;> simp
theorem z6Z {K' : Kn} (h : Inv c K) (e : zlw K K') (hy : 0 ≤ K'.cycle ∧ K'.cycle < 18446744073709551616) : Inv c K':=by
 obtain ⟨e1,e2,e3,e4,e5,e6,e7,e8,e9,e10,e11,e12,e13,e14⟩:=e;obtain ⟨a0,a1,_,a3,a4,a5,a6,a7,a8,a9,a10,a11,a12,a13,a14,a15,a16,a17,a18,a19,a20,a21,a22,a23,a24,a25,a26⟩:=h;refine ⟨a0,?_,hy,?_,?_,?_,?_,?_,?_,?_,?_,?_,?_,?_,?_,?_,?_,?_,?_,?_,?_,?_,?_,?_,?_,?_,?_⟩
 all_goals simp only [e1,e2,e3,e4,e5,e6,e7,e8,e9,e10,e11,e12,e13,e14];assumption
theorem zl (h : Inv c K) (kd : Nat) (a b v : Int) : Inv c (K.tell c kd a b v):=by
 refine z6Z h (zeq kd a b v) ?_;unfold Kn.tell;split
 ·exact ⟨Int.emod_nonneg _ (by decide),Int.emod_lt_of_pos _ (by decide)⟩
 ·exact h.cyc
theorem zU (h : Inv c K) (n : Int) : Inv c (K.cost n) :=
 { h with cyc:=⟨Int.emod_nonneg _ (by decide),Int.emod_lt_of_pos _ (by decide)⟩ }
theorem z2U (t : Nat) (x : Ts) (u : Nat) : (K.setT t x).T u = if u = t then x else K.T u:=rfl
theorem z6p (h : Inv c K) {t : Nat} {x : Ts} (ht : t < c.ts.length) (hx : z8a c t x)
  (h1 : has K.S (64 + t) → z4Z x) (h2 : ∀ l,t ∈ K.R l → x.st = 1) (h3 : 0 ≤ z0N K.L t → x.st = 3)
  (h4 : ∀ s,s < c.sems.length → (t : Int) ∈ (K.sm s).2 → x.st = 4 ∧ x.on = 64 + s)
  (h5 : ∀ q,q < c.queues.length → (t : Int) ∈ (K.ml q).S → x.st = 5 ∧ x.on = 96 + q)
  (h6 : ∀ q,q < c.queues.length → (t : Int) ∈ (K.ml q).R → x.st = 6 ∧ x.on = 128 + q) : Inv c (K.setT t x):=by
 have row : ∀ {l : List Int} (_ : z2F l) (u : Int) (_ : u ∈ l),0 ≤ u:=fun h u hu=>(h.2 u hu).1;refine { h with clk:=?_,rdy:=?_,Lw:=?_,T:=?_,smr:=?_,mls:=?_,mlr:=?_ }
 ·intro id hid;obtain ⟨c1,c2,c3,c4⟩:=h.clk id hid;refine ⟨c1,c2,fun a b=>⟨(c3 a b).1,?_⟩,c4⟩;rw [z2U]
  split
  ·rename_i e
   exact h1 (by rw [show (64 : Int) + t = id by omega];exact hid)
  ·exact (c3 a b).2
 ·intro l u hu;refine ⟨(h.rdy l u hu).1,?_⟩;rw [z2U];split
  ·rename_i e;subst e;exact h2 l hu
  ·exact (h.rdy l u hu).2
 ·intro u hu ho;rw [z2U];split
  ·rename_i e;subst e;exact h3 ho
  ·exact h.Lw u hu ho
 ·intro u hu;rw [z2U];split
  ·rename_i e;subst e;exact hx
  ·exact h.T u hu
 ·intro s hs u hu;refine ⟨(h.smr s hs u hu).1,?_⟩;rw [z2U];split
  ·rename_i e
   have h0:=row (h.sm s hs).row u hu;exact h4 s hs (by rw [show (t : Int) = u by omega];exact hu)
  ·exact (h.smr s hs u hu).2
 ·intro q hq u hu;refine ⟨(h.mls q hq u hu).1,?_⟩;rw [z2U];split
  ·rename_i e
   have h0:=row (h.ml q hq).1.s u hu;exact h5 q hq (by rw [show (t : Int) = u by omega];exact hu)
  ·exact (h.mls q hq u hu).2
 ·intro q hq u hu;refine ⟨(h.mlr q hq u hu).1,?_⟩;rw [z2U];split
  ·rename_i e
   have h0:=row (h.ml q hq).1.r u hu;exact h6 q hq (by rw [show (t : Int) = u by omega];exact hu)
  ·exact (h.mlr q hq u hu).2
theorem z0t (h : Inv c K) {t : Nat} {x : Ts} (ht : t < c.ts.length) (hx : z8a c t x) (hs : x.st = (K.T t).st) (ho : x.on = (K.T t).on) : Inv c (K.setT t x):=by
 refine z6p h ht hx (fun e=>?_) (fun l e=>?_) (fun e=>?_) (fun s hs' e=>?_) (fun q hq e=>?_) (fun q hq e=>?_)
 ·have:=((h.clk _ e).2.2.1 (by omega) (by have:=h.cf.nt;omega)).2;unfold z4Z at this ⊢;rw [show ((64 : Int) + t - 64).toNat = t by omega] at this;rw [hs];exact this
 ·rw [hs];exact (h.rdy l t e).2
 ·rw [hs];exact h.Lw t ht e
 ·have:=(h.smr s hs' _ e).2;rw [hs,ho];simpa using this
 ·have:=(h.mls q hq _ e).2;rw [hs,ho];simpa using this
 ·have:=(h.mlr q hq _ e).2;rw [hs,ho];simpa using this
end
section
variable {c : Cf} {K : Kn}
theorem zhk (h : Inv c K) {S : List Ck} (hS : SOk S) (hc : ∀ id,has S id → zeH c K.T id) : Inv c { K with S:=S }:={ h with S:=hS,clk:=hc }
theorem z5n (h : Inv c K) (id : Int) : Inv c { K with S:=z33 id K.S }:=zhk h (zcm h.S id) fun x hx=>h.clk x (z8T.1 hx).2
theorem zc8 {S : List Ck} {id t x : Int} (hx : has (z5B S id t) x) : x = id ∨ has S x:=by
 unfold z5B at hx;split at hx
 ·exact zbz.1 hx
 ·exact .inr hx
theorem z4p (h : Inv c K) {id t : Int} (hc : zeH c K.T id) : Inv c { K with S:=z5B K.S id t } :=
 zhk h (z9G h.S id t) fun x hx=>by
  rcases zc8 hx with rfl | hx
  ·exact hc
  ·exact h.clk x hx
theorem zhj (h : Inv c K) {R : Nat → List Nat} (hR : z4x R) (hr : ∀ l t,t ∈ R l → t < c.ts.length ∧ (K.T t).st = 1) : Inv c { K with R:=R }:={ h with R:=hR,rdy:=hr }
theorem zcY (h : Inv c K) {t : Nat} (ht : t < c.ts.length) (hs : (K.T t).st = 1) (l : Nat) : Inv c { K with R:=z9N K.R t l } :=
 zhj h (h.R.put t l) fun k x hx=>by
  rcases zie hx with rfl | hx
  ·exact ⟨ht,hs⟩
  ·exact h.rdy k x hx
theorem zhp (h : Inv c K) (t : Nat) : Inv c { K with R:=z5F K.R t }:=zhj h (h.R.rem t) fun k x hx=>h.rdy k x (zdm h.R hx).2
theorem zfd (h : Inv c K) (t : Nat) : Inv c { K with R:=z6e K.R t }:=zhj h (h.R.turn t) fun k x hx=>by
 obtain ⟨k,hx⟩:=zgL hx;exact h.rdy k x hx
theorem zf9 (h : Inv c K) (t l : Nat) : Inv c { K with R:=z6b K.R t l }:=zhj h (h.R.move t l) fun k x hx=>by
 obtain ⟨k,hx⟩:=zfT hx;exact h.rdy k x hx
theorem zcZ (h : Inv c K) {s : Nat} {u : Int} {l : List Int} (hs : s < c.sems.length) (hok : z1L u l) (hl : ∀ t ∈ l,t < c.ts.length ∧ (K.T t.toNat).st = 4 ∧ (K.T t.toNat).on = 64 + s) : Inv c { K with sm:=upd K.sm s (u,l) }:=by
 refine { h with sm:=?_,smr:=?_ }
 ·intro r hr;show z1L (upd K.sm s (u,l) r).1 (upd K.sm s (u,l) r).2;unfold upd;split
  ·exact hok
  ·exact h.sm r hr
 ·intro r hr t ht;replace ht : t ∈ (upd K.sm s (u,l) r).2:=ht;unfold upd at ht;split at ht
  ·rename_i e;subst e;exact hl t ht
  ·exact h.smr r hr t ht
theorem z5R (h : Inv c K) {q : Nat} {Q : Mq} (hs : q < c.queues.length) (hok : z3Z Q) (hw : MqW Q) (h1 : ∀ t ∈ Q.S,t < c.ts.length ∧ (K.T t.toNat).st = 5 ∧ (K.T t.toNat).on = 96 + q) (h2 : ∀ t ∈ Q.R,t < c.ts.length ∧ (K.T t.toNat).st = 6 ∧ (K.T t.toNat).on = 128 + q) : Inv c { K with ml:=upd K.ml q Q }:=by
 refine { h with ml:=?_,mls:=?_,mlr:=?_ }
 ·intro r hr;show z3Z (upd K.ml q Q r) ∧ MqW (upd K.ml q Q r);unfold upd;split
  ·exact ⟨hok,hw⟩
  ·exact h.ml r hr
 ·intro r hr t ht;replace ht : t ∈ (upd K.ml q Q r).S:=ht;unfold upd at ht;split at ht
  ·rename_i e;subst e;exact h1 t ht
  ·exact h.mls r hr t ht
 ·intro r hr t ht;replace ht : t ∈ (upd K.ml q Q r).R:=ht;unfold upd at ht;split at ht
  ·rename_i e;subst e;exact h2 t ht
  ·exact h.mlr r hr t ht
theorem zah (h : Inv c K) {L : Lk} (hg : Good L) (h1 : L.own.length = K.L.own.length) (h2 : L.ow.length = K.L.ow.length) (hw : ∀ t,t < c.ts.length → 0 ≤ z0N L t → (K.T t).st = 3) : Inv c { K with L:=L } :=
 { h with L:=hg,Ln:=h1.trans h.Ln,Lm:=by show (L.ow.length : Int) = _;rw [h2];exact h.Lm,Lw:=hw }
theorem z3b (h : Inv c K) : Inv c K.take:=z6Z h (by constructor <;> rfl) h.cyc
theorem z6H (h : Inv c K) {t : Nat} (ht : t < c.ts.length) (h1 : 1 ≤ (K.T t).at_) (h2 : (K.T t).at_ ≤ (tcg c t).code.length) : zI (K.call c t):=by
 have:=h.cf.tc t ht _ (z3C (l:=(tcg c t).code) (n:=(K.T t).at_ - 1) (by omega) (by omega));exact z4o this.1 this.2
structure Off (c : Cf) (K : Kn) (t : Nat) : Prop where
 lt : t < c.ts.length
 st : 2 ≤ (K.T t).st ∧ (K.T t).st ≤ 6
 sm : ∀ s,s < c.sems.length → (t : Int) ∉ (K.sm s).2
 mls : ∀ q,q < c.queues.length → (t : Int) ∉ (K.ml q).S
 mlr : ∀ q,q < c.queues.length → (t : Int) ∉ (K.ml q).R
 lk : ¬ 0 ≤ z0N K.L t
theorem zmR (t : Nat) (why a : Int) : (K.wake c t why a).T = upd K.T t { K.T t with rg:=(K.T t).rg.set (K.call c t).a.toNat a,st:=1,on:=0 }:=by
 unfold Kn.wake;simp [Kn.setT]
theorem z2z (h : Inv c K) {t : Nat} (o : Off c K t) (why : Int) {a : Int} (ha : zG a) : Inv c (K.wake c t why a):=by
 have hT:=h.T t o.lt;have hb:=hT.blk o.st.1 o.st.2;have hi:=z6H h o.lt hb.1 hb.2;have h1:=z5n h (64 + t);have h2 : Inv c ({ K with S:=z33 (64 + t) K.S }.setT t { K.T t with rg:=(K.T t).rg.set (K.call c t).a.toNat a,st:=1,on:=0 }):=by
  refine z6p h1 o.lt ?_ (fun e=>absurd rfl (z8T.1 e).1) (fun _ _=>rfl) (fun e=>absurd e o.lk) (fun s hs e=>absurd e (o.sm s hs)) (fun s hs e=>absurd e (o.mls s hs)) (fun s hs e=>absurd e (o.mlr s hs));exact ⟨hT.lev,hT.late,hT.job,R8.set_rng hT.rg ha _,hT.at_,by simp,fun _=>hb.2,by simp,by simp,by simp,by simp,by simp⟩
 have h3:=zl h2 10 t why 0;have h4:=zcY h3 o.lt (by simp [z2U]) (K.T t).lev.toNat;exact h4
theorem z5U (h : Inv c K) {t : Nat} (ht : t < c.ts.length) (hs : 2 ≤ (K.T t).st ∧ (K.T t).st ≤ 6)
  (h4 : (K.T t).st = 4 → ∀ s : Nat,(K.T t).on = 64 + s → (t : Int) ∉ (K.sm s).2)
  (h5 : (K.T t).st = 5 → ∀ s : Nat,(K.T t).on = 96 + s → (t : Int) ∉ (K.ml s).S)
  (h6 : (K.T t).st = 6 → ∀ s : Nat,(K.T t).on = 128 + s → (t : Int) ∉ (K.ml s).R)
  (h3 : (K.T t).st = 3 → ¬ 0 ≤ z0N K.L t) : Off c K t:=by
 refine ⟨ht,hs,fun s hs e=>?_,fun s hs e=>?_,fun s hs e=>?_,fun e=>?_⟩
 ·have:=(h.smr s hs _ e).2;exact h4 (by simpa using this.1) s (by simpa using this.2) e
 ·have:=(h.mls s hs _ e).2;exact h5 (by simpa using this.1) s (by simpa using this.2) e
 ·have:=(h.mlr s hs _ e).2;exact h6 (by simpa using this.1) s (by simpa using this.2) e
 ·exact h3 (h.Lw t ht e) e
theorem z2R {l : List Int} (h : z2F l) (t : Int) : t ∉ l.erase t:=List.Nodup.not_mem_erase h.1
theorem z8X (h : Inv c K) (who : Int) {s : Nat} (hs : s < c.sems.length) : Inv c (K.post c who s):=by
 have ho:=h.sm s hs;unfold Kn.post;dsimp only
 split
 ·exact h
 ·have hok:=z5G ho K.L.now;have hsub : ∀ t ∈ z2I K.L.now (K.sm s).2,t ∈ (K.sm s).2:=by
   intro t ht;unfold z2I at ht;split at ht
   ·exact List.mem_of_mem_erase ht
   ·exact ht
  have h1:=zcZ h hs hok fun t ht=>h.smr s hs t (hsub t ht);have h2:=zl h1 14 who s (z1Z (K.sm s).1 (K.sm s).2)
  split
  ·rename_i hne
   have hm:=z1n K.L.now _ hne;obtain ⟨g1,g2,g3⟩:=h.smr s hs _ hm;have g0:=(ho.row.2 _ hm).1;have e0 : (((zD K.L.now (K.sm s).2).toNat : Nat) : Int) = zD K.L.now (K.sm s).2:=by omega
   refine z2z h2 (z5U h2 (by omega) ?_ ?_ ?_ ?_ ?_) 1 ⟨by simp,by simp⟩
   ·simp;omega
   ·intro _ r hr;simp only [z01,z5M] at hr ⊢;rw [g3] at hr;have : r = s:=by omega
    subst this;rw [zK,e0];unfold z2I;rw [if_pos hne];exact z2R ho.row _
   ·simp;omega
   ·simp;omega
   ·simp;omega
  ·exact h2
theorem zbB (h : Inv c K) {t : Nat} (ht : t < c.ts.length) (hs : (K.T t).st = 1 ∨ z4Z (K.T t)) : Inv c (K.timeout c t):=by
 have hT:=h.T t ht;unfold z4Z at hs;have hb : (K.T t).st ≠ 1 → 2 ≤ (K.T t).st ∧ (K.T t).st ≤ 6:=by omega
 unfold Kn.timeout;dsimp only
 split
 ·exact h
 rename_i n1
 split
 ·rename_i e;exact z2z h (z5U h ht (by omega) (by omega) (by omega) (by omega) (by omega)) 0 ⟨by simp,by simp⟩
 rename_i n2
 split
 ·rename_i e
  have ho:=hT.on4 e;have hn : ((((K.T t).on - 64).toNat : Nat) : Int) = (K.T t).on - 64:=by omega
  have hlt : ((K.T t).on - 64).toNat < c.sems.length:=by omega
  have h1:=zcZ h (s:=((K.T t).on - 64).toNat) hlt (zb3 (h.sm _ hlt) t) fun x hx=>h.smr _ hlt x (List.mem_of_mem_erase hx);refine z2z h1 (z5U h1 ht (hb n1) (fun _ r hr=>?_) (by show (K.T t).st = 5 → _;omega) (by show (K.T t).st = 6 → _;omega) (by show (K.T t).st = 3 → _;omega)) 0 ⟨by simp,by simp⟩;have hr : (K.T t).on = 64 + r:=hr;have : r = ((K.T t).on - 64).toNat:=by omega
  subst this;show _ ∉ (upd K.sm _ _ _).2;rw [zK];exact z2R (h.sm _ hlt).row _
 rename_i n4
 have cS : ∀ (Q : Mq) x,x ∈ (Q.cancel t).S → x ∈ Q.S:=by
  intro Q x hx;unfold Mq.cancel at hx;split at hx
  ·exact List.mem_of_mem_erase hx
  ·exact hx
 have cR : ∀ (Q : Mq) x,x ∈ (Q.cancel t).R → x ∈ Q.R:=by
  intro Q x hx;unfold Mq.cancel at hx;split at hx
  ·exact hx
  ·exact List.mem_of_mem_erase hx
 have cW : ∀ (Q : Mq),MqW Q → MqW (Q.cancel t):=by
  intro Q hQ;unfold Mq.cancel;split <;> exact ⟨hQ.c,hQ.h⟩
 split
 ·rename_i e
  have ho:=hT.on5 e;have hlt : ((K.T t).on - 96).toNat < c.queues.length:=by omega
  have hq:=h.ml _ hlt;have h1:=z5R h (q:=((K.T t).on - 96).toNat) hlt (z7l hq.1 t) (cW _ hq.2) (fun x hx=>h.mls _ hlt x (cS _ _ hx)) (fun x hx=>h.mlr _ hlt x (cR _ _ hx));refine z2z h1 (z5U h1 ht (hb n1) (by show (K.T t).st = 4 → _;omega) (fun _ r hr=>?_) (by show (K.T t).st = 6 → _;omega) (by show (K.T t).st = 3 → _;omega)) 0 ⟨by simp,by simp⟩;have hr : (K.T t).on = 96 + r:=hr;have : r = ((K.T t).on - 96).toNat:=by omega
  subst this;show _ ∉ (upd K.ml _ _ _).S;rw [zK];unfold Mq.cancel;split
  ·exact z2R hq.1.s _
  ·rename_i hx;exact hx
 rename_i n5
 split
 ·rename_i e
  have ho:=hT.on6 e;have hlt : ((K.T t).on - 128).toNat < c.queues.length:=by omega
  have hq:=h.ml _ hlt;have h1:=z5R h (q:=((K.T t).on - 128).toNat) hlt (z7l hq.1 t) (cW _ hq.2) (fun x hx=>h.mls _ hlt x (cS _ _ hx)) (fun x hx=>h.mlr _ hlt x (cR _ _ hx));refine z2z h1 (z5U h1 ht (hb n1) (by show (K.T t).st = 4 → _;omega) (by show (K.T t).st = 5 → _;omega) (fun _ r hr=>?_) (by show (K.T t).st = 3 → _;omega)) 0 ⟨by simp,by simp⟩;have hr : (K.T t).on = 128 + r:=hr;have : r = ((K.T t).on - 128).toNat:=by omega
  subst this;show _ ∉ (upd K.ml _ _ _).R;rw [zK];unfold Mq.cancel;split
  ·rename_i hx
   intro hy;have a:=(h.mls _ hlt _ hx).2.1;have b:=(h.mlr _ hlt _ hy).2.1;omega
  ·exact z2R hq.1.r _
 ·omega
theorem zbA (h : Inv c K) {t : Nat} (ht : t < c.ts.length) : Inv c (K.release c t):=by
 have hT:=h.T t ht;have hc:=h.cf.t t ht;have clk : ∀ T,zeH c T t:=fun T=>⟨by omega,fun _=>by omega,fun a=>by have:=h.cf.nt;omega,fun a=>by have:=h.cf.nt;omega⟩;unfold Kn.release;dsimp only;have key : Inv c (if (K.T t).st = 0 then
   { (K.setT t { K.T t with job:=((K.T t).job + 1) % 4294967296,st:=1 }).tell c 6 t 0 (((K.T t).job + 1) % 4294967296) with R:=z9N ((K.setT t { K.T t with job:=((K.T t).job + 1) % 4294967296,st:=1 }).tell c 6 t 0 (((K.T t).job + 1) % 4294967296)).R t (K.T t).lev.toNat }
  else (K.setT t { K.T t with late:=min ((K.T t).late + 1) 255 }).tell c 7 t 0 (min ((K.T t).late + 1) 255)):=by
  split
  ·rename_i e
   have h1 : Inv c (K.setT t { K.T t with job:=((K.T t).job + 1) % 4294967296,st:=1 }):=by
    refine z6p h ht ⟨hT.lev,hT.late,⟨Int.emod_nonneg _ (by decide),Int.emod_lt_of_pos _ (by decide)⟩,hT.rg,hT.at_,by simp,fun _=>hT.run (.inl e),by simp,by simp,by simp,by simp,hT.on⟩ (fun a=>?_) (fun _ _=>rfl) (fun a=>?_) (fun s hs a=>?_) (fun s hs a=>?_) (fun s hs a=>?_)
    ·have:=((h.clk _ a).2.2.1 (by omega) (by have:=h.cf.nt;omega)).2;unfold z4Z at this;rw [show ((64 : Int) + t - 64).toNat = t by omega] at this;omega
    ·have:=h.Lw t ht a;omega
    ·have:=(h.smr s hs _ a).2.1;simp at this;omega
    ·have:=(h.mls s hs _ a).2.1;simp at this;omega
    ·have:=(h.mlr s hs _ a).2.1;simp at this;omega
   exact zcY (zl h1 6 t 0 _) ht (by simp [z2U]) _
  ·have hx : z8a c t { K.T t with late:=min ((K.T t).late + 1) 255 }:=⟨hT.lev,by have:=hT.late;show 0 ≤ min _ _ ∧ min _ _ ≤ _;omega,hT.job,hT.rg,hT.at_,hT.st,hT.run,hT.blk,hT.on4,hT.on5,hT.on6,hT.on⟩;exact zl (z0t h ht hx rfl rfl) _ _ _ _
 split
 ·exact z4p key (clk _)
 ·exact key
def z3P (c : Cf) (K : Kn) (id : Int) : Prop :=
 0 ≤ id ∧ (id < 64 → id < c.ts.length) ∧ (64 ≤ id → id < 128 → id - 64 < c.ts.length ∧ ((K.T (id - 64).toNat).st = 1 ∨ z4Z (K.T (id - 64).toNat))) ∧ (128 ≤ id → id - 128 < c.timers.length)
def z6f (K K' : Kn) : Prop:=∀ u,(K'.T u).st = (K.T u).st ∨ (K'.T u).st = 1
theorem z6f.refl (K : Kn) : z6f K K:=fun _=>.inl rfl
theorem z6f.trans {A B C : Kn} (h : z6f A B) (k : z6f B C) : z6f A C:=fun u=>by
 rcases k u with e | e
 ·rcases h u with f | f
  ·exact .inl (e.trans f)
  ·exact .inr (e.trans f)
 ·exact .inr e
theorem z7r {K' : Kn} (m : z6f K K') {id : Int} (h : z3P c K id) : z3P c K' id:=by
 obtain ⟨a,b,d,e⟩:=h;refine ⟨a,b,fun p q=>⟨(d p q).1,?_⟩,e⟩;have:=(d p q).2;unfold z4Z at this ⊢
 rcases m (id - 64).toNat with f | f
 ·rw [f];exact this
 ·exact .inl f
theorem z5v {K' : Kn} (h : K'.T = K.T) : z6f K K':=fun u=>.inl (by rw [h])
theorem z2P (t : Nat) (why a : Int) : z6f K (K.wake c t why a):=fun u=>by
 rw [zmR];unfold upd;split
 ·exact .inr rfl
 ·exact .inl rfl
theorem zaE (who : Int) (s : Nat) : z6f K (K.post c who s):=by
 unfold Kn.post;dsimp only;split
 ·exact .refl K
 ·split
  ·exact z6f.trans (z5v (by simp)) (z2P _ _ _)
  ·exact z5v (by simp)
theorem zaG (t : Nat) : z6f K (K.timeout c t):=by
 unfold Kn.timeout;dsimp only
 split
 ·exact .refl K
 split
 ·exact z2P _ _ _
 split
 ·exact z6f.trans (z5v rfl) (z2P _ _ _)
 split
 ·exact z6f.trans (z5v rfl) (z2P _ _ _)
 split
 ·exact z6f.trans (z5v rfl) (z2P _ _ _)
 ·exact z2P _ _ _
theorem zaF (t : Nat) : z6f K (K.release c t):=by
 intro u;unfold Kn.release;dsimp only
 by_cases h1 : (K.T t).st = 0 <;> by_cases h2 : 0 < (tcg c t).per <;> simp only [h1,h2,if_true,if_false,z01,z2U]
 all_goals
  by_cases e : u = t
  ·simp [e,h1]
  ·simp [e]
theorem z7k (kd : Nat) (a b v : Int) : z6f K (K.tell c kd a b v):=z5v (by simp)
theorem zcX (h : Inv c K) {id : Int} (hp : z3P c K id) : Inv c (K.over c id):=by
 obtain ⟨a,b,d,e⟩:=hp;unfold Kn.over
 split
 ·rename_i l;exact zbA h (by have:=b l;omega)
 ·split
  ·rename_i l m;exact zbB h (by have:=d (by omega) m;omega) (d (by omega) m).2
  ·rename_i l m
   have ht:=h.cf.timers (lg c.timers (id - 128).toNat) (by
    have : (id - 128).toNat < c.timers.length:=by have:=e (by omega);omega
    unfold lg;simp [List.getD,this])
   have hs : (lg c.timers (id - 128).toNat).toNat < c.sems.length:=by omega
   have h1:=zl h 18 (id - 128) 0 0;dsimp only
   split
   ·exact zl (z8X h1 80 hs) _ _ _ _
   ·exact z8X h1 80 hs
theorem z7j (id : Int) : z6f K (K.over c id):=by
 unfold Kn.over;split
 ·exact zaF _
 ·split
  ·exact zaG _
  ·dsimp only;split
   ·exact z6f.trans (z6f.trans (z7k _ _ _ _) (zaE _ _)) (z7k _ _ _ _)
   ·exact z6f.trans (z7k _ _ _ _) (zaE _ _)
theorem z70 : ∀ (l : List Int) (K : Kn) (_ : Inv c K) (_ : ∀ id ∈ l,z3P c K id),Inv c (l.foldl (fun K id=>K.over c id) K)
 | [],_,h,_=>h
 | id :: l,K,h,hp=>z70 l _ (zcX h (hp id (by simp))) fun x hx=>z7r (z7j id) (hp x (by simp [hx]))
theorem ziK {S : List Ck} {id : Int} (h : has (z2X S) id) : has S id:=by
 unfold has z2X at *;rw [List.mem_map] at h ⊢;obtain ⟨x,hx,e⟩:=h;rw [List.mem_map] at hx;obtain ⟨y,hy,rfl⟩:=hx;exact ⟨y,(List.mem_filter.1 hy).1,e⟩
theorem zi8 {S : List Ck} {id : Int} (h : id ∈ z2H S) : has S id:=by
 unfold has z2H at *;rw [List.mem_map] at h ⊢;obtain ⟨x,hx,e⟩:=h;exact ⟨x,(List.mem_filter.1 hx).1,e⟩
theorem zhs (h : Inv c K) (b : Bool) : Inv c { K with stopped:=b }:=z6Z h (by constructor <;> rfl) h.cyc
theorem z2Y (hf : K.full ∨ K.stopped = true) : K.tick c = { K with stopped:=true }:=by
 unfold Kn.tick;dsimp only
 by_cases e : K.full
 ·simp [e]
 ·have hs:=hf.resolve_left e;simp [e,hs]
  cases K;simp_all
theorem z9J (hf : ¬ K.full) (hs : K.stopped = false) : K.tick c = (z2H K.S).foldl (fun K id=>K.over c id) { K with count:=K.count + 1,S:=z2X K.S }:=by
 unfold Kn.tick;dsimp only;simp [hf,hs]
theorem z5p (h : Inv c K) (hf : ¬ K.full) : Inv c { K with count:=K.count + 1,S:=z2X K.S }:=by
 have h1:=zhk h (ziD h.S) fun id hid=>h.clk id (ziK hid);have hc:=h.cnt;unfold Kn.full at hf;exact { h1 with cnt:=by show 0 ≤ K.count + 1 ∧ K.count + 1 < _;omega }
theorem z5y (h : Inv c K) {id : Int} (hid : id ∈ z2H K.S) : z3P c { K with count:=K.count + 1,S:=z2X K.S } id:=by
 obtain ⟨a,b,d,e⟩:=h.clk id (zi8 hid);exact ⟨a,b,fun p q=>⟨(d p q).1,.inr (d p q).2⟩,e⟩
theorem z8Z (h : Inv c K) : Inv c (K.tick c):=by
 by_cases hf : K.full ∨ K.stopped = true
 ·rw [z2Y hf];exact zhs h true
 ·have h1 : ¬ K.full:=fun e=>hf (.inl e);rw [z9J h1 (by cases e : K.stopped;rfl;exact absurd (.inr e) hf)];exact z70 _ _ (z5p h h1) fun id hid=>z5y h hid
end
theorem zcR {L : Lk} (hf : Fit L) : Good (z8F L (z4U L.own L.ow L.rows)):=by
 have hp:=z28 hf L.own.length;have hl : (z4U L.own L.ow L.rows).length = L.own.length:=hp.len;refine ⟨zcM hf hl fun t ht=>?_,z7z hf⟩;obtain ⟨s,hs,_,e⟩:=hp.att t ht;have e : lg (z4U L.own L.ow L.rows) t = z4c L s:=e;rw [e];exact hf.ownr s hs
theorem z1C (L : Lk) (hg : Good L) (t m : Int) :
  ((z0f L t m).2.2 = L ∧ ((z0f L t m).2.1 ≠ 0)) ∨
  (0 ≤ t ∧ t < L.own.length ∧ 0 ≤ m ∧ m < L.ow.length ∧ lg L.ow m.toNat = 255 ∧ lg L.on t.toNat = -1 ∧ z0f L t m = (true,0,z4d L m.toNat t.toNat)) ∨
  (0 ≤ t ∧ t < L.own.length ∧ 0 ≤ m ∧ m < L.ow.length ∧ lg L.ow m.toNat ≠ 255 ∧ lg L.on t.toNat = -1 ∧ lg L.ow m.toNat ≠ t ∧ ¬ Go.Lk.Reach L (lg L.ow m.toNat).toNat t.toNat ∧ z0f L t m = (false,0,z32 L m.toNat t.toNat)):=by
 unfold z0f
 by_cases h1 : 0 ≤ t ∧ t < L.own.length
 ·rw [if_neg (Classical.not_not.2 h1)];have hon : lg L.on t.toNat = -1 ∨ 0 ≤ lg L.on t.toNat:=by
   rcases hg.fit.onr t.toNat (by omega) with e | e
   ·exact .inl e
   ·exact .inr e.1
  by_cases h2 : 0 ≤ lg L.on t.toNat
  ·rw [if_pos h2];exact .inl ⟨rfl,by simp⟩
  ·rw [if_neg h2];have h2:=hon.resolve_right h2
   by_cases h3 : 0 ≤ m ∧ m < L.ow.length
   ·rw [if_neg (Classical.not_not.2 h3)]
    by_cases h4 : lg L.ow m.toNat = t
    ·rw [if_pos h4];exact .inl ⟨rfl,by simp⟩
    ·rw [if_neg h4]
     by_cases h5 : lg L.ow m.toNat = 255
     ·rw [if_pos h5];exact .inr (.inl ⟨h1.1,h1.2,h3.1,h3.2,h5,h2,rfl⟩)
     ·rw [if_neg h5]
      by_cases h6 : Go.Lk.Reach L (lg L.ow m.toNat).toNat t.toNat
      ·rw [if_pos h6];exact .inl ⟨rfl,by simp⟩
      ·rw [if_neg h6];exact .inr (.inr ⟨h1.1,h1.2,h3.1,h3.2,h5,h2,h4,h6,rfl⟩)
   ·rw [if_pos h3];exact .inl ⟨rfl,by simp⟩
 ·rw [if_pos h1];exact .inl ⟨rfl,by simp⟩
theorem zeU {L : Lk} (hg : Good L) (t m : Int) : Fit (z0f L t m).2.2:=by
 rcases z1C L hg t m with ⟨e,_⟩ | ⟨a,b,d,e,f,g,h⟩ | ⟨a,b,d,e,f,g,i,j,h⟩
 ·rw [e];exact hg.fit
 ·rw [h];exact z6l hg.fit (by omega) f (by omega)
 ·rw [h];have hw:=hg.fit.owr m.toNat (by omega);have hw : 0 ≤ z3O L m.toNat ∧ z3O L m.toNat < L.own.length:=hw.resolve_left f;exact zcN hg.fit (by omega) (by omega) g hw j
theorem z5j {L : Lk} (hg : Good L) (t m : Int) : Good (z1B L t m):=zcR (zeU hg t m)
theorem zaD {L : Lk} (hg : Good L) (t m : Int) : (z1B L t m).own = L.own ∧ (z1B L t m).ow.length = L.ow.length:=by
 unfold z1B z8F
 rcases z1C L hg t m with ⟨e,_⟩ | ⟨a,b,d,e,f,g,h⟩ | ⟨a,b,d,e,f,g,i,j,h⟩
 ·rw [e];exact ⟨rfl,rfl⟩
 ·rw [h];exact ⟨rfl,by simp [z4d]⟩
 ·rw [h];exact ⟨rfl,by simp [z32]⟩
theorem z9j {L : Lk} (hg : Good L) (t m : Int) {u : Nat} (h0 : 0 ≤ z0N (z1B L t m) u) : 0 ≤ z0N L u ∨ (u = t.toNat ∧ (z0f L t m).1 = false ∧ (z0f L t m).2.1 = 0):=by
 have e0 : z0N (z1B L t m) u = lg (z0f L t m).2.2.on u:=rfl;rw [e0] at h0
 rcases z1C L hg t m with ⟨e,_⟩ | ⟨a,b,d,e,f,g,h⟩ | ⟨a,b,d,e,f,g,i,j,h⟩
 ·rw [e] at h0;exact .inl h0
 ·rw [h] at h0;exact .inl h0
 ·rw [h] at h0 ⊢;have ht : t.toNat < L.on.length:=by rw [hg.fit.lo];omega
  by_cases e : u = t.toNat
  ·exact .inr ⟨e,rfl,rfl⟩
  ·have:=z3j (L:=L) (m:=m.toNat) ht u;rw [if_neg e] at this;have h0 : 0 ≤ z0N (z32 L m.toNat t.toNat) u:=h0;rw [this] at h0;exact .inl h0
theorem z0D (L : Lk) (hg : Good L) (t m : Int) :
  ((zi L t m).2.2 = L ∧ (zi L t m).2.1 ≠ 0 ∧ (zi L t m).1 = 255) ∨
  (0 ≤ t ∧ t < L.own.length ∧ 0 ≤ m ∧ m < L.ow.length ∧ lg L.ow m.toNat = t ∧ rg L.rows m.toNat = [] ∧ zi L t m = (255,0,z3s L m.toNat)) ∨
  (0 ≤ t ∧ t < L.own.length ∧ 0 ≤ m ∧ m < L.ow.length ∧ lg L.ow m.toNat = t ∧ rg L.rows m.toNat ≠ [] ∧ zD L.now (rg L.rows m.toNat) ∈ rg L.rows m.toNat ∧ zi L t m = (zD L.now (rg L.rows m.toNat),0,z39 L m.toNat (zD L.now (rg L.rows m.toNat)).toNat)):=by
 unfold zi
 by_cases h1 : 0 ≤ t ∧ t < L.own.length
 ·rw [if_neg (Classical.not_not.2 h1)]
  by_cases h3 : 0 ≤ m ∧ m < L.ow.length
  ·rw [if_neg (Classical.not_not.2 h3)]
   by_cases h4 : lg L.ow m.toNat = t
   ·rw [if_neg (Classical.not_not.2 h4)]
    by_cases h5 : rg L.rows m.toNat = []
    ·rw [if_pos h5];exact .inr (.inl ⟨h1.1,h1.2,h3.1,h3.2,h4,h5,rfl⟩)
    ·rw [if_neg h5];exact .inr (.inr ⟨h1.1,h1.2,h3.1,h3.2,h4,h5,z1n _ _ h5,rfl⟩)
   ·rw [if_pos h4];exact .inl ⟨rfl,by simp,rfl⟩
  ·rw [if_pos h3];exact .inl ⟨rfl,by simp,rfl⟩
 ·rw [if_pos h1];exact .inl ⟨rfl,by simp,rfl⟩
theorem z4X {L : Lk} (hg : Good L) {m : Nat} (hm : m < L.ow.length) {x : Int} (hx : x ∈ rg L.rows m) : 0 ≤ x ∧ x < L.own.length ∧ z0N L x.toNat = m:=((hg.fit.row m hm).2 x).1 hx
theorem zbw {L : Lk} (hg : Good L) (t m : Int) : Fit (zi L t m).2.2:=by
 rcases z0D L hg t m with ⟨e,_⟩ | ⟨a,b,d,e,f,g,h⟩ | ⟨a,b,d,e,f,g,i,h⟩
 ·rw [e];exact hg.fit
 ·rw [h];exact zcK hg.fit (by omega) g
 ·rw [h];have hx:=z4X hg (m:=m.toNat) (by omega) i;refine zcL hg.fit (by omega) ?_;rw [show (((zD L.now (rg L.rows m.toNat)).toNat : Nat) : Int) = zD L.now (rg L.rows m.toNat) by omega];exact i
theorem z1N {L : Lk} (hg : Good L) (t m : Int) : Good (zE L t m):=zcR (zbw hg t m)
theorem z2q {L : Lk} (hg : Good L) (t m : Int) : (zE L t m).own = L.own ∧ (zE L t m).ow.length = L.ow.length:=by
 unfold zE z8F
 rcases z0D L hg t m with ⟨e,_⟩ | ⟨a,b,d,e,f,g,h⟩ | ⟨a,b,d,e,f,g,i,h⟩
 ·rw [e];exact ⟨rfl,rfl⟩
 ·rw [h];exact ⟨rfl,by simp [z3s]⟩
 ·rw [h];exact ⟨rfl,by simp [z39]⟩
theorem z2b {L : Lk} (hg : Good L) (t m : Int) {u : Nat} (h0 : 0 ≤ z0N (zE L t m) u) : 0 ≤ z0N L u ∧ (u : Int) ≠ (zi L t m).1 ∨ (0 ≤ z0N L u ∧ L.own.length ≤ u):=by
 have e0 : z0N (zE L t m) u = lg (zi L t m).2.2.on u:=rfl;rw [e0] at h0;have hn:=hg.fit.n
 rcases z0D L hg t m with ⟨e,_,k⟩ | ⟨a,b,d,e,f,g,h⟩ | ⟨a,b,d,e,f,g,i,h⟩
 ·rw [e] at h0
  by_cases hu : u < L.own.length
  ·exact .inl ⟨h0,by rw [k];omega⟩
  ·exact .inr ⟨h0,by omega⟩
 ·rw [h] at h0 ⊢
  by_cases hu : u < L.own.length
  ·exact .inl ⟨h0,by show (u : Int) ≠ 255;omega⟩
  ·exact .inr ⟨h0,by omega⟩
 ·rw [h] at h0 ⊢;have hx:=z4X hg (m:=m.toNat) (by omega) i;have hl : (zD L.now (rg L.rows m.toNat)).toNat < L.on.length:=by rw [hg.fit.lo];omega
  have h1:=z2g hl (-1) u;have h0 : 0 ≤ lg (L.on.set (zD L.now (rg L.rows m.toNat)).toNat (-1)) u:=h0;rw [h1] at h0
  split at h0
  ·omega
  ·exact .inl ⟨h0,by show (u : Int) ≠ zD _ _;omega⟩
section
variable {c : Cf} {K : Kn}
theorem z4K (h : Inv c K) : ∀ n,n ≤ c.ts.length → Inv c (K.relev c n) ∧ (∀ u,((K.relev c n).T u).st = (K.T u).st) ∧ (K.relev c n).L = K.L
 | 0,_=>⟨h,fun _=>rfl,rfl⟩
 | n + 1,hn=>by
  obtain ⟨h1,h2,h3⟩:=z4K h n (by omega);unfold Kn.relev;dsimp only
  split
  ·exact ⟨h1,h2,h3⟩
  ·have g1:=zl h1 11 n (lg (K.relev c n).L.now n) 0;have g2:=zf9 g1 n (lg (K.relev c n).L.now n).toNat;have hT:=h1.T n (by omega);have hl : 0 ≤ lg (K.relev c n).L.now n ∧ lg (K.relev c n).L.now n < 32:=h1.L.fit.nowr n (by rw [h1.Ln];omega);have hx : z8a c n { ((K.relev c n).tell c 11 n (lg (K.relev c n).L.now n) 0).T n with lev:=lg (K.relev c n).L.now n }:=by
    rw [z01];exact ⟨hl,hT.late,hT.job,hT.rg,hT.at_,hT.st,hT.run,hT.blk,hT.on4,hT.on5,hT.on6,hT.on⟩
   refine ⟨z0t g2 (by omega) hx rfl rfl,fun u=>?_,by show (Kn.tell _ _ _ _ _ _).L = _;rw [zbe];exact h3⟩;rw [z2U];split
   ·rename_i e;subst e;rw [← h2];simp
   ·show ((Kn.tell _ _ _ _ _ _).T u).st = _;rw [z01];exact h2 u
theorem z3a (h : Inv c K) : Inv c (K.relevel c):=(z4K h _ (Nat.le_refl _)).1
def z3u (c : Cf) (who : Nat) : Prop:=(who < 64 ∧ who < c.ts.length) ∨ (64 ≤ who ∧ who - 64 < c.ls.length)
theorem z0v (h : Inv c K) {who : Nat} (hw : z3u c who) (n : Int) {v : Int} (hv : zG v) : Inv c (K.put who n v):=by
 unfold Kn.put;split
 ·rename_i e
  have ht : who < c.ts.length:=by rcases hw with a | a;exact a.2;omega
  have hT:=h.T who ht;have hx : z8a c who { K.T who with rg:=(K.T who).rg.set n.toNat v }:=⟨hT.lev,hT.late,hT.job,R8.set_rng hT.rg hv _,hT.at_,hT.st,hT.run,hT.blk,hT.on4,hT.on5,hT.on6,hT.on⟩;exact z0t h ht hx rfl rfl
 ·exact { h with irg:=R8.set_rng h.irg hv _ }
theorem z0K (h : Inv c K) {who : Nat} (hw : z3u c who) (n : Int) : zG (K.reg who n):=by
 unfold Kn.reg;split
 ·rename_i e
  have ht : who < c.ts.length:=by rcases hw with a | a;exact a.2;omega
  exact (h.T who ht).rg _
 ·exact h.irg _
theorem z05 (h : Inv c K) {who : Nat} (hw : z3u c who) (i : Ins) {e : Int} (he : zG e) : Inv c (K.refuse c who i e):=z0v (zl h _ _ _ _) hw _ he
theorem z6W (t : Nat) (i : Ins) : zG (K.holdE c t i):=by
 unfold Kn.holdE;repeat' split
 all_goals exact ⟨by simp,by simp⟩
theorem z6n (h : Inv c K) (t : Nat) (m : Int) : Inv c (K.give c t m):=by
 have hg:=h.L;have ho:=z2q hg t m;have h1 : Inv c { K with L:=zE K.L t m }:=zah h (z1N hg t m) (by rw [ho.1]) ho.2 fun u hu e=>by
  rcases z2b hg t m e with f | f
  ·exact h.Lw u hu f.1
  ·exact h.Lw u hu f.1
 unfold Kn.give Kn.handed;dsimp only;have h2:=zl h1 13 t m 0
 split
 ·exact h2
 ·rename_i hne
  rcases z0D K.L hg t m with ⟨_,_,k⟩ | ⟨_,_,_,_,_,_,k⟩ | ⟨a,b,d,e,f,g,i,k⟩
  ·exact absurd k hne
  ·rw [k] at hne;exact absurd rfl hne
  ·have hx:=z4X hg (m:=m.toNat) (by omega) i;rw [k] at hne ⊢;have hlt : (zD K.L.now (rg K.L.rows m.toNat)).toNat < c.ts.length:=by rw [← h.Ln];omega
   have hst:=h.Lw _ hlt (by rw [hx.2.2];omega);refine zl (z2z h2 (z5U h2 hlt ?_ ?_ ?_ ?_ ?_) 1 ⟨by simp,by simp⟩) _ _ _ _
   all_goals simp only [z01,zbe,z5M,z5L]
   ·omega
   ·omega
   ·omega
   ·omega
   ·intro _ e0
    rcases z2b hg t m e0 with f | f
    ·rw [k] at f;have:=f.2;dsimp only at this;omega
    ·have:=h.Ln;omega
theorem z3E (t : Nat) : ∀ (l : List Int) (K : Kn),Inv c K → Inv c (l.foldl (fun K m=>K.give c t m) K)
 | [],_,h=>h
 | m :: l,K,h=>z3E t l _ (z6n h t m)
end
section
variable {c : Cf} {K : Kn}
structure Rdy (c : Cf) (K : Kn) (t : Nat) : Prop where
 lt : t < c.ts.length
 sm : ∀ s,s < c.sems.length → (t : Int) ∉ (K.sm s).2
 mls : ∀ q,q < c.queues.length → (t : Int) ∉ (K.ml q).S
 mlr : ∀ q,q < c.queues.length → (t : Int) ∉ (K.ml q).R
 lk : ¬ 0 ≤ z0N K.L t
 clk : ¬ has K.S (64 + t)
theorem z2B (h : Inv c K) {t : Nat} (ht : t < c.ts.length) (hs : (K.T t).st = 1) : Rdy c K t:=by
 refine ⟨ht,fun s hs e=>?_,fun s hs e=>?_,fun s hs e=>?_,fun e=>?_,fun e=>?_⟩
 ·have:=(h.smr s hs _ e).2.1;simp at this;omega
 ·have:=(h.mls s hs _ e).2.1;simp at this;omega
 ·have:=(h.mlr s hs _ e).2.1;simp at this;omega
 ·have:=h.Lw t ht e;omega
 ·have:=((h.clk _ e).2.2.1 (by omega) (by have:=h.cf.nt;omega)).2;unfold z4Z at this;rw [show ((64 : Int) + t - 64).toNat = t by omega] at this;omega
theorem z2f (h : Inv c K) {t : Nat} (r : Rdy c K t) {x : Ts} (hx : z8a c t x) : Inv c { K.setT t x with R:=z5F K.R t }:=by
 have h1:=zhp h t;exact z6p h1 r.lt hx (fun e=>absurd e r.clk) (fun l e=>absurd rfl (zdm h.R e).1) (fun e=>absurd e r.lk) (fun s hs e=>absurd e (r.sm s hs)) (fun s hs e=>absurd e (r.mls s hs)) (fun s hs e=>absurd e (r.mlr s hs))
theorem zhl (h : Inv c K) {t : Nat} (r : Rdy c K t) (status : Int) (hs : status = 7 ∨ status = 8) : Inv c (K.gone c t status):=by
 have hT:=h.T t r.lt;have hx : z8a c t { K.T t with st:=status }:=⟨hT.lev,hT.late,hT.job,hT.rg,hT.at_,by show 0 ≤ status ∧ status ≤ 8;omega,by show status = 0 ∨ status = 1 → _;omega,by show 2 ≤ status → status ≤ 6 → _;omega,by show status = 4 → _;omega,by show status = 5 → _;omega,by show status = 6 → _;omega,hT.on⟩;exact z3a (z3E t _ _ (z5n (z2f h r hx) t))
theorem zag (t : Nat) (status on : Int) (i : Ins) : (K.hold c t status on i).T = upd K.T t { K.T t with st:=status,on:=on }:=by
 unfold Kn.hold;dsimp only;rw [z01];by_cases e : i.d = 2 <;> simp only [e,if_true,if_false,Kn.setT]
theorem zf5 (t : Nat) (status on : Int) (i : Ins) : (K.hold c t status on i).sm = K.sm:=by
 unfold Kn.hold;dsimp only;rw [z5M];by_cases e : i.d = 2 <;> simp only [e,if_true,if_false,Kn.setT]
theorem z8U (t : Nat) (status on : Int) (i : Ins) : (K.hold c t status on i).ml = K.ml:=by
 unfold Kn.hold;dsimp only;rw [z5L];by_cases e : i.d = 2 <;> simp only [e,if_true,if_false,Kn.setT]
theorem zjc (t : Nat) (status on : Int) (i : Ins) : (K.hold c t status on i).L = K.L:=by
 unfold Kn.hold;dsimp only;rw [zbe];by_cases e : i.d = 2 <;> simp only [e,if_true,if_false,Kn.setT]
theorem zaj (h : Inv c K) {t : Nat} (r : Rdy c K t) {S : List Ck} (hS : SOk S) (hc : ∀ id,has S id → has K.S id ∨ id = 64 + t) {status on : Int} {i : Ins} (hd : i.d ≠ 2 ∨ S = K.S)
  (hx : z8a c t { K.T t with st:=status,on:=on }) (hsl : (∃ id,has S id ∧ ¬ has K.S id) ∨ i.d = 2 → z4Z { K.T t with st:=status,on:=on }) : Inv c ({ K with S:=S }.hold c t status on i):=by
 have h1 : Inv c { { K with S:=S }.setT t { K.T t with st:=status,on:=on } with R:=z5F K.R t }:=by
  refine zhk (z2f h r hx) hS fun id hid=>?_
  by_cases e : has K.S id
  ·exact (z2f h r hx).clk id e
  ·have e2:=(hc id hid).resolve_left e;subst e2;refine ⟨by omega,fun a=>by omega,fun a b=>⟨by have:=r.lt;omega,?_⟩,fun a=>by have:=h.cf.nt;have:=r.lt;omega⟩;show z4Z (upd K.T t _ _);rw [show ((64 : Int) + t - 64).toNat = t by omega,zK];exact hsl (.inl ⟨_,hid,e⟩)
 unfold Kn.hold;dsimp only;refine zl ?_ 9 t on 0
 by_cases e : i.d = 2
 ·rw [if_pos e];have e2:=hd.resolve_left (fun f=>f e);subst e2;have ck : zeH c (upd K.T t { K.T t with st:=status,on:=on }) (64 + t):=by
   refine ⟨by omega,fun a=>by omega,fun a b=>⟨by have:=r.lt;omega,?_⟩,fun a=>by have:=h.cf.nt;have:=r.lt;omega⟩;rw [show ((64 : Int) + t - 64).toNat = t by omega,zK];exact hsl (.inr e)
  have g:=z4p h1 (id:=64 + t) (t:=(K.T t).rg.get i.c.toNat) ck;dsimp only [Kn.setT] at g ⊢;exact g
 ·rw [if_neg e];exact h1
theorem z4J (h : Inv c K) {t : Nat} (r : Rdy c K t) {status on : Int} {i : Ins} (hx : z8a c t { K.T t with st:=status,on:=on }) (hsl : i.d = 2 → z4Z { K.T t with st:=status,on:=on }) : Inv c (K.hold c t status on i) :=
 zaj (S:=K.S) h r h.S (fun _ a=>.inl a) (.inr rfl) hx (fun e=>by
  rcases e with ⟨_,a,b⟩ | e
  ·exact absurd a b
  ·exact hsl e)
theorem z5N (h : Inv c K) {t : Nat} (ht : t < c.ts.length) (h1 : 1 ≤ (K.T t).at_ ∧ (K.T t).at_ ≤ (tcg c t).code.length) {status on : Int} (hs : 2 ≤ status ∧ status ≤ 6)
  (h4 : status = 4 → 64 ≤ on ∧ on < 64 + c.sems.length) (h5 : status = 5 → 96 ≤ on ∧ on < 96 + c.queues.length) (h6 : status = 6 → 128 ≤ on ∧ on < 128 + c.queues.length) (ho : 0 ≤ on ∧ on < 160) : z8a c t { K.T t with st:=status,on:=on }:=by
 have hT:=h.T t ht;exact ⟨hT.lev,hT.late,hT.job,hT.rg,hT.at_,by show 0 ≤ status ∧ status ≤ 8;omega,by show status = 0 ∨ status = 1 → _;omega,fun _ _=>h1,h4,h5,h6,ho⟩
theorem z9x {l : List Int} (h : ∀ w ∈ l,zG w) (n : Nat) {v : Int} (hv : zG v) : ∀ w ∈ l.set n v,zG w:=fun w hw=>by
 rcases List.mem_or_eq_of_mem_set hw with e | rfl
 ·exact h w e
 ·exact hv
theorem zcg {l : List Int} (h : ∀ w ∈ l,zG w) (n : Nat) : zG (l.getD n 0):=by
 by_cases e : n < l.length
 ·simp [List.getD,e];exact h _ (List.getElem_mem e)
 ·simp [List.getD,e];exact ⟨by simp,by simp⟩
theorem zi0 {q : Mq} (h : MqW q) (t : Int) {v : Int} (hv : zG v) : MqW (q.hold t v):=by
 unfold Mq.hold;repeat' split
 ·exact h
 ·exact ⟨h.c,z9x h.h _ hv⟩
 ·exact h
theorem zfW {q : Mq} (h : MqW q) (t : Int) : MqW (q.await t):=by
 unfold Mq.await;split
 ·exact h
 ·exact ⟨h.c,h.h⟩
theorem zdd {q : Mq} (h : MqW q) (lv : List Int) {v : Int} (hv : zG v) : MqW (q.send lv v):=by
 unfold Mq.send;repeat' split
 ·exact ⟨h.c,h.h⟩
 ·exact h
 ·exact ⟨z9x h.c _ hv,h.h⟩
theorem zdc {q : Mq} (h : MqW q) (lv : List Int) : MqW (q.recv lv):=by
 unfold Mq.recv;repeat' split
 ·exact h
 ·exact ⟨h.c,h.h⟩
 ·exact ⟨z9x h.c _ (zcg h.h _),h.h⟩
theorem z7y {q : Mq} (h : MqW q) : zG q.recvV:=by
 unfold Mq.recvV;split
 ·exact ⟨by simp,by simp⟩
 ·exact zcg h.c _
structure z20 (c : Cf) (K : Kn) (t : Nat) : Prop where
 st : (K.T t).st = 1
 at_ : 1 ≤ (K.T t).at_ ∧ (K.T t).at_ ≤ (tcg c t).code.length
theorem z5u {l : List Int} {t x : Int} (h : x ∈ z1h l t) : x ∈ l ∨ x = t:=by
 unfold z1h at h;split at h
 ·rw [List.mem_append,List.mem_singleton] at h;exact h
 ·exact .inl h
theorem z1b {who : Nat} (n v : Int) (u : Nat) : ((K.put who n v).T u).st = (K.T u).st ∧ ((K.put who n v).T u).on = (K.T u).on ∧ ((K.put who n v).T u).at_ = (K.T u).at_:=by
 unfold Kn.put;split
 ·rw [z2U];split
  ·rename_i e;subst e;exact ⟨rfl,rfl,rfl⟩
  ·exact ⟨rfl,rfl,rfl⟩
 ·exact ⟨rfl,rfl,rfl⟩
theorem zmt {who : Nat} (n v : Int) : (K.put who n v).sm = K.sm:=by unfold Kn.put;split <;> rfl
theorem zg8 {who : Nat} (n v : Int) : (K.put who n v).ml = K.ml:=by unfold Kn.put;split <;> rfl
theorem zms {who : Nat} (n v : Int) : (K.put who n v).L = K.L:=by unfold Kn.put;split <;> rfl
theorem zjv {q : Mq} (lv : List Int) (v x : Int) (h : x ∈ (q.send lv v).S) : x ∈ q.S:=by
 unfold Mq.send at h;repeat' split at h
 all_goals exact h
theorem zju {q : Mq} (lv : List Int) (v x : Int) (h : x ∈ (q.send lv v).R) : x ∈ q.R:=by
 unfold Mq.send at h;repeat' split at h
 ·exact List.mem_of_mem_erase h
 ·exact h
 ·exact h
theorem zjp {q : Mq} (lv : List Int) (x : Int) (h : x ∈ (q.recv lv).R) : x ∈ q.R:=by
 unfold Mq.recv at h;repeat' split at h
 all_goals exact h
theorem zjq {q : Mq} (lv : List Int) (x : Int) (h : x ∈ (q.recv lv).S) : x ∈ q.S:=by
 unfold Mq.recv at h;repeat' split at h
 ·exact h
 ·exact h
 ·exact List.mem_of_mem_erase h
theorem zhq (h : Inv c K) {who : Nat} (hw : z3u c who) (hc : who < 64 → z20 c K who) {i : Ins} (hi : zI i) (hm : 64 ≤ who → i.d = 1) (hq : i.k < c.queues.length) : Inv c (K.send c who i):=by
 have hk : ((i.k.toNat : Nat) : Int) = i.k:=by have:=hi.k.1;omega
 have hlt : i.k.toNat < c.queues.length:=by omega
 have hQ:=h.ml _ hlt;have hv:=z0K h hw i.b;unfold Kn.send;dsimp only
 split
 ·split
  ·refine z05 h hw i ?_;unfold Mq.sendE;repeat' split
   all_goals exact ⟨by simp,by simp⟩
  ·rename_i hne hd
   split
   ·rename_i h0
    have ht : who < 64:=by
     rcases Nat.lt_or_ge who 64 with a | a
     ·exact a
     ·exact absurd (hm a) hd
    have htl : who < c.ts.length:=by rcases hw with a | a;exact a.2;omega
    obtain ⟨s1,s2⟩:=hc ht;have hr:=z2B h htl s1;have hh:=z4J h hr (status:=5) (on:=96 + i.k) (i:=i) (z5N h htl s2 (by omega) (by omega) (by omega) (by omega) (by have:=hi.k.1;have:=h.cf.nq;omega)) (fun _=>.inr (.inr (.inl rfl)));have hQ2 : (K.hold c who 5 (96 + i.k) i).ml = K.ml:=z8U _ _ _ _;have hT2 : (K.hold c who 5 (96 + i.k) i).T = upd K.T who { K.T who with st:=5,on:=96 + i.k }:=zag _ _ _ _;rw [show ((K.hold c who 5 (96 + i.k) i).ml i.k.toNat) = K.ml i.k.toNat by rw [hQ2]];refine z5R hh hlt (zfU hQ.1 (who : Int) (K.reg who i.b)) (zi0 hQ.2 (who : Int) hv) ?_ ?_
    ·intro x hx;have : x ∈ (K.ml i.k.toNat).S ∨ x = who:=by
      unfold Mq.hold at hx;repeat' split at hx
      ·exact .inl hx
      ·exact z5u hx
      ·exact .inl hx
     rcases this with e | rfl
     ·have:=hh.mls _ hlt x (by rw [hQ2];exact e);exact this
     ·rw [hT2];simp;omega
    ·intro x hx;have : x ∈ (K.ml i.k.toNat).R:=by
      unfold Mq.hold at hx;repeat' split at hx
      all_goals exact hx
     exact hh.mlr _ hlt x (by rw [hQ2];exact this)
   ·exact z05 h hw i (z6W _ _)
 ·rename_i hz
  have h1:=z5R h hlt (zaH hQ.1 K.L.now (K.reg who i.b)) (zdd hQ.2 K.L.now hv) (fun x hx=>h.mls _ hlt x (zjv _ _ _ hx)) (fun x hx=>h.mlr _ hlt x (zju _ _ _ hx));have h2:=z0v h1 hw i.a (v:=0) ⟨by simp,by simp⟩;have h3:=zl h2 16 who i.k (K.reg who i.b)
  split
  ·exact h3
  ·rename_i hne
   have hR : (K.ml i.k.toNat).R ≠ []:=by
    intro e;apply hne;unfold Mq.sendT;simp [e]
   have e1 : (K.ml i.k.toNat).sendT K.L.now = zD K.L.now (K.ml i.k.toNat).R:=by unfold Mq.sendT;rw [if_pos hR]
   have hb:=z1n K.L.now _ hR;rw [e1];obtain ⟨g1,g2,g3⟩:=h.mlr _ hlt _ hb;have g0:=(hQ.1.r.2 _ hb).1;generalize hg : zD K.L.now (K.ml i.k.toNat).R = g at *;obtain ⟨u,rfl⟩ : ∃ u : Nat,g = u:=⟨g.toNat,by omega⟩;simp only [Int.toNat_natCast] at *;have hul : u < c.ts.length:=by omega
   have hu64 : u < 64:=by have:=h.cf.nt;omega
   have h4:=z0v h3 (who:=u) (.inl ⟨hu64,hul⟩) ((Kn.tell (Kn.put { K with ml:=upd K.ml i.k.toNat ((K.ml i.k.toNat).send K.L.now (K.reg who i.b)) } who i.a 0) c 16 who i.k (K.reg who i.b)).call c u).b hv;have h5:=zl h4 17 u i.k (K.reg who i.b);have st : ∀ a b,(((Kn.tell (Kn.put { K with ml:=upd K.ml i.k.toNat ((K.ml i.k.toNat).send K.L.now (K.reg who i.b)) } who i.a 0) c 16 who i.k (K.reg who i.b)).put u a b).T u).st = 6 ∧ (((Kn.tell (Kn.put { K with ml:=upd K.ml i.k.toNat ((K.ml i.k.toNat).send K.L.now (K.reg who i.b)) } who i.a 0) c 16 who i.k (K.reg who i.b)).put u a b).T u).on = 128 + i.k:=by
    intro a b;rw [(z1b _ _ _).1,(z1b _ _ _).2.1,z01,(z1b _ _ _).1,(z1b _ _ _).2.1];exact ⟨g2,by rw [g3];omega⟩
   refine z2z h5 (z5U h5 hul ?_ ?_ ?_ ?_ ?_) 1 ⟨by simp,by simp⟩
   all_goals simp only [z01,z5L,z5M,zg8,(st _ _).1,(st _ _).2]
   ·omega
   ·omega
   ·omega
   ·intro _ r hr;have : r = i.k.toNat:=by omega
    subst this;rw [zK];unfold Mq.send;rw [if_pos hR,hg];exact z2R hQ.1.r _
   ·omega
theorem zho (h : Inv c K) {who : Nat} (hw : z3u c who) (hc : who < 64 → z20 c K who) {i : Ins} (hi : zI i) (hm : 64 ≤ who → i.d = 1) (hq : i.k < c.queues.length) : Inv c (K.recv c who i):=by
 have hk : ((i.k.toNat : Nat) : Int) = i.k:=by have:=hi.k.1;omega
 have hlt : i.k.toNat < c.queues.length:=by omega
 have hQ:=h.ml _ hlt;have hv:=z7y hQ.2;unfold Kn.recv;dsimp only
 split
 ·split
  ·refine z05 h hw i ?_;unfold Mq.recvE;repeat' split
   all_goals exact ⟨by simp,by simp⟩
  ·rename_i hne hd
   split
   ·rename_i h0
    have ht : who < 64:=by
     rcases Nat.lt_or_ge who 64 with a | a
     ·exact a
     ·exact absurd (hm a) hd
    have htl : who < c.ts.length:=by rcases hw with a | a;exact a.2;omega
    obtain ⟨s1,s2⟩:=hc ht;have hr:=z2B h htl s1;have hh:=z4J h hr (status:=6) (on:=128 + i.k) (i:=i) (z5N h htl s2 (by omega) (by omega) (by omega) (by omega) (by have:=hi.k.1;have:=h.cf.nq;omega)) (fun _=>.inr (.inr (.inr rfl)));have hQ2 : (K.hold c who 6 (128 + i.k) i).ml = K.ml:=z8U _ _ _ _;have hT2 : (K.hold c who 6 (128 + i.k) i).T = upd K.T who { K.T who with st:=6,on:=128 + i.k }:=zag _ _ _ _;rw [show ((K.hold c who 6 (128 + i.k) i).ml i.k.toNat) = K.ml i.k.toNat by rw [hQ2]];refine z5R hh hlt (ze6 hQ.1 (who : Int)) (zfW hQ.2 (who : Int)) ?_ ?_
    ·intro x hx;have : x ∈ (K.ml i.k.toNat).S:=by
      unfold Mq.await at hx;split at hx
      all_goals exact hx
     exact hh.mls _ hlt x (by rw [hQ2];exact this)
    ·intro x hx;have : x ∈ (K.ml i.k.toNat).R ∨ x = who:=by
      unfold Mq.await at hx;split at hx
      ·exact .inl hx
      ·exact z5u hx
     rcases this with e | rfl
     ·exact hh.mlr _ hlt x (by rw [hQ2];exact e)
     ·rw [hT2];simp;omega
   ·exact z05 h hw i (z6W _ _)
 ·rename_i hz
  have h1:=z5R h hlt (z7m hQ.1 K.L.now) (zdc hQ.2 K.L.now) (fun x hx=>h.mls _ hlt x (zjq _ _ hx)) (fun x hx=>h.mlr _ hlt x (zjp _ _ hx));have h2:=z0v h1 hw i.b hv;have h2':=z0v h2 hw i.a (v:=0) ⟨by simp,by simp⟩;have h3:=zl h2' 17 who i.k (K.ml i.k.toNat).recvV
  split
  ·exact h3
  ·rename_i hne
   have hS : ¬ ((K.ml i.k.toNat).n = 0 ∨ (K.ml i.k.toNat).S = []):=by
    intro e;apply hne;unfold Mq.recvT;rw [if_pos e]
   have e1 : (K.ml i.k.toNat).recvT K.L.now = zD K.L.now (K.ml i.k.toNat).S:=by unfold Mq.recvT;rw [if_neg hS]
   have hb:=z1n K.L.now (K.ml i.k.toNat).S (fun e=>hS (.inr e));rw [e1];obtain ⟨g1,g2,g3⟩:=h.mls _ hlt _ hb;have g0:=(hQ.1.s.2 _ hb).1;generalize hg : zD K.L.now (K.ml i.k.toNat).S = g at *;obtain ⟨u,rfl⟩ : ∃ u : Nat,g = u:=⟨g.toNat,by omega⟩;simp only [Int.toNat_natCast] at *;have hul : u < c.ts.length:=by omega
   generalize hK : Kn.tell (((Kn.put { K with ml:=upd K.ml i.k.toNat ((K.ml i.k.toNat).recv K.L.now) } who i.b (K.ml i.k.toNat).recvV)).put who i.a 0) c 17 who i.k (K.ml i.k.toNat).recvV = K1 at h3 ⊢;have hst : (K1.T u).st = 5 ∧ (K1.T u).on = 96 + i.k:=by
    rw [← hK,z01,(z1b _ _ _).1,(z1b _ _ _).2.1,(z1b _ _ _).1,(z1b _ _ _).2.1];exact ⟨g2,by rw [g3];omega⟩
   have hml : K1.ml = upd K.ml i.k.toNat ((K.ml i.k.toNat).recv K.L.now):=by rw [← hK,z5L,zg8,zg8]
   have h4:=zl h3 16 u i.k ((K1.T u).rg.get (K1.call c u).b.toNat);refine z2z h4 (z5U h4 hul ?_ ?_ ?_ ?_ ?_) 1 ⟨by simp,by simp⟩
   all_goals simp only [z01,z5L,z5M,hml,hst.1,hst.2]
   ·omega
   ·omega
   ·intro _ r hr;have : r = i.k.toNat:=by omega
    subst this;rw [zK];unfold Mq.recv;rw [if_neg (fun e=>hS (.inl e)),if_neg (fun e=>hS (.inr e)),hg];show _ ∉ ((K.ml i.k.toNat).S.erase _);rw [hg];exact z2R hQ.1.s _
   ·omega
   ·omega
end
section
variable {c : Cf} {K : Kn}
theorem zfI (L : Lk) (t m : Int) : zG (z0f L t m).2.1:=by
 unfold z0f;repeat' split
 all_goals exact ⟨by simp,by simp⟩
theorem zct (L : Lk) (t m : Int) : zG (zi L t m).2.1:=by
 unfold zi;repeat' split
 all_goals exact ⟨by simp,by simp⟩
theorem zey {t : Nat} (h : Inv c K) (ht : t < c.ts.length) : z3u c t:=.inl ⟨by have:=h.cf.nt;omega,ht⟩
theorem zhm (h : Inv c K) {t : Nat} (ht : t < c.ts.length) (hc : z20 c K t) {i : Ins} (hi : zI i) (hd : i.d = 0) : Inv c (K.lock c t i):=by
 have hg:=h.L;have hw:=zey h ht;have ho:=zaD hg t i.k;unfold Kn.lock;dsimp only
 by_cases he : (z0f K.L t i.k).2.1 = 0
 ·rw [if_neg (Classical.not_not.2 he)]
  by_cases hh : (z0f K.L t i.k).1 = true
  ·rw [if_pos hh];have h1 : Inv c { K with L:=z1B K.L t i.k }:=zah h (z5j hg t i.k) (by rw [ho.1]) ho.2 fun u hu e=>by
    rcases z9j hg t i.k e with f | f
    ·exact h.Lw u hu f
    ·rw [hh] at f;exact absurd f.2.1 (by simp)
   exact zl (z0v h1 hw _ ⟨by simp,by simp⟩) _ _ _ _
  ·rw [if_neg hh];have hm : 0 ≤ i.k ∧ i.k < 32:=by
    rcases z1C K.L hg t i.k with ⟨_,k⟩ | ⟨a,b,d,e,f,g,k⟩ | ⟨a,b,d,e,f,g,i,j,k⟩
    ·exact absurd he k
    ·rw [k] at hh;exact absurd rfl hh
    ·have:=hg.fit.m;omega
   have hr:=z2B h ht hc.st;have hx:=z5N h ht hc.at_ (status:=3) (on:=32 + i.k) (by omega) (by omega) (by omega) (by omega) (by omega);have hv:=z4J h hr (i:=i) hx (fun e=>absurd e (by omega));have hT : (K.hold c t 3 (32 + i.k) i).T = upd K.T t { K.T t with st:=3,on:=32 + i.k }:=zag _ _ _ _;have hL : (K.hold c t 3 (32 + i.k) i).L = K.L:=zjc _ _ _ _;have e1 : ({ K with L:=z1B K.L t i.k }).hold c t 3 (32 + i.k) i = { K.hold c t 3 (32 + i.k) i with L:=z1B K.L t i.k }:=by
    have hd2 : ¬ i.d = 2:=by omega
    by_cases e : z1l c.filter 9 = true
    ·simp only [Kn.hold,Kn.tell,Kn.setT,hd2,e,if_true,if_false]
    ·simp only [Kn.hold,Kn.tell,Kn.setT,hd2,e,if_true,if_false,Bool.false_eq_true]
   rw [e1];refine z3a (zah hv (z5j hg t i.k) (by rw [hL,ho.1]) (by rw [hL,ho.2]) fun u hu e=>?_);rw [hT];unfold upd
   split
   ·rfl
   ·rename_i hne
    rcases z9j hg t i.k e with f | f
    ·exact h.Lw u hu f
    ·omega
 ·rw [if_pos he];exact z05 h hw i (zfI _ _ _)
theorem zdQ (h : Inv c K) {t : Nat} (ht : t < c.ts.length) {i : Ins} : Inv c (K.unlock c t i):=by
 have hg:=h.L;have hw:=zey h ht;unfold Kn.unlock;dsimp only
 by_cases he : (zi K.L t i.k).2.1 = 0
 ·rw [if_neg (Classical.not_not.2 he)];have h1:=z6n (z0v h hw i.a (v:=0) ⟨by simp,by simp⟩) t i.k;have e1 : (K.put t i.a 0).give c t i.k = (({ K with L:=zE K.L t i.k }).put t i.a 0).handed c t i.k (zi K.L t i.k).1:=by
   unfold Kn.give;rw [zms];unfold Kn.put;split <;> rfl
  rw [e1] at h1;exact z3a h1
 ·rw [if_pos he];exact z05 h hw i (zct _ _ _)
theorem zf8 (h : Inv c K) {t : Nat} (ht : t < c.ts.length) (hc : z20 c K t) {i : Ins} (hi : zI i) : Inv c (K.await c t i):=by
 have hw:=zey h ht;unfold Kn.await;dsimp only
 by_cases hs : (c.sems.length : Int) ≤ i.k
 ·rw [if_pos hs];exact z05 h hw i ⟨by simp,by simp⟩
 rw [if_neg hs];have hk : ((i.k.toNat : Nat) : Int) = i.k:=by have:=hi.k.1;omega
 have hlt : i.k.toNat < c.sems.length:=by omega
 have hok:=h.sm _ hlt
 by_cases he : z3t (K.sm i.k.toNat).1 = 0
 ·rw [if_pos he];exact zl (z0v (zcZ h hlt (z5H hok) fun x hx=>h.smr _ hlt x hx) hw _ ⟨by simp,by simp⟩) _ _ _ _
 rw [if_neg he]
 by_cases hd : i.d = 1
 ·rw [if_pos hd];refine z05 h hw i ?_;unfold z3t;split <;> exact ⟨by simp,by simp⟩
 rw [if_neg hd]
 by_cases h0 : K.holdE c t i = 0
 ·rw [if_pos h0];have hr:=z2B h ht hc.st;have hx:=z5N h ht hc.at_ (status:=4) (on:=64 + i.k) (by omega) (by have:=hi.k.1;omega) (by omega) (by omega) (by have:=hi.k.1;have:=h.cf.ns;omega);have hv:=z4J h hr (i:=i) hx (fun _=>.inr (.inl rfl));have hT : (K.hold c t 4 (64 + i.k) i).T = upd K.T t { K.T t with st:=4,on:=64 + i.k }:=zag _ _ _ _;have hS : (K.hold c t 4 (64 + i.k) i).sm = K.sm:=zf5 _ _ _ _;rw [show ((K.hold c t 4 (64 + i.k) i).sm i.k.toNat) = K.sm i.k.toNat by rw [hS]];refine zcZ hv hlt (zck hok t) fun x hx=>?_;have : x ∈ (K.sm i.k.toNat).2 ∨ x = t:=by
   unfold z4f at hx;split at hx
   ·exact .inl hx
   ·exact z5u hx
  rcases this with e | rfl
  ·exact hv.smr _ hlt x (by rw [hS];exact e)
  ·rw [hT];simp;omega
 ·rw [if_neg h0];exact z05 h hw i (z6W _ _)
theorem zfb (h : Inv c K) {t : Nat} (ht : t < c.ts.length) (hc : z20 c K t) {i : Ins} (hi : zI i) (hd : i.d = 0) : Inv c (K.sleep c t i):=by
 have hw:=zey h ht;unfold Kn.sleep;dsimp only
 split
 ·exact z0v h hw _ ⟨by simp,by simp⟩
 ·split
  ·exact z05 h hw i ⟨by simp,by simp⟩
  ·have hr:=z2B h ht hc.st;have hx:=z5N h ht hc.at_ (status:=2) (on:=0) (by omega) (by omega) (by omega) (by omega) (by omega);exact zaj h hr (z9G h.S _ _) (fun id hid=>(zc8 hid).symm) (.inl (by omega)) hx (fun _=>.inl rfl)
theorem zhn (h : Inv c K) {t : Nat} (ht : t < c.ts.length) (hs : (K.T t).st = 1) : Inv c (K.next c t):=by
 have hT:=h.T t ht;unfold Kn.next;dsimp only;have h1:=zl h 8 t 0 (K.T t).job;have h1 : Inv c (K.tell c 8 t 0 (K.T t).job):=h1
 split
 ·have hx : z8a c t { K.T t with late:=(K.T t).late - 1,job:=((K.T t).job + 1) % 4294967296 }:=⟨hT.lev,by have:=hT.late;show 0 ≤ (K.T t).late - 1 ∧ (K.T t).late - 1 ≤ _;omega,⟨Int.emod_nonneg _ (by decide),Int.emod_lt_of_pos _ (by decide)⟩,hT.rg,hT.at_,hT.st,hT.run,hT.blk,hT.on4,hT.on5,hT.on6,hT.on⟩;exact zl (z0t h1 ht hx (by simp) (by simp)) _ _ _ _
 ·have hx : z8a c t { K.T t with st:=0 }:=⟨hT.lev,hT.late,hT.job,hT.rg,hT.at_,by simp,fun _=>hT.run (.inr hs),by simp,by simp,by simp,by simp,hT.on⟩;exact z2f h1 (z2B h1 ht (by simp [hs])) hx
theorem zfc (h : Inv c K) {who : Nat} (hw : z3u c who) {i : Ins} (hi : zI i) : Inv c (K.timer c who i):=by
 unfold Kn.timer;dsimp only
 by_cases he : K.timerE c who i = 0
 ·rw [if_neg (Classical.not_not.2 he)];have hlt : i.k < c.timers.length:=by
   unfold Kn.timerE at he
   rcases Int.lt_or_le i.k c.timers.length with a | a
   ·exact a
   ·rw [if_pos a] at he;omega
  have hk:=hi.k.1;have h1:=z5n h (128 + i.k);refine zl (z0v ?_ hw _ ⟨by simp,by simp⟩) _ _ _ _
  split
  ·exact z4p h1 ⟨by omega,fun a=>by omega,fun a b=>by omega,fun _=>by omega⟩
  ·exact h1
 ·rw [if_pos he];refine z05 h hw i ?_;unfold Kn.timerE;repeat' split
  all_goals exact ⟨by simp,by simp⟩
theorem z3w {a b n : Nat} (hb : b < 2 ^ n) : a &&& b < 2 ^ n:=Nat.and_lt_two_pow a hb
theorem zfz (h : Inv c K) (w : Nat) : (K.ln.let_ w).mask < 2 ^ c.ls.length:=by
 have : K.ln.all < 2 ^ c.ls.length:=by rw [h.all];have:=Nat.two_pow_pos c.ls.length;omega
 exact z3w this
theorem z8k (h : Inv c K) {who : Nat} (hw : z3u c who) (hc : who < 64 → z20 c K who) {i : Ins} (hi : zI i) (hm : 64 ≤ who → i.op = 27 ∨ i.op = 28 → i.d = 1) {value : Int} (hv : zG value) : Inv c (K.shared c who i value):=by
 unfold Kn.shared
 split
 ·have h1 : Inv c { K with reads:=(K.reads + 1) % 18446744073709551616 }:={ h with rds:=⟨Int.emod_nonneg _ (by decide),Int.emod_lt_of_pos _ (by decide)⟩ };exact zl (z0v h1 hw _ hv) _ _ _ _
 split
 ·exact zl h _ _ _ _
 split
 ·exact { h with msk:=zfz h _ }
 split
 ·exact z0v h hw _ ⟨by omega,by omega⟩
 split
 ·exact z0v h hw _ ⟨Int.emod_nonneg _ (by decide),Int.emod_lt_of_pos _ (by decide)⟩
 split
 ·split
  ·exact z05 h hw i ⟨by simp,by simp⟩
  ·rename_i hlt
   split
   ·refine z05 h hw i ?_;unfold Kn.postE postE;repeat' split
    all_goals exact ⟨by simp,by simp⟩
   ·exact z0v (z8X h _ (by have:=hi.k.1;omega)) hw _ ⟨by simp,by simp⟩
 split
 ·rename_i e
  split
  ·exact z05 h hw i ⟨by simp,by simp⟩
  ·rename_i hlt
   split
   ·exact zhq h hw hc hi (fun a=>hm a e) (by omega)
   ·exact zho h hw hc hi (fun a=>hm a e) (by omega)
 split
 ·exact zfc h hw hi
 ·exact h
theorem zeV {i : Ins} (h : z2K i = 0) (hu : (z0x i.op).testBit 3 = false) : i.d = 0:=by
 unfold z2K at h
 split at h
 ·omega
 ·split at h
  ·rename_i h2
   unfold z8e at h2;simp only [Bool.and_eq_true,hu,Bool.false_or] at h2;exact of_decide_eq_true h2.1.1.2
  ·omega
theorem z8Y (h : Inv c K) {t : Nat} (ht : t < c.ts.length) (hc : z20 c K t) {i : Ins} (hi : zI i) {value : Int} (hv : zG value) : Inv c (K.serveTask c t i value):=by
 unfold Kn.serveTask
 split
 ·rename_i e;exact zhm h ht hc hi (zeV hi.form (by rw [e];decide))
 split
 ·exact zdQ h ht
 split
 ·exact zf8 h ht hc hi
 split
 ·rename_i e;exact zfb h ht hc hi (zeV hi.form (by rw [e];decide))
 split
 ·exact zfd h t
 split
 ·exact zhn h ht hc.st
 ·exact z8k h (zey h ht) (fun _=>hc) hi (fun a=>by have:=h.cf.nt;omega) hv
structure zjy (x : Cx) : Prop where
 rg : ∀ n,zG (x.rg.get n)
 mem : ∀ w ∈ x.mem,zG w
theorem z9w (n : Int) : zG (n % 4294967296):=⟨Int.emod_nonneg _ (by decide),Int.emod_lt_of_pos _ (by decide)⟩
theorem zch {n : Nat} (h : n < 4294967296) : zG (n : Int):=⟨by omega,by omega⟩
theorem zeg {op b d x : Int} (hb : zG b) (hd : zG d) (h : z1T op b d = some x) : zG x:=by
 have hbn : b.toNat < 2 ^ 32:=by have:=hb.2;have:=hb.1;omega
 have hdn : d.toNat < 2 ^ 32:=by have:=hd.2;have:=hd.1;omega
 unfold z1T at h
 split at h
 ·have h:=Option.some.inj h;subst h;exact z9w _
 split at h
 ·have h:=Option.some.inj h;subst h;exact z9w _
 split at h
 ·have h:=Option.some.inj h;subst h;exact z9w _
 split at h
 ·split at h
  ·cases h
  ·rename_i e
   have h:=Option.some.inj h;subst h;have hd0 : 0 < d:=by have:=hd.1;omega
   have h1 : b / d ≤ b:=Int.ediv_le_self _ hb.1;exact ⟨Int.ediv_nonneg hb.1 hd.1,by have:=hb.2;omega⟩
 split at h
 ·split at h
  ·cases h
  ·rename_i e
   have h:=Option.some.inj h;subst h;have hd0 : 0 < d:=by have:=hd.1;omega
   have h1:=Int.emod_lt_of_pos b hd0;exact ⟨Int.emod_nonneg _ (by omega),by have:=hd.2;omega⟩
 split at h
 ·have h:=Option.some.inj h;subst h;exact zch (Nat.and_lt_two_pow _ hdn)
 split at h
 ·have h:=Option.some.inj h;subst h;exact zch (Nat.or_lt_two_pow hbn hdn)
 split at h
 ·have h:=Option.some.inj h;subst h;exact zch (Nat.xor_lt_two_pow hbn hdn)
 split at h
 ·have h:=Option.some.inj h;subst h;exact z9w _
 split at h
 ·have h:=Option.some.inj h;subst h;have h2 : (0 : Int) < 2 ^ (d.toNat % 32):=Int.pow_pos (by decide);have h1 : b / 2 ^ (d.toNat % 32) ≤ b:=Int.ediv_le_self _ hb.1;exact ⟨Int.ediv_nonneg hb.1 (Int.le_of_lt h2),by have:=hb.2;omega⟩
 split at h
 ·have h:=Option.some.inj h;subst h;split <;> exact ⟨by simp,by simp⟩
 ·have h:=Option.some.inj h;subst h;split <;> exact ⟨by simp,by simp⟩
theorem zdh {x : Cx} (h : zjy x) (n : Int) {v : Int} (hv : zG v) : zjy (x.put n v).on:=⟨R8.set_rng h.rg hv _,h.mem⟩
theorem z6N {i : Ins} (hi : zI i) {x : Cx} (h : zjy x) : zjy (doI i x).2 ∧ (doI i x).2.mem.length = x.mem.length:=by
 unfold doI;have hr : ∀ n,zG (x.reg n):=fun n=>h.rg _
 split
 ·exact ⟨zdh h _ hi.k,rfl⟩
 split
 ·exact ⟨zdh h _ (hr _),rfl⟩
 split
 ·dsimp only
  split
  ·exact ⟨h,rfl⟩
  ·split
   ·exact ⟨zdh h _ (zcg h.mem _),rfl⟩
   ·exact ⟨⟨h.rg,z9x h.mem _ (hr _)⟩,by simp [Cx.on]⟩
 split
 ·exact ⟨⟨h.rg,h.mem⟩,rfl⟩
 split
 ·split
  ·exact ⟨⟨h.rg,h.mem⟩,rfl⟩
  ·exact ⟨⟨h.rg,h.mem⟩,rfl⟩
 split
 ·split
  ·exact ⟨⟨h.rg,h.mem⟩,rfl⟩
  ·exact ⟨⟨h.rg,h.mem⟩,rfl⟩
 split
 ·exact ⟨⟨h.rg,h.mem⟩,rfl⟩
 split
 ·exact ⟨h,rfl⟩
 ·rename_i n e;exact ⟨zdh h _ (zeg (hr _) (hr _) e),rfl⟩
theorem zcI {i : Ins} {x : Cx} {n : Int} (hi : zI i) (h0 : 0 ≤ x.at_) (h1 : x.at_ < n) (hj : i.op = 17 ∨ i.op = 18 ∨ i.op = 19 → i.k < n) : 0 ≤ (doI i x).2.at_ ∧ (doI i x).2.at_ ≤ n:=by
 unfold doI;have hk:=hi.k.1;have on_ : ∀ y : Cx,y.at_ = x.at_ → 0 ≤ y.on.at_ ∧ y.on.at_ ≤ n:=fun y e=>by show 0 ≤ y.at_ + 1 ∧ y.at_ + 1 ≤ n;omega
 split
 ·exact on_ _ rfl
 split
 ·exact on_ _ rfl
 split
 ·dsimp only
  split
  ·exact ⟨h0,Int.le_of_lt h1⟩
  ·split
   ·exact on_ _ rfl
   ·exact on_ _ rfl
 split
 ·rename_i e;exact ⟨hk,Int.le_of_lt (hj (.inl e))⟩
 split
 ·rename_i e
  split
  ·exact ⟨hk,Int.le_of_lt (hj (.inr (.inl e)))⟩
  ·exact on_ _ rfl
 split
 ·rename_i e
  split
  ·exact on_ _ rfl
  ·exact ⟨hk,Int.le_of_lt (hj (.inr (.inr e)))⟩
 split
 ·exact on_ _ rfl
 split
 ·exact ⟨h0,Int.le_of_lt h1⟩
 ·exact on_ _ rfl
theorem z40 {i : Ins} {n : Int} {s : Bool} (h : z1y i n s = 0) (hj : i.op = 17 ∨ i.op = 18 ∨ i.op = 19) : i.k < n:=by
 unfold z1y at h
 split at h
 ·rename_i e;exact absurd h e
 split at h
 ·omega
 split at h
 ·omega
 ·rename_i e
  have : ¬ n ≤ i.k:=fun f=>e ⟨hj,f⟩;omega
theorem z4D {i : Ins} {n : Int} {s : Bool} (h : z1y i n s = 0) : may i s = true:=by
 unfold z1y at h
 split at h
 ·rename_i e;exact absurd h e
 split at h
 ·omega
 ·rename_i e;simpa using e
theorem z3H {l : List Ins} {a last : Int} (h0 : 0 ≤ a) : (a < l.length ∧ z0j l a last = zM l a ∧ zM l a ∈ l) ∨ (l.length ≤ a ∧ z0j l a last = ⟨last,0,0,0,0,0⟩):=by
 unfold z0j
 by_cases h : a < l.length
 ·rw [if_pos h];exact .inl ⟨h,rfl,z3C h0 h⟩
 ·rw [if_neg h];exact .inr ⟨by omega,rfl⟩
theorem zjd (h : Inv c K) {t : Nat} (ht : t < c.ts.length) (hs : (K.T t).st = 1) {value : Int} (hv : zG value) : Inv c (K.go c t value):=by
 have hT:=h.T t ht;have ha:=hT.at_;have hrun:=hT.run (.inr hs);have hi:=z0k h.cf ht ha.1;have hcf:=h.cf.t t ht;unfold Kn.go;dsimp only;have h1:=zU h (zT (z0j (tcg c t).code (K.T t).at_ 37));have hl:=z3H (l:=(tcg c t).code) (a:=(K.T t).at_) (last:=37) ha.1
 split
 ·rename_i hop
  rcases hl with ⟨g1,g2,g3⟩ | ⟨_,g2⟩
  ·have hck:=(h.cf.tc t ht _ g3).1;have t64 : t < 64:=by have:=h.cf.nt;omega
   have hcx : (K.cost (zT (z0j (tcg c t).code (K.T t).at_ 37))).cx t = ⟨(K.T t).at_,(K.T t).rg,K.tm t⟩:=by unfold Kn.cx;rw [if_pos t64];rfl
   rw [hcx];have hok:=z6N hi (x:=⟨(K.T t).at_,(K.T t).rg,K.tm t⟩) ⟨hT.rg,(h.tm t ht).2⟩;have hat:=zcI hi (x:=⟨(K.T t).at_,(K.T t).rg,K.tm t⟩) (n:=(tcg c t).code.length) ha.1 g1 (fun e=>by rw [g2] at e ⊢;exact z40 hck e);generalize doI (z0j (tcg c t).code (K.T t).at_ 37) ⟨(K.T t).at_,(K.T t).rg,K.tm t⟩ = r at hok hat;have hx : z8a c t { K.T t with at_:=r.2.at_,rg:=r.2.rg }:=⟨hT.lev,hT.late,hT.job,hok.1.rg,⟨hat.1,by have:=hat.2;have:=hcf.2.2.2.2.2;show r.2.at_ ≤ 300;omega⟩,hT.st,fun _=>hat.2,by show 2 ≤ (K.T t).st → _;omega,hT.on4,hT.on5,hT.on6,hT.on⟩;have h2:=z0t h1 ht hx rfl rfl;have h3 : Inv c ((K.cost (zT (z0j (tcg c t).code (K.T t).at_ 37))).putCx t r.2):=by
    unfold Kn.putCx;rw [if_pos t64];refine { h2 with tm:=fun u hu=>?_ };show (upd K.tm t r.2.mem u).length = _ ∧ ∀ w ∈ upd K.tm t r.2.mem u,zG w;unfold upd;split
    ·rename_i e;subst e;exact ⟨by rw [hok.2];exact (h.tm u ht).1,hok.1.mem⟩
    ·exact h.tm u hu
   split
   ·exact h3
   ·have h4:=zl h3 21 t r.1 0;refine zhl h4 (z2B h4 ht ?_) 8 (.inr rfl);rw [z01];unfold Kn.putCx;rw [if_pos t64];show (upd _ _ _ _ : Ts).st = 1;rw [zK];exact hs
  ·rw [g2] at hop;simp at hop
 ·rename_i hop
  split
  ·-- halt: the task is behind its end
   have hr:=z2B h ht hs;have key : ∀ K1 : Kn,Inv c K1 → Rdy c K1 t → K1.T t = K.T t → Inv c (((K1.setT t { K1.T t with at_:=(K1.T t).at_ + 1 }).tell c 22 t 0 0).gone c t 7):=by
    intro K1 hI r e;have hT1:=hI.T t ht;have hx : z8a c t { K1.T t with at_:=(K1.T t).at_ + 1,st:=7 }:=⟨hT1.lev,hT1.late,hT1.job,hT1.rg,by rw [e];show 0 ≤ (K.T t).at_ + 1 ∧ (K.T t).at_ + 1 ≤ 300;omega,by simp,by simp,by simp,by simp,by simp,by simp,hT1.on⟩;have g:=zl (z2f hI r hx) 22 t 0 0;have g2:=z3a (z3E t (z1O K1.L t) _ (z5n g t));have e2 : ((K1.setT t { K1.T t with at_:=(K1.T t).at_ + 1 }).tell c 22 t 0 0).gone c t 7 = ((z1O K1.L t).foldl (fun (K : Kn) m=>K.give c t m) { ({ K1.setT t { K1.T t with at_:=(K1.T t).at_ + 1,st:=7 } with R:=z5F K1.R t }).tell c 22 t 0 0 with S:=z33 t ((({ K1.setT t { K1.T t with at_:=(K1.T t).at_ + 1,st:=7 } with R:=z5F K1.R t }).tell c 22 t 0 0)).S }).relevel c:=by
     unfold Kn.gone;dsimp only;rw [zbe]
     congr 2
     unfold Kn.tell Kn.setT;dsimp only
     split
     ·simp
     ·simp
    rw [e2];exact g2
   exact key _ h1 (z2B h1 ht hs) rfl
  ·rename_i hne
   rcases hl with ⟨g1,g2,g3⟩ | ⟨_,g2⟩
   ·have hx : z8a c t { K.T t with at_:=(K.T t).at_ + 1 }:=⟨hT.lev,hT.late,hT.job,hT.rg,by have:=hcf.2.2.2.2.2;show 0 ≤ (K.T t).at_ + 1 ∧ (K.T t).at_ + 1 ≤ 300;omega,hT.st,fun _=>by show (K.T t).at_ + 1 ≤ _;omega,by show 2 ≤ (K.T t).st → _;omega,hT.on4,hT.on5,hT.on6,hT.on⟩;have h2:=z0t h1 ht hx rfl rfl;refine z8Y h2 ht ⟨?_,?_⟩ hi hv
    ·show (upd _ _ _ _ : Ts).st = 1;rw [zK];exact hs
    ·show 1 ≤ (upd _ _ _ _ : Ts).at_ ∧ (upd _ _ _ _ : Ts).at_ ≤ _;rw [zK];show 1 ≤ (K.T t).at_ + 1 ∧ (K.T t).at_ + 1 ≤ _;omega
   ·rw [g2] at hne;exact absurd rfl hne
theorem zai (h : Inv c K) {value : Int} (hv : zG value) : Inv c (K.dispatch c value):=by
 unfold Kn.dispatch
 cases hf : z0h K.R with
 | none =>
  dsimp only
  split
  ·exact zU h 1
  ·have g : Inv c { (K.tell c 5 255 K.run 0).cost 10 with run:=255 }:={ zU (zl h 5 255 K.run 0) 10 with run:=.inl rfl };exact zU g 1
 | some t =>
  obtain ⟨l,hl⟩:=z0q hf;obtain ⟨ht,hs⟩:=h.rdy l t hl;dsimp only
  split
  ·exact zjd h ht hs hv
  ·have g : Inv c { (K.tell c 5 t K.run 0).cost 10 with run:=(t : Int) }:={ zU (zl h 5 t K.run 0) 10 with run:=.inr ⟨by show (0 : Int) ≤ t;omega,by show (t : Int) < _;omega⟩ };refine zjd g ht ?_ hv;show ((Kn.tell _ _ _ _ _ _).T t).st = 1;rw [z01];exact hs
end
theorem zfK {n : Nat} (h0 : n ≠ 0) (h : n < 4294967296) : n.testBit (low n) = true ∧ low n < 32 ∧ ∀ k,k < low n → n.testBit k = false:=by
 unfold low
 cases e : (List.range 32).find? fun i=>n.testBit i with
 | none =>
  exfalso
  apply h0;apply Nat.eq_of_testBit_eq;intro i;rw [Nat.zero_testBit]
  rcases Nat.lt_or_ge i 32 with a | a
  ·rw [List.find?_eq_none] at e;have:=e i (List.mem_range.2 a)
   simpa using this
  ·exact Nat.testBit_lt_two_pow (Nat.lt_of_lt_of_le h (Nat.pow_le_pow_right (by decide : 0 < 2) a : 2 ^ 32 ≤ 2 ^ i))
 | some l =>
  obtain ⟨h1,h2,h3⟩:=z0m e;exact ⟨h2,h1,h3⟩
theorem zfL {n m : Nat} (h0 : n ≠ 0) (h : n < 2 ^ m) (hm : m ≤ 32) : low n < m:=by
 have h32 : n < 4294967296:=Nat.lt_of_lt_of_le h (Nat.pow_le_pow_right (by decide) hm : 2 ^ m ≤ 2 ^ 32);obtain ⟨h1,_,_⟩:=zfK h0 h32
 rcases Nat.lt_or_ge (low n) m with a | a
 ·exact a
 ·rw [Nat.testBit_lt_two_pow (Nat.lt_of_lt_of_le h (Nat.pow_le_pow_right (by decide) a))] at h1;cases h1
theorem zc9 (n : Nat) : zG (R8.get r80 n):=by
 have h : R8.get r80 n = 0:=by
  match n with
  | 0=>rfl
  | 1=>rfl
  | 2=>rfl
  | 3=>rfl
  | 4=>rfl
  | 5=>rfl
  | 6=>rfl
  | n + 7=>rfl
 rw [h];exact ⟨by simp,by simp⟩
section
variable {c : Cf} {K : Kn}
theorem zcW (h : Inv c K) {l : Ln} (h1 : l.all = K.ln.all) (h2 : l.pending < 2 ^ c.ls.length) (h3 : l.mask < 2 ^ c.ls.length) (h4 : l.active = 255 ∨ (0 ≤ l.active ∧ l.active < c.ls.length ∧ K.iat ≤ (lcg c l.active.toNat).code.length)) : Inv c { K with ln:=l } :=
 { h with act:=h4,all:=h1.trans h.all,pnd:=h2,msk:=h3 }
theorem z8i (h : Inv c K) : Inv c { K with ln:=K.ln.leave }:=zcW h rfl h.pnd h.msk (.inl rfl)
theorem zk7 (h : Inv c K) (n : Nat) : Inv c { K with ln:=K.ln.bar n }:=zcW h rfl h.pnd (Nat.lt_of_le_of_lt Nat.and_le_left h.msk) h.act
theorem zfa (h : Inv c K) (ha : K.ln.active ≠ 255) {value : Int} (hv : zG value) : Inv c (K.serve c K.ln.active.toNat value):=by
 obtain ⟨a1,a2,a3⟩:=h.act.resolve_left ha;have hn : K.ln.active.toNat < c.ls.length:=by omega
 have hi:=z1k h.cf hn h.iat.1;have hl:=z3H (l:=(lcg c K.ln.active.toNat).code) (a:=K.iat) (last:=38) h.iat.1;have hcf:=h.cf.l _ hn;generalize hnn : K.ln.active.toNat = n at *;unfold Kn.serve;dsimp only;have h1:=zU h (zT (z0j (lcg c n).code K.iat 38));have n64 : ¬ 64 + n < 64:=by omega
 have e64 : 64 + n - 64 = n:=by omega
 split
 ·rename_i hop
  rcases hl with ⟨g1,g2,g3⟩ | ⟨_,g2⟩
  ·have hck:=(h.cf.lc n hn _ g3).1;have hcx : (K.cost (zT (z0j (lcg c n).code K.iat 38))).cx (64 + n) = ⟨K.iat,K.irg,K.mems n⟩:=by unfold Kn.cx;rw [if_neg n64,e64];rfl
   rw [hcx];have hok:=z6N hi (x:=⟨K.iat,K.irg,K.mems n⟩) ⟨h.irg,(h.mems n hn).2⟩;have hat:=zcI hi (x:=⟨K.iat,K.irg,K.mems n⟩) (n:=(lcg c n).code.length) h.iat.1 g1 (fun e=>by rw [g2] at e ⊢;exact z40 hck e);generalize doI (z0j (lcg c n).code K.iat 38) ⟨K.iat,K.irg,K.mems n⟩ = r at hok hat;have h3 : Inv c ((K.cost (zT (z0j (lcg c n).code K.iat 38))).putCx (64 + n) r.2):=by
    unfold Kn.putCx;rw [if_neg n64];refine { h1 with mems:=fun u hu=>?_,irg:=hok.1.rg,iat:=⟨hat.1,?_⟩,act:=.inr ⟨a1,a2,?_⟩ }
    ·show (upd K.mems (64 + n - 64) r.2.mem u).length = _ ∧ ∀ w ∈ upd K.mems (64 + n - 64) r.2.mem u,zG w;rw [e64];unfold upd;split
     ·rename_i e;subst e;exact ⟨by rw [hok.2];exact (h.mems u hu).1,hok.1.mem⟩
     ·exact h.mems u hu
    ·have:=hat.2;show r.2.at_ ≤ 300;omega
    ·show r.2.at_ ≤ ((lcg c K.ln.active.toNat).code.length : Int);rw [hnn];exact hat.2
   split
   ·exact h3
   ·exact z8i (zl (zk7 (zl h3 21 (64 + n) r.1 0) n) 4 n 0 0)
  ·rw [g2] at hop;simp at hop
 ·rename_i hop
  split
  ·exact z8i (zl h1 4 n 0 0)
  ·rename_i hne
   rcases hl with ⟨g1,g2,g3⟩ | ⟨_,g2⟩
   ·have hck:=(h.cf.lc n hn _ g3).1;have h2 : Inv c { K.cost (zT (z0j (lcg c n).code K.iat 38)) with iat:=K.iat + 1 }:={ h1 with iat:=⟨by have:=h.iat.1;show 0 ≤ K.iat + 1;omega,by show K.iat + 1 ≤ 300;omega⟩,act:=.inr ⟨a1,a2,by show K.iat + 1 ≤ ((lcg c K.ln.active.toNat).code.length : Int);rw [hnn];omega⟩ };refine z8k h2 (.inr ⟨by omega,by omega⟩) (fun a=>absurd a n64) hi (fun _ e=>?_) hv;have hm:=z4D hck;rw [← g2] at hm;unfold may at hm;rw [if_neg hne] at hm
    simpa [e] using hm
   ·rw [g2] at hne;exact absurd rfl hne
theorem zk6 (h : Inv c K) {value : Int} (hv : zG value) : Inv c (K.act c value):=by
 unfold Kn.act
 split
 ·exact h
 split
 ·rename_i ha;exact zfa h ha hv
 split
 ·rename_i hr
  have hr' : K.ln.active = 255 ∧ K.ln.pending &&& K.ln.mask ≠ 0:=by unfold Ln.ready at hr;simpa using hr
  have hsm : K.ln.pending &&& K.ln.mask < 2 ^ c.ls.length:=z3w h.msk;have hlow : low (K.ln.pending &&& K.ln.mask) < c.ls.length:=zfL hr'.2 hsm (by have:=h.cf.nl;omega);have he : K.ln.enter = { K.ln with active:=low (K.ln.pending &&& K.ln.mask),pending:=K.ln.pending &&& (4294967295 - 2 ^ low (K.ln.pending &&& K.ln.mask)) }:=by unfold Ln.enter;rw [if_pos hr]
  have h0 : Inv c { K with iat:=0,irg:=r80 }:=by
   refine { h with iat:=⟨Int.le_refl _,by show (0 : Int) ≤ 300;decide⟩,irg:=zc9,act:=?_ }
   rcases h.act with a | ⟨a,b,d⟩
   ·exact .inl a
   ·exact .inr ⟨a,b,by show (0 : Int) ≤ _;omega⟩
  have h1 : Inv c { { K with iat:=0,irg:=r80 } with ln:=K.ln.enter }:=by
   refine zcW h0 (by rw [he]) (by rw [he];exact Nat.lt_of_le_of_lt Nat.and_le_left h.pnd) (by rw [he];exact h.msk) (by rw [he];exact .inr ⟨by show (0 : Int) ≤ (low _ : Nat);omega,by show ((low _ : Nat) : Int) < _;omega,by show (0 : Int) ≤ _;omega⟩)
  have h2:=zU (zl h1 3 K.ln.enter.active 0 0) 6;have e2 : { ({ K with ln:=K.ln.enter }.tell c 3 K.ln.enter.active 0 0).cost 6 with iat:=0,irg:=r80 } = ((Kn.tell { { K with iat:=0,irg:=r80 } with ln:=K.ln.enter } c 3 K.ln.enter.active 0 0).cost 6):=by
   by_cases e : z1l c.filter 3 = true
   ·simp only [Kn.tell,Kn.cost,e,if_true]
   ·simp only [Kn.tell,Kn.cost,e,if_false,Bool.false_eq_true]
  rw [e2];exact h2
 ·exact zai h hv
theorem z5o (h : Inv c K) (a b : Nat) : ∀ n,Inv c (K.raiseN c a b n)
 | 0=>h
 | n + 1=>by
  unfold Kn.raiseN;dsimp only;split
  ·exact zl (z5o h a b n) _ _ _ _
  ·exact z5o h a b n
theorem z8j (h : Inv c K) (bits : Nat) : Inv c { K with ln:=K.ln.raise bits }:=by
 refine zcW h rfl ?_ h.msk h.act;have : K.ln.all < 2 ^ c.ls.length:=by rw [h.all];have:=Nat.two_pow_pos c.ls.length;omega
 exact Nat.or_lt_two_pow h.pnd (z3w this)
theorem z71 (h : Inv c K) (bits : Nat) : Inv c (K.raise c bits):=by
 unfold Kn.raise;split
 ·exact h
 ·exact z5o (z8j h bits) _ _ _
theorem z23 (h : Inv c K) (bits : Nat) {value : Int} (hv : zG value) : Inv c (K.step c bits value) :=
 z3b (zk6 (z3b (z71 (z3b (z8Z h)) bits)) hv)
end
def zgU (c : Cf) : List Int:=(List.range c.ts.length).map fun t=>(tcg c t).lev
def z0p (c : Cf) (n : Nat) : List Ck:=(List.range n).foldl (fun S (t : Nat)=>z5B S (t : Int) (tcg c t).off) []
def zjm (room : Int) : Mq:=⟨List.replicate 64 0,0,0,room.toNat,[],[],List.replicate 64 0⟩
def z34 (c : Cf) : Kn where
 count:=c.count
 cycle:=c.cycle
 told:=[]
 S:=z0p c c.ts.length
 R:=fun _=>[]
 run:=255
 iat:=0
 irg:=r80
 mems:=fun n=>List.replicate (lcg c n).mem.toNat 0
 T:=fun t=>{ ts0 with lev:=(tcg c t).lev }
 tm:=fun t=>List.replicate (tcg c t).mem.toNat 0
 L:=z5x (zgU c) c.mutexes.toNat
 sm:=fun s=>(lg c.sems s,[])
 ml:=fun q=>zjm (lg c.queues q)
 ln:=⟨2 ^ c.ls.length - 1,0,c.mask,255⟩
 reads:=0
 stopped:=false
theorem z6J (c : Cf) : ∀ n id,has (z0p c n) id → ∃ t : Nat,t < n ∧ id = t
 | 0,id,h=>by unfold z0p at h;exact absurd h (by unfold has;simp)
 | n + 1,id,h=>by
  unfold z0p at h;rw [List.range_succ,List.foldl_append,List.foldl_cons,List.foldl_nil] at h
  rcases zc8 h with rfl | h
  ·exact ⟨n,by omega,rfl⟩
  ·obtain ⟨t,ht,e⟩:=z6J c n id h;exact ⟨t,by omega,e⟩
theorem z5e (c : Cf) : ∀ n,SOk (z0p c n)
 | 0=>zl9
 | n + 1=>by
  unfold z0p;rw [List.range_succ,List.foldl_append,List.foldl_cons,List.foldl_nil];exact z9G (z5e c n) _ _
theorem z6z (n : Nat) : ∀ w ∈ List.replicate n (0 : Int),zG w:=fun w hw=>by
 rw [List.mem_replicate] at hw;rw [hw.2];exact ⟨by simp,by simp⟩
theorem ze1 {l : List Int} {n : Nat} (h : n < l.length) : lg l n ∈ l:=by unfold lg;simp [List.getD,h]
theorem z8W {c : Cf} (hc : z7T c) : Inv c (z34 c):=by
 have hlv : ziX (zgU c):=by
  intro x hx;unfold zgU at hx;rw [List.mem_map] at hx;obtain ⟨t,ht,rfl⟩:=hx;exact (hc.t t (List.mem_range.1 ht)).1
 have hll : (zgU c).length = c.ts.length:=by simp [zgU]
 have hm:=hc.mu;have hg:=zcQ (zgU c) c.mutexes.toNat (by rw [hll];exact hc.nt) (by omega) hlv;refine { cf:=hc,cnt:=hc.cnt,cyc:=hc.cyc,rds:=⟨Int.le_refl _,by show (0 : Int) < _;decide⟩,S:=z5e c _,clk:=?_,R:=z4x.none,rdy:=fun l t h=>(by cases h),L:=hg,Ln:=hll,Lm:=?_,Lw:=?_,T:=?_,tm:=?_,mems:=?_,sm:=?_,smr:=fun s _ t h=>(by cases h),ml:=?_,mls:=fun s _ t h=>(by cases h),mlr:=fun s _ t h=>(by cases h),irg:=zc9,iat:=⟨Int.le_refl _,by show (0 : Int) ≤ _;decide⟩,act:=.inl rfl,all:=rfl,pnd:=Nat.two_pow_pos _,msk:=hc.mask,run:=.inl rfl }
 ·intro id h;obtain ⟨t,ht,rfl⟩:=z6J c _ id h;have:=hc.nt;exact ⟨by omega,fun _=>by omega,fun a=>by omega,fun a=>by omega⟩
 ·show ((List.replicate c.mutexes.toNat (255 : Int)).length : Int) = c.mutexes;rw [List.length_replicate];omega
 ·intro t ht h
  exfalso
  have : z0N (z5x (zgU c) c.mutexes.toNat) t = -1:=by
   show lg (List.replicate (zgU c).length (-1)) t = -1;unfold lg;rw [List.getD_eq_getElem?_getD,List.getElem?_replicate,if_pos (by rw [hll];exact ht)];rfl
  have h : 0 ≤ z0N (z5x (zgU c) c.mutexes.toNat) t:=h;omega
 ·intro t ht;exact ⟨(hc.t t ht).1,⟨by simp [z34],by simp [z34]⟩,⟨by simp [z34],by simp [z34]⟩,zc9,⟨by simp [z34],by simp [z34]⟩,⟨by simp [z34],by simp [z34]⟩,fun _=>by show (0 : Int) ≤ _;omega,by simp [z34],by simp [z34],by simp [z34],by simp [z34],⟨by simp [z34],by simp [z34]⟩⟩
 ·intro t ht;exact ⟨by simp [z34],z6z _⟩
 ·intro t ht;exact ⟨by simp [z34],z6z _⟩
 ·intro s hs;have:=hc.sems _ (ze1 hs);exact ⟨this.1,this.2,z2k,fun _=>rfl⟩
 ·intro q hq;have:=hc.queues _ (ze1 hq);exact ⟨zhY (by omega),⟨z6z _,z6z _⟩⟩
end Go.Proofs.YthcfimbidmogkaaGreatDoor
