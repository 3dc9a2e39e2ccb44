/-
  Parts of the proof: KernI ConfP KernS KernT Evs ReadyA KernA.
-/
import Derived.Test.YtgiiidminlhbpaaGreatDoorProg
import Derived.Deep.QuietTactic
import Derived.BigQuiet
import Derived.StillTailTactics
import Derived.Deep.DeepCutAuto
import Derived.Deep.CutBlock
import Derived.WalkSpells
import Derived.Test.YtgiiidminlhbpaaGreatDoorKD0
import Derived.Test.YtgiiidminlhbpaaGreatDoorKD1
import Derived.Test.YtgiiidminlhbpaaGreatDoorKD2
import Derived.Test.YtgiiidminlhbpaaGreatDoorKD4
set_option linter.unusedVariables false
set_option linter.unusedSimpArgs false
set_option maxHeartbeats 32000000
set_option maxRecDepth 100000
namespace Go.Proofs.YtgiiidminlhbpaaGreatDoor
open Go.RowKit Go.Sx Go.Dl Go.Lk Go.Rq Go.Au
def zG (x:Int):Prop:=0≤x∧x<4294967296
structure z7T (c:Cf):Prop where
 nt:c.ts.length≤64
 nl:c.ls.length≤16
 t:∀ t,t<c.ts.length→(0≤(tcg c t).lev∧(tcg c t).lev<32)∧(1≤(tcg c t).off∧(tcg c t).off≤1073741824)∧(0≤(tcg c t).per∧(tcg c t).per≤1073741824)∧(0≤(tcg c t).dl∧(tcg c t).dl≤1073741824)∧(0≤(tcg c t).mem∧(tcg c t).mem≤256)∧(tcg c t).code.length≤256
 tc:∀ t,t<c.ts.length→∀ i∈(tcg c t).code,z1y i (tcg c t).code.length false=0∧zG i.k
 l:∀ n,n<c.ls.length→(0≤(lcg c n).mem∧(lcg c n).mem≤256)∧(lcg c n).code.length≤256
 lc:∀ n,n<c.ls.length→∀ i∈(lcg c n).code,z1y i (lcg c n).code.length true=0∧zG i.k
 mu:0≤c.mutexes∧c.mutexes≤32
 ns:c.sems.length≤32
 sems:∀ x∈c.sems,0≤x∧x≤255
 nq:c.queues.length≤32
 queues:∀ x∈c.queues,1≤x∧x≤64
 nm:c.timers.length≤32
 timers:∀ x∈c.timers,0≤x∧x<c.sems.length
 table:0≤c.table∧c.table≤64
 mask:c.mask<2^c.ls.length
 filter:c.filter<4294967296
 charge:0≤c.charge∧c.charge≤64
 cyc:0≤c.cycle∧c.cycle<18446744073709551616
 cnt:0≤c.count∧c.count<18446744073709551616
structure zI (i:Ins):Prop where
 op:1≤i.op∧i.op≤38
 a:0≤i.a∧i.a<8
 b:0≤i.b∧i.b<8
 c:0≤i.c∧i.c<8
 d:0≤i.d∧i.d≤2
 k:zG i.k
 form:z2K i=0
theorem z9v {n:Int} {h:Bool} (e:z83 n h=true):0≤n∧n<8:=by
 unfold z83 at e;simp at e;exact e.1
theorem zcV {i:Ins} (h:z2K i=0) (hk:zG i.k):zI i:=by
 have h0:=h;unfold z2K at h
 split at h
 ·omega
 ·rename_i h1
  split at h
  ·rename_i h2
   unfold zlk at h1;simp at h1;unfold z8e at h2;simp only [Bool.and_eq_true] at h2;obtain ⟨⟨⟨⟨⟨⟨ha,hb⟩,hc⟩,hd⟩,_⟩,_⟩,_⟩:=h2;exact ⟨h1,z9v ha,z9v hb,z9v hc,of_decide_eq_true hd,hk,h0⟩
  ·omega
theorem z4o {i:Ins} {n:Int} {s:Bool} (h:z1y i n s=0) (hk:zG i.k):zI i:=by
 refine zcV ?_ hk;unfold z1y at h
 split at h
 ·rename_i e;exact absurd h e
 ·rename_i e;exact Classical.not_not.1 e
theorem z8h (op:Int) (h:op=37∨op=38):zI ⟨op,0,0,0,0,0⟩:=by
 refine zcV ?_ ⟨by simp,by simp⟩
 rcases h with rfl | rfl<;>decide
theorem z3C {l:List Ins} {n:Int} (h0:0≤n) (h:n<l.length):zM l n∈l:=by
 unfold zM;have:n.toNat<l.length:=by omega
 simp [List.getD,this]
theorem z0k {c:Cf} (hc:z7T c) {t:Nat} (ht:t<c.ts.length) {a:Int} (h0:0≤a):zI (z0j (tcg c t).code a 37):=by
 unfold z0j;split
 ·rename_i h
  have:=hc.tc t ht _ (z3C h0 h);exact z4o this.1 this.2
 ·exact z8h 37 (.inl rfl)
theorem z1k {c:Cf} (hc:z7T c) {t:Nat} (ht:t<c.ls.length) {a:Int} (h0:0≤a):zI (z0j (lcg c t).code a 38):=by
 unfold z0j;split
 ·rename_i h
  have:=hc.lc t ht _ (z3C h0 h);exact z4o this.1 this.2
 ·exact z8h 38 (.inr rfl)
structure z8a (c:Cf) (t:Nat) (x:Ts):Prop where
 lev:0≤x.lev∧x.lev<32
 late:0≤x.late∧x.late≤255
 job:zG x.job
 rg:∀ n,zG (x.rg.get n)
 at_:0≤x.at_∧x.at_≤300
 st:0≤x.st∧x.st≤8
 run:x.st=0∨x.st=1→x.at_≤(tcg c t).code.length
 blk:2≤x.st→x.st≤6→1≤x.at_∧x.at_≤(tcg c t).code.length
 on4:x.st=4→64≤x.on∧x.on<64+c.sems.length
 on5:x.st=5→96≤x.on∧x.on<96+c.queues.length
 on6:x.st=6→128≤x.on∧x.on<128+c.queues.length
 on:0≤x.on∧x.on<160
def z4Z (x:Ts):Prop:=x.st=2∨x.st=4∨x.st=5∨x.st=6
def zeH (c:Cf) (T:Nat→Ts) (id:Int):Prop :=
 0≤id∧(id<64→id<c.ts.length)∧(64≤id→id<128→id-64<c.ts.length∧z4Z (T (id-64).toNat))∧(128≤id→id-128<c.timers.length)
structure MqW (q:Mq):Prop where
 c:∀ w∈q.C,zG w
 h:∀ w∈q.H,zG w
structure Inv (c:Cf) (K:Kn):Prop where
 cf:z7T c
 cnt:0≤K.count∧K.count<18446744073709551616
 cyc:0≤K.cycle∧K.cycle<18446744073709551616
 rds:0≤K.reads∧K.reads<18446744073709551616
 S:SOk K.S
 clk:∀ id,has K.S id→zeH c K.T id
 R:z4x K.R
 rdy:∀ l t,t∈K.R l→t<c.ts.length∧(K.T t).st=1
 L:Good K.L
 Ln:K.L.own.length=c.ts.length
 Lm:(K.L.ow.length:Int)=c.mutexes
 Lw:∀ t,t<c.ts.length→0≤z0N K.L t→(K.T t).st=3
 T:∀ t,t<c.ts.length→z8a c t (K.T t)
 tm:∀ t,t<c.ts.length→(K.tm t).length=(tcg c t).mem.toNat∧∀ w∈K.tm t,zG w
 mems:∀ n,n<c.ls.length→(K.mems n).length=(lcg c n).mem.toNat∧∀ w∈K.mems n,zG w
 sm:∀ s,s<c.sems.length→z1L (K.sm s).1 (K.sm s).2
 smr:∀ s,s<c.sems.length→∀ t∈(K.sm s).2,t<c.ts.length∧(K.T t.toNat).st=4∧(K.T t.toNat).on=64+s
 ml:∀ q,q<c.queues.length→z3Z (K.ml q)∧MqW (K.ml q)
 mls:∀ q,q<c.queues.length→∀ t∈(K.ml q).S,t<c.ts.length∧(K.T t.toNat).st=5∧(K.T t.toNat).on=96+q
 mlr:∀ q,q<c.queues.length→∀ t∈(K.ml q).R,t<c.ts.length∧(K.T t.toNat).st=6∧(K.T t.toNat).on=128+q
 irg:∀ n,zG (K.irg.get n)
 iat:0≤K.iat∧K.iat≤300
 act:K.ln.active=255∨(0≤K.ln.active∧K.ln.active<c.ls.length∧K.iat≤(lcg c K.ln.active.toNat).code.length)
 all:K.ln.all=2^c.ls.length-1
 pnd:K.ln.pending<2^c.ls.length
 msk:K.ln.mask<2^c.ls.length
 run:K.run=255∨(0≤K.run∧K.run<c.ts.length)
theorem R8.set_rng {r:R8} (h:∀ n,zG (r.get n)) {v:Int} (hv:zG v) (m:Nat):∀ n,zG ((r.set m v).get n):=by
 have h0:=h 0;have h1:=h 1;have h2:=h 2;have h3:=h 3;have h4:=h 4;have h5:=h 5;have h6:=h 6;have h7:=h 7;have key:∀ a0 a1 a2 a3 a4 a5 a6 a7:Int,zG a0→zG a1→zG a2→zG a3→zG a4→zG a5→zG a6→zG a7→∀ n,zG (R8.get ⟨a0,a1,a2,a3,a4,a5,a6,a7⟩ n):=by
  intro a0 a1 a2 a3 a4 a5 a6 a7 g0 g1 g2 g3 g4 g5 g6 g7 n
  match n with
  | 0=>exact g0
  | 1=>exact g1
  | 2=>exact g2
  | 3=>exact g3
  | 4=>exact g4
  | 5=>exact g5
  | 6=>exact g6
  | n+7=>exact g7
 match m with
 | 0=>exact key _ _ _ _ _ _ _ _ hv h1 h2 h3 h4 h5 h6 h7
 | 1=>exact key _ _ _ _ _ _ _ _ h0 hv h2 h3 h4 h5 h6 h7
 | 2=>exact key _ _ _ _ _ _ _ _ h0 h1 hv h3 h4 h5 h6 h7
 | 3=>exact key _ _ _ _ _ _ _ _ h0 h1 h2 hv h4 h5 h6 h7
 | 4=>exact key _ _ _ _ _ _ _ _ h0 h1 h2 h3 hv h5 h6 h7
 | 5=>exact key _ _ _ _ _ _ _ _ h0 h1 h2 h3 h4 hv h6 h7
 | 6=>exact key _ _ _ _ _ _ _ _ h0 h1 h2 h3 h4 h5 hv h7
 | m+7=>exact key _ _ _ _ _ _ _ _ h0 h1 h2 h3 h4 h5 h6 hv
section
variable {c:Cf} {K:Kn}
@[simp] theorem zlv (kd:Nat) (a b v:Int):(K.tell c kd a b v).count=K.count:=by unfold Kn.tell;split<;>rfl
@[simp] theorem z3V (kd:Nat) (a b v:Int):(K.tell c kd a b v).S=K.S:=by unfold Kn.tell;split<;>rfl
@[simp] theorem zgF (kd:Nat) (a b v:Int):(K.tell c kd a b v).R=K.R:=by unfold Kn.tell;split<;>rfl
@[simp] theorem ziI (kd:Nat) (a b v:Int):(K.tell c kd a b v).run=K.run:=by unfold Kn.tell;split<;>rfl
@[simp] theorem ziG (kd:Nat) (a b v:Int):(K.tell c kd a b v).iat=K.iat:=by unfold Kn.tell;split<;>rfl
@[simp] theorem ziH (kd:Nat) (a b v:Int):(K.tell c kd a b v).irg=K.irg:=by unfold Kn.tell;split<;>rfl
@[simp] theorem zgG (kd:Nat) (a b v:Int):(K.tell c kd a b v).mems=K.mems:=by unfold Kn.tell;split<;>rfl
@[simp] theorem z01 (kd:Nat) (a b v:Int):(K.tell c kd a b v).T=K.T:=by unfold Kn.tell;split<;>rfl
@[simp] theorem zle (kd:Nat) (a b v:Int):(K.tell c kd a b v).tm=K.tm:=by unfold Kn.tell;split<;>rfl
@[simp] theorem zbe (kd:Nat) (a b v:Int):(K.tell c kd a b v).L=K.L:=by unfold Kn.tell;split<;>rfl
@[simp] theorem z5M (kd:Nat) (a b v:Int):(K.tell c kd a b v).sm=K.sm:=by unfold Kn.tell;split<;>rfl
@[simp] theorem z5L (kd:Nat) (a b v:Int):(K.tell c kd a b v).ml=K.ml:=by unfold Kn.tell;split<;>rfl
@[simp] theorem zld (kd:Nat) (a b v:Int):(K.tell c kd a b v).ln=K.ln:=by unfold Kn.tell;split<;>rfl
@[simp] theorem zer (kd:Nat) (a b v:Int):(K.tell c kd a b v).reads=K.reads:=by unfold Kn.tell;split<;>rfl
@[simp] theorem zc (kd:Nat) (a b v:Int):(K.tell c kd a b v).stopped=K.stopped:=by unfold Kn.tell;split<;>rfl
structure zlw (K K':Kn):Prop where
 count:K'.count=K.count
 S:K'.S=K.S
 R:K'.R=K.R
 run:K'.run=K.run
 iat:K'.iat=K.iat
 irg:K'.irg=K.irg
 mems:K'.mems=K.mems
 T:K'.T=K.T
 tm:K'.tm=K.tm
 L:K'.L=K.L
 sm:K'.sm=K.sm
 ml:K'.ml=K.ml
 ln:K'.ln=K.ln
 reads:K'.reads=K.reads
theorem zeq (kd:Nat) (a b v:Int):zlw K (K.tell c kd a b v):=by constructor<;>simp
theorem z6Z {K':Kn} (h:Inv c K) (e:zlw K K') (hy:0≤K'.cycle∧K'.cycle<18446744073709551616):Inv c K':=by
 obtain ⟨e1,e2,e3,e4,e5,e6,e7,e8,e9,e10,e11,e12,e13,e14⟩:=e;obtain ⟨a0,a1,_,a3,a4,a5,a6,a7,a8,a9,a10,a11,a12,a13,a14,a15,a16,a17,a18,a19,a20,a21,a22,a23,a24,a25,a26⟩:=h;refine ⟨a0,?_,hy,?_,?_,?_,?_,?_,?_,?_,?_,?_,?_,?_,?_,?_,?_,?_,?_,?_,?_,?_,?_,?_,?_,?_,?_⟩
 all_goals simp only [e1,e2,e3,e4,e5,e6,e7,e8,e9,e10,e11,e12,e13,e14];assumption
theorem zl (h:Inv c K) (kd:Nat) (a b v:Int):Inv c (K.tell c kd a b v):=by
 refine z6Z h (zeq kd a b v) ?_;unfold Kn.tell;split
 ·exact ⟨Int.emod_nonneg _ (by decide),Int.emod_lt_of_pos _ (by decide)⟩
 ·exact h.cyc
theorem zU (h:Inv c K) (n:Int):Inv c (K.cost n) :=
 { h with cyc:=⟨Int.emod_nonneg _ (by decide),Int.emod_lt_of_pos _ (by decide)⟩ }
theorem z2U (t:Nat) (x:Ts) (u:Nat):(K.setT t x).T u=if u=t then x else K.T u:=rfl
theorem z6p (h:Inv c K) {t:Nat} {x:Ts} (ht:t<c.ts.length) (hx:z8a c t x)
  (h1:has K.S (64+t)→z4Z x) (h2:∀ l,t∈K.R l→x.st=1) (h3:0≤z0N K.L t→x.st=3)
  (h4:∀ s,s<c.sems.length→(t:Int)∈(K.sm s).2→x.st=4∧x.on=64+s)
  (h5:∀ q,q<c.queues.length→(t:Int)∈(K.ml q).S→x.st=5∧x.on=96+q)
  (h6:∀ q,q<c.queues.length→(t:Int)∈(K.ml q).R→x.st=6∧x.on=128+q):Inv c (K.setT t x):=by
 have row:∀ {l:List Int} (_:z2F l) (u:Int) (_:u∈l),0≤u:=fun h u hu=>(h.2 u hu).1;refine { h with clk:=?_,rdy:=?_,Lw:=?_,T:=?_,smr:=?_,mls:=?_,mlr:=?_ }
 ·intro id hid;obtain ⟨c1,c2,c3,c4⟩:=h.clk id hid;refine ⟨c1,c2,fun a b=>⟨(c3 a b).1,?_⟩,c4⟩;rw [z2U]
  split
  ·rename_i e
   exact h1 (by rw [show (64:Int)+t=id by omega];exact hid)
  ·exact (c3 a b).2
 ·intro l u hu;refine ⟨(h.rdy l u hu).1,?_⟩;rw [z2U];split
  ·rename_i e;subst e;exact h2 l hu
  ·exact (h.rdy l u hu).2
 ·intro u hu ho;rw [z2U];split
  ·rename_i e;subst e;exact h3 ho
  ·exact h.Lw u hu ho
 ·intro u hu;rw [z2U];split
  ·rename_i e;subst e;exact hx
  ·exact h.T u hu
 ·intro s hs u hu;refine ⟨(h.smr s hs u hu).1,?_⟩;rw [z2U];split
  ·rename_i e
   have h0:=row (h.sm s hs).row u hu;exact h4 s hs (by rw [show (t:Int)=u by omega];exact hu)
  ·exact (h.smr s hs u hu).2
 ·intro q hq u hu;refine ⟨(h.mls q hq u hu).1,?_⟩;rw [z2U];split
  ·rename_i e
   have h0:=row (h.ml q hq).1.s u hu;exact h5 q hq (by rw [show (t:Int)=u by omega];exact hu)
  ·exact (h.mls q hq u hu).2
 ·intro q hq u hu;refine ⟨(h.mlr q hq u hu).1,?_⟩;rw [z2U];split
  ·rename_i e
   have h0:=row (h.ml q hq).1.r u hu;exact h6 q hq (by rw [show (t:Int)=u by omega];exact hu)
  ·exact (h.mlr q hq u hu).2
theorem z0t (h:Inv c K) {t:Nat} {x:Ts} (ht:t<c.ts.length) (hx:z8a c t x) (hs:x.st=(K.T t).st) (ho:x.on=(K.T t).on):Inv c (K.setT t x):=by
 refine z6p h ht hx (fun e=>?_) (fun l e=>?_) (fun e=>?_) (fun s hs' e=>?_) (fun q hq e=>?_) (fun q hq e=>?_)
 ·have:=((h.clk _ e).2.2.1 (by omega) (by have:=h.cf.nt;omega)).2;unfold z4Z at this ⊢;rw [show ((64:Int)+t-64).toNat=t by omega] at this;rw [hs];exact this
 ·rw [hs];exact (h.rdy l t e).2
 ·rw [hs];exact h.Lw t ht e
 ·have:=(h.smr s hs' _ e).2;rw [hs,ho];simpa using this
 ·have:=(h.mls q hq _ e).2;rw [hs,ho];simpa using this
 ·have:=(h.mlr q hq _ e).2;rw [hs,ho];simpa using this
end
structure Ft where
 err:Int
 part:Int
 index:Int
 at_:Int
deriving DecidableEq
abbrev ft0:Ft:=⟨0,0,0,0⟩
def inR (n lo hi:Int):Bool:=decide (lo≤n∧n≤hi)
def z1X (p:Nat→Bool) (n:Nat):Option Nat:=(List.range n).find? p
theorem z2x {p:Nat→Bool} {n:Nat} (h:z1X p n=none):∀ k,k<n→p k=false:=fun k hk=>by
 unfold z1X at h;rw [List.find?_eq_none] at h;have:=h k (List.mem_range.2 hk)
 simpa using this
theorem z38 {p:Nat→Bool} {n:Nat} (h:∀ k,k<n→p k=false):z1X p n=none:=z3z h
theorem z2y {p:Nat→Bool} {n k:Nat} (h1:k<n) (h2:p k=true) (h3:∀ j,j<k→p j=false):z1X p n=some k:=z26 h1 h2 h3
def z1V (l:List Ins) (isr:Bool) (k:Nat):Bool:=decide (z1y (zM l k) l.length isr≠0)
def z5f (l:List Ins) (isr:Bool) (part index at_:Int):Ft :=
 if 256<l.length then ⟨4,part,index,at_⟩
 else match z1X (z1V l isr) l.length with
  | none=>ft0
  | some k=>⟨z1y (zM l k) l.length isr,part,index,at_+1+k⟩
def z53 (t:Tc) (i:Int):Ft :=
 if ¬ inR t.lev 0 31 then ⟨5,1,i,1⟩
 else if ¬ inR t.off 1 1073741824 then ⟨5,1,i,2⟩
 else if ¬ inR t.per 0 1073741824 then ⟨5,1,i,3⟩
 else if ¬ inR t.dl 0 1073741824 then ⟨5,1,i,4⟩
 else if ¬ inR t.mem 0 256 then ⟨5,1,i,5⟩
 else z5f t.code false 1 i 6
def z6a (l:Lc) (i:Int):Ft :=
 if ¬ inR l.mem 0 256 then ⟨5,2,i,1⟩ else z5f l.code true 2 i 2
def z5K (c:Cf) (k:Nat):Bool:=decide ((z53 (tcg c k) k).err≠0)
def z5t (c:Cf) (k:Nat):Bool:=decide ((z6a (lcg c k) k).err≠0)
def z3I (c:Cf):Ft :=
 if 16<c.ls.length then ⟨4,2,0,0⟩
 else match z1X (z5t c) c.ls.length with
  | some k=>z6a (lcg c k) k
  | none=>ft0
def z0R (c:Cf):Ft :=
 if 64<c.ts.length then ⟨4,1,0,0⟩
 else match z1X (z5K c) c.ts.length with
  | some k=>z53 (tcg c k) k
  | none=>z3I c
def z4j (l:List Int) (lo hi:Int) (k:Nat):Bool:=!inR (lg l k) lo hi
def z84 (l:List Int) (part lo hi:Int):Ft :=
 if 32<l.length then ⟨4,part,0,0⟩
 else match z1X (z4j l lo hi) l.length with
  | none=>ft0
  | some k=>⟨5,part,k,1⟩
def z8u (ok:Bool) (part:Int):Ft:=if ok then ft0 else ⟨5,part,0,0⟩
def z86 (a b:Ft):Ft:=if a.err=0 then b else a
def z5T (c:Cf):Bool:=decide (c.mask >>> min c.ls.length 16=0)
def z5g (c:Cf):Ft :=
 z86 (z86 (z86 (z86 (z86 (z86 (z86 (z0R c) (z8u (inR c.mutexes 0 32) 3)) (z84 c.sems 4 0 255)) (z84 c.queues 5 1 64)) (z84 c.timers 6 0 (c.sems.length-1))) (z8u (inR c.table 0 64) 7)) (z8u (z5T c) 8)) (z8u (inR c.charge 0 64) 9)
structure z6B (c:Cf):Prop where
 tk:∀ t,t<c.ts.length→∀ i∈(tcg c t).code,zG i.k
 lk:∀ t,t<c.ls.length→∀ i∈(lcg c t).code,zG i.k
 mask:c.mask<4294967296
 filter:c.filter<4294967296
 cyc:0≤c.cycle∧c.cycle<18446744073709551616
 cnt:0≤c.count∧c.count<18446744073709551616
theorem z2o {a b:Ft} (h:(z86 a b).err=0):a.err=0∧b.err=0:=by
 unfold z86 at h
 split at h
 ·rename_i e;exact ⟨e,h⟩
 ·rename_i e;exact absurd h e
theorem z4g {n lo hi:Int} (h:inR n lo hi=true):lo≤n∧n≤hi:=of_decide_eq_true h
theorem z9n {z:Bool} {p:Int} (h:(z8u z p).err=0):z=true:=by
 unfold z8u at h;cases z
 ·simp at h
 ·rfl
theorem zci {l:List Int} {p lo hi:Int} (h:(z84 l p lo hi).err=0):l.length≤32∧∀ x∈l,lo≤x∧x≤hi:=by
 unfold z84 at h
 split at h
 ·exact absurd h (by simp)
 ·rename_i e
  cases f:z1X (z4j l lo hi) l.length with
  | some k=>rw [f] at h;exact absurd h (by simp)
  | none =>
   refine ⟨by omega,fun x hx=>?_⟩;obtain ⟨k,hk,rfl⟩:=List.getElem_of_mem hx;have:=z2x f k hk;unfold z4j at this;have h2:lg l k=l[k]:=by unfold lg;simp [List.getD,hk]
   rw [h2] at this;exact z4g (by simpa using this)
theorem zcE {l:List Ins} {isr:Bool} {p i a:Int} (h:(z5f l isr p i a).err=0):l.length≤256∧∀ x∈l,z1y x l.length isr=0:=by
 unfold z5f at h
 split at h
 ·exact absurd h (by simp)
 ·rename_i e
  cases f:z1X (z1V l isr) l.length with
  | some k =>
   rw [f] at h;have hb:z1V l isr k=true:=by
    have:=z0m (f:(List.range l.length).find? (z1V l isr)=some k);exact this.2.1
   exact absurd h (of_decide_eq_true hb)
  | none =>
   refine ⟨by omega,fun x hx=>?_⟩;obtain ⟨k,hk,rfl⟩:=List.getElem_of_mem hx;have:=z2x f k hk;unfold z1V at this;have h2:zM l (k:Int)=l[k]:=by unfold zM;simp [List.getD,hk]
   rw [h2] at this;exact Classical.not_not.1 (of_decide_eq_false this)
theorem zdr {t:Tc} {i:Int} (h:(z53 t i).err=0):(0≤t.lev∧t.lev<32)∧(1≤t.off∧t.off≤1073741824)∧(0≤t.per∧t.per≤1073741824)∧(0≤t.dl∧t.dl≤1073741824)∧(0≤t.mem∧t.mem≤256)∧t.code.length≤256∧∀ x∈t.code,z1y x t.code.length false=0:=by
 unfold z53 at h
 split at h
 ·exact absurd h (by simp)
 split at h
 ·exact absurd h (by simp)
 split at h
 ·exact absurd h (by simp)
 split at h
 ·exact absurd h (by simp)
 split at h
 ·exact absurd h (by simp)
 rename_i h1 h2 h3 h4 h5
 have a1:=z4g (Classical.not_not.1 h1);have a2:=z4g (Classical.not_not.1 h2);have a3:=z4g (Classical.not_not.1 h3);have a4:=z4g (Classical.not_not.1 h4);have a5:=z4g (Classical.not_not.1 h5);have a6:=zcE h;exact ⟨⟨a1.1,by omega⟩,a2,a3,a4,a5,a6⟩
theorem zfD {c:Cf} (h:(z3I c).err=0):c.ls.length≤16∧∀ n,n<c.ls.length→(0≤(lcg c n).mem∧(lcg c n).mem≤256)∧(lcg c n).code.length≤256∧∀ x∈(lcg c n).code,z1y x (lcg c n).code.length true=0:=by
 unfold z3I at h
 split at h
 ·exact absurd h (by simp)
 ·rename_i e
  cases f:z1X (z5t c) c.ls.length with
  | some k =>
   rw [f] at h;have:=z0m (f:(List.range c.ls.length).find? (z5t c)=some k);exact absurd h (of_decide_eq_true this.2.1)
  | none =>
   refine ⟨by omega,fun n hn=>?_⟩;have h1:=Classical.not_not.1 (of_decide_eq_false (z2x f n hn));unfold z6a at h1
   split at h1
   ·exact absurd h1 (by simp)
   ·rename_i h2
    exact ⟨z4g (Classical.not_not.1 h2),zcE h1⟩
theorem zaQ {c:Cf} (h:(z0R c).err=0):c.ts.length≤64∧(∀ t,t<c.ts.length→(z53 (tcg c t) t).err=0)∧(z3I c).err=0:=by
 unfold z0R at h
 split at h
 ·exact absurd h (by simp)
 ·rename_i e
  cases f:z1X (z5K c) c.ts.length with
  | some k =>
   rw [f] at h;have:=z0m (f:(List.range c.ts.length).find? (z5K c)=some k);exact absurd h (of_decide_eq_true this.2.1)
  | none =>
   rw [f] at h;exact ⟨by omega,fun t ht=>Classical.not_not.1 (of_decide_eq_false (z2x f t ht)),h⟩
theorem z4E {c:Cf} (r:z6B c) (h:(z5g c).err=0):z7T c:=by
 unfold z5g at h;obtain ⟨h,h9⟩:=z2o h;obtain ⟨h,h8⟩:=z2o h;obtain ⟨h,h7⟩:=z2o h;obtain ⟨h,h6⟩:=z2o h;obtain ⟨h,h5⟩:=z2o h;obtain ⟨h,h4⟩:=z2o h;obtain ⟨h,h3⟩:=z2o h;obtain ⟨h1,h2,h0⟩:=zaQ h;obtain ⟨l1,l2⟩:=zfD h0;have m3:=z4g (z9n h3);have m4:=zci h4;have m5:=zci h5;have m6:=zci h6;have m7:=z4g (z9n h7);have m8:c.mask >>> min c.ls.length 16=0:=of_decide_eq_true (z9n h8);have m9:=z4g (z9n h9);rw [Nat.min_eq_left l1] at m8;refine ⟨h1,l1,fun t ht=>?_,fun t ht i hi=>?_,fun n hn=>?_,fun n hn i hi=>?_,m3,m4.1,m4.2,m5.1,m5.2,m6.1,fun x hx=>?_,m7,?_,r.filter,m9,r.cyc,r.cnt⟩
 ·obtain ⟨a1,a2,a3,a4,a5,a6,_⟩:=zdr (h2 t ht);exact ⟨a1,a2,a3,a4,a5,a6⟩
 ·obtain ⟨_,_,_,_,_,_,a7⟩:=zdr (h2 t ht);exact ⟨a7 i hi,r.tk t ht i hi⟩
 ·obtain ⟨a1,a2,_⟩:=l2 n hn;exact ⟨a1,a2⟩
 ·obtain ⟨_,_,a3⟩:=l2 n hn;exact ⟨a3 i hi,r.lk n hn i hi⟩
 ·have:=m6.2 x hx;exact ⟨this.1,by omega⟩
 ·rw [Nat.shiftRight_eq_div_pow] at m8;exact Nat.lt_of_not_le fun hle=>by have:=Nat.div_pos hle (Nat.two_pow_pos _);omega
def Kn.wCount (K:Kn) (x:Int):Kn:={ K with count:=x }
def Kn.wCycle (K:Kn) (x:Int):Kn:={ K with cycle:=x }
def Kn.wTold (K:Kn) (x:List Ev):Kn:={ K with told:=x }
def Kn.wS (K:Kn) (x:List Ck):Kn:={ K with S:=x }
def Kn.wR (K:Kn) (x:Nat→List Nat):Kn:={ K with R:=x }
def Kn.wRun (K:Kn) (x:Int):Kn:={ K with run:=x }
def Kn.wIat (K:Kn) (x:Int):Kn:={ K with iat:=x }
def Kn.wIrg (K:Kn) (x:R8):Kn:={ K with irg:=x }
def Kn.wMems (K:Kn) (x:Nat→List Int):Kn:={ K with mems:=x }
def Kn.wT (K:Kn) (x:Nat→Ts):Kn:={ K with T:=x }
def Kn.wTm (K:Kn) (x:Nat→List Int):Kn:={ K with tm:=x }
def Kn.wL (K:Kn) (x:Lk):Kn:={ K with L:=x }
def Kn.wSm (K:Kn) (x:Nat→Int×List Int):Kn:={ K with sm:=x }
def Kn.wMl (K:Kn) (x:Nat→Mq):Kn:={ K with ml:=x }
def Kn.wLn (K:Kn) (x:Ln):Kn:={ K with ln:=x }
def Kn.wReads (K:Kn) (x:Int):Kn:={ K with reads:=x }
def Kn.wStopped (K:Kn) (x:Bool):Kn:={ K with stopped:=x }
@[simp,go_sem] theorem Kn.wCount_count (K:Kn) (x:Int):(K.wCount x).count=x:=rfl
@[simp,go_sem] theorem Kn.wCount_cycle (K:Kn) (x:Int):(K.wCount x).cycle=K.cycle:=rfl
@[simp,go_sem] theorem Kn.wCount_told (K:Kn) (x:Int):(K.wCount x).told=K.told:=rfl
@[simp,go_sem] theorem Kn.wCount_S (K:Kn) (x:Int):(K.wCount x).S=K.S:=rfl
@[simp,go_sem] theorem Kn.wCount_R (K:Kn) (x:Int):(K.wCount x).R=K.R:=rfl
@[simp,go_sem] theorem Kn.wCount_run (K:Kn) (x:Int):(K.wCount x).run=K.run:=rfl
@[simp,go_sem] theorem Kn.wCount_iat (K:Kn) (x:Int):(K.wCount x).iat=K.iat:=rfl
@[simp,go_sem] theorem Kn.wCount_irg (K:Kn) (x:Int):(K.wCount x).irg=K.irg:=rfl
@[simp,go_sem] theorem Kn.wCount_mems (K:Kn) (x:Int):(K.wCount x).mems=K.mems:=rfl
@[simp,go_sem] theorem Kn.wCount_T (K:Kn) (x:Int):(K.wCount x).T=K.T:=rfl
@[simp,go_sem] theorem Kn.wCount_tm (K:Kn) (x:Int):(K.wCount x).tm=K.tm:=rfl
@[simp,go_sem] theorem Kn.wCount_L (K:Kn) (x:Int):(K.wCount x).L=K.L:=rfl
@[simp,go_sem] theorem Kn.wCount_sm (K:Kn) (x:Int):(K.wCount x).sm=K.sm:=rfl
@[simp,go_sem] theorem Kn.wCount_ml (K:Kn) (x:Int):(K.wCount x).ml=K.ml:=rfl
@[simp,go_sem] theorem Kn.wCount_ln (K:Kn) (x:Int):(K.wCount x).ln=K.ln:=rfl
@[simp,go_sem] theorem Kn.wCount_reads (K:Kn) (x:Int):(K.wCount x).reads=K.reads:=rfl
@[simp,go_sem] theorem Kn.wCount_stopped (K:Kn) (x:Int):(K.wCount x).stopped=K.stopped:=rfl
@[simp] theorem Kn.wCount_self (K:Kn):K.wCount K.count=K:=rfl
@[simp] theorem Kn.wCount_wCount (K:Kn) (x y:Int):(K.wCount x).wCount y=K.wCount y:=rfl
@[simp,go_sem] theorem Kn.wCycle_count (K:Kn) (x:Int):(K.wCycle x).count=K.count:=rfl
@[simp,go_sem] theorem Kn.wCycle_cycle (K:Kn) (x:Int):(K.wCycle x).cycle=x:=rfl
@[simp,go_sem] theorem Kn.wCycle_told (K:Kn) (x:Int):(K.wCycle x).told=K.told:=rfl
@[simp,go_sem] theorem Kn.wCycle_S (K:Kn) (x:Int):(K.wCycle x).S=K.S:=rfl
@[simp,go_sem] theorem Kn.wCycle_R (K:Kn) (x:Int):(K.wCycle x).R=K.R:=rfl
@[simp,go_sem] theorem Kn.wCycle_run (K:Kn) (x:Int):(K.wCycle x).run=K.run:=rfl
@[simp,go_sem] theorem Kn.wCycle_iat (K:Kn) (x:Int):(K.wCycle x).iat=K.iat:=rfl
@[simp,go_sem] theorem Kn.wCycle_irg (K:Kn) (x:Int):(K.wCycle x).irg=K.irg:=rfl
@[simp,go_sem] theorem Kn.wCycle_mems (K:Kn) (x:Int):(K.wCycle x).mems=K.mems:=rfl
@[simp,go_sem] theorem Kn.wCycle_T (K:Kn) (x:Int):(K.wCycle x).T=K.T:=rfl
@[simp,go_sem] theorem Kn.wCycle_tm (K:Kn) (x:Int):(K.wCycle x).tm=K.tm:=rfl
@[simp,go_sem] theorem Kn.wCycle_L (K:Kn) (x:Int):(K.wCycle x).L=K.L:=rfl
@[simp,go_sem] theorem Kn.wCycle_sm (K:Kn) (x:Int):(K.wCycle x).sm=K.sm:=rfl
@[simp,go_sem] theorem Kn.wCycle_ml (K:Kn) (x:Int):(K.wCycle x).ml=K.ml:=rfl
@[simp,go_sem] theorem Kn.wCycle_ln (K:Kn) (x:Int):(K.wCycle x).ln=K.ln:=rfl
@[simp,go_sem] theorem Kn.wCycle_reads (K:Kn) (x:Int):(K.wCycle x).reads=K.reads:=rfl
@[simp,go_sem] theorem Kn.wCycle_stopped (K:Kn) (x:Int):(K.wCycle x).stopped=K.stopped:=rfl
@[simp] theorem Kn.wCycle_self (K:Kn):K.wCycle K.cycle=K:=rfl
@[simp] theorem Kn.wCycle_wCycle (K:Kn) (x y:Int):(K.wCycle x).wCycle y=K.wCycle y:=rfl
@[simp,go_sem] theorem Kn.wTold_count (K:Kn) (x:List Ev):(K.wTold x).count=K.count:=rfl
@[simp,go_sem] theorem Kn.wTold_cycle (K:Kn) (x:List Ev):(K.wTold x).cycle=K.cycle:=rfl
@[simp,go_sem] theorem Kn.wTold_told (K:Kn) (x:List Ev):(K.wTold x).told=x:=rfl
@[simp,go_sem] theorem Kn.wTold_S (K:Kn) (x:List Ev):(K.wTold x).S=K.S:=rfl
@[simp,go_sem] theorem Kn.wTold_R (K:Kn) (x:List Ev):(K.wTold x).R=K.R:=rfl
@[simp,go_sem] theorem Kn.wTold_run (K:Kn) (x:List Ev):(K.wTold x).run=K.run:=rfl
@[simp,go_sem] theorem Kn.wTold_iat (K:Kn) (x:List Ev):(K.wTold x).iat=K.iat:=rfl
@[simp,go_sem] theorem Kn.wTold_irg (K:Kn) (x:List Ev):(K.wTold x).irg=K.irg:=rfl
@[simp,go_sem] theorem Kn.wTold_mems (K:Kn) (x:List Ev):(K.wTold x).mems=K.mems:=rfl
@[simp,go_sem] theorem Kn.wTold_T (K:Kn) (x:List Ev):(K.wTold x).T=K.T:=rfl
@[simp,go_sem] theorem Kn.wTold_tm (K:Kn) (x:List Ev):(K.wTold x).tm=K.tm:=rfl
@[simp,go_sem] theorem Kn.wTold_L (K:Kn) (x:List Ev):(K.wTold x).L=K.L:=rfl
@[simp,go_sem] theorem Kn.wTold_sm (K:Kn) (x:List Ev):(K.wTold x).sm=K.sm:=rfl
@[simp,go_sem] theorem Kn.wTold_ml (K:Kn) (x:List Ev):(K.wTold x).ml=K.ml:=rfl
@[simp,go_sem] theorem Kn.wTold_ln (K:Kn) (x:List Ev):(K.wTold x).ln=K.ln:=rfl
@[simp,go_sem] theorem Kn.wTold_reads (K:Kn) (x:List Ev):(K.wTold x).reads=K.reads:=rfl
@[simp,go_sem] theorem Kn.wTold_stopped (K:Kn) (x:List Ev):(K.wTold x).stopped=K.stopped:=rfl
@[simp] theorem Kn.wTold_self (K:Kn):K.wTold K.told=K:=rfl
@[simp] theorem Kn.wTold_wTold (K:Kn) (x y:List Ev):(K.wTold x).wTold y=K.wTold y:=rfl
@[simp,go_sem] theorem Kn.wS_count (K:Kn) (x:List Ck):(K.wS x).count=K.count:=rfl
@[simp,go_sem] theorem Kn.wS_cycle (K:Kn) (x:List Ck):(K.wS x).cycle=K.cycle:=rfl
@[simp,go_sem] theorem Kn.wS_told (K:Kn) (x:List Ck):(K.wS x).told=K.told:=rfl
@[simp,go_sem] theorem Kn.wS_S (K:Kn) (x:List Ck):(K.wS x).S=x:=rfl
@[simp,go_sem] theorem Kn.wS_R (K:Kn) (x:List Ck):(K.wS x).R=K.R:=rfl
@[simp,go_sem] theorem Kn.wS_run (K:Kn) (x:List Ck):(K.wS x).run=K.run:=rfl
@[simp,go_sem] theorem Kn.wS_iat (K:Kn) (x:List Ck):(K.wS x).iat=K.iat:=rfl
@[simp,go_sem] theorem Kn.wS_irg (K:Kn) (x:List Ck):(K.wS x).irg=K.irg:=rfl
@[simp,go_sem] theorem Kn.wS_mems (K:Kn) (x:List Ck):(K.wS x).mems=K.mems:=rfl
@[simp,go_sem] theorem Kn.wS_T (K:Kn) (x:List Ck):(K.wS x).T=K.T:=rfl
@[simp,go_sem] theorem Kn.wS_tm (K:Kn) (x:List Ck):(K.wS x).tm=K.tm:=rfl
@[simp,go_sem] theorem Kn.wS_L (K:Kn) (x:List Ck):(K.wS x).L=K.L:=rfl
@[simp,go_sem] theorem Kn.wS_sm (K:Kn) (x:List Ck):(K.wS x).sm=K.sm:=rfl
@[simp,go_sem] theorem Kn.wS_ml (K:Kn) (x:List Ck):(K.wS x).ml=K.ml:=rfl
@[simp,go_sem] theorem Kn.wS_ln (K:Kn) (x:List Ck):(K.wS x).ln=K.ln:=rfl
@[simp,go_sem] theorem Kn.wS_reads (K:Kn) (x:List Ck):(K.wS x).reads=K.reads:=rfl
@[simp,go_sem] theorem Kn.wS_stopped (K:Kn) (x:List Ck):(K.wS x).stopped=K.stopped:=rfl
@[simp] theorem Kn.wS_self (K:Kn):K.wS K.S=K:=rfl
@[simp] theorem Kn.wS_wS (K:Kn) (x y:List Ck):(K.wS x).wS y=K.wS y:=rfl
@[simp,go_sem] theorem Kn.wR_count (K:Kn) (x:Nat→List Nat):(K.wR x).count=K.count:=rfl
@[simp,go_sem] theorem Kn.wR_cycle (K:Kn) (x:Nat→List Nat):(K.wR x).cycle=K.cycle:=rfl
@[simp,go_sem] theorem Kn.wR_told (K:Kn) (x:Nat→List Nat):(K.wR x).told=K.told:=rfl
@[simp,go_sem] theorem Kn.wR_S (K:Kn) (x:Nat→List Nat):(K.wR x).S=K.S:=rfl
@[simp,go_sem] theorem Kn.wR_R (K:Kn) (x:Nat→List Nat):(K.wR x).R=x:=rfl
@[simp,go_sem] theorem Kn.wR_run (K:Kn) (x:Nat→List Nat):(K.wR x).run=K.run:=rfl
@[simp,go_sem] theorem Kn.wR_iat (K:Kn) (x:Nat→List Nat):(K.wR x).iat=K.iat:=rfl
@[simp,go_sem] theorem Kn.wR_irg (K:Kn) (x:Nat→List Nat):(K.wR x).irg=K.irg:=rfl
@[simp,go_sem] theorem Kn.wR_mems (K:Kn) (x:Nat→List Nat):(K.wR x).mems=K.mems:=rfl
@[simp,go_sem] theorem Kn.wR_T (K:Kn) (x:Nat→List Nat):(K.wR x).T=K.T:=rfl
@[simp,go_sem] theorem Kn.wR_tm (K:Kn) (x:Nat→List Nat):(K.wR x).tm=K.tm:=rfl
@[simp,go_sem] theorem Kn.wR_L (K:Kn) (x:Nat→List Nat):(K.wR x).L=K.L:=rfl
@[simp,go_sem] theorem Kn.wR_sm (K:Kn) (x:Nat→List Nat):(K.wR x).sm=K.sm:=rfl
@[simp,go_sem] theorem Kn.wR_ml (K:Kn) (x:Nat→List Nat):(K.wR x).ml=K.ml:=rfl
@[simp,go_sem] theorem Kn.wR_ln (K:Kn) (x:Nat→List Nat):(K.wR x).ln=K.ln:=rfl
@[simp,go_sem] theorem Kn.wR_reads (K:Kn) (x:Nat→List Nat):(K.wR x).reads=K.reads:=rfl
@[simp,go_sem] theorem Kn.wR_stopped (K:Kn) (x:Nat→List Nat):(K.wR x).stopped=K.stopped:=rfl
@[simp] theorem Kn.wR_self (K:Kn):K.wR K.R=K:=rfl
@[simp] theorem Kn.wR_wR (K:Kn) (x y:Nat→List Nat):(K.wR x).wR y=K.wR y:=rfl
@[simp,go_sem] theorem Kn.wRun_count (K:Kn) (x:Int):(K.wRun x).count=K.count:=rfl
@[simp,go_sem] theorem Kn.wRun_cycle (K:Kn) (x:Int):(K.wRun x).cycle=K.cycle:=rfl
@[simp,go_sem] theorem Kn.wRun_told (K:Kn) (x:Int):(K.wRun x).told=K.told:=rfl
@[simp,go_sem] theorem Kn.wRun_S (K:Kn) (x:Int):(K.wRun x).S=K.S:=rfl
@[simp,go_sem] theorem Kn.wRun_R (K:Kn) (x:Int):(K.wRun x).R=K.R:=rfl
@[simp,go_sem] theorem Kn.wRun_run (K:Kn) (x:Int):(K.wRun x).run=x:=rfl
@[simp,go_sem] theorem Kn.wRun_iat (K:Kn) (x:Int):(K.wRun x).iat=K.iat:=rfl
@[simp,go_sem] theorem Kn.wRun_irg (K:Kn) (x:Int):(K.wRun x).irg=K.irg:=rfl
@[simp,go_sem] theorem Kn.wRun_mems (K:Kn) (x:Int):(K.wRun x).mems=K.mems:=rfl
@[simp,go_sem] theorem Kn.wRun_T (K:Kn) (x:Int):(K.wRun x).T=K.T:=rfl
@[simp,go_sem] theorem Kn.wRun_tm (K:Kn) (x:Int):(K.wRun x).tm=K.tm:=rfl
@[simp,go_sem] theorem Kn.wRun_L (K:Kn) (x:Int):(K.wRun x).L=K.L:=rfl
@[simp,go_sem] theorem Kn.wRun_sm (K:Kn) (x:Int):(K.wRun x).sm=K.sm:=rfl
@[simp,go_sem] theorem Kn.wRun_ml (K:Kn) (x:Int):(K.wRun x).ml=K.ml:=rfl
@[simp,go_sem] theorem Kn.wRun_ln (K:Kn) (x:Int):(K.wRun x).ln=K.ln:=rfl
@[simp,go_sem] theorem Kn.wRun_reads (K:Kn) (x:Int):(K.wRun x).reads=K.reads:=rfl
@[simp,go_sem] theorem Kn.wRun_stopped (K:Kn) (x:Int):(K.wRun x).stopped=K.stopped:=rfl
@[simp] theorem Kn.wRun_self (K:Kn):K.wRun K.run=K:=rfl
@[simp] theorem Kn.wRun_wRun (K:Kn) (x y:Int):(K.wRun x).wRun y=K.wRun y:=rfl
@[simp,go_sem] theorem Kn.wIat_count (K:Kn) (x:Int):(K.wIat x).count=K.count:=rfl
@[simp,go_sem] theorem Kn.wIat_cycle (K:Kn) (x:Int):(K.wIat x).cycle=K.cycle:=rfl
@[simp,go_sem] theorem Kn.wIat_told (K:Kn) (x:Int):(K.wIat x).told=K.told:=rfl
@[simp,go_sem] theorem Kn.wIat_S (K:Kn) (x:Int):(K.wIat x).S=K.S:=rfl
@[simp,go_sem] theorem Kn.wIat_R (K:Kn) (x:Int):(K.wIat x).R=K.R:=rfl
@[simp,go_sem] theorem Kn.wIat_run (K:Kn) (x:Int):(K.wIat x).run=K.run:=rfl
@[simp,go_sem] theorem Kn.wIat_iat (K:Kn) (x:Int):(K.wIat x).iat=x:=rfl
@[simp,go_sem] theorem Kn.wIat_irg (K:Kn) (x:Int):(K.wIat x).irg=K.irg:=rfl
@[simp,go_sem] theorem Kn.wIat_mems (K:Kn) (x:Int):(K.wIat x).mems=K.mems:=rfl
@[simp,go_sem] theorem Kn.wIat_T (K:Kn) (x:Int):(K.wIat x).T=K.T:=rfl
@[simp,go_sem] theorem Kn.wIat_tm (K:Kn) (x:Int):(K.wIat x).tm=K.tm:=rfl
@[simp,go_sem] theorem Kn.wIat_L (K:Kn) (x:Int):(K.wIat x).L=K.L:=rfl
@[simp,go_sem] theorem Kn.wIat_sm (K:Kn) (x:Int):(K.wIat x).sm=K.sm:=rfl
@[simp,go_sem] theorem Kn.wIat_ml (K:Kn) (x:Int):(K.wIat x).ml=K.ml:=rfl
@[simp,go_sem] theorem Kn.wIat_ln (K:Kn) (x:Int):(K.wIat x).ln=K.ln:=rfl
@[simp,go_sem] theorem Kn.wIat_reads (K:Kn) (x:Int):(K.wIat x).reads=K.reads:=rfl
@[simp,go_sem] theorem Kn.wIat_stopped (K:Kn) (x:Int):(K.wIat x).stopped=K.stopped:=rfl
@[simp] theorem Kn.wIat_self (K:Kn):K.wIat K.iat=K:=rfl
@[simp] theorem Kn.wIat_wIat (K:Kn) (x y:Int):(K.wIat x).wIat y=K.wIat y:=rfl
@[simp,go_sem] theorem Kn.wIrg_count (K:Kn) (x:R8):(K.wIrg x).count=K.count:=rfl
@[simp,go_sem] theorem Kn.wIrg_cycle (K:Kn) (x:R8):(K.wIrg x).cycle=K.cycle:=rfl
@[simp,go_sem] theorem Kn.wIrg_told (K:Kn) (x:R8):(K.wIrg x).told=K.told:=rfl
@[simp,go_sem] theorem Kn.wIrg_S (K:Kn) (x:R8):(K.wIrg x).S=K.S:=rfl
@[simp,go_sem] theorem Kn.wIrg_R (K:Kn) (x:R8):(K.wIrg x).R=K.R:=rfl
@[simp,go_sem] theorem Kn.wIrg_run (K:Kn) (x:R8):(K.wIrg x).run=K.run:=rfl
@[simp,go_sem] theorem Kn.wIrg_iat (K:Kn) (x:R8):(K.wIrg x).iat=K.iat:=rfl
@[simp,go_sem] theorem Kn.wIrg_irg (K:Kn) (x:R8):(K.wIrg x).irg=x:=rfl
@[simp,go_sem] theorem Kn.wIrg_mems (K:Kn) (x:R8):(K.wIrg x).mems=K.mems:=rfl
@[simp,go_sem] theorem Kn.wIrg_T (K:Kn) (x:R8):(K.wIrg x).T=K.T:=rfl
@[simp,go_sem] theorem Kn.wIrg_tm (K:Kn) (x:R8):(K.wIrg x).tm=K.tm:=rfl
@[simp,go_sem] theorem Kn.wIrg_L (K:Kn) (x:R8):(K.wIrg x).L=K.L:=rfl
@[simp,go_sem] theorem Kn.wIrg_sm (K:Kn) (x:R8):(K.wIrg x).sm=K.sm:=rfl
@[simp,go_sem] theorem Kn.wIrg_ml (K:Kn) (x:R8):(K.wIrg x).ml=K.ml:=rfl
@[simp,go_sem] theorem Kn.wIrg_ln (K:Kn) (x:R8):(K.wIrg x).ln=K.ln:=rfl
@[simp,go_sem] theorem Kn.wIrg_reads (K:Kn) (x:R8):(K.wIrg x).reads=K.reads:=rfl
@[simp,go_sem] theorem Kn.wIrg_stopped (K:Kn) (x:R8):(K.wIrg x).stopped=K.stopped:=rfl
@[simp] theorem Kn.wIrg_self (K:Kn):K.wIrg K.irg=K:=rfl
@[simp] theorem Kn.wIrg_wIrg (K:Kn) (x y:R8):(K.wIrg x).wIrg y=K.wIrg y:=rfl
@[simp,go_sem] theorem Kn.wMems_count (K:Kn) (x:Nat→List Int):(K.wMems x).count=K.count:=rfl
@[simp,go_sem] theorem Kn.wMems_cycle (K:Kn) (x:Nat→List Int):(K.wMems x).cycle=K.cycle:=rfl
@[simp,go_sem] theorem Kn.wMems_told (K:Kn) (x:Nat→List Int):(K.wMems x).told=K.told:=rfl
@[simp,go_sem] theorem Kn.wMems_S (K:Kn) (x:Nat→List Int):(K.wMems x).S=K.S:=rfl
@[simp,go_sem] theorem Kn.wMems_R (K:Kn) (x:Nat→List Int):(K.wMems x).R=K.R:=rfl
@[simp,go_sem] theorem Kn.wMems_run (K:Kn) (x:Nat→List Int):(K.wMems x).run=K.run:=rfl
@[simp,go_sem] theorem Kn.wMems_iat (K:Kn) (x:Nat→List Int):(K.wMems x).iat=K.iat:=rfl
@[simp,go_sem] theorem Kn.wMems_irg (K:Kn) (x:Nat→List Int):(K.wMems x).irg=K.irg:=rfl
@[simp,go_sem] theorem Kn.wMems_mems (K:Kn) (x:Nat→List Int):(K.wMems x).mems=x:=rfl
@[simp,go_sem] theorem Kn.wMems_T (K:Kn) (x:Nat→List Int):(K.wMems x).T=K.T:=rfl
@[simp,go_sem] theorem Kn.wMems_tm (K:Kn) (x:Nat→List Int):(K.wMems x).tm=K.tm:=rfl
@[simp,go_sem] theorem Kn.wMems_L (K:Kn) (x:Nat→List Int):(K.wMems x).L=K.L:=rfl
@[simp,go_sem] theorem Kn.wMems_sm (K:Kn) (x:Nat→List Int):(K.wMems x).sm=K.sm:=rfl
@[simp,go_sem] theorem Kn.wMems_ml (K:Kn) (x:Nat→List Int):(K.wMems x).ml=K.ml:=rfl
@[simp,go_sem] theorem Kn.wMems_ln (K:Kn) (x:Nat→List Int):(K.wMems x).ln=K.ln:=rfl
@[simp,go_sem] theorem Kn.wMems_reads (K:Kn) (x:Nat→List Int):(K.wMems x).reads=K.reads:=rfl
@[simp,go_sem] theorem Kn.wMems_stopped (K:Kn) (x:Nat→List Int):(K.wMems x).stopped=K.stopped:=rfl
@[simp] theorem Kn.wMems_self (K:Kn):K.wMems K.mems=K:=rfl
@[simp] theorem Kn.wMems_wMems (K:Kn) (x y:Nat→List Int):(K.wMems x).wMems y=K.wMems y:=rfl
@[simp,go_sem] theorem Kn.wT_count (K:Kn) (x:Nat→Ts):(K.wT x).count=K.count:=rfl
@[simp,go_sem] theorem Kn.wT_cycle (K:Kn) (x:Nat→Ts):(K.wT x).cycle=K.cycle:=rfl
@[simp,go_sem] theorem Kn.wT_told (K:Kn) (x:Nat→Ts):(K.wT x).told=K.told:=rfl
@[simp,go_sem] theorem Kn.wT_S (K:Kn) (x:Nat→Ts):(K.wT x).S=K.S:=rfl
@[simp,go_sem] theorem Kn.wT_R (K:Kn) (x:Nat→Ts):(K.wT x).R=K.R:=rfl
@[simp,go_sem] theorem Kn.wT_run (K:Kn) (x:Nat→Ts):(K.wT x).run=K.run:=rfl
@[simp,go_sem] theorem Kn.wT_iat (K:Kn) (x:Nat→Ts):(K.wT x).iat=K.iat:=rfl
@[simp,go_sem] theorem Kn.wT_irg (K:Kn) (x:Nat→Ts):(K.wT x).irg=K.irg:=rfl
@[simp,go_sem] theorem Kn.wT_mems (K:Kn) (x:Nat→Ts):(K.wT x).mems=K.mems:=rfl
@[simp,go_sem] theorem Kn.wT_T (K:Kn) (x:Nat→Ts):(K.wT x).T=x:=rfl
@[simp,go_sem] theorem Kn.wT_tm (K:Kn) (x:Nat→Ts):(K.wT x).tm=K.tm:=rfl
@[simp,go_sem] theorem Kn.wT_L (K:Kn) (x:Nat→Ts):(K.wT x).L=K.L:=rfl
@[simp,go_sem] theorem Kn.wT_sm (K:Kn) (x:Nat→Ts):(K.wT x).sm=K.sm:=rfl
@[simp,go_sem] theorem Kn.wT_ml (K:Kn) (x:Nat→Ts):(K.wT x).ml=K.ml:=rfl
@[simp,go_sem] theorem Kn.wT_ln (K:Kn) (x:Nat→Ts):(K.wT x).ln=K.ln:=rfl
@[simp,go_sem] theorem Kn.wT_reads (K:Kn) (x:Nat→Ts):(K.wT x).reads=K.reads:=rfl
@[simp,go_sem] theorem Kn.wT_stopped (K:Kn) (x:Nat→Ts):(K.wT x).stopped=K.stopped:=rfl
@[simp] theorem Kn.wT_self (K:Kn):K.wT K.T=K:=rfl
@[simp] theorem Kn.wT_wT (K:Kn) (x y:Nat→Ts):(K.wT x).wT y=K.wT y:=rfl
@[simp,go_sem] theorem Kn.wTm_count (K:Kn) (x:Nat→List Int):(K.wTm x).count=K.count:=rfl
@[simp,go_sem] theorem Kn.wTm_cycle (K:Kn) (x:Nat→List Int):(K.wTm x).cycle=K.cycle:=rfl
@[simp,go_sem] theorem Kn.wTm_told (K:Kn) (x:Nat→List Int):(K.wTm x).told=K.told:=rfl
@[simp,go_sem] theorem Kn.wTm_S (K:Kn) (x:Nat→List Int):(K.wTm x).S=K.S:=rfl
@[simp,go_sem] theorem Kn.wTm_R (K:Kn) (x:Nat→List Int):(K.wTm x).R=K.R:=rfl
@[simp,go_sem] theorem Kn.wTm_run (K:Kn) (x:Nat→List Int):(K.wTm x).run=K.run:=rfl
@[simp,go_sem] theorem Kn.wTm_iat (K:Kn) (x:Nat→List Int):(K.wTm x).iat=K.iat:=rfl
@[simp,go_sem] theorem Kn.wTm_irg (K:Kn) (x:Nat→List Int):(K.wTm x).irg=K.irg:=rfl
@[simp,go_sem] theorem Kn.wTm_mems (K:Kn) (x:Nat→List Int):(K.wTm x).mems=K.mems:=rfl
@[simp,go_sem] theorem Kn.wTm_T (K:Kn) (x:Nat→List Int):(K.wTm x).T=K.T:=rfl
@[simp,go_sem] theorem Kn.wTm_tm (K:Kn) (x:Nat→List Int):(K.wTm x).tm=x:=rfl
@[simp,go_sem] theorem Kn.wTm_L (K:Kn) (x:Nat→List Int):(K.wTm x).L=K.L:=rfl
@[simp,go_sem] theorem Kn.wTm_sm (K:Kn) (x:Nat→List Int):(K.wTm x).sm=K.sm:=rfl
@[simp,go_sem] theorem Kn.wTm_ml (K:Kn) (x:Nat→List Int):(K.wTm x).ml=K.ml:=rfl
@[simp,go_sem] theorem Kn.wTm_ln (K:Kn) (x:Nat→List Int):(K.wTm x).ln=K.ln:=rfl
@[simp,go_sem] theorem Kn.wTm_reads (K:Kn) (x:Nat→List Int):(K.wTm x).reads=K.reads:=rfl
@[simp,go_sem] theorem Kn.wTm_stopped (K:Kn) (x:Nat→List Int):(K.wTm x).stopped=K.stopped:=rfl
@[simp] theorem Kn.wTm_self (K:Kn):K.wTm K.tm=K:=rfl
@[simp] theorem Kn.wTm_wTm (K:Kn) (x y:Nat→List Int):(K.wTm x).wTm y=K.wTm y:=rfl
@[simp,go_sem] theorem Kn.wL_count (K:Kn) (x:Lk):(K.wL x).count=K.count:=rfl
@[simp,go_sem] theorem Kn.wL_cycle (K:Kn) (x:Lk):(K.wL x).cycle=K.cycle:=rfl
@[simp,go_sem] theorem Kn.wL_told (K:Kn) (x:Lk):(K.wL x).told=K.told:=rfl
@[simp,go_sem] theorem Kn.wL_S (K:Kn) (x:Lk):(K.wL x).S=K.S:=rfl
@[simp,go_sem] theorem Kn.wL_R (K:Kn) (x:Lk):(K.wL x).R=K.R:=rfl
@[simp,go_sem] theorem Kn.wL_run (K:Kn) (x:Lk):(K.wL x).run=K.run:=rfl
@[simp,go_sem] theorem Kn.wL_iat (K:Kn) (x:Lk):(K.wL x).iat=K.iat:=rfl
@[simp,go_sem] theorem Kn.wL_irg (K:Kn) (x:Lk):(K.wL x).irg=K.irg:=rfl
@[simp,go_sem] theorem Kn.wL_mems (K:Kn) (x:Lk):(K.wL x).mems=K.mems:=rfl
@[simp,go_sem] theorem Kn.wL_T (K:Kn) (x:Lk):(K.wL x).T=K.T:=rfl
@[simp,go_sem] theorem Kn.wL_tm (K:Kn) (x:Lk):(K.wL x).tm=K.tm:=rfl
@[simp,go_sem] theorem Kn.wL_L (K:Kn) (x:Lk):(K.wL x).L=x:=rfl
@[simp,go_sem] theorem Kn.wL_sm (K:Kn) (x:Lk):(K.wL x).sm=K.sm:=rfl
@[simp,go_sem] theorem Kn.wL_ml (K:Kn) (x:Lk):(K.wL x).ml=K.ml:=rfl
@[simp,go_sem] theorem Kn.wL_ln (K:Kn) (x:Lk):(K.wL x).ln=K.ln:=rfl
@[simp,go_sem] theorem Kn.wL_reads (K:Kn) (x:Lk):(K.wL x).reads=K.reads:=rfl
@[simp,go_sem] theorem Kn.wL_stopped (K:Kn) (x:Lk):(K.wL x).stopped=K.stopped:=rfl
@[simp] theorem Kn.wL_self (K:Kn):K.wL K.L=K:=rfl
@[simp] theorem Kn.wL_wL (K:Kn) (x y:Lk):(K.wL x).wL y=K.wL y:=rfl
@[simp,go_sem] theorem Kn.wSm_count (K:Kn) (x:Nat→Int×List Int):(K.wSm x).count=K.count:=rfl
@[simp,go_sem] theorem Kn.wSm_cycle (K:Kn) (x:Nat→Int×List Int):(K.wSm x).cycle=K.cycle:=rfl
@[simp,go_sem] theorem Kn.wSm_told (K:Kn) (x:Nat→Int×List Int):(K.wSm x).told=K.told:=rfl
@[simp,go_sem] theorem Kn.wSm_S (K:Kn) (x:Nat→Int×List Int):(K.wSm x).S=K.S:=rfl
@[simp,go_sem] theorem Kn.wSm_R (K:Kn) (x:Nat→Int×List Int):(K.wSm x).R=K.R:=rfl
@[simp,go_sem] theorem Kn.wSm_run (K:Kn) (x:Nat→Int×List Int):(K.wSm x).run=K.run:=rfl
@[simp,go_sem] theorem Kn.wSm_iat (K:Kn) (x:Nat→Int×List Int):(K.wSm x).iat=K.iat:=rfl
@[simp,go_sem] theorem Kn.wSm_irg (K:Kn) (x:Nat→Int×List Int):(K.wSm x).irg=K.irg:=rfl
@[simp,go_sem] theorem Kn.wSm_mems (K:Kn) (x:Nat→Int×List Int):(K.wSm x).mems=K.mems:=rfl
@[simp,go_sem] theorem Kn.wSm_T (K:Kn) (x:Nat→Int×List Int):(K.wSm x).T=K.T:=rfl
@[simp,go_sem] theorem Kn.wSm_tm (K:Kn) (x:Nat→Int×List Int):(K.wSm x).tm=K.tm:=rfl
@[simp,go_sem] theorem Kn.wSm_L (K:Kn) (x:Nat→Int×List Int):(K.wSm x).L=K.L:=rfl
@[simp,go_sem] theorem Kn.wSm_sm (K:Kn) (x:Nat→Int×List Int):(K.wSm x).sm=x:=rfl
@[simp,go_sem] theorem Kn.wSm_ml (K:Kn) (x:Nat→Int×List Int):(K.wSm x).ml=K.ml:=rfl
@[simp,go_sem] theorem Kn.wSm_ln (K:Kn) (x:Nat→Int×List Int):(K.wSm x).ln=K.ln:=rfl
@[simp,go_sem] theorem Kn.wSm_reads (K:Kn) (x:Nat→Int×List Int):(K.wSm x).reads=K.reads:=rfl
@[simp,go_sem] theorem Kn.wSm_stopped (K:Kn) (x:Nat→Int×List Int):(K.wSm x).stopped=K.stopped:=rfl
@[simp] theorem Kn.wSm_self (K:Kn):K.wSm K.sm=K:=rfl
@[simp] theorem Kn.wSm_wSm (K:Kn) (x y:Nat→Int×List Int):(K.wSm x).wSm y=K.wSm y:=rfl
@[simp,go_sem] theorem Kn.wMl_count (K:Kn) (x:Nat→Mq):(K.wMl x).count=K.count:=rfl
@[simp,go_sem] theorem Kn.wMl_cycle (K:Kn) (x:Nat→Mq):(K.wMl x).cycle=K.cycle:=rfl
@[simp,go_sem] theorem Kn.wMl_told (K:Kn) (x:Nat→Mq):(K.wMl x).told=K.told:=rfl
@[simp,go_sem] theorem Kn.wMl_S (K:Kn) (x:Nat→Mq):(K.wMl x).S=K.S:=rfl
@[simp,go_sem] theorem Kn.wMl_R (K:Kn) (x:Nat→Mq):(K.wMl x).R=K.R:=rfl
@[simp,go_sem] theorem Kn.wMl_run (K:Kn) (x:Nat→Mq):(K.wMl x).run=K.run:=rfl
@[simp,go_sem] theorem Kn.wMl_iat (K:Kn) (x:Nat→Mq):(K.wMl x).iat=K.iat:=rfl
@[simp,go_sem] theorem Kn.wMl_irg (K:Kn) (x:Nat→Mq):(K.wMl x).irg=K.irg:=rfl
@[simp,go_sem] theorem Kn.wMl_mems (K:Kn) (x:Nat→Mq):(K.wMl x).mems=K.mems:=rfl
@[simp,go_sem] theorem Kn.wMl_T (K:Kn) (x:Nat→Mq):(K.wMl x).T=K.T:=rfl
@[simp,go_sem] theorem Kn.wMl_tm (K:Kn) (x:Nat→Mq):(K.wMl x).tm=K.tm:=rfl
@[simp,go_sem] theorem Kn.wMl_L (K:Kn) (x:Nat→Mq):(K.wMl x).L=K.L:=rfl
@[simp,go_sem] theorem Kn.wMl_sm (K:Kn) (x:Nat→Mq):(K.wMl x).sm=K.sm:=rfl
@[simp,go_sem] theorem Kn.wMl_ml (K:Kn) (x:Nat→Mq):(K.wMl x).ml=x:=rfl
@[simp,go_sem] theorem Kn.wMl_ln (K:Kn) (x:Nat→Mq):(K.wMl x).ln=K.ln:=rfl
@[simp,go_sem] theorem Kn.wMl_reads (K:Kn) (x:Nat→Mq):(K.wMl x).reads=K.reads:=rfl
@[simp,go_sem] theorem Kn.wMl_stopped (K:Kn) (x:Nat→Mq):(K.wMl x).stopped=K.stopped:=rfl
@[simp] theorem Kn.wMl_self (K:Kn):K.wMl K.ml=K:=rfl
@[simp] theorem Kn.wMl_wMl (K:Kn) (x y:Nat→Mq):(K.wMl x).wMl y=K.wMl y:=rfl
@[simp,go_sem] theorem Kn.wLn_count (K:Kn) (x:Ln):(K.wLn x).count=K.count:=rfl
@[simp,go_sem] theorem Kn.wLn_cycle (K:Kn) (x:Ln):(K.wLn x).cycle=K.cycle:=rfl
@[simp,go_sem] theorem Kn.wLn_told (K:Kn) (x:Ln):(K.wLn x).told=K.told:=rfl
@[simp,go_sem] theorem Kn.wLn_S (K:Kn) (x:Ln):(K.wLn x).S=K.S:=rfl
@[simp,go_sem] theorem Kn.wLn_R (K:Kn) (x:Ln):(K.wLn x).R=K.R:=rfl
@[simp,go_sem] theorem Kn.wLn_run (K:Kn) (x:Ln):(K.wLn x).run=K.run:=rfl
@[simp,go_sem] theorem Kn.wLn_iat (K:Kn) (x:Ln):(K.wLn x).iat=K.iat:=rfl
@[simp,go_sem] theorem Kn.wLn_irg (K:Kn) (x:Ln):(K.wLn x).irg=K.irg:=rfl
@[simp,go_sem] theorem Kn.wLn_mems (K:Kn) (x:Ln):(K.wLn x).mems=K.mems:=rfl
@[simp,go_sem] theorem Kn.wLn_T (K:Kn) (x:Ln):(K.wLn x).T=K.T:=rfl
@[simp,go_sem] theorem Kn.wLn_tm (K:Kn) (x:Ln):(K.wLn x).tm=K.tm:=rfl
@[simp,go_sem] theorem Kn.wLn_L (K:Kn) (x:Ln):(K.wLn x).L=K.L:=rfl
@[simp,go_sem] theorem Kn.wLn_sm (K:Kn) (x:Ln):(K.wLn x).sm=K.sm:=rfl
@[simp,go_sem] theorem Kn.wLn_ml (K:Kn) (x:Ln):(K.wLn x).ml=K.ml:=rfl
@[simp,go_sem] theorem Kn.wLn_ln (K:Kn) (x:Ln):(K.wLn x).ln=x:=rfl
@[simp,go_sem] theorem Kn.wLn_reads (K:Kn) (x:Ln):(K.wLn x).reads=K.reads:=rfl
@[simp,go_sem] theorem Kn.wLn_stopped (K:Kn) (x:Ln):(K.wLn x).stopped=K.stopped:=rfl
@[simp] theorem Kn.wLn_self (K:Kn):K.wLn K.ln=K:=rfl
@[simp] theorem Kn.wLn_wLn (K:Kn) (x y:Ln):(K.wLn x).wLn y=K.wLn y:=rfl
@[simp,go_sem] theorem Kn.wReads_count (K:Kn) (x:Int):(K.wReads x).count=K.count:=rfl
@[simp,go_sem] theorem Kn.wReads_cycle (K:Kn) (x:Int):(K.wReads x).cycle=K.cycle:=rfl
@[simp,go_sem] theorem Kn.wReads_told (K:Kn) (x:Int):(K.wReads x).told=K.told:=rfl
@[simp,go_sem] theorem Kn.wReads_S (K:Kn) (x:Int):(K.wReads x).S=K.S:=rfl
@[simp,go_sem] theorem Kn.wReads_R (K:Kn) (x:Int):(K.wReads x).R=K.R:=rfl
@[simp,go_sem] theorem Kn.wReads_run (K:Kn) (x:Int):(K.wReads x).run=K.run:=rfl
@[simp,go_sem] theorem Kn.wReads_iat (K:Kn) (x:Int):(K.wReads x).iat=K.iat:=rfl
@[simp,go_sem] theorem Kn.wReads_irg (K:Kn) (x:Int):(K.wReads x).irg=K.irg:=rfl
@[simp,go_sem] theorem Kn.wReads_mems (K:Kn) (x:Int):(K.wReads x).mems=K.mems:=rfl
@[simp,go_sem] theorem Kn.wReads_T (K:Kn) (x:Int):(K.wReads x).T=K.T:=rfl
@[simp,go_sem] theorem Kn.wReads_tm (K:Kn) (x:Int):(K.wReads x).tm=K.tm:=rfl
@[simp,go_sem] theorem Kn.wReads_L (K:Kn) (x:Int):(K.wReads x).L=K.L:=rfl
@[simp,go_sem] theorem Kn.wReads_sm (K:Kn) (x:Int):(K.wReads x).sm=K.sm:=rfl
@[simp,go_sem] theorem Kn.wReads_ml (K:Kn) (x:Int):(K.wReads x).ml=K.ml:=rfl
@[simp,go_sem] theorem Kn.wReads_ln (K:Kn) (x:Int):(K.wReads x).ln=K.ln:=rfl
@[simp,go_sem] theorem Kn.wReads_reads (K:Kn) (x:Int):(K.wReads x).reads=x:=rfl
@[simp,go_sem] theorem Kn.wReads_stopped (K:Kn) (x:Int):(K.wReads x).stopped=K.stopped:=rfl
@[simp] theorem Kn.wReads_self (K:Kn):K.wReads K.reads=K:=rfl
@[simp] theorem Kn.wReads_wReads (K:Kn) (x y:Int):(K.wReads x).wReads y=K.wReads y:=rfl
@[simp,go_sem] theorem Kn.wStopped_count (K:Kn) (x:Bool):(K.wStopped x).count=K.count:=rfl
@[simp,go_sem] theorem Kn.wStopped_cycle (K:Kn) (x:Bool):(K.wStopped x).cycle=K.cycle:=rfl
@[simp,go_sem] theorem Kn.wStopped_told (K:Kn) (x:Bool):(K.wStopped x).told=K.told:=rfl
@[simp,go_sem] theorem Kn.wStopped_S (K:Kn) (x:Bool):(K.wStopped x).S=K.S:=rfl
@[simp,go_sem] theorem Kn.wStopped_R (K:Kn) (x:Bool):(K.wStopped x).R=K.R:=rfl
@[simp,go_sem] theorem Kn.wStopped_run (K:Kn) (x:Bool):(K.wStopped x).run=K.run:=rfl
@[simp,go_sem] theorem Kn.wStopped_iat (K:Kn) (x:Bool):(K.wStopped x).iat=K.iat:=rfl
@[simp,go_sem] theorem Kn.wStopped_irg (K:Kn) (x:Bool):(K.wStopped x).irg=K.irg:=rfl
@[simp,go_sem] theorem Kn.wStopped_mems (K:Kn) (x:Bool):(K.wStopped x).mems=K.mems:=rfl
@[simp,go_sem] theorem Kn.wStopped_T (K:Kn) (x:Bool):(K.wStopped x).T=K.T:=rfl
@[simp,go_sem] theorem Kn.wStopped_tm (K:Kn) (x:Bool):(K.wStopped x).tm=K.tm:=rfl
@[simp,go_sem] theorem Kn.wStopped_L (K:Kn) (x:Bool):(K.wStopped x).L=K.L:=rfl
@[simp,go_sem] theorem Kn.wStopped_sm (K:Kn) (x:Bool):(K.wStopped x).sm=K.sm:=rfl
@[simp,go_sem] theorem Kn.wStopped_ml (K:Kn) (x:Bool):(K.wStopped x).ml=K.ml:=rfl
@[simp,go_sem] theorem Kn.wStopped_ln (K:Kn) (x:Bool):(K.wStopped x).ln=K.ln:=rfl
@[simp,go_sem] theorem Kn.wStopped_reads (K:Kn) (x:Bool):(K.wStopped x).reads=K.reads:=rfl
@[simp,go_sem] theorem Kn.wStopped_stopped (K:Kn) (x:Bool):(K.wStopped x).stopped=x:=rfl
@[simp] theorem Kn.wStopped_self (K:Kn):K.wStopped K.stopped=K:=rfl
@[simp] theorem Kn.wStopped_wStopped (K:Kn) (x y:Bool):(K.wStopped x).wStopped y=K.wStopped y:=rfl
theorem z2V (K:Kn) (t:Nat) (s r:Ts):(K.setT t s).setT t r=K.setT t r:=by unfold Kn.setT;simp
@[simp,go_sem] theorem z8 (K:Kn) (t:Nat) (s:Ts):(K.setT t s).T t=s:=zK _ _ _
def Kn.wSt (K:Kn) (t:Nat) (v:Int):Kn:=K.setT t { K.T t with st:=v }
def Kn.wLev (K:Kn) (t:Nat) (v:Int):Kn:=K.setT t { K.T t with lev:=v }
def Kn.wOn (K:Kn) (t:Nat) (v:Int):Kn:=K.setT t { K.T t with on:=v }
def Kn.wLate (K:Kn) (t:Nat) (v:Int):Kn:=K.setT t { K.T t with late:=v }
def Kn.wJob (K:Kn) (t:Nat) (v:Int):Kn:=K.setT t { K.T t with job:=v }
def Kn.wAt (K:Kn) (t:Nat) (v:Int):Kn:=K.setT t { K.T t with at_:=v }
def Kn.wReg (K:Kn) (t n:Nat) (v:Int):Kn:=K.setT t { K.T t with rg:=(K.T t).rg.set n v }
@[simp,go_sem] theorem Kn.wSt_count (K:Kn) (t:Nat) (v:Int):(K.wSt t v).count=K.count:=rfl
@[simp,go_sem] theorem Kn.wSt_cycle (K:Kn) (t:Nat) (v:Int):(K.wSt t v).cycle=K.cycle:=rfl
@[simp,go_sem] theorem Kn.wSt_told (K:Kn) (t:Nat) (v:Int):(K.wSt t v).told=K.told:=rfl
@[simp,go_sem] theorem Kn.wSt_S (K:Kn) (t:Nat) (v:Int):(K.wSt t v).S=K.S:=rfl
@[simp,go_sem] theorem Kn.wSt_R (K:Kn) (t:Nat) (v:Int):(K.wSt t v).R=K.R:=rfl
@[simp,go_sem] theorem Kn.wSt_run (K:Kn) (t:Nat) (v:Int):(K.wSt t v).run=K.run:=rfl
@[simp,go_sem] theorem Kn.wSt_iat (K:Kn) (t:Nat) (v:Int):(K.wSt t v).iat=K.iat:=rfl
@[simp,go_sem] theorem Kn.wSt_irg (K:Kn) (t:Nat) (v:Int):(K.wSt t v).irg=K.irg:=rfl
@[simp,go_sem] theorem Kn.wSt_mems (K:Kn) (t:Nat) (v:Int):(K.wSt t v).mems=K.mems:=rfl
@[simp,go_sem] theorem Kn.wSt_tm (K:Kn) (t:Nat) (v:Int):(K.wSt t v).tm=K.tm:=rfl
@[simp,go_sem] theorem Kn.wSt_L (K:Kn) (t:Nat) (v:Int):(K.wSt t v).L=K.L:=rfl
@[simp,go_sem] theorem Kn.wSt_sm (K:Kn) (t:Nat) (v:Int):(K.wSt t v).sm=K.sm:=rfl
@[simp,go_sem] theorem Kn.wSt_ml (K:Kn) (t:Nat) (v:Int):(K.wSt t v).ml=K.ml:=rfl
@[simp,go_sem] theorem Kn.wSt_ln (K:Kn) (t:Nat) (v:Int):(K.wSt t v).ln=K.ln:=rfl
@[simp,go_sem] theorem Kn.wSt_reads (K:Kn) (t:Nat) (v:Int):(K.wSt t v).reads=K.reads:=rfl
@[simp,go_sem] theorem Kn.wSt_stopped (K:Kn) (t:Nat) (v:Int):(K.wSt t v).stopped=K.stopped:=rfl
@[simp,go_sem] theorem Kn.wSt_T_lev (K:Kn) (t:Nat) (v:Int):((K.wSt t v).T t).lev=(K.T t).lev:=by unfold Kn.wSt;rw [z8]
@[simp,go_sem] theorem Kn.wSt_T_on (K:Kn) (t:Nat) (v:Int):((K.wSt t v).T t).on=(K.T t).on:=by unfold Kn.wSt;rw [z8]
@[simp,go_sem] theorem Kn.wSt_T_job (K:Kn) (t:Nat) (v:Int):((K.wSt t v).T t).job=(K.T t).job:=by unfold Kn.wSt;rw [z8]
@[simp,go_sem] theorem Kn.wLev_count (K:Kn) (t:Nat) (v:Int):(K.wLev t v).count=K.count:=rfl
@[simp,go_sem] theorem Kn.wLev_cycle (K:Kn) (t:Nat) (v:Int):(K.wLev t v).cycle=K.cycle:=rfl
@[simp,go_sem] theorem Kn.wLev_told (K:Kn) (t:Nat) (v:Int):(K.wLev t v).told=K.told:=rfl
@[simp,go_sem] theorem Kn.wLev_S (K:Kn) (t:Nat) (v:Int):(K.wLev t v).S=K.S:=rfl
@[simp,go_sem] theorem Kn.wLev_R (K:Kn) (t:Nat) (v:Int):(K.wLev t v).R=K.R:=rfl
@[simp,go_sem] theorem Kn.wLev_run (K:Kn) (t:Nat) (v:Int):(K.wLev t v).run=K.run:=rfl
@[simp,go_sem] theorem Kn.wLev_iat (K:Kn) (t:Nat) (v:Int):(K.wLev t v).iat=K.iat:=rfl
@[simp,go_sem] theorem Kn.wLev_irg (K:Kn) (t:Nat) (v:Int):(K.wLev t v).irg=K.irg:=rfl
@[simp,go_sem] theorem Kn.wLev_mems (K:Kn) (t:Nat) (v:Int):(K.wLev t v).mems=K.mems:=rfl
@[simp,go_sem] theorem Kn.wLev_tm (K:Kn) (t:Nat) (v:Int):(K.wLev t v).tm=K.tm:=rfl
@[simp,go_sem] theorem Kn.wLev_L (K:Kn) (t:Nat) (v:Int):(K.wLev t v).L=K.L:=rfl
@[simp,go_sem] theorem Kn.wLev_sm (K:Kn) (t:Nat) (v:Int):(K.wLev t v).sm=K.sm:=rfl
@[simp,go_sem] theorem Kn.wLev_ml (K:Kn) (t:Nat) (v:Int):(K.wLev t v).ml=K.ml:=rfl
@[simp,go_sem] theorem Kn.wLev_ln (K:Kn) (t:Nat) (v:Int):(K.wLev t v).ln=K.ln:=rfl
@[simp,go_sem] theorem Kn.wLev_reads (K:Kn) (t:Nat) (v:Int):(K.wLev t v).reads=K.reads:=rfl
@[simp,go_sem] theorem Kn.wLev_stopped (K:Kn) (t:Nat) (v:Int):(K.wLev t v).stopped=K.stopped:=rfl
@[simp,go_sem] theorem Kn.wOn_count (K:Kn) (t:Nat) (v:Int):(K.wOn t v).count=K.count:=rfl
@[simp,go_sem] theorem Kn.wOn_cycle (K:Kn) (t:Nat) (v:Int):(K.wOn t v).cycle=K.cycle:=rfl
@[simp,go_sem] theorem Kn.wOn_told (K:Kn) (t:Nat) (v:Int):(K.wOn t v).told=K.told:=rfl
@[simp,go_sem] theorem Kn.wOn_S (K:Kn) (t:Nat) (v:Int):(K.wOn t v).S=K.S:=rfl
@[simp,go_sem] theorem Kn.wOn_R (K:Kn) (t:Nat) (v:Int):(K.wOn t v).R=K.R:=rfl
@[simp,go_sem] theorem Kn.wOn_run (K:Kn) (t:Nat) (v:Int):(K.wOn t v).run=K.run:=rfl
@[simp,go_sem] theorem Kn.wOn_iat (K:Kn) (t:Nat) (v:Int):(K.wOn t v).iat=K.iat:=rfl
@[simp,go_sem] theorem Kn.wOn_irg (K:Kn) (t:Nat) (v:Int):(K.wOn t v).irg=K.irg:=rfl
@[simp,go_sem] theorem Kn.wOn_mems (K:Kn) (t:Nat) (v:Int):(K.wOn t v).mems=K.mems:=rfl
@[simp,go_sem] theorem Kn.wOn_tm (K:Kn) (t:Nat) (v:Int):(K.wOn t v).tm=K.tm:=rfl
@[simp,go_sem] theorem Kn.wOn_L (K:Kn) (t:Nat) (v:Int):(K.wOn t v).L=K.L:=rfl
@[simp,go_sem] theorem Kn.wOn_sm (K:Kn) (t:Nat) (v:Int):(K.wOn t v).sm=K.sm:=rfl
@[simp,go_sem] theorem Kn.wOn_ml (K:Kn) (t:Nat) (v:Int):(K.wOn t v).ml=K.ml:=rfl
@[simp,go_sem] theorem Kn.wOn_ln (K:Kn) (t:Nat) (v:Int):(K.wOn t v).ln=K.ln:=rfl
@[simp,go_sem] theorem Kn.wOn_reads (K:Kn) (t:Nat) (v:Int):(K.wOn t v).reads=K.reads:=rfl
@[simp,go_sem] theorem Kn.wOn_stopped (K:Kn) (t:Nat) (v:Int):(K.wOn t v).stopped=K.stopped:=rfl
@[simp,go_sem] theorem Kn.wOn_T_lev (K:Kn) (t:Nat) (v:Int):((K.wOn t v).T t).lev=(K.T t).lev:=by unfold Kn.wOn;rw [z8]
@[simp,go_sem] theorem Kn.wLate_count (K:Kn) (t:Nat) (v:Int):(K.wLate t v).count=K.count:=rfl
@[simp,go_sem] theorem Kn.wLate_cycle (K:Kn) (t:Nat) (v:Int):(K.wLate t v).cycle=K.cycle:=rfl
@[simp,go_sem] theorem Kn.wLate_told (K:Kn) (t:Nat) (v:Int):(K.wLate t v).told=K.told:=rfl
@[simp,go_sem] theorem Kn.wLate_S (K:Kn) (t:Nat) (v:Int):(K.wLate t v).S=K.S:=rfl
@[simp,go_sem] theorem Kn.wLate_R (K:Kn) (t:Nat) (v:Int):(K.wLate t v).R=K.R:=rfl
@[simp,go_sem] theorem Kn.wLate_run (K:Kn) (t:Nat) (v:Int):(K.wLate t v).run=K.run:=rfl
@[simp,go_sem] theorem Kn.wLate_iat (K:Kn) (t:Nat) (v:Int):(K.wLate t v).iat=K.iat:=rfl
@[simp,go_sem] theorem Kn.wLate_irg (K:Kn) (t:Nat) (v:Int):(K.wLate t v).irg=K.irg:=rfl
@[simp,go_sem] theorem Kn.wLate_mems (K:Kn) (t:Nat) (v:Int):(K.wLate t v).mems=K.mems:=rfl
@[simp,go_sem] theorem Kn.wLate_tm (K:Kn) (t:Nat) (v:Int):(K.wLate t v).tm=K.tm:=rfl
@[simp,go_sem] theorem Kn.wLate_L (K:Kn) (t:Nat) (v:Int):(K.wLate t v).L=K.L:=rfl
@[simp,go_sem] theorem Kn.wLate_sm (K:Kn) (t:Nat) (v:Int):(K.wLate t v).sm=K.sm:=rfl
@[simp,go_sem] theorem Kn.wLate_ml (K:Kn) (t:Nat) (v:Int):(K.wLate t v).ml=K.ml:=rfl
@[simp,go_sem] theorem Kn.wLate_ln (K:Kn) (t:Nat) (v:Int):(K.wLate t v).ln=K.ln:=rfl
@[simp,go_sem] theorem Kn.wLate_reads (K:Kn) (t:Nat) (v:Int):(K.wLate t v).reads=K.reads:=rfl
@[simp,go_sem] theorem Kn.wLate_stopped (K:Kn) (t:Nat) (v:Int):(K.wLate t v).stopped=K.stopped:=rfl
@[simp,go_sem] theorem Kn.wLate_T_late (K:Kn) (t:Nat) (v:Int):((K.wLate t v).T t).late=v:=by unfold Kn.wLate;rw [z8]
@[simp,go_sem] theorem Kn.wLate_T_job (K:Kn) (t:Nat) (v:Int):((K.wLate t v).T t).job=(K.T t).job:=by unfold Kn.wLate;rw [z8]
@[simp,go_sem] theorem Kn.wJob_count (K:Kn) (t:Nat) (v:Int):(K.wJob t v).count=K.count:=rfl
@[simp,go_sem] theorem Kn.wJob_cycle (K:Kn) (t:Nat) (v:Int):(K.wJob t v).cycle=K.cycle:=rfl
@[simp,go_sem] theorem Kn.wJob_told (K:Kn) (t:Nat) (v:Int):(K.wJob t v).told=K.told:=rfl
@[simp,go_sem] theorem Kn.wJob_S (K:Kn) (t:Nat) (v:Int):(K.wJob t v).S=K.S:=rfl
@[simp,go_sem] theorem Kn.wJob_R (K:Kn) (t:Nat) (v:Int):(K.wJob t v).R=K.R:=rfl
@[simp,go_sem] theorem Kn.wJob_run (K:Kn) (t:Nat) (v:Int):(K.wJob t v).run=K.run:=rfl
@[simp,go_sem] theorem Kn.wJob_iat (K:Kn) (t:Nat) (v:Int):(K.wJob t v).iat=K.iat:=rfl
@[simp,go_sem] theorem Kn.wJob_irg (K:Kn) (t:Nat) (v:Int):(K.wJob t v).irg=K.irg:=rfl
@[simp,go_sem] theorem Kn.wJob_mems (K:Kn) (t:Nat) (v:Int):(K.wJob t v).mems=K.mems:=rfl
@[simp,go_sem] theorem Kn.wJob_tm (K:Kn) (t:Nat) (v:Int):(K.wJob t v).tm=K.tm:=rfl
@[simp,go_sem] theorem Kn.wJob_L (K:Kn) (t:Nat) (v:Int):(K.wJob t v).L=K.L:=rfl
@[simp,go_sem] theorem Kn.wJob_sm (K:Kn) (t:Nat) (v:Int):(K.wJob t v).sm=K.sm:=rfl
@[simp,go_sem] theorem Kn.wJob_ml (K:Kn) (t:Nat) (v:Int):(K.wJob t v).ml=K.ml:=rfl
@[simp,go_sem] theorem Kn.wJob_ln (K:Kn) (t:Nat) (v:Int):(K.wJob t v).ln=K.ln:=rfl
@[simp,go_sem] theorem Kn.wJob_reads (K:Kn) (t:Nat) (v:Int):(K.wJob t v).reads=K.reads:=rfl
@[simp,go_sem] theorem Kn.wJob_stopped (K:Kn) (t:Nat) (v:Int):(K.wJob t v).stopped=K.stopped:=rfl
@[simp,go_sem] theorem Kn.wJob_T_st (K:Kn) (t:Nat) (v:Int):((K.wJob t v).T t).st=(K.T t).st:=by unfold Kn.wJob;rw [z8]
@[simp,go_sem] theorem Kn.wJob_T_lev (K:Kn) (t:Nat) (v:Int):((K.wJob t v).T t).lev=(K.T t).lev:=by unfold Kn.wJob;rw [z8]
@[simp,go_sem] theorem Kn.wJob_T_job (K:Kn) (t:Nat) (v:Int):((K.wJob t v).T t).job=v:=by unfold Kn.wJob;rw [z8]
@[simp,go_sem] theorem Kn.wAt_count (K:Kn) (t:Nat) (v:Int):(K.wAt t v).count=K.count:=rfl
@[simp,go_sem] theorem Kn.wAt_cycle (K:Kn) (t:Nat) (v:Int):(K.wAt t v).cycle=K.cycle:=rfl
@[simp,go_sem] theorem Kn.wAt_told (K:Kn) (t:Nat) (v:Int):(K.wAt t v).told=K.told:=rfl
@[simp,go_sem] theorem Kn.wAt_S (K:Kn) (t:Nat) (v:Int):(K.wAt t v).S=K.S:=rfl
@[simp,go_sem] theorem Kn.wAt_R (K:Kn) (t:Nat) (v:Int):(K.wAt t v).R=K.R:=rfl
@[simp,go_sem] theorem Kn.wAt_run (K:Kn) (t:Nat) (v:Int):(K.wAt t v).run=K.run:=rfl
@[simp,go_sem] theorem Kn.wAt_iat (K:Kn) (t:Nat) (v:Int):(K.wAt t v).iat=K.iat:=rfl
@[simp,go_sem] theorem Kn.wAt_irg (K:Kn) (t:Nat) (v:Int):(K.wAt t v).irg=K.irg:=rfl
@[simp,go_sem] theorem Kn.wAt_mems (K:Kn) (t:Nat) (v:Int):(K.wAt t v).mems=K.mems:=rfl
@[simp,go_sem] theorem Kn.wAt_tm (K:Kn) (t:Nat) (v:Int):(K.wAt t v).tm=K.tm:=rfl
@[simp,go_sem] theorem Kn.wAt_L (K:Kn) (t:Nat) (v:Int):(K.wAt t v).L=K.L:=rfl
@[simp,go_sem] theorem Kn.wAt_sm (K:Kn) (t:Nat) (v:Int):(K.wAt t v).sm=K.sm:=rfl
@[simp,go_sem] theorem Kn.wAt_ml (K:Kn) (t:Nat) (v:Int):(K.wAt t v).ml=K.ml:=rfl
@[simp,go_sem] theorem Kn.wAt_ln (K:Kn) (t:Nat) (v:Int):(K.wAt t v).ln=K.ln:=rfl
@[simp,go_sem] theorem Kn.wAt_reads (K:Kn) (t:Nat) (v:Int):(K.wAt t v).reads=K.reads:=rfl
@[simp,go_sem] theorem Kn.wAt_stopped (K:Kn) (t:Nat) (v:Int):(K.wAt t v).stopped=K.stopped:=rfl
@[simp,go_sem] theorem Kn.wReg_count (K:Kn) (t n:Nat) (v:Int):(K.wReg t n v).count=K.count:=rfl
@[simp,go_sem] theorem Kn.wReg_cycle (K:Kn) (t n:Nat) (v:Int):(K.wReg t n v).cycle=K.cycle:=rfl
@[simp,go_sem] theorem Kn.wReg_told (K:Kn) (t n:Nat) (v:Int):(K.wReg t n v).told=K.told:=rfl
@[simp,go_sem] theorem Kn.wReg_S (K:Kn) (t n:Nat) (v:Int):(K.wReg t n v).S=K.S:=rfl
@[simp,go_sem] theorem Kn.wReg_R (K:Kn) (t n:Nat) (v:Int):(K.wReg t n v).R=K.R:=rfl
@[simp,go_sem] theorem Kn.wReg_run (K:Kn) (t n:Nat) (v:Int):(K.wReg t n v).run=K.run:=rfl
@[simp,go_sem] theorem Kn.wReg_iat (K:Kn) (t n:Nat) (v:Int):(K.wReg t n v).iat=K.iat:=rfl
@[simp,go_sem] theorem Kn.wReg_irg (K:Kn) (t n:Nat) (v:Int):(K.wReg t n v).irg=K.irg:=rfl
@[simp,go_sem] theorem Kn.wReg_mems (K:Kn) (t n:Nat) (v:Int):(K.wReg t n v).mems=K.mems:=rfl
@[simp,go_sem] theorem Kn.wReg_tm (K:Kn) (t n:Nat) (v:Int):(K.wReg t n v).tm=K.tm:=rfl
@[simp,go_sem] theorem Kn.wReg_L (K:Kn) (t n:Nat) (v:Int):(K.wReg t n v).L=K.L:=rfl
@[simp,go_sem] theorem Kn.wReg_sm (K:Kn) (t n:Nat) (v:Int):(K.wReg t n v).sm=K.sm:=rfl
@[simp,go_sem] theorem Kn.wReg_ml (K:Kn) (t n:Nat) (v:Int):(K.wReg t n v).ml=K.ml:=rfl
@[simp,go_sem] theorem Kn.wReg_ln (K:Kn) (t n:Nat) (v:Int):(K.wReg t n v).ln=K.ln:=rfl
@[simp,go_sem] theorem Kn.wReg_reads (K:Kn) (t n:Nat) (v:Int):(K.wReg t n v).reads=K.reads:=rfl
@[simp,go_sem] theorem Kn.wReg_stopped (K:Kn) (t n:Nat) (v:Int):(K.wReg t n v).stopped=K.stopped:=rfl
@[simp,go_sem] theorem Kn.wReg_T_st (K:Kn) (t n:Nat) (v:Int):((K.wReg t n v).T t).st=(K.T t).st:=by unfold Kn.wReg;rw [z8]
@[simp,go_sem] theorem Kn.wReg_T_lev (K:Kn) (t n:Nat) (v:Int):((K.wReg t n v).T t).lev=(K.T t).lev:=by unfold Kn.wReg;rw [z8]
@[simp,go_sem] theorem Kn.wReg_T_on (K:Kn) (t n:Nat) (v:Int):((K.wReg t n v).T t).on=(K.T t).on:=by unfold Kn.wReg;rw [z8]
end Go.Proofs.YtgiiidminlhbpaaGreatDoor
namespace Go.Proofs.YtgiiidminlhbpaaGreatDoor
open Go.RowKit Go.Sx Go.Au
abbrev zjY (e:Ev):List Value:=[.int .i64 e.k,.int .u64 e.cy,.int .u64 e.co,.int .u32 e.a,.int .u32 e.b,.int .u32 e.v]
def evV (e:Ev):Value:=.agg #[.int .i64 e.k,.int .u64 e.cy,.int .u64 e.co,.int .u32 e.a,.int .u32 e.b,.int .u32 e.v]
instance zjV:Enc Ev 6 where
 enc e:=zjY e
 len _:=rfl
 one t:=by intro u hu;simp at hu;rcases hu with rfl | rfl | rfl | rfl | rfl | rfl<;>rfl
 dft:=ev0
 pos:=by decide
instance:z63 Tryz.prog 36 Ev 6 zjV 51 40 (.agg #[.int .i64 0,.int .u64 0,.int .u64 0,.int .u32 0,.int .u32 0,.int .u32 0]):=⟨⟨by kernel_rfl,by kernel_rfl,rfl⟩,by decide⟩
end Go.Proofs.YtgiiidminlhbpaaGreatDoor
namespace Go.Proofs.YtgiiidminlhbpaaGreatDoor
open Go.RowKit Go.Sx Go.Rq
structure Ra where
 n:Nat
 fr:List Int
 bk:List Int
 ah:List Int
 af:List Int
 lv:List Int
 cnt:Int
def raP (b o:Nat) (a:Ra):HP :=
 pts b o [.int .u32 a.n]*(pts b (o+1) (a.fr.map (Value.int .i8))*(pts b (o+33) (a.bk.map (Value.int .i8))*(pts b (o+65) (a.ah.map (Value.int .i8))*(pts b (o+129) (a.af.map (Value.int .i8))*(pts b (o+193) (a.lv.map (Value.int .i8))*pts b (o+257) [.int .i64 a.cnt])))))
def rdP (b o:Nat) (R:Nat→List Nat):HP:=ex fun a:Ra=>pur (Rep R a.n a.fr a.bk a.ah a.af a.lv)*raP b o a
instance (priority:=500) {α:Type} (k i:Nat) (l:List α) (v:α) [h:Lt k l.length]:Lt k (l.set i v).length:=⟨by rw [List.length_set];exact h.lt⟩
instance (priority:=1300) (b o k:Nat) (l:List Int) [h:Lt k l.length]:zC (pts b o (l.map (Value.int .i8))) b (o+k) (.int .i8 (ag l k)):=zC.num .i8 b o k l
theorem z4s (t l:Int) (z:Bool) (hz:decide (0≤t∧t<64∧0≤l∧l<32)=z) (w:World):Calls Tryz.prog 80 #[.int .i64 t,.int .i64 l] w fun e w'=>e=.returned (.bool z)∧w=w':=by
 subst hz
 go_enter Tryz.func80,Tryz.ntmps80
 go_wp2
 all_goals
  go_ret;exact ⟨zgn (by rw [Bool.eq_iff_iff];simp;try omega),rfl⟩
theorem z3S {w0 w:World} {F:HP} {b o:Nat} {R:Nat→List Nat} (hs:Sat w0 w (rdP b o R*F)):∃ a:Ra,Rep R a.n a.fr a.bk a.ah a.af a.lv∧Sat w0 w (raP b o a*F):=by
 obtain ⟨a,hs⟩:=hs.ex_out;obtain ⟨h1,h2⟩:=(hs.perm (zb _ _ _)).pur_out;exact ⟨a,h1,h2⟩
theorem zmu {w0 w:World} {F:HP} {b o:Nat} {R:Nat→List Nat} (a:Ra) (h:Rep R a.n a.fr a.bk a.ah a.af a.lv) (hs:Sat w0 w (raP b o a*F)):Sat w0 w (rdP b o R*F) :=
 Sat.ex_in (f:=fun a:Ra=>pur (Rep R a.n a.fr a.bk a.ah a.af a.lv)*raP b o a) a ((Sat.pur_in h hs).perm (zb _ _ _).symm)
theorem z2S {w0 w:World} {F:HP} {b o:Nat} {R:Nat→List Nat} {n:Nat} {fr bk ah af lv:List Int} {cnt:Int} (hs:Sat w0 w (pts b o [.int .u32 n]*(pts b (o+1) (fr.map (Value.int .i8))*(pts b (o+33) (bk.map (Value.int .i8))*(pts b (o+65) (ah.map (Value.int .i8))*(pts b (o+129) (af.map (Value.int .i8))*(pts b (o+193) (lv.map (Value.int .i8))*(pts b (o+257) [.int .i64 cnt]*F)))))))) (h:Rep R n fr bk ah af lv):Sat w0 w (rdP b o R*F) :=
 zmu ⟨n,fr,bk,ah,af,lv,cnt⟩ h (hs.perm (by unfold raP;ac_rfl))
theorem z7w (b o:Nat) (R:Nat→List Nat) (t l:Nat) (w0 w:World) (F:HP) (hs:Sat w0 w (rdP b o R*F)) (ht:t<64) (hl:l<32) (hno:∀ k,t ∉ R k) :
  Calls Tryz.prog 106 #[.pointer (some ⟨b,o,none⟩),.int .i64 t,.int .i64 l] w (zp w0 (.tuple #[]) (rdP b o (up R l (R l++[t]))*F)):=by
 obtain ⟨⟨n,fr,bk,ah,af,lv,cnt⟩,h,hs⟩:=z3S hs;have H:=hid h;have hb:=h.bit hl;have htop:=h.top;haveI:Lt l fr.length:=⟨by rw [h.lfr];exact hl⟩;haveI:Lt l bk.length:=⟨by rw [h.lbk];exact hl⟩;haveI:Lt t ah.length:=⟨by rw [h.lah];exact ht⟩;haveI:Lt t af.length:=⟨by rw [h.laf];exact ht⟩;haveI:Lt t lv.length:=⟨by rw [h.llv];exact ht⟩;have hs2:Sat w0 w (pts b o [.int .u32 n]*(pts b (o+1) (fr.map (Value.int .i8))*(pts b (o+33) (bk.map (Value.int .i8))*(pts b (o+65) (ah.map (Value.int .i8))*(pts b (o+129) (af.map (Value.int .i8))*(pts b (o+193) (lv.map (Value.int .i8))*(pts b (o+257) [.int .i64 cnt]*F))))))):=hs.perm (by unfold raP;ac_rfl);clear hs;have d1:decide (l<32)=true:=decide_eq_true hl;have d2:decide (t<64)=true:=decide_eq_true ht;have i1:(l:Int)<32:=by omega
 have i2:(t:Int)<64:=by omega
 have w8:IntKind.i8.wrap (t:Int)=t:=by simp [IntKind.wrap,IntKind.signed,IntKind.bits];omega
 have hor:=hid (z2d n (2^l) htop (z30 hl));have hpw:Hid ((2:Int)^l%4294967296=((2^l:Nat):Int)):=by
  have h2:=z30 hl;have h3:((2^l:Nat):Int)=(2:Int)^l:=by rw [Int.natCast_pow];rfl
  have h5:(0:Int)≤2^l:=Int.pow_nonneg (by decide);unfold Hid;rw [← h3];exact Int.emod_eq_of_lt (by omega) (by omega)
 by_cases e:R l=[]
 ·have b1:=zcA htop (hb.trans (decide_eq_false (Classical.not_not.2 e)));have hf:=hid (H.out.push ht hl hno (fr':=fr.set l t) (ah':=ah.set t (-1)) (af1:=af) (fun _=>⟨rfl,rfl,rfl⟩) (fun h=>absurd e h));have e:=hid e;clear h hb hs
  go_enter Tryz.func106,Tryz.ntmps106
  go_wp2_with fail;refine z9 (w0:=w0) ?_;intro wx hsx;go_still_tail 9,(by kernel_rfl);change wpList _ _ _ _ _ wx.drew;go_wp2_with fail
  go_end0
  rw [hpw.out,hor.out];exact ⟨rfl,z2S (cnt:=wrap64 (cnt+1)) z3 hf.out⟩
 ·have b1:=zcC htop (hb.trans (decide_eq_true e));obtain ⟨m,hm,hm2⟩:=(z8r (-1) (R l)).resolve_left (fun h=>e h.1);have hm64:=h.rng hm;have hbk:=(h.hbk e).trans hm2;haveI:Lt m af.length:=⟨by rw [h.laf];exact hm64⟩;have d3:decide (m<64)=true:=decide_eq_true hm64;have i3:(m:Int)<64:=by omega
  have hf:=hid (H.out.push ht hl hno (fr':=fr) (ah':=ah.set t m) (af1:=af.set m t) (fun h=>absurd h e) (fun _=>⟨rfl,by rw [hm2],by rw [hm2];rfl⟩));have e:=hid e;clear h hb hs hm hm2
  go_enter Tryz.func106,Tryz.ntmps106
  go_wp2_with fail;refine z9 (w0:=w0) ?_;intro wx hsx;go_still_tail 12,(by kernel_rfl);change wpList _ _ _ _ _ wx.drew;go_wp2_with fail;refine z9 (w0:=w0) ?_;intro wx hsx;go_still_tail 11,(by kernel_rfl);change wpList _ _ _ _ _ wx.drew;go_wp2_with fail;refine z9 (w0:=w0) ?_;intro wx hsx;go_still_tail 9,(by kernel_rfl);change wpList _ _ _ _ _ wx.drew;go_wp2_with fail
  go_end0
  rw [hpw.out,hor.out];exact ⟨rfl,z2S (cnt:=wrap64 (cnt+1)) z3 hf.out⟩
end Go.Proofs.YtgiiidminlhbpaaGreatDoor
namespace Go.Proofs.YtgiiidminlhbpaaGreatDoor
open Go.RowKit Go.Sx Go.Dl Go.Lk Go.Rq Go.Au
def z0F (f:Nat→HP):Nat→HP
 | 0=>emp
 | n+1=>z0F f n*f n
theorem z0G (f:Nat→HP) (n:Nat):z0F f (n+1)=z0F f n*f n:=rfl
theorem zS {f g:Nat→HP}:∀ {n:Nat} (_:∀ i,i<n→f i=g i),z0F f n=z0F g n
 | 0,_=>rfl
 | n+1,h=>by rw [z0G,z0G,zS (n:=n) fun i hi=>h i (by omega),h n (by omega)]
theorem z8M (f:Nat→HP) {i:Nat}:∀ {n:Nat} (_:i<n), ∃ R, ∀ P,z0F (upd f i P) n=P*R
 | 0,h=>absurd h (by omega)
 | n+1,h=>by
  by_cases e:i=n
  ·subst e;refine ⟨z0F f i,fun P=>?_⟩;rw [z0G,zS (g:=f) fun j hj=>zL f P (by omega),zK];exact z0W _ _
  ·obtain ⟨R,hR⟩:=z8M f (i:=i) (n:=n) (by omega);refine ⟨R*f n,fun P=>?_⟩;rw [z0G,hR,zL f P (by omega)]
   ac_rfl
theorem z10 {α:Type} (f:Nat→α) (i:Nat):upd f i (f i)=f:=by
 funext j;unfold upd;split
 ·rename_i h;rw [h]
 ·rfl
theorem z4m {α:Type} (G:Nat→α→HP) (f:Nat→α) {i n:Nat} (h:i<n):∃ R, ∀ x,z0F (fun j=>G j (upd f i x j)) n=G i x*R:=by
 obtain ⟨R,hR⟩:=z8M (fun j=>G j (f j)) h;refine ⟨R,fun x=>?_⟩;rw [← hR (G i x)];refine zS fun j _=>?_
 by_cases e:j=i
 ·subst e;rw [zK,zK]
 ·rw [zL _ _ e,zL _ _ e]
structure Hd where
 a:Option Addr
 b:Nat
 o:Nat
 cap:Nat
def Hd.ad (h:Hd) (n:Nat):Option Addr:=if n=0 then h.a else some ⟨h.b,h.o,none⟩
abbrev Hd.v (h:Hd) (n:Nat):Value:=.slice (h.ad n) n h.cap
@[simp,go_sem] theorem Hd.v_eq (h:Hd) (n:Nat):h.v n=.slice (h.ad n) n h.cap:=rfl
theorem Hd.ad_pos (h:Hd) {n:Nat} (p:0<n):h.ad n=some ⟨h.b,h.o,none⟩:=if_neg (by omega)
instance za3:Enc Ins 6 where
 enc i:=[.int .i64 i.op,.int .i64 i.a,.int .i64 i.b,.int .i64 i.c,.int .i64 i.d,.int .u32 i.k]
 len _:=rfl
 one t:=by intro u hu;simp at hu;rcases hu with rfl | rfl | rfl | rfl | rfl | rfl<;>rfl
 dft:=zmV
 pos:=by decide
structure Cx0 where
 ct:Hd
 cl:Hd
 cs:Hd
 cq:Hd
 cm:Hd
 tv:Nat→Hd
 lv:Nat→Hd
abbrev cfL (x:Cx0) (c:Cf):List Value:=[x.ct.v c.ts.length,x.cl.v c.ls.length,.int .i64 c.mutexes,x.cs.v c.sems.length,x.cq.v c.queues.length,x.cm.v c.timers.length,.int .i64 c.table,.int .u32 c.mask,.int .u32 c.filter,.int .i64 c.charge,.int .u64 c.cycle,.int .u64 c.count]
abbrev tcL (h:Hd) (t:Tc):List Value:=[.int .i64 t.lev,.int .i64 t.off,.int .i64 t.per,.int .i64 t.dl,.int .i64 t.mem,h.v t.code.length]
abbrev lcL (h:Hd) (l:Lc):List Value:=[.int .i64 l.mem,h.v l.code.length]
def ctP (x:Cx0) (c:Cf):HP:=z0F (fun t=>pts x.ct.b (x.ct.o+t*6) (tcL (x.tv t) (tcg c t))*pts (x.tv t).b (x.tv t).o (cellsOf (tcg c t).code)) c.ts.length
def clP (x:Cx0) (c:Cf):HP:=z0F (fun t=>pts x.cl.b (x.cl.o+t*2) (lcL (x.lv t) (lcg c t))*pts (x.lv t).b (x.lv t).o (cellsOf (lcg c t).code)) c.ls.length
def cnP (h:Hd) (l:List Int):HP:=pts h.b h.o (l.map (Value.int .i64))
def cfH (x:Cx0) (c:Cf):HP:=ctP x c*(clP x c*(cnP x.cs c.sems*(cnP x.cq c.queues*cnP x.cm c.timers)))
def lnP (b:Nat) (l:Ln):HP:=pts b 0 [.int .u32 l.all,.int .u32 l.pending,.int .u32 l.mask,.int .i64 l.active]
structure Sh where
 a:Option Addr
 n:Nat
 c:Nat
abbrev Sh.v (m:Sh):Value:=.slice m.a m.n m.c
structure Fx where
 c:Cx0
 mm:Hd
 mv:Nat→Hd
 ta:Hd
 tv:Nat→Hd
 lk:Nat
 sa:Hd
 sb:Nat→Nat
 qa:Hd
 qb:Nat→Nat
 ln:Nat
def z1w (c:Cf) (n:Nat):Nat:=(lcg c n).mem.toNat
def z1x (c:Cf) (t:Nat):Nat:=(tcg c t).mem.toNat
abbrev tsL (s:Ts):List Value:=[.int .i64 s.st,.int .i64 s.lev,.int .i64 s.on,.int .i64 s.late,.int .u32 s.job]
abbrev cxL (a:Int) (r:R8) (v:Value):List Value:=.int .i64 a::(r.cells++[v])
def zcp (x:Fx) (c:Cf) (t:Nat) (s:Ts×List Int):HP:=pts x.ta.b (x.ta.o+t*15) (tsL s.1)*(pts x.ta.b (x.ta.o+t*15+5) (cxL s.1.at_ s.1.rg ((x.tv t).v (z1x c t)))*pts (x.tv t).b (x.tv t).o (s.2.map (Value.int .u32)))
def zbd (x:Fx) (c:Cf) (T:Nat→Ts×List Int):HP:=z0F (fun t=>zcp x c t (T t)) c.ts.length
def zex (x:Fx) (c:Cf) (n:Nat) (m:List Int):HP:=pts x.mm.b (x.mm.o+n) [(x.mv n).v (z1w c n)]*pts (x.mv n).b (x.mv n).o (m.map (Value.int .u32))
def zfR (x:Fx) (c:Cf) (M:Nat→List Int):HP:=z0F (fun n=>zex x c n (M n)) c.ls.length
def zn2 (x:Fx) (n:Nat) (s:Int×List Int):HP:=pts x.sa.b (x.sa.o+n) [.pointer (some ⟨x.sb n,0,none⟩)]*z3f (x.sb n) s.1 s.2
def ziv (x:Fx) (c:Cf) (M:Nat→Int×List Int):HP:=z0F (fun n=>zn2 x n (M n)) c.sems.length
def zhP (x:Fx) (n:Nat) (q:Mq):HP:=pts x.qa.b (x.qa.o+n) [.pointer (some ⟨x.qb n,0,none⟩)]*mqP (x.qb n) q
def zda (x:Fx) (c:Cf) (M:Nat→Mq):HP:=z0F (fun n=>zhP x n (M n)) c.queues.length
def z6d (b:Nat) (l:List Ev):HP:=ex fun v=>pts b 549 [v]*z7 v l
abbrev kcL (x:Fx) (c:Cf) (rd:Int) (st:Bool):List Value:=[x.mm.v c.ls.length,x.ta.v c.ts.length,.pointer (some ⟨x.lk,0,none⟩),x.sa.v c.sems.length,x.qa.v c.queues.length,.pointer (some ⟨x.ln,0,none⟩),.int .u64 rd,.bool st]
def knP (b:Nat) (x:Fx) (c:Cf) (K:Kn):HP :=
 pts b 0 [.int .u64 K.count,.int .u64 K.cycle]*(z21 b 2 K.S*(pts b 259 [.int .i64 c.table]*(rdP b 260 K.R *
 (pts b 518 (cfL x.c c)*(cfH x.c c *
 (pts b 530 [.int .i64 K.run]*((ex fun v:Sh=>pts b 531 (cxL K.iat K.irg v.v)) *
 (pts b 541 (kcL x c K.reads K.stopped)*(z6d b K.told *
 (zfR x c K.mems*(zbd x c (fun t=>(K.T t,K.tm t)) *
 (lkP x.lk K.L*(ziv x c K.sm*(zda x c K.ml*lnP x.ln K.ln))))))))))))))
section
variable (b:Nat) (x:Fx) (c:Cf) (K:Kn)
theorem z6r:∃ R, ∀ n m,knP b x c ((K.wCount n).wCycle m)=pts b 0 [.int .u64 n,.int .u64 m]*R:=⟨_,fun n m=>by unfold knP;dsimp only [Kn.wCount,Kn.wCycle]⟩
theorem zme:∃ R, ∀ S,knP b x c (K.wS S)=z21 b 2 S*R:=⟨_,fun S=>by unfold knP;dsimp only [Kn.wS];exact z2u.eq⟩
theorem znp:∃ R,knP b x c K=pts b 259 [.int .i64 c.table]*R:=⟨_,by unfold knP;exact z2u.eq⟩
theorem zkp:∃ R, ∀ S,knP b x c (K.wR S)=rdP b 260 S*R:=⟨_,fun S=>by unfold knP;dsimp only [Kn.wR];exact z2u.eq⟩
theorem z1Y:∃ R,knP b x c K=pts b 518 (cfL x.c c)*R:=⟨_,by unfold knP;exact z2u.eq⟩
theorem zfx:∃ R,knP b x c K=cfH x.c c*R:=⟨_,by unfold knP;exact z2u.eq⟩
theorem zjf:∃ R, ∀ S,knP b x c (K.wRun S)=pts b 530 [.int .i64 S]*R:=⟨_,fun S=>by unfold knP;dsimp only [Kn.wRun];exact z2u.eq⟩
theorem z0O:∃ R, ∀ a r,knP b x c ((K.wIat a).wIrg r)=(ex fun v:Sh=>pts b 531 (cxL a r v.v))*R:=⟨_,fun a r=>by unfold knP;dsimp only [Kn.wIat,Kn.wIrg];exact z2u.eq⟩
theorem z81:∃ R, ∀ n z,knP b x c ((K.wReads n).wStopped z)=pts b 541 (kcL x c n z)*R:=⟨_,fun n z=>by unfold knP;dsimp only [Kn.wReads,Kn.wStopped];exact z2u.eq⟩
theorem zku:∃ R, ∀ S,knP b x c (K.wTold S)=z6d b S*R:=⟨_,fun S=>by unfold knP;dsimp only [Kn.wTold];exact z2u.eq⟩
theorem zkr:∃ R, ∀ S,knP b x c (K.wMems S)=zfR x c S*R:=⟨_,fun S=>by unfold knP;dsimp only [Kn.wMems];exact z2u.eq⟩
theorem zhF:∃ R, ∀ T m,knP b x c ((K.wT T).wTm m)=zbd x c (fun t=>(T t,m t))*R:=⟨_,fun T m=>by unfold knP;dsimp only [Kn.wT,Kn.wTm];exact z2u.eq⟩
theorem zll:∃ R, ∀ S,knP b x c (K.wL S)=lkP x.lk S*R:=⟨_,fun S=>by unfold knP;dsimp only [Kn.wL];exact z2u.eq⟩
theorem zks:∃ R, ∀ S,knP b x c (K.wSm S)=ziv x c S*R:=⟨_,fun S=>by unfold knP;dsimp only [Kn.wSm];exact z2u.eq⟩
theorem zhE:∃ R, ∀ S,knP b x c (K.wMl S)=zda x c S*R:=⟨_,fun S=>by unfold knP;dsimp only [Kn.wMl];exact z2u.eq⟩
theorem zaz:∃ R, ∀ S,knP b x c (K.wLn S)=lnP x.ln S*R:=⟨_,fun S=>by unfold knP;dsimp only [Kn.wLn];exact z2u.eq⟩
variable {b x c K}
theorem z0P {t:Nat} (h:t<c.ts.length):∃ R, ∀ s m,knP b x c ((K.setT t s).wTm (upd K.tm t m))=zcp x c t (s,m)*R:=by
 obtain ⟨R1,h1⟩:=zhF b x c K;obtain ⟨R2,h2⟩:=z4m (zcp x c) (fun t=>(K.T t,K.tm t)) h;refine ⟨R2*R1,fun s m=>?_⟩;rw [← zb,← h2 (s,m)];have h3:=h1 (upd K.T t s) (upd K.tm t m);refine Eq.trans h3 ?_
 congr 1
 unfold zbd;refine zS fun j _=>?_
 by_cases e:j=t
 ·subst e;simp only [zK]
 ·simp only [zL _ _ e]
theorem zje {n:Nat} (h:n<c.ls.length):∃ R, ∀ m,knP b x c (K.wMems (upd K.mems n m))=zex x c n m*R:=by
 obtain ⟨R1,h1⟩:=zkr b x c K;obtain ⟨R2,h2⟩:=z4m (zex x c) K.mems h;exact ⟨R2*R1,fun m=>by rw [h1,← zb,← h2 m];rfl⟩
theorem zjg {n:Nat} (h:n<c.sems.length):∃ R, ∀ m,knP b x c (K.wSm (upd K.sm n m))=zn2 x n m*R:=by
 obtain ⟨R1,h1⟩:=zks b x c K;obtain ⟨R2,h2⟩:=z4m (zn2 x) K.sm h;exact ⟨R2*R1,fun m=>by rw [h1,← zb,← h2 m];rfl⟩
theorem zfy {n:Nat} (h:n<c.queues.length):∃ R, ∀ m,knP b x c (K.wMl (upd K.ml n m))=zhP x n m*R:=by
 obtain ⟨R1,h1⟩:=zhE b x c K;obtain ⟨R2,h2⟩:=z4m (zhP x) K.ml h;exact ⟨R2*R1,fun m=>by rw [h1,← zb,← h2 m];rfl⟩
theorem zkq {n:Nat} (h:n<c.ls.length):∃ R, ∀ a r m,knP b x c (((K.wIat a).wIrg r).wMems (upd K.mems n m))=(ex fun v:Sh=>pts b 531 (cxL a r v.v))*(zex x c n m*R):=by
 obtain ⟨R2,h2⟩:=z4m (zex x c) K.mems h;have h1:∃ R, ∀ a r S,knP b x c (((K.wIat a).wIrg r).wMems S)=(ex fun v:Sh=>pts b 531 (cxL a r v.v))*(zfR x c S*R):=⟨_,fun a r S=>by unfold knP;dsimp only [Kn.wIat,Kn.wIrg,Kn.wMems];refine Eq.trans (z2u.eq (Q:=ex fun v:Sh=>pts b 531 (cxL a r v.v))) ?_;congr 1;exact z2u.eq⟩;obtain ⟨R1,h1⟩:=h1;exact ⟨R2*R1,fun a r m=>by rw [h1,← zb (zex x c n m),← h2 m];rfl⟩
theorem z68 {t:Nat} (h:t<c.ts.length):∃ R,knP b x c K=pts x.c.ct.b (x.c.ct.o+t*6) (tcL (x.c.tv t) (tcg c t))*(pts (x.c.tv t).b (x.c.tv t).o (cellsOf (tcg c t).code)*R):=by
 obtain ⟨R1,h1⟩:=zfx b x c K;obtain ⟨R2,h2⟩:=z4m (fun t (_:Unit)=>pts x.c.ct.b (x.c.ct.o+t*6) (tcL (x.c.tv t) (tcg c t))*pts (x.c.tv t).b (x.c.tv t).o (cellsOf (tcg c t).code)) (fun _=>()) h;refine ⟨R2*((clP x.c c*(cnP x.c.cs c.sems*(cnP x.c.cq c.queues*cnP x.c.cm c.timers)))*R1),?_⟩;have h3:ctP x.c c=_:=h2 ();rw [h1];unfold cfH;rw [h3];ac_rfl
theorem zay {t:Nat} (h:t<c.ls.length):∃ R,knP b x c K=pts x.c.cl.b (x.c.cl.o+t*2) (lcL (x.c.lv t) (lcg c t))*(pts (x.c.lv t).b (x.c.lv t).o (cellsOf (lcg c t).code)*R):=by
 obtain ⟨R1,h1⟩:=zfx b x c K;obtain ⟨R2,h2⟩:=z4m (fun t (_:Unit)=>pts x.c.cl.b (x.c.cl.o+t*2) (lcL (x.c.lv t) (lcg c t))*pts (x.c.lv t).b (x.c.lv t).o (cellsOf (lcg c t).code)) (fun _=>()) h;refine ⟨R2*(ctP x.c c*((cnP x.c.cs c.sems*(cnP x.c.cq c.queues*cnP x.c.cm c.timers)))*R1),?_⟩;have h3:clP x.c c=_:=h2 ();rw [h1];unfold cfH;rw [h3];ac_rfl
theorem znn:∃ R,knP b x c K=cnP x.c.cm c.timers*R:=by
 obtain ⟨R1,h1⟩:=zfx b x c K;exact ⟨_,by rw [h1];unfold cfH;exact z2u.eq⟩
end
end Go.Proofs.YtgiiidminlhbpaaGreatDoor
