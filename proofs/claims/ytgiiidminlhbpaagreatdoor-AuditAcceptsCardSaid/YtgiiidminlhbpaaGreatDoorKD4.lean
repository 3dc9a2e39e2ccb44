/-
  Parts of the proof: KernP Bits Isa IsaB IsaC.
-/
import Derived.Shelf.Spec.TrailingZeros
import Derived.IntWalk
import Derived.Test.YtgiiidminlhbpaaGreatDoorKD0
import Derived.Test.YtgiiidminlhbpaaGreatDoorKD1
import Derived.Test.YtgiiidminlhbpaaGreatDoorKD2
import Derived.Test.YtgiiidminlhbpaaGreatDoorKD3
set_option linter.unusedVariables false
set_option linter.unusedSimpArgs false
set_option maxHeartbeats 32000000
set_option maxRecDepth 100000
namespace Go.Proofs.YtgiiidminlhbpaaGreatDoor
open Go.RowKit Go.Sx Go.Dl Go.Lk Go.Rq Go.Au
def upd {α:Type} (f:Nat→α) (i:Nat) (x:α):Nat→α:=fun j=>if j=i then x else f j
@[simp] theorem zK {α:Type} (f:Nat→α) (i:Nat) (x:α):upd f i x i=x:=if_pos rfl
theorem zL {α:Type} (f:Nat→α) {i j:Nat} (x:α) (h:j≠i):upd f i x j=f j:=if_neg h
@[simp] theorem znO {α:Type} (f:Nat→α) (i:Nat) (x y:α):upd (upd f i x) i y=upd f i y:=by
 funext j;unfold upd;split<;>simp_all
structure Ins where
 op:Int
 a:Int
 b:Int
 c:Int
 d:Int
 k:Int
deriving DecidableEq
abbrev zmV:Ins:=⟨0,0,0,0,0,0⟩
structure Tc where
 lev:Int
 off:Int
 per:Int
 dl:Int
 mem:Int
 code:List Ins
structure Lc where
 mem:Int
 code:List Ins
structure Cf where
 ts:List Tc
 ls:List Lc
 mutexes:Int
 sems:List Int
 queues:List Int
 timers:List Int
 table:Int
 mask:Nat
 filter:Nat
 charge:Int
 cycle:Int
 count:Int
def tc0:Tc:=⟨0,0,0,0,0,[]⟩
def lc0:Lc:=⟨0,[]⟩
structure R8 where
 r0:Int
 r1:Int
 r2:Int
 r3:Int
 r4:Int
 r5:Int
 r6:Int
 r7:Int
deriving DecidableEq
def R8.get (r:R8):Nat→Int
 | 0=>r.r0
 | 1=>r.r1
 | 2=>r.r2
 | 3=>r.r3
 | 4=>r.r4
 | 5=>r.r5
 | 6=>r.r6
 | _=>r.r7
def R8.set (r:R8) (n:Nat) (v:Int):R8 :=
 match n with
 | 0=>{ r with r0:=v }
 | 1=>{ r with r1:=v }
 | 2=>{ r with r2:=v }
 | 3=>{ r with r3:=v }
 | 4=>{ r with r4:=v }
 | 5=>{ r with r5:=v }
 | 6=>{ r with r6:=v }
 | _=>{ r with r7:=v }
def R8.cells (r:R8):List Value:=[.int .u32 r.r0,.int .u32 r.r1,.int .u32 r.r2,.int .u32 r.r3,.int .u32 r.r4,.int .u32 r.r5,.int .u32 r.r6,.int .u32 r.r7]
abbrev r80:R8:=⟨0,0,0,0,0,0,0,0⟩
theorem R8.get_set (r:R8) {n:Nat} (h:n<8) (v:Int):(r.set n v).get n=v:=by
 match n,h with
 | 0,_=>rfl
 | 1,_=>rfl
 | 2,_=>rfl
 | 3,_=>rfl
 | 4,_=>rfl
 | 5,_=>rfl
 | 6,_=>rfl
 | 7,_=>rfl
theorem R8.cell (r:R8) {n:Nat} (h:n<8):r.cells[n]?=some (.int .u32 (r.get n)):=by
 match n,h with
 | 0,_=>rfl
 | 1,_=>rfl
 | 2,_=>rfl
 | 3,_=>rfl
 | 4,_=>rfl
 | 5,_=>rfl
 | 6,_=>rfl
 | 7,_=>rfl
theorem R8.cells_set (r:R8) {n:Nat} (h:n<8) (v:Int):(r.set n v).cells=r.cells.set n (.int .u32 v):=by
 match n,h with
 | 0,_=>rfl
 | 1,_=>rfl
 | 2,_=>rfl
 | 3,_=>rfl
 | 4,_=>rfl
 | 5,_=>rfl
 | 6,_=>rfl
 | 7,_=>rfl
structure Ts where
 st:Int
 lev:Int
 on:Int
 late:Int
 job:Int
 at_:Int
 rg:R8
abbrev ts0:Ts:=⟨0,0,0,0,0,0,r80⟩
structure Ln where
 all:Nat
 pending:Nat
 mask:Nat
 active:Int
structure Kn where
 count:Int
 cycle:Int
 told:List Ev
 S:List Ck
 R:Nat→List Nat
 run:Int
 iat:Int
 irg:R8
 mems:Nat→List Int
 T:Nat→Ts
 tm:Nat→List Int
 L:Lk
 sm:Nat→Int×List Int
 ml:Nat→Mq
 ln:Ln
 reads:Int
 stopped:Bool
noncomputable def z1B (L:Lk) (t m:Int):Lk:=z8F (z0f L t m).2.2 (z4U (z0f L t m).2.2.own (z0f L t m).2.2.ow (z0f L t m).2.2.rows)
def zE (L:Lk) (t m:Int):Lk:=z8F (zi L t m).2.2 (z4U (zi L t m).2.2.own (zi L t m).2.2.ow (zi L t m).2.2.rows)
def Ln.raise (l:Ln) (bits:Nat):Ln:={ l with pending:=l.pending ||| (bits &&& l.all) }
def Ln.ready (l:Ln):Bool:=decide (l.active=255) && decide (l.pending &&& l.mask≠0)
def Ln.enter (l:Ln):Ln:=if l.ready then { l with active:=low (l.pending &&& l.mask),pending:=l.pending &&& (4294967295-2^low (l.pending &&& l.mask)) } else l
def Ln.leave (l:Ln):Ln:={ l with active:=255 }
def Ln.let_ (l:Ln) (bits:Nat):Ln:={ l with mask:=bits &&& l.all }
def Ln.bar (l:Ln) (n:Nat):Ln:={ l with mask:=l.mask &&& (4294967295-2^n) }
def z0x (op:Int):Nat :=
 if op=1∨op=18∨op=19∨op=21∨op=22∨op=26∨op=30∨op=31∨op=32 then 17
 else if op=2 then 3
 else if op=15∨op=16 then 19
 else if op=17∨op=20 then 16
 else if op=23∨op=24∨op=25 then 1
 else if op=27∨op=28 then 31
 else if op=29 then 21
 else if op=33 then 29
 else if op=34 then 5
 else if 3≤op∧op≤14 then 7
 else 0
def zlk (op:Int):Bool:=decide (1≤op∧op≤38)
def z83 (n:Int) (has:Bool):Bool:=decide (0≤n∧n<8) && (has || decide (n=0))
def z8e (i:Ins):Bool :=
 let u:=z0x i.op
 let hd:=u.testBit 3
 z83 i.a (u.testBit 0) && z83 i.b (u.testBit 1) && z83 i.c (u.testBit 2 && (!hd || decide (i.d=2))) &&
  decide (0≤i.d∧i.d≤2) && (hd || decide (i.d=0)) && (u.testBit 4 || decide (i.k=0)) &&
  (if i.op=20 then decide (1≤i.k∧i.k≤1000) else if i.op=21∨i.op=22 then decide (i.k<16) else true)
def z2K (i:Ins):Int:=if ¬ zlk i.op then 14 else if z8e i then 0 else 5
def may (i:Ins) (isr:Bool):Bool :=
 if i.op=38 then isr else if ¬ isr then true else if i.op=27∨i.op=28 then decide (i.d=1) else decide (i.op≤30)
def z1y (i:Ins) (size:Int) (isr:Bool):Int :=
 if z2K i≠0 then z2K i else if ¬ may i isr then 14 else if (i.op=17∨i.op=18∨i.op=19)∧size≤i.k then 5 else 0
def zT (i:Ins):Int :=
 if z2K i≠0 then 0
 else if i.op=5 then 3
 else if i.op=6∨i.op=7 then 8
 else if i.op=15∨i.op=16 then 2
 else if i.op=20 then i.k
 else if i.op=21∨i.op=22 then 6
 else if i.op=38 then 4
 else if 26≤i.op then 12
 else 1
def z1T (op b c:Int):Option Int :=
 if op=3 then some ((b+c)%4294967296)
 else if op=4 then some ((b-c)%4294967296)
 else if op=5 then some ((b*c)%4294967296)
 else if op=6 then (if c=0 then none else some (b / c))
 else if op=7 then (if c=0 then none else some (b%c))
 else if op=8 then some ((b.toNat &&& c.toNat:Nat):Int)
 else if op=9 then some ((b.toNat ||| c.toNat:Nat):Int)
 else if op=10 then some ((b.toNat ^^^ c.toNat:Nat):Int)
 else if op=11 then some ((b*2^(c.toNat%32))%4294967296)
 else if op=12 then some (b / 2^(c.toNat%32))
 else if op=13 then some (if b<c then 1 else 0)
 else some (if b=c then 1 else 0)
structure Cx where
 at_:Int
 rg:R8
 mem:List Int
def Cx.reg (x:Cx) (n:Int):Int:=x.rg.get n.toNat
def Cx.put (x:Cx) (n v:Int):Cx:={ x with rg:=x.rg.set n.toNat v }
def Cx.on (x:Cx):Cx:={ x with at_:=x.at_+1 }
def doI (i:Ins) (x:Cx):Int×Cx :=
 if i.op=1 then (0,(x.put i.a i.k).on)
 else if i.op=2 then (0,(x.put i.a (x.reg i.b)).on)
 else if i.op=15∨i.op=16 then
  let at_:=(x.reg i.b+i.k)%4294967296
  if (x.mem.length:Int)≤at_ then (12,x)
  else if i.op=15 then (0,(x.put i.a (lg x.mem at_.toNat)).on)
  else (0,({ x with mem:=x.mem.set at_.toNat (x.reg i.a) }).on)
 else if i.op=17 then (0,{ x with at_:=i.k })
 else if i.op=18 then (if x.reg i.a=0 then (0,{ x with at_:=i.k }) else (0,x.on))
 else if i.op=19 then (if x.reg i.a=0 then (0,x.on) else (0,{ x with at_:=i.k }))
 else if i.op=20 then (0,x.on)
 else match z1T i.op (x.reg i.b) (x.reg i.c) with
  | none=>(13,x)
  | some n=>(0,(x.put i.a n).on)
def z1l (filter kind:Nat):Bool:=decide (1≤kind∧kind≤24) && (decide (kind=24) || filter.testBit kind)
def Kn.tell (K:Kn) (c:Cf) (kind:Nat) (a b v:Int):Kn :=
 if z1l c.filter kind then { K with told:=K.told++[⟨kind,K.cycle,K.count,a.toNat,b.toNat,v.toNat⟩],cycle:=(K.cycle+c.charge)%18446744073709551616 } else K
def zM (l:List Ins) (n:Int):Ins:=l.getD n.toNat zmV
def tcg (c:Cf) (t:Nat):Tc:=c.ts.getD t tc0
def lcg (c:Cf) (n:Nat):Lc:=c.ls.getD n lc0
def Kn.call (K:Kn) (c:Cf) (t:Nat):Ins:=zM (tcg c t).code ((K.T t).at_-1)
def Kn.setT (K:Kn) (t:Nat) (x:Ts):Kn:={ K with T:=upd K.T t x }
def Kn.wake (K:Kn) (c:Cf) (t:Nat) (why answer:Int):Kn :=
 let K1:=({ K with S:=z33 (64+t) K.S }.setT t { K.T t with rg:=(K.T t).rg.set (K.call c t).a.toNat answer,st:=1,on:=0 }).tell c 10 t why 0
 { K1 with R:=z9N K1.R t (K.T t).lev.toNat }
def Kn.relev (K:Kn) (c:Cf):Nat→Kn
 | 0=>K
 | n+1 =>
  let K:=K.relev c n
  if (K.T n).lev=lg K.L.now n then K
  else
   let K1:=K.tell c 11 n (lg K.L.now n) 0
   ({ K1 with R:=z6b K1.R n (lg K.L.now n).toNat }).setT n { K1.T n with lev:=lg K.L.now n }
def Kn.relevel (K:Kn) (c:Cf):Kn:=K.relev c c.ts.length
def Kn.postE (K:Kn) (s:Nat):Int:=Go.Proofs.YtgiiidminlhbpaaGreatDoor.postE (K.sm s).1 (K.sm s).2
def Kn.post (K:Kn) (c:Cf) (who:Int) (s:Nat):Kn :=
 let u:=(K.sm s).1
 let l:=(K.sm s).2
 if Go.Proofs.YtgiiidminlhbpaaGreatDoor.postE u l≠0 then K
 else
  let K1:=({ K with sm:=upd K.sm s (z1Z u l,z2I K.L.now l) }).tell c 14 who s (z1Z u l)
  if l≠[] then K1.wake c (zD K.L.now l).toNat 1 0 else K1
def Kn.timeout (K:Kn) (c:Cf) (t:Nat):Kn :=
 let x:=K.T t
 if x.st=1 then K
 else if x.st=2 then K.wake c t 0 0
 else if x.st=4 then { K with sm:=upd K.sm (x.on-64).toNat ((K.sm (x.on-64).toNat).1,(K.sm (x.on-64).toNat).2.erase t) }.wake c t 0 9
 else if x.st=5 then { K with ml:=upd K.ml (x.on-96).toNat ((K.ml (x.on-96).toNat).cancel t) }.wake c t 0 9
 else if x.st=6 then { K with ml:=upd K.ml (x.on-128).toNat ((K.ml (x.on-128).toNat).cancel t) }.wake c t 0 9
 else K.wake c t 0 9
def Kn.release (K:Kn) (c:Cf) (t:Nat):Kn :=
 let x:=K.T t
 let K1:=if x.st=0 then
   let K2:=(K.setT t { x with job:=(x.job+1)%4294967296,st:=1 }).tell c 6 t 0 ((x.job+1)%4294967296)
   { K2 with R:=z9N K2.R t x.lev.toNat }
  else (K.setT t { x with late:=min (x.late+1) 255 }).tell c 7 t 0 (min (x.late+1) 255)
 if 0<(tcg c t).per then { K1 with S:=z5B K1.S t (tcg c t).per } else K1
def Kn.over (K:Kn) (c:Cf) (id:Int):Kn :=
 if id<64 then K.release c id.toNat
 else if id<128 then K.timeout c (id-64).toNat
 else
  let K1:=K.tell c 18 (id-128) 0 0
  let s:=(lg c.timers (id-128).toNat).toNat
  if K1.postE s≠0 then (K1.post c 80 s).tell c 23 80 (K1.postE s) 26 else K1.post c 80 s
def Kn.full (K:Kn):Prop:=K.count=18446744073709551615∨18446744073709486079<K.cycle
instance (K:Kn):Decidable K.full:=by unfold Kn.full;infer_instance
def Kn.tick (K:Kn) (c:Cf):Kn :=
 let K:=if K.full then { K with stopped:=true } else K
 if K.stopped then K
 else (z2H K.S).foldl (fun K id=>K.over c id) { K with count:=K.count+1,S:=z2X K.S }
def Kn.raiseN (K:Kn) (c:Cf) (came again:Nat):Nat→Kn
 | 0=>K
 | n+1 =>
  let K:=K.raiseN c came again n
  if came.testBit n then K.tell c 1 n (if again.testBit n then 1 else 0) 0 else K
def Kn.raise (K:Kn) (c:Cf) (bits:Nat):Kn :=
 if K.stopped then K
 else { K with ln:=K.ln.raise bits }.raiseN c (bits &&& K.ln.all) ((bits &&& K.ln.all) &&& K.ln.pending) c.ls.length
def Kn.cx (K:Kn) (who:Nat):Cx:=if who<64 then ⟨(K.T who).at_,(K.T who).rg,K.tm who⟩ else ⟨K.iat,K.irg,K.mems (who-64)⟩
def Kn.reg (K:Kn) (who:Nat) (n:Int):Int:=if who<64 then (K.T who).rg.get n.toNat else K.irg.get n.toNat
def Kn.put (K:Kn) (who:Nat) (n v:Int):Kn:=if who<64 then K.setT who { K.T who with rg:=(K.T who).rg.set n.toNat v } else { K with irg:=K.irg.set n.toNat v }
def Kn.handed (K:Kn) (c:Cf) (t:Nat) (m next:Int):Kn :=
 let K1:=K.tell c 13 t m 0
 if next=255 then K1 else (K1.wake c next.toNat 1 0).tell c 12 next m 0
def Kn.give (K:Kn) (c:Cf) (t:Nat) (m:Int):Kn:=({ K with L:=zE K.L t m }).handed c t m (zi K.L t m).1
def Kn.gone (K:Kn) (c:Cf) (t:Nat) (status:Int):Kn :=
 let K1:={ K.setT t { K.T t with st:=status } with R:=z5F K.R t,S:=z33 t K.S }
 ((z1O K.L t).foldl (fun K m=>K.give c t m) K1).relevel c
def Kn.refuse (K:Kn) (c:Cf) (who:Nat) (i:Ins) (e:Int):Kn:=(K.tell c 23 who e i.op).put who i.a e
def Kn.noRoom (K:Kn) (c:Cf):Bool:=decide (c.table≤z1M K.S 64)
def Kn.holdE (K:Kn) (c:Cf) (t:Nat) (i:Ins):Int :=
 if i.d=2 then (if (K.T t).rg.get i.c.toNat=0 then 9 else if K.noRoom c then 7 else 0) else 0
def Kn.hold (K:Kn) (c:Cf) (t:Nat) (status on:Int) (i:Ins):Kn :=
 let K1:=if i.d=2 then { K with S:=z5B K.S (64+t) ((K.T t).rg.get i.c.toNat) } else K
 { K1.setT t { K1.T t with st:=status,on:=on } with R:=z5F K1.R t }.tell c 9 t on 0
def Kn.send (K:Kn) (c:Cf) (who:Nat) (i:Ins):Kn :=
 let q:=i.k.toNat
 let v:=K.reg who i.b
 let e:=(K.ml q).sendE
 if e≠0 then
  if i.d=1 then K.refuse c who i e
  else if K.holdE c who i=0 then
   let K1:=K.hold c who 5 (96+i.k) i
   { K1 with ml:=upd K1.ml q ((K1.ml q).hold who v) }
  else K.refuse c who i (K.holdE c who i)
 else
  let K1:=(({ K with ml:=upd K.ml q ((K.ml q).send K.L.now v) }).put who i.a 0).tell c 16 who i.k v
  let t:=((K.ml q).sendT K.L.now)
  if t=255 then K1
  else ((K1.put t.toNat (K1.call c t.toNat).b v).tell c 17 t i.k v).wake c t.toNat 1 0
def Kn.recv (K:Kn) (c:Cf) (who:Nat) (i:Ins):Kn :=
 let q:=i.k.toNat
 let e:=(K.ml q).recvE
 if e≠0 then
  if i.d=1 then K.refuse c who i e
  else if K.holdE c who i=0 then
   let K1:=K.hold c who 6 (128+i.k) i
   { K1 with ml:=upd K1.ml q ((K1.ml q).await who) }
  else K.refuse c who i (K.holdE c who i)
 else
  let v:=(K.ml q).recvV
  let K1:=((({ K with ml:=upd K.ml q ((K.ml q).recv K.L.now) }).put who i.b v).put who i.a 0).tell c 17 who i.k v
  let t:=((K.ml q).recvT K.L.now)
  if t=255 then K1
  else (K1.tell c 16 t i.k ((K1.T t.toNat).rg.get (K1.call c t.toNat).b.toNat)).wake c t.toNat 1 0
noncomputable def Kn.lock (K:Kn) (c:Cf) (t:Nat) (i:Ins):Kn :=
 let r:=z0f K.L t i.k
 if r.2.1≠0 then K.refuse c t i r.2.1
 else if r.1 then (({ K with L:=z1B K.L t i.k }).put t i.a 0).tell c 12 t i.k 0
 else (({ K with L:=z1B K.L t i.k }).hold c t 3 (32+i.k) i).relevel c
def Kn.unlock (K:Kn) (c:Cf) (t:Nat) (i:Ins):Kn :=
 let r:=zi K.L t i.k
 if r.2.1≠0 then K.refuse c t i r.2.1
 else ((({ K with L:=zE K.L t i.k }).put t i.a 0).handed c t i.k r.1).relevel c
def Kn.await (K:Kn) (c:Cf) (t:Nat) (i:Ins):Kn :=
 if (c.sems.length:Int)≤i.k then K.refuse c t i 15
 else
  let s:=i.k.toNat
  let u:=(K.sm s).1
  let e:=z3t u
  if e=0 then (({ K with sm:=upd K.sm s (z2W u,(K.sm s).2) }).put t i.a 0).tell c 15 t i.k (z2W u)
  else if i.d=1 then K.refuse c t i e
  else if K.holdE c t i=0 then
   let K1:=K.hold c t 4 (64+i.k) i
   { K1 with sm:=upd K1.sm s ((K1.sm s).1,z4f (K1.sm s).1 (K1.sm s).2 t) }
  else K.refuse c t i (K.holdE c t i)
def Kn.sleep (K:Kn) (c:Cf) (t:Nat) (i:Ins):Kn :=
 let ticks:=K.reg t i.c
 if ticks=0 then K.put t i.a 0
 else if K.noRoom c then K.refuse c t i 7
 else ({ K with S:=z5B K.S (64+t) ticks }).hold c t 2 0 i
def Kn.next (K:Kn) (c:Cf) (t:Nat):Kn :=
 let x:=K.T t
 let K1:=K.tell c 8 t 0 x.job
 if 0<x.late then (K1.setT t { x with late:=x.late-1,job:=(x.job+1)%4294967296 }).tell c 6 t 0 ((x.job+1)%4294967296)
 else { K1.setT t { x with st:=0 } with R:=z5F K1.R t }
def Kn.timerE (K:Kn) (c:Cf) (who:Nat) (i:Ins):Int :=
 if (c.timers.length:Int)≤i.k then 15
 else if i.op=29∧K.reg who i.c=0 then 1
 else if has K.S (128+i.k) then 0
 else if i.op=30 then 8
 else if K.noRoom c then 7 else 0
def Kn.timer (K:Kn) (c:Cf) (who:Nat) (i:Ins):Kn :=
 let e:=K.timerE c who i
 if e≠0 then K.refuse c who i e
 else
  let ticks:=if i.op=29 then K.reg who i.c else 0
  let K1:={ K with S:=z33 (128+i.k) K.S }
  let K2:=if i.op=29 then { K1 with S:=z5B K1.S (128+i.k) ticks } else K1
  (K2.put who i.a 0).tell c 19 who i.k ticks
def Kn.shared (K:Kn) (c:Cf) (who:Nat) (i:Ins) (value:Int):Kn :=
 if i.op=21 then (({ K with reads:=(K.reads+1)%18446744073709551616 }).put who i.a value).tell c 2 i.k who value
 else if i.op=22 then K.tell c 20 i.k who (K.reg who i.a)
 else if i.op=23 then { K with ln:=K.ln.let_ (K.reg who i.a).toNat }
 else if i.op=24 then K.put who i.a (who%64:Nat)
 else if i.op=25 then K.put who i.a (K.count%4294967296)
 else if i.op=26 then
  if (c.sems.length:Int)≤i.k then K.refuse c who i 15
  else if K.postE i.k.toNat≠0 then K.refuse c who i (K.postE i.k.toNat)
  else (K.post c who i.k.toNat).put who i.a 0
 else if i.op=27∨i.op=28 then
  if (c.queues.length:Int)≤i.k then K.refuse c who i 15
  else if i.op=27 then K.send c who i else K.recv c who i
 else if i.op=29∨i.op=30 then K.timer c who i
 else K
noncomputable def Kn.serveTask (K:Kn) (c:Cf) (t:Nat) (i:Ins) (value:Int):Kn :=
 if i.op=31 then K.lock c t i
 else if i.op=32 then K.unlock c t i
 else if i.op=33 then K.await c t i
 else if i.op=34 then K.sleep c t i
 else if i.op=35 then { K with R:=z6e K.R t }
 else if i.op=36 then K.next c t
 else K.shared c t i value
def z0j (l:List Ins) (at_:Int) (last:Int):Ins:=if at_<l.length then zM l at_ else ⟨last,0,0,0,0,0⟩
def Kn.cost (K:Kn) (n:Int):Kn:={ K with cycle:=(K.cycle+n)%18446744073709551616 }
def Kn.putCx (K:Kn) (who:Nat) (x:Cx):Kn :=
 if who<64 then { K.setT who { K.T who with at_:=x.at_,rg:=x.rg } with tm:=upd K.tm who x.mem }
 else { K with iat:=x.at_,irg:=x.rg,mems:=upd K.mems (who-64) x.mem }
noncomputable def Kn.go (K:Kn) (c:Cf) (t:Nat) (value:Int):Kn :=
 let i:=z0j (tcg c t).code (K.T t).at_ 37
 let K1:=K.cost (zT i)
 if i.op≤20 then
  let r:=doI i (K1.cx t)
  let K2:=K1.putCx t r.2
  if r.1=0 then K2 else (K2.tell c 21 t r.1 0).gone c t 8
 else
  let K2:=K1.setT t { K1.T t with at_:=(K1.T t).at_+1 }
  if i.op=37 then (K2.tell c 22 t 0 0).gone c t 7
  else K2.serveTask c t i value
noncomputable def Kn.dispatch (K:Kn) (c:Cf) (value:Int):Kn :=
 let t:=match z0h K.R with
  | none=>(255:Int)
  | some t=>t
 let K1:=if t=K.run then K else { (K.tell c 5 t K.run 0).cost 10 with run:=t }
 match z0h K.R with
 | none=>K1.cost 1
 | some t=>K1.go c t value
def Kn.serve (K:Kn) (c:Cf) (n:Nat) (value:Int):Kn :=
 let i:=z0j (lcg c n).code K.iat 38
 let K1:=K.cost (zT i)
 if i.op≤20 then
  let r:=doI i (K1.cx (64+n))
  let K2:=K1.putCx (64+n) r.2
  if r.1=0 then K2
  else
   let K3:=K2.tell c 21 (64+n) r.1 0
   let K4:={ K3 with ln:=K3.ln.bar n }.tell c 4 n 0 0
   { K4 with ln:=K4.ln.leave }
 else if i.op=38 then
  let K4:=K1.tell c 4 n 0 0
  { K4 with ln:=K4.ln.leave }
 else { K1 with iat:=K1.iat+1 }.shared c (64+n) i value
noncomputable def Kn.act (K:Kn) (c:Cf) (value:Int):Kn :=
 if K.stopped then K
 else if K.ln.active≠255 then K.serve c K.ln.active.toNat value
 else if K.ln.ready then
  let K1:={ K with ln:=K.ln.enter }.tell c 3 K.ln.enter.active 0 0
  { K1.cost 6 with iat:=0,irg:=r80 }
 else K.dispatch c value
def Kn.take (K:Kn):Kn:={ K with told:=[] }
noncomputable def Kn.step (K:Kn) (c:Cf) (bits:Nat) (value:Int):Kn:=((((K.tick c).take.raise c bits).take).act c value).take
end Go.Proofs.YtgiiidminlhbpaaGreatDoor
namespace Go.Sx
open Go.RowKit
theorem z2d (a b:Nat) (ha:a<4294967296) (hb:b<4294967296):bits .or .u32 (a:Int) (b:Int)=((a ||| b:Nat):Int):=by
 have hx:a ||| b<2^32:=Nat.or_lt_two_pow (by omega) (by omega)
 have h1:(BitVec.ofInt 32 (a:Int)).toNat=a:=by
  rw [BitVec.ofInt_natCast,BitVec.toNat_ofNat];exact Nat.mod_eq_of_lt (by omega)
 have h2:(BitVec.ofInt 32 (b:Int)).toNat=b:=by
  rw [BitVec.ofInt_natCast,BitVec.toNat_ofNat];exact Nat.mod_eq_of_lt (by omega)
 show IntKind.u32.wrap ((BitVec.ofInt 32 (a:Int) ||| BitVec.ofInt 32 (b:Int)).toNat:Int)=_;rw [BitVec.toNat_or,h1,h2,Go.Proofs.wrap_u32'];omega
theorem z66 (a b:Nat) (ha:a<4294967296) (hb:b<4294967296):bits .xor .u32 (a:Int) (b:Int)=((a ^^^ b:Nat):Int):=by
 have hx:a ^^^ b<2^32:=Nat.xor_lt_two_pow (by omega) (by omega);have h1:(BitVec.ofInt 32 (a:Int)).toNat=a:=by
  rw [BitVec.ofInt_natCast,BitVec.toNat_ofNat];exact Nat.mod_eq_of_lt (by omega)
 have h2:(BitVec.ofInt 32 (b:Int)).toNat=b:=by
  rw [BitVec.ofInt_natCast,BitVec.toNat_ofNat];exact Nat.mod_eq_of_lt (by omega)
 show IntKind.u32.wrap ((BitVec.ofInt 32 (a:Int) ^^^ BitVec.ofInt 32 (b:Int)).toNat:Int)=_;rw [BitVec.toNat_xor,h1,h2,Go.Proofs.wrap_u32'];omega
theorem z1c (a l:Nat) (ha:a<4294967296) (hl:l<32):bits .andNot .u32 (a:Int) ((2^l:Nat):Int)=((a &&& (4294967295-2^l):Nat):Int):=by
 have hb:2^l<4294967296:=Nat.pow_lt_pow_right (by omega) (show l<32 from hl);have h1:(BitVec.ofInt 32 (a:Int)).toNat=a:=by
  rw [BitVec.ofInt_natCast,BitVec.toNat_ofNat];exact Nat.mod_eq_of_lt (by omega)
 have h2:(BitVec.ofInt 32 ((2^l:Nat):Int)).toNat=2^l:=by
  rw [BitVec.ofInt_natCast,BitVec.toNat_ofNat];exact Nat.mod_eq_of_lt (by omega)
 have h3:a &&& (4294967295-2^l)<4294967296:=Nat.lt_of_le_of_lt Nat.and_le_left ha;show IntKind.u32.wrap ((BitVec.ofInt 32 (a:Int) &&& ~~~ BitVec.ofInt 32 ((2^l:Nat):Int)).toNat:Int)=_;rw [BitVec.toNat_and,BitVec.toNat_not,h1,h2,Go.Proofs.wrap_u32'];rw [show 2^32-1-2^l=4294967295-2^l by omega];omega
theorem z9S (n l:Nat):(n:Int) / 2^l=((n / 2^l:Nat):Int):=by
 rw [Int.natCast_ediv,Int.natCast_pow];rfl
theorem z5d (n l:Nat) (hn:n<4294967296):bits .and .u32 ((n:Int) / 2^l) 1=if n.testBit l then 1 else 0:=by
 rw [z9S];have h1:n / 2^l<4294967296:=Nat.lt_of_le_of_lt (Nat.div_le_self _ _) hn;have h2:=Go.Proofs.bits_and_u32_nat (n / 2^l) 1 h1 (by decide);rw [show ((1:Nat):Int)=1 from rfl] at h2;rw [h2,Nat.and_one_is_mod,Nat.testBit_eq_decide_div_mod_eq]
 rcases Nat.mod_two_eq_zero_or_one (n / 2^l) with e | e<;>simp [e]
theorem zcA {n l:Nat} (hn:n<4294967296) (h:n.testBit l=false):(bits .and .u32 ((n:Int) / 2^l) 1==0)=true:=by
 rw [z5d n l hn,h];rfl
theorem zcC {n l:Nat} (hn:n<4294967296) (h:n.testBit l=true):(bits .and .u32 ((n:Int) / 2^l) 1==0)=false:=by
 rw [z5d n l hn,h];rfl
theorem zeG {n l:Nat} (hn:n<4294967296) (h:n.testBit l=true):(bits .and .u32 ((n:Int) / 2^l) 1==1)=true:=by
 rw [z5d n l hn,h];rfl
theorem zcB {n l:Nat} (hn:n<4294967296) (h:n.testBit l=false):(bits .and .u32 ((n:Int) / 2^l) 1==1)=false:=by
 rw [z5d n l hn,h];rfl
theorem zgn {x y:Bool} (h:x=y):Ending.returned (.bool x)=Ending.returned (.bool y):=by rw [h]
end Go.Sx
namespace Go.Proofs.YtgiiidminlhbpaaGreatDoor
open Go.RowKit Go.Sx
abbrev z22 (i:Ins):Value:=.agg #[.int .i64 i.op,.int .i64 i.a,.int .i64 i.b,.int .i64 i.c,.int .i64 i.d,.int .u32 i.k]
theorem zi7 {op:Int} (h:1≤op∧op≤38):op=1∨op=2∨op=3∨op=4∨op=5∨op=6∨op=7∨op=8∨op=9∨op=10∨op=11∨op=12∨op=13∨op=14∨op=15∨op=16∨op=17∨op=18∨op=19∨op=20∨op=21∨op=22∨op=23∨op=24∨op=25∨op=26∨op=27∨op=28∨op=29∨op=30∨op=31∨op=32∨op=33∨op=34∨op=35∨op=36∨op=37∨op=38:=by omega
theorem zka (op:Int) (w:World):Calls Tryz.prog 157 #[.int .i64 op] w fun e w'=>e=.returned (.int .i64 (z0x op:Nat))∧w=w':=by
 by_cases h:1≤op∧op≤38
 ·rcases zi7 h with rfl | rfl | rfl | rfl | rfl | rfl | rfl | rfl | rfl | rfl | rfl | rfl | rfl | rfl | rfl | rfl | rfl | rfl | rfl | rfl | rfl | rfl | rfl | rfl | rfl | rfl | rfl | rfl | rfl | rfl | rfl | rfl | rfl | rfl | rfl | rfl | rfl | rfl
  all_goals
   clear h
   go_enter Tryz.func157,Tryz.ntmps157
   go_wp2;go_ret;exact ⟨rfl,rfl⟩
 ·have hu:z0x op=0:=by unfold z0x;repeat rw [if_neg (by omega)]
  rw [hu];clear hu
  go_enter Tryz.func157,Tryz.ntmps157
  go_wp2
  all_goals
   go_ret;exact ⟨rfl,rfl⟩
theorem zaZ {fn:Func} {t0 t1 t2 t3 t4:Tmp} (h:fn.results=#[.tmp t0,.tmp t1,.tmp t2,.tmp t3,.tmp t4]) (tmps:Array Value) (P:Program) (w:World) :
  (results fn tmps).run P w=.ok (.tuple #[tmps.getD t0 undef,tmps.getD t1 undef,tmps.getD t2 undef,tmps.getD t3 undef,tmps.getD t4 undef]) w:=by
 simp [results,h]
theorem zeu (op:Int):z0x op=17∨z0x op=3∨z0x op=19∨z0x op=16∨z0x op=1∨z0x op=31∨z0x op=21∨z0x op=29∨z0x op=5∨z0x op=7∨z0x op=0:=by
 unfold z0x;repeat' split
 all_goals simp
theorem zhv (op:Int) (w:World):Calls Tryz.prog 139 #[.int .i64 op] w fun e w'=>e=.returned (.tuple #[.bool ((z0x op).testBit 0),.bool ((z0x op).testBit 1),.bool ((z0x op).testBit 2),.bool ((z0x op).testBit 3),.bool ((z0x op).testBit 4)])∧w=w':=by
 have hc:=zka op w;have hu:=zeu op;generalize z0x op=u at hc hu ⊢
 rcases hu with rfl | rfl | rfl | rfl | rfl | rfl | rfl | rfl | rfl | rfl | rfl
 all_goals
  go_enter Tryz.func139,Tryz.ntmps139
  go_wp2_with fail;refine hc.mono ?_;rintro e w' ⟨rfl,rfl⟩;go_wp2
  (try simp only [Exit.inBlock,Exit.then]);refine bodyPost_ret (zaZ rfl _ _ _) rfl ?_
  exact ⟨rfl,rfl⟩
theorem zff (n:Int) (has:Bool) (w:World):Calls Tryz.prog 140 #[.int .i64 n,.bool has] w fun e w'=>e=.returned (.bool (z83 n has))∧w=w':=by
 unfold z83
 cases has
 all_goals
  go_enter Tryz.func140,Tryz.ntmps140
  go_wp2
  all_goals
   go_ret;exact ⟨zgn (by rw [Bool.eq_iff_iff];simp;try omega),rfl⟩
theorem zm3 (op:Int) (z:Bool) (hz:zlk op=z) (w:World):Calls Tryz.prog 138 #[.int .i64 op] w fun e w'=>e=.returned (.bool z)∧w=w':=by
 subst hz;unfold zlk
 go_enter Tryz.func138,Tryz.ntmps138
 go_wp2
 all_goals
  go_ret;exact ⟨zgn (by rw [Bool.eq_iff_iff];simp;try omega),rfl⟩
theorem zak (op a b c d k:Int) (B0 B1 B2 B3 B4:Bool) (hb:B0=(z0x op).testBit 0∧B1=(z0x op).testBit 1∧B2=(z0x op).testBit 2∧B3=(z0x op).testBit 3∧B4=(z0x op).testBit 4) (r1 r2 r3:Bool)
  (h1:z83 a B0=r1) (h2:z83 b B1=r2) (h3:z83 c (B2 && (!B3 || decide (d=2)))=r3) (hop:zlk op=true) (z:Int) (hz:(if r1 && (r2 && (r3 && (decide (0≤d∧d≤2) && ((B3 || decide (d=0)) && ((B4 || decide (k=0)) && (if op=20 then decide (1≤k∧k≤1000) else if op=21∨op=22 then decide (k<16) else true)))))) then (0:Int) else 5)=z) (w0 w:World) (P:HP) (hs:Sat w0 w P) :
  Calls Tryz.prog 111 #[z22 ⟨op,a,b,c,d,k⟩] w (zp w0 (.int .i64 z) P):=by
 have hU:∀ wx,Hid (Calls Tryz.prog 139 #[.int .i64 op] wx fun e w'=>e=.returned (.tuple #[.bool B0,.bool B1,.bool B2,.bool B3,.bool B4])∧wx=w'):=fun wx=>by
  obtain ⟨rfl,rfl,rfl,rfl,rfl⟩:=hb;exact zhv op wx
 clear hb;have hI:=hid (fun wx=>zm3 op true hop wx);have H1:=hid (fun wx=>zff a B0 wx);have H2:=hid (fun wx=>zff b B1 wx);have H3:=hid (fun x wx=>zff c x wx);rw [h1] at H1;rw [h2] at H2;have H3x:=hid h3;have Hz:=hid hz;clear hop h1 h2 h3 hz
 go_enter Tryz.func111,Tryz.ntmps111
 go_wp2_with fail;refine (hI.out _).mono ?_;rintro en w1 ⟨rfl,rfl⟩;go_wp2_with fail;refine (hU _).out.mono ?_;rintro en w1 ⟨rfl,rfl⟩;go_wp2_with fail;refine (H1.out _).mono ?_;rintro en w1 ⟨rfl,rfl⟩
 cases r1
 ·go_wp2_with fail
  all_goals (go_ret;refine ⟨?_,z3⟩;rw [← Hz.out]; (try congr 2);try (first | rfl | (simp_all;done) | (simp_all;omega) | (simp;omega)))
 go_wp2_with fail;refine (H2.out _).mono ?_;rintro en w1 ⟨rfl,rfl⟩
 cases r2
 ·go_wp2_with fail
  all_goals (go_ret;refine ⟨?_,z3⟩;rw [← Hz.out]; (try congr 2);try (first | rfl | (simp_all;done) | (simp_all;omega) | (simp;omega)))
 cases B2<;>cases B3<;>by_cases hd:d=2
 all_goals
  first | (have hd2:(d==2)=true:=by simp [hd]) | (have hd2:(d==2)=false:=by simp [hd])
  simp only [hd,decide_true,decide_false,Bool.not_true,Bool.not_false,Bool.true_or,Bool.false_or,Bool.and_true,Bool.and_false,Bool.true_and,Bool.false_and] at H3x;go_wp2_with fail;refine (H3.out _ _).mono ?_;rintro en w1 ⟨rfl,rfl⟩;rw [H3x.out]
  cases r3
 all_goals
  go_wp2_with fail
  all_goals (go_ret;refine ⟨?_,z3⟩;rw [← Hz.out]; (try congr 2);try (first | rfl | (simp_all;done) | (simp_all;omega) | (simp;omega)))
theorem z72 (i:Ins) (z:Int) (hz:z2K i=z) (w0 w:World) (P:HP) (hs:Sat w0 w P):Calls Tryz.prog 111 #[z22 i] w (zp w0 (.int .i64 z) P):=by
 obtain ⟨op,a,b,c,d,k⟩:=i
 cases h:zlk op with
 | true =>
  refine zak op a b c d k _ _ _ _ _ ⟨rfl,rfl,rfl,rfl,rfl⟩ _ _ _ rfl rfl rfl h z ?_ w0 w P hs;rw [← hz];unfold z2K z8e;simp only [h,Bool.not_true,not_true_eq_false,if_false,Bool.and_assoc]
 | false =>
  have Hz:=hid hz;have hI:=hid (fun wx=>zm3 op false h wx);have H:=hid h;clear h hz
  go_enter Tryz.func111,Tryz.ntmps111
  go_wp2_with fail;refine (hI.out _).mono ?_;rintro en w1 ⟨rfl,rfl⟩;go_wp2_with fail;go_ret;refine ⟨?_,z3⟩;rw [← Hz.out];unfold z2K;simp [H.out]
theorem z1g (i:Ins) (z:Int) (hz:zT i=z) (hf:z2K i=0) (hk:0≤i.k∧i.k<4294967296) (w0 w:World) (P:HP) (hs:Sat w0 w P):Calls Tryz.prog 94 #[z22 i] w (zp w0 (.int .i64 z) P):=by
 have hF:=hid (fun wx Q h=>z72 i 0 hf w0 wx Q h);obtain ⟨op,a,b,c,d,k⟩:=i;have Hz:=hid hz;have Hf:=hid hf;have hw:wrap64 k=k:=IntWalk.wrap64_in k ⟨by have:=hk.1;have:0≤k:=this;omega,by have:=hk.2;have:k<4294967296:=this;omega⟩;have Hw:=hid hw;clear hz hf hk hw
 go_enter Tryz.func94,Tryz.ntmps94
 go_wp2_with fail;refine (hF.out _ _ z6).mono ?_;rintro en w1 ⟨rfl,hs1⟩;clear hs;go_wp2
 all_goals
  go_ret;refine ⟨?_,z3⟩;rw [← Hz.out];unfold zT;rw [if_neg (Classical.not_not.2 Hf.out)]
  first | (simp_all;done) | (simp_all;omega) | (rw [Hw.out];simp_all)
theorem zm4 (i:Ins) (isr:Bool) (z:Bool) (hz:may i isr=z) (w0 w:World) (P:HP) (hs:Sat w0 w P):Calls Tryz.prog 130 #[z22 i,.bool isr] w (zp w0 (.bool z) P):=by
 obtain ⟨op,a,b,c,d,k⟩:=i;have Hz:=hid hz;clear hz
 cases isr
 all_goals
  go_enter Tryz.func130,Tryz.ntmps130
  go_wp2
  all_goals
   go_ret;refine ⟨?_,z3⟩;rw [← Hz.out];unfold may
   first | (simp_all;done) | (simp_all;omega) | (simp_all;by_cases hd:d=1<;>simp [hd])
theorem zhu (i:Ins) (n:Int) (isr:Bool) (z:Int) (hz:z1y i n isr=z) (hk:0≤i.k∧i.k<4294967296) (w0 w:World) (P:HP) (hs:Sat w0 w P):Calls Tryz.prog 103 #[z22 i,.int .i64 n,.bool isr] w (zp w0 (.int .i64 z) P):=by
 have hF:=hid (fun e he wx Q h=>z72 i e he w0 wx Q h);have hM:=hid (fun e he wx Q h=>zm4 i isr e he w0 wx Q h);unfold z1y at hz
 by_cases h1:z2K i=0
 ·rw [if_neg (Classical.not_not.2 h1)] at hz
  cases h2:may i isr
  ·rw [h2,if_pos (by simp)] at hz;have H1:=hid h1;have H2:=hid h2;subst hz;clear h1 h2;obtain ⟨op,a,b,c,d,k⟩:=i
   go_enter Tryz.func103,Tryz.ntmps103
   go_wp2_with fail;refine (hF.out 0 H1.out _ _ z6).mono ?_;rintro en w1 ⟨rfl,hs1⟩;clear hs;go_wp2_with fail;refine (hM.out false H2.out _ _ z6).mono ?_;rintro en w1 ⟨rfl,hs2⟩;clear hs1;go_wp2_with fail;go_ret;exact ⟨rfl,z3⟩
  ·rw [h2,if_neg (by simp)] at hz;have H1:=hid h1;have H2:=hid h2;have Hz:=hid hz;obtain ⟨op,a,b,c,d,k⟩:=i;have hk0:0≤k:=hk.1;have hk1:k<4294967296:=hk.2;clear h1 h2 hz hk
   go_enter Tryz.func103,Tryz.ntmps103
   go_wp2_with fail;refine (hF.out 0 H1.out _ _ z6).mono ?_;rintro en w1 ⟨rfl,hs1⟩;clear hs;go_wp2_with fail;refine (hM.out true H2.out _ _ z6).mono ?_;rintro en w1 ⟨rfl,hs2⟩;clear hs1;go_wp2
   all_goals
    go_ret;refine ⟨?_,z3⟩;rw [← Hz.out];simp_all
    try omega
 ·rw [if_pos h1] at hz;obtain ⟨op,a,b,c,d,k⟩:=i;have e1:(z==0)=false:=by rw [← hz];simpa using h1
  have Hz:=hid hz;clear h1 hz hM
  go_enter Tryz.func103,Tryz.ntmps103
  go_wp2_with fail;refine (hF.out z Hz.out _ _ z6).mono ?_;rintro en w1 ⟨rfl,hs1⟩;clear hs;go_wp2_with fail;go_ret;exact ⟨rfl,z3⟩
end Go.Proofs.YtgiiidminlhbpaaGreatDoor
