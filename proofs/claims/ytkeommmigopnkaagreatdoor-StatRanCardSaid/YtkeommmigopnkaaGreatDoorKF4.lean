/-
  Parts of the proof: KernP KernS KernT Evs KernA KernI KernJ Line.
-/
import Derived.Test.YtkeommmigopnkaaGreatDoorProg
import Derived.Test.YtkeommmigopnkaaGreatDoorKF3
set_option linter.unusedVariables false
set_option linter.unusedSimpArgs false
set_option maxHeartbeats 32000000
set_option maxRecDepth 100000
namespace Go.Proofs.YtkeommmigopnkaaGreatDoor
open Go.RowKit Go.Sx Go.Dl Go.Lk Go.Rq Go.Au
def upd {α:Type} (f:Nat→α) (i:Nat) (x:α):Nat→α:=fun j=>if j=i then x else f j
structure Ins where
 op:Int
 a:Int
 b:Int
 c:Int
 d:Int
 k:Int
deriving DecidableEq
abbrev ins0:Ins:=⟨0,0,0,0,0,0⟩
structure Tc where
 lev:Int
 off:Int
 per:Int
 dl:Int
 mem:Int
 code:List Ins
structure Lc where
 mem:Int
 code:List Ins
structure Cf where
 ts:List Tc
 ls:List Lc
 mutexes:Int
 sems:List Int
 queues:List Int
 timers:List Int
 table:Int
 mask:Nat
 filter:Nat
 charge:Int
 cycle:Int
 count:Int
def tc0:Tc:=⟨0,0,0,0,0,[]⟩
def lc0:Lc:=⟨0,[]⟩
structure R8 where
 r0:Int
 r1:Int
 r2:Int
 r3:Int
 r4:Int
 r5:Int
 r6:Int
 r7:Int
deriving DecidableEq
def R8.get (r:R8):Nat→Int
 | 0=>r.r0
 | 1=>r.r1
 | 2=>r.r2
 | 3=>r.r3
 | 4=>r.r4
 | 5=>r.r5
 | 6=>r.r6
 | _=>r.r7
def R8.set (r:R8) (n:Nat) (v:Int):R8 :=
 match n with
 | 0=>{ r with r0:=v }
 | 1=>{ r with r1:=v }
 | 2=>{ r with r2:=v }
 | 3=>{ r with r3:=v }
 | 4=>{ r with r4:=v }
 | 5=>{ r with r5:=v }
 | 6=>{ r with r6:=v }
 | _=>{ r with r7:=v }
def R8.cells (r:R8):List Value:=[.int .u32 r.r0,.int .u32 r.r1,.int .u32 r.r2,.int .u32 r.r3,.int .u32 r.r4,.int .u32 r.r5,.int .u32 r.r6,.int .u32 r.r7]
abbrev r80:R8:=⟨0,0,0,0,0,0,0,0⟩
theorem R8.get_set (r:R8) {n:Nat} (h:n<8) (v:Int):(r.set n v).get n=v:=by
 match n,h with
 | 0,_=>rfl
 | 1,_=>rfl
 | 2,_=>rfl
 | 3,_=>rfl
 | 4,_=>rfl
 | 5,_=>rfl
 | 6,_=>rfl
 | 7,_=>rfl
theorem R8.cell (r:R8) {n:Nat} (h:n<8):r.cells[n]?=some (.int .u32 (r.get n)):=by
 match n,h with
 | 0,_=>rfl
 | 1,_=>rfl
 | 2,_=>rfl
 | 3,_=>rfl
 | 4,_=>rfl
 | 5,_=>rfl
 | 6,_=>rfl
 | 7,_=>rfl
structure Ts where
 st:Int
 lev:Int
 on:Int
 late:Int
 job:Int
 at_:Int
 rg:R8
structure Ln where
 all:Nat
 pending:Nat
 mask:Nat
 active:Int
structure Kn where
 count:Int
 cycle:Int
 told:List Ev
 S:List Ck
 R:Nat→List Nat
 run:Int
 iat:Int
 irg:R8
 mems:Nat→List Int
 T:Nat→Ts
 tm:Nat→List Int
 L:Lk
 sm:Nat→Int×List Int
 ml:Nat→Mq
 ln:Ln
 reads:Int
 stopped:Bool
noncomputable def lockN (L:Lk) (t m:Int):Lk:=wNow (lockR L t m).2.2 (refLv (lockR L t m).2.2.own (lockR L t m).2.2.ow (lockR L t m).2.2.rows)
def unlockN (L:Lk) (t m:Int):Lk:=wNow (unlockR L t m).2.2 (refLv (unlockR L t m).2.2.own (unlockR L t m).2.2.ow (unlockR L t m).2.2.rows)
def Ln.raise (l:Ln) (bits:Nat):Ln:={ l with pending:=l.pending ||| (bits &&& l.all) }
def Ln.ready (l:Ln):Bool:=decide (l.active=255) && decide (l.pending &&& l.mask≠0)
def Ln.enter (l:Ln):Ln:=if l.ready then { l with active:=low (l.pending &&& l.mask),pending:=l.pending &&& (4294967295-2^low (l.pending &&& l.mask)) } else l
def Ln.leave (l:Ln):Ln:={ l with active:=255 }
def Ln.let_ (l:Ln) (bits:Nat):Ln:={ l with mask:=bits &&& l.all }
def Ln.bar (l:Ln) (n:Nat):Ln:={ l with mask:=l.mask &&& (4294967295-2^n) }
def usesOf (op:Int):Nat :=
 if op=1∨op=18∨op=19∨op=21∨op=22∨op=26∨op=30∨op=31∨op=32 then 17
 else if op=2 then 3
 else if op=15∨op=16 then 19
 else if op=17∨op=20 then 16
 else if op=23∨op=24∨op=25 then 1
 else if op=27∨op=28 then 31
 else if op=29 then 21
 else if op=33 then 29
 else if op=34 then 5
 else if 3≤op∧op≤14 then 7
 else 0
def isOp (op:Int):Bool:=decide (1≤op∧op≤38)
def regOk (n:Int) (has:Bool):Bool:=decide (0≤n∧n<8) && (has || decide (n=0))
def formOk (i:Ins):Bool :=
 let u:=usesOf i.op
 let hd:=u.testBit 3
 regOk i.a (u.testBit 0) && regOk i.b (u.testBit 1) && regOk i.c (u.testBit 2 && (!hd || decide (i.d=2))) &&
  decide (0≤i.d∧i.d≤2) && (hd || decide (i.d=0)) && (u.testBit 4 || decide (i.k=0)) &&
  (if i.op=20 then decide (1≤i.k∧i.k≤1000) else if i.op=21∨i.op=22 then decide (i.k<16) else true)
def formE (i:Ins):Int:=if ¬ isOp i.op then 14 else if formOk i then 0 else 5
def may (i:Ins) (isr:Bool):Bool :=
 if i.op=38 then isr else if ¬ isr then true else if i.op=27∨i.op=28 then decide (i.d=1) else decide (i.op≤30)
def checkE (i:Ins) (size:Int) (isr:Bool):Int :=
 if formE i≠0 then formE i else if ¬ may i isr then 14 else if (i.op=17∨i.op=18∨i.op=19)∧size≤i.k then 5 else 0
def costOf (i:Ins):Int :=
 if formE i≠0 then 0
 else if i.op=5 then 3
 else if i.op=6∨i.op=7 then 8
 else if i.op=15∨i.op=16 then 2
 else if i.op=20 then i.k
 else if i.op=21∨i.op=22 then 6
 else if i.op=38 then 4
 else if 26≤i.op then 12
 else 1
def reckon (op b c:Int):Option Int :=
 if op=3 then some ((b+c)%4294967296)
 else if op=4 then some ((b-c)%4294967296)
 else if op=5 then some ((b*c)%4294967296)
 else if op=6 then (if c=0 then none else some (b / c))
 else if op=7 then (if c=0 then none else some (b%c))
 else if op=8 then some ((b.toNat &&& c.toNat:Nat):Int)
 else if op=9 then some ((b.toNat ||| c.toNat:Nat):Int)
 else if op=10 then some ((b.toNat ^^^ c.toNat:Nat):Int)
 else if op=11 then some ((b*2^(c.toNat%32))%4294967296)
 else if op=12 then some (b / 2^(c.toNat%32))
 else if op=13 then some (if b<c then 1 else 0)
 else some (if b=c then 1 else 0)
structure Cx where
 at_:Int
 rg:R8
 mem:List Int
def Cx.reg (x:Cx) (n:Int):Int:=x.rg.get n.toNat
def Cx.put (x:Cx) (n v:Int):Cx:={ x with rg:=x.rg.set n.toNat v }
def Cx.on (x:Cx):Cx:={ x with at_:=x.at_+1 }
def doI (i:Ins) (x:Cx):Int×Cx :=
 if i.op=1 then (0,(x.put i.a i.k).on)
 else if i.op=2 then (0,(x.put i.a (x.reg i.b)).on)
 else if i.op=15∨i.op=16 then
  let at_:=(x.reg i.b+i.k)%4294967296
  if (x.mem.length:Int)≤at_ then (12,x)
  else if i.op=15 then (0,(x.put i.a (lg x.mem at_.toNat)).on)
  else (0,({ x with mem:=x.mem.set at_.toNat (x.reg i.a) }).on)
 else if i.op=17 then (0,{ x with at_:=i.k })
 else if i.op=18 then (if x.reg i.a=0 then (0,{ x with at_:=i.k }) else (0,x.on))
 else if i.op=19 then (if x.reg i.a=0 then (0,x.on) else (0,{ x with at_:=i.k }))
 else if i.op=20 then (0,x.on)
 else match reckon i.op (x.reg i.b) (x.reg i.c) with
  | none=>(13,x)
  | some n=>(0,(x.put i.a n).on)
def passes (filter kind:Nat):Bool:=decide (1≤kind∧kind≤24) && (decide (kind=24) || filter.testBit kind)
def Kn.tell (K:Kn) (c:Cf) (kind:Nat) (a b v:Int):Kn :=
 if passes c.filter kind then { K with told:=K.told++[⟨kind,K.cycle,K.count,a.toNat,b.toNat,v.toNat⟩],cycle:=(K.cycle+c.charge)%18446744073709551616 } else K
def insAt (l:List Ins) (n:Int):Ins:=l.getD n.toNat ins0
def tcg (c:Cf) (t:Nat):Tc:=c.ts.getD t tc0
def lcg (c:Cf) (n:Nat):Lc:=c.ls.getD n lc0
def Kn.call (K:Kn) (c:Cf) (t:Nat):Ins:=insAt (tcg c t).code ((K.T t).at_-1)
def Kn.setT (K:Kn) (t:Nat) (x:Ts):Kn:={ K with T:=upd K.T t x }
def Kn.wake (K:Kn) (c:Cf) (t:Nat) (why answer:Int):Kn :=
 let K1:=({ K with S:=delS (64+t) K.S }.setT t { K.T t with rg:=(K.T t).rg.set (K.call c t).a.toNat answer,st:=1,on:=0 }).tell c 10 t why 0
 { K1 with R:=putR K1.R t (K.T t).lev.toNat }
def Kn.relev (K:Kn) (c:Cf):Nat→Kn
 | 0=>K
 | n+1 =>
  let K:=K.relev c n
  if (K.T n).lev=lg K.L.now n then K
  else
   let K1:=K.tell c 11 n (lg K.L.now n) 0
   ({ K1 with R:=moveR K1.R n (lg K.L.now n).toNat }).setT n { K1.T n with lev:=lg K.L.now n }
def Kn.relevel (K:Kn) (c:Cf):Kn:=K.relev c c.ts.length
def Kn.postE (K:Kn) (s:Nat):Int:=Go.Proofs.YtkeommmigopnkaaGreatDoor.postE (K.sm s).1 (K.sm s).2
def Kn.post (K:Kn) (c:Cf) (who:Int) (s:Nat):Kn :=
 let u:=(K.sm s).1
 let l:=(K.sm s).2
 if Go.Proofs.YtkeommmigopnkaaGreatDoor.postE u l≠0 then K
 else
  let K1:=({ K with sm:=upd K.sm s (postU u l,postL K.L.now l) }).tell c 14 who s (postU u l)
  if l≠[] then K1.wake c (bestOf K.L.now l).toNat 1 0 else K1
def Kn.timeout (K:Kn) (c:Cf) (t:Nat):Kn :=
 let x:=K.T t
 if x.st=1 then K
 else if x.st=2 then K.wake c t 0 0
 else if x.st=4 then { K with sm:=upd K.sm (x.on-64).toNat ((K.sm (x.on-64).toNat).1,(K.sm (x.on-64).toNat).2.erase t) }.wake c t 0 9
 else if x.st=5 then { K with ml:=upd K.ml (x.on-96).toNat ((K.ml (x.on-96).toNat).cancel t) }.wake c t 0 9
 else if x.st=6 then { K with ml:=upd K.ml (x.on-128).toNat ((K.ml (x.on-128).toNat).cancel t) }.wake c t 0 9
 else K.wake c t 0 9
def Kn.release (K:Kn) (c:Cf) (t:Nat):Kn :=
 let x:=K.T t
 let K1:=if x.st=0 then
   let K2:=(K.setT t { x with job:=(x.job+1)%4294967296,st:=1 }).tell c 6 t 0 ((x.job+1)%4294967296)
   { K2 with R:=putR K2.R t x.lev.toNat }
  else (K.setT t { x with late:=min (x.late+1) 255 }).tell c 7 t 0 (min (x.late+1) 255)
 if 0<(tcg c t).per then { K1 with S:=putS K1.S t (tcg c t).per } else K1
def Kn.over (K:Kn) (c:Cf) (id:Int):Kn :=
 if id<64 then K.release c id.toNat
 else if id<128 then K.timeout c (id-64).toNat
 else
  let K1:=K.tell c 18 (id-128) 0 0
  let s:=(lg c.timers (id-128).toNat).toNat
  if K1.postE s≠0 then (K1.post c 80 s).tell c 23 80 (K1.postE s) 26 else K1.post c 80 s
def Kn.full (K:Kn):Prop:=K.count=18446744073709551615∨18446744073709486079<K.cycle
instance (K:Kn):Decidable K.full:=by unfold Kn.full;infer_instance
def Kn.tick (K:Kn) (c:Cf):Kn :=
 let K:=if K.full then { K with stopped:=true } else K
 if K.stopped then K
 else (overS K.S).foldl (fun K id=>K.over c id) { K with count:=K.count+1,S:=tickS K.S }
def Kn.raiseN (K:Kn) (c:Cf) (came again:Nat):Nat→Kn
 | 0=>K
 | n+1 =>
  let K:=K.raiseN c came again n
  if came.testBit n then K.tell c 1 n (if again.testBit n then 1 else 0) 0 else K
def Kn.raise (K:Kn) (c:Cf) (bits:Nat):Kn :=
 if K.stopped then K
 else { K with ln:=K.ln.raise bits }.raiseN c (bits &&& K.ln.all) ((bits &&& K.ln.all) &&& K.ln.pending) c.ls.length
def Kn.cx (K:Kn) (who:Nat):Cx:=if who<64 then ⟨(K.T who).at_,(K.T who).rg,K.tm who⟩ else ⟨K.iat,K.irg,K.mems (who-64)⟩
def Kn.reg (K:Kn) (who:Nat) (n:Int):Int:=if who<64 then (K.T who).rg.get n.toNat else K.irg.get n.toNat
def Kn.put (K:Kn) (who:Nat) (n v:Int):Kn:=if who<64 then K.setT who { K.T who with rg:=(K.T who).rg.set n.toNat v } else { K with irg:=K.irg.set n.toNat v }
def Kn.handed (K:Kn) (c:Cf) (t:Nat) (m next:Int):Kn :=
 let K1:=K.tell c 13 t m 0
 if next=255 then K1 else (K1.wake c next.toNat 1 0).tell c 12 next m 0
def Kn.give (K:Kn) (c:Cf) (t:Nat) (m:Int):Kn:=({ K with L:=unlockN K.L t m }).handed c t m (unlockR K.L t m).1
def Kn.gone (K:Kn) (c:Cf) (t:Nat) (status:Int):Kn :=
 let K1:={ K.setT t { K.T t with st:=status } with R:=remR K.R t,S:=delS t K.S }
 ((heldOf K.L t).foldl (fun K m=>K.give c t m) K1).relevel c
def Kn.refuse (K:Kn) (c:Cf) (who:Nat) (i:Ins) (e:Int):Kn:=(K.tell c 23 who e i.op).put who i.a e
def Kn.noRoom (K:Kn) (c:Cf):Bool:=decide (c.table≤fromOf K.S 64)
def Kn.holdE (K:Kn) (c:Cf) (t:Nat) (i:Ins):Int :=
 if i.d=2 then (if (K.T t).rg.get i.c.toNat=0 then 9 else if K.noRoom c then 7 else 0) else 0
def Kn.hold (K:Kn) (c:Cf) (t:Nat) (status on:Int) (i:Ins):Kn :=
 let K1:=if i.d=2 then { K with S:=putS K.S (64+t) ((K.T t).rg.get i.c.toNat) } else K
 { K1.setT t { K1.T t with st:=status,on:=on } with R:=remR K1.R t }.tell c 9 t on 0
def Kn.send (K:Kn) (c:Cf) (who:Nat) (i:Ins):Kn :=
 let q:=i.k.toNat
 let v:=K.reg who i.b
 let e:=(K.ml q).sendE
 if e≠0 then
  if i.d=1 then K.refuse c who i e
  else if K.holdE c who i=0 then
   let K1:=K.hold c who 5 (96+i.k) i
   { K1 with ml:=upd K1.ml q ((K1.ml q).hold who v) }
  else K.refuse c who i (K.holdE c who i)
 else
  let K1:=(({ K with ml:=upd K.ml q ((K.ml q).send K.L.now v) }).put who i.a 0).tell c 16 who i.k v
  let t:=((K.ml q).sendT K.L.now)
  if t=255 then K1
  else ((K1.put t.toNat (K1.call c t.toNat).b v).tell c 17 t i.k v).wake c t.toNat 1 0
def Kn.recv (K:Kn) (c:Cf) (who:Nat) (i:Ins):Kn :=
 let q:=i.k.toNat
 let e:=(K.ml q).recvE
 if e≠0 then
  if i.d=1 then K.refuse c who i e
  else if K.holdE c who i=0 then
   let K1:=K.hold c who 6 (128+i.k) i
   { K1 with ml:=upd K1.ml q ((K1.ml q).await who) }
  else K.refuse c who i (K.holdE c who i)
 else
  let v:=(K.ml q).recvV
  let K1:=((({ K with ml:=upd K.ml q ((K.ml q).recv K.L.now) }).put who i.b v).put who i.a 0).tell c 17 who i.k v
  let t:=((K.ml q).recvT K.L.now)
  if t=255 then K1
  else (K1.tell c 16 t i.k ((K1.T t.toNat).rg.get (K1.call c t.toNat).b.toNat)).wake c t.toNat 1 0
noncomputable def Kn.lock (K:Kn) (c:Cf) (t:Nat) (i:Ins):Kn :=
 let r:=lockR K.L t i.k
 if r.2.1≠0 then K.refuse c t i r.2.1
 else if r.1 then (({ K with L:=lockN K.L t i.k }).put t i.a 0).tell c 12 t i.k 0
 else (({ K with L:=lockN K.L t i.k }).hold c t 3 (32+i.k) i).relevel c
def Kn.unlock (K:Kn) (c:Cf) (t:Nat) (i:Ins):Kn :=
 let r:=unlockR K.L t i.k
 if r.2.1≠0 then K.refuse c t i r.2.1
 else ((({ K with L:=unlockN K.L t i.k }).put t i.a 0).handed c t i.k r.1).relevel c
def Kn.await (K:Kn) (c:Cf) (t:Nat) (i:Ins):Kn :=
 if (c.sems.length:Int)≤i.k then K.refuse c t i 15
 else
  let s:=i.k.toNat
  let u:=(K.sm s).1
  let e:=takeE u
  if e=0 then (({ K with sm:=upd K.sm s (takeU u,(K.sm s).2) }).put t i.a 0).tell c 15 t i.k (takeU u)
  else if i.d=1 then K.refuse c t i e
  else if K.holdE c t i=0 then
   let K1:=K.hold c t 4 (64+i.k) i
   { K1 with sm:=upd K1.sm s ((K1.sm s).1,awaitL (K1.sm s).1 (K1.sm s).2 t) }
  else K.refuse c t i (K.holdE c t i)
def Kn.sleep (K:Kn) (c:Cf) (t:Nat) (i:Ins):Kn :=
 let ticks:=K.reg t i.c
 if ticks=0 then K.put t i.a 0
 else if K.noRoom c then K.refuse c t i 7
 else ({ K with S:=putS K.S (64+t) ticks }).hold c t 2 0 i
def Kn.next (K:Kn) (c:Cf) (t:Nat):Kn :=
 let x:=K.T t
 let K1:=K.tell c 8 t 0 x.job
 if 0<x.late then (K1.setT t { x with late:=x.late-1,job:=(x.job+1)%4294967296 }).tell c 6 t 0 ((x.job+1)%4294967296)
 else { K1.setT t { x with st:=0 } with R:=remR K1.R t }
def Kn.timerE (K:Kn) (c:Cf) (who:Nat) (i:Ins):Int :=
 if (c.timers.length:Int)≤i.k then 15
 else if i.op=29∧K.reg who i.c=0 then 1
 else if has K.S (128+i.k) then 0
 else if i.op=30 then 8
 else if K.noRoom c then 7 else 0
def Kn.timer (K:Kn) (c:Cf) (who:Nat) (i:Ins):Kn :=
 let e:=K.timerE c who i
 if e≠0 then K.refuse c who i e
 else
  let ticks:=if i.op=29 then K.reg who i.c else 0
  let K1:={ K with S:=delS (128+i.k) K.S }
  let K2:=if i.op=29 then { K1 with S:=putS K1.S (128+i.k) ticks } else K1
  (K2.put who i.a 0).tell c 19 who i.k ticks
def Kn.shared (K:Kn) (c:Cf) (who:Nat) (i:Ins) (value:Int):Kn :=
 if i.op=21 then (({ K with reads:=(K.reads+1)%18446744073709551616 }).put who i.a value).tell c 2 i.k who value
 else if i.op=22 then K.tell c 20 i.k who (K.reg who i.a)
 else if i.op=23 then { K with ln:=K.ln.let_ (K.reg who i.a).toNat }
 else if i.op=24 then K.put who i.a (who%64:Nat)
 else if i.op=25 then K.put who i.a (K.count%4294967296)
 else if i.op=26 then
  if (c.sems.length:Int)≤i.k then K.refuse c who i 15
  else if K.postE i.k.toNat≠0 then K.refuse c who i (K.postE i.k.toNat)
  else (K.post c who i.k.toNat).put who i.a 0
 else if i.op=27∨i.op=28 then
  if (c.queues.length:Int)≤i.k then K.refuse c who i 15
  else if i.op=27 then K.send c who i else K.recv c who i
 else if i.op=29∨i.op=30 then K.timer c who i
 else K
noncomputable def Kn.serveTask (K:Kn) (c:Cf) (t:Nat) (i:Ins) (value:Int):Kn :=
 if i.op=31 then K.lock c t i
 else if i.op=32 then K.unlock c t i
 else if i.op=33 then K.await c t i
 else if i.op=34 then K.sleep c t i
 else if i.op=35 then { K with R:=turnR K.R t }
 else if i.op=36 then K.next c t
 else K.shared c t i value
def fetch (l:List Ins) (at_:Int) (last:Int):Ins:=if at_<l.length then insAt l at_ else ⟨last,0,0,0,0,0⟩
def Kn.cost (K:Kn) (n:Int):Kn:={ K with cycle:=(K.cycle+n)%18446744073709551616 }
def Kn.putCx (K:Kn) (who:Nat) (x:Cx):Kn :=
 if who<64 then { K.setT who { K.T who with at_:=x.at_,rg:=x.rg } with tm:=upd K.tm who x.mem }
 else { K with iat:=x.at_,irg:=x.rg,mems:=upd K.mems (who-64) x.mem }
noncomputable def Kn.go (K:Kn) (c:Cf) (t:Nat) (value:Int):Kn :=
 let i:=fetch (tcg c t).code (K.T t).at_ 37
 let K1:=K.cost (costOf i)
 if i.op≤20 then
  let r:=doI i (K1.cx t)
  let K2:=K1.putCx t r.2
  if r.1=0 then K2 else (K2.tell c 21 t r.1 0).gone c t 8
 else
  let K2:=K1.setT t { K1.T t with at_:=(K1.T t).at_+1 }
  if i.op=37 then (K2.tell c 22 t 0 0).gone c t 7
  else K2.serveTask c t i value
noncomputable def Kn.dispatch (K:Kn) (c:Cf) (value:Int):Kn :=
 let t:=match firstR K.R with
  | none=>(255:Int)
  | some t=>t
 let K1:=if t=K.run then K else { (K.tell c 5 t K.run 0).cost 10 with run:=t }
 match firstR K.R with
 | none=>K1.cost 1
 | some t=>K1.go c t value
def Kn.serve (K:Kn) (c:Cf) (n:Nat) (value:Int):Kn :=
 let i:=fetch (lcg c n).code K.iat 38
 let K1:=K.cost (costOf i)
 if i.op≤20 then
  let r:=doI i (K1.cx (64+n))
  let K2:=K1.putCx (64+n) r.2
  if r.1=0 then K2
  else
   let K3:=K2.tell c 21 (64+n) r.1 0
   let K4:={ K3 with ln:=K3.ln.bar n }.tell c 4 n 0 0
   { K4 with ln:=K4.ln.leave }
 else if i.op=38 then
  let K4:=K1.tell c 4 n 0 0
  { K4 with ln:=K4.ln.leave }
 else { K1 with iat:=K1.iat+1 }.shared c (64+n) i value
noncomputable def Kn.act (K:Kn) (c:Cf) (value:Int):Kn :=
 if K.stopped then K
 else if K.ln.active≠255 then K.serve c K.ln.active.toNat value
 else if K.ln.ready then
  let K1:={ K with ln:=K.ln.enter }.tell c 3 K.ln.enter.active 0 0
  { K1.cost 6 with iat:=0,irg:=r80 }
 else K.dispatch c value
def Kn.take (K:Kn):Kn:={ K with told:=[] }
noncomputable def Kn.step (K:Kn) (c:Cf) (bits:Nat) (value:Int):Kn:=((((K.tick c).take.raise c bits).take).act c value).take
def Kn.wCount (K:Kn) (x:Int):Kn:={ K with count:=x }
def Kn.wCycle (K:Kn) (x:Int):Kn:={ K with cycle:=x }
def Kn.wTold (K:Kn) (x:List Ev):Kn:={ K with told:=x }
def Kn.wS (K:Kn) (x:List Ck):Kn:={ K with S:=x }
def Kn.wR (K:Kn) (x:Nat→List Nat):Kn:={ K with R:=x }
def Kn.wRun (K:Kn) (x:Int):Kn:={ K with run:=x }
def Kn.wIat (K:Kn) (x:Int):Kn:={ K with iat:=x }
def Kn.wIrg (K:Kn) (x:R8):Kn:={ K with irg:=x }
def Kn.wMems (K:Kn) (x:Nat→List Int):Kn:={ K with mems:=x }
def Kn.wT (K:Kn) (x:Nat→Ts):Kn:={ K with T:=x }
def Kn.wTm (K:Kn) (x:Nat→List Int):Kn:={ K with tm:=x }
def Kn.wL (K:Kn) (x:Lk):Kn:={ K with L:=x }
def Kn.wSm (K:Kn) (x:Nat→Int×List Int):Kn:={ K with sm:=x }
def Kn.wMl (K:Kn) (x:Nat→Mq):Kn:={ K with ml:=x }
def Kn.wLn (K:Kn) (x:Ln):Kn:={ K with ln:=x }
def Kn.wReads (K:Kn) (x:Int):Kn:={ K with reads:=x }
def Kn.wStopped (K:Kn) (x:Bool):Kn:={ K with stopped:=x }
@[simp,go_sem] theorem Kn.wCount_count (K:Kn) (x:Int):(K.wCount x).count=x:=rfl
@[simp,go_sem] theorem Kn.wCount_cycle (K:Kn) (x:Int):(K.wCount x).cycle=K.cycle:=rfl
@[simp,go_sem] theorem Kn.wCount_told (K:Kn) (x:Int):(K.wCount x).told=K.told:=rfl
@[simp,go_sem] theorem Kn.wCount_S (K:Kn) (x:Int):(K.wCount x).S=K.S:=rfl
@[simp,go_sem] theorem Kn.wCount_R (K:Kn) (x:Int):(K.wCount x).R=K.R:=rfl
@[simp,go_sem] theorem Kn.wCount_run (K:Kn) (x:Int):(K.wCount x).run=K.run:=rfl
@[simp,go_sem] theorem Kn.wCount_iat (K:Kn) (x:Int):(K.wCount x).iat=K.iat:=rfl
@[simp,go_sem] theorem Kn.wCount_irg (K:Kn) (x:Int):(K.wCount x).irg=K.irg:=rfl
@[simp,go_sem] theorem Kn.wCount_mems (K:Kn) (x:Int):(K.wCount x).mems=K.mems:=rfl
@[simp,go_sem] theorem Kn.wCount_T (K:Kn) (x:Int):(K.wCount x).T=K.T:=rfl
@[simp,go_sem] theorem Kn.wCount_tm (K:Kn) (x:Int):(K.wCount x).tm=K.tm:=rfl
@[simp,go_sem] theorem Kn.wCount_L (K:Kn) (x:Int):(K.wCount x).L=K.L:=rfl
@[simp,go_sem] theorem Kn.wCount_sm (K:Kn) (x:Int):(K.wCount x).sm=K.sm:=rfl
@[simp,go_sem] theorem Kn.wCount_ml (K:Kn) (x:Int):(K.wCount x).ml=K.ml:=rfl
@[simp,go_sem] theorem Kn.wCount_ln (K:Kn) (x:Int):(K.wCount x).ln=K.ln:=rfl
@[simp,go_sem] theorem Kn.wCount_reads (K:Kn) (x:Int):(K.wCount x).reads=K.reads:=rfl
@[simp,go_sem] theorem Kn.wCount_stopped (K:Kn) (x:Int):(K.wCount x).stopped=K.stopped:=rfl
@[simp] theorem Kn.wCount_self (K:Kn):K.wCount K.count=K:=rfl
@[simp] theorem Kn.wCount_wCount (K:Kn) (x y:Int):(K.wCount x).wCount y=K.wCount y:=rfl
@[simp,go_sem] theorem Kn.wCycle_count (K:Kn) (x:Int):(K.wCycle x).count=K.count:=rfl
@[simp,go_sem] theorem Kn.wCycle_cycle (K:Kn) (x:Int):(K.wCycle x).cycle=x:=rfl
@[simp,go_sem] theorem Kn.wCycle_told (K:Kn) (x:Int):(K.wCycle x).told=K.told:=rfl
@[simp,go_sem] theorem Kn.wCycle_S (K:Kn) (x:Int):(K.wCycle x).S=K.S:=rfl
@[simp,go_sem] theorem Kn.wCycle_R (K:Kn) (x:Int):(K.wCycle x).R=K.R:=rfl
@[simp,go_sem] theorem Kn.wCycle_run (K:Kn) (x:Int):(K.wCycle x).run=K.run:=rfl
@[simp,go_sem] theorem Kn.wCycle_iat (K:Kn) (x:Int):(K.wCycle x).iat=K.iat:=rfl
@[simp,go_sem] theorem Kn.wCycle_irg (K:Kn) (x:Int):(K.wCycle x).irg=K.irg:=rfl
@[simp,go_sem] theorem Kn.wCycle_mems (K:Kn) (x:Int):(K.wCycle x).mems=K.mems:=rfl
@[simp,go_sem] theorem Kn.wCycle_T (K:Kn) (x:Int):(K.wCycle x).T=K.T:=rfl
@[simp,go_sem] theorem Kn.wCycle_tm (K:Kn) (x:Int):(K.wCycle x).tm=K.tm:=rfl
@[simp,go_sem] theorem Kn.wCycle_L (K:Kn) (x:Int):(K.wCycle x).L=K.L:=rfl
@[simp,go_sem] theorem Kn.wCycle_sm (K:Kn) (x:Int):(K.wCycle x).sm=K.sm:=rfl
@[simp,go_sem] theorem Kn.wCycle_ml (K:Kn) (x:Int):(K.wCycle x).ml=K.ml:=rfl
@[simp,go_sem] theorem Kn.wCycle_ln (K:Kn) (x:Int):(K.wCycle x).ln=K.ln:=rfl
@[simp,go_sem] theorem Kn.wCycle_reads (K:Kn) (x:Int):(K.wCycle x).reads=K.reads:=rfl
@[simp,go_sem] theorem Kn.wCycle_stopped (K:Kn) (x:Int):(K.wCycle x).stopped=K.stopped:=rfl
@[simp] theorem Kn.wCycle_self (K:Kn):K.wCycle K.cycle=K:=rfl
@[simp] theorem Kn.wCycle_wCycle (K:Kn) (x y:Int):(K.wCycle x).wCycle y=K.wCycle y:=rfl
@[simp,go_sem] theorem Kn.wTold_count (K:Kn) (x:List Ev):(K.wTold x).count=K.count:=rfl
@[simp,go_sem] theorem Kn.wTold_cycle (K:Kn) (x:List Ev):(K.wTold x).cycle=K.cycle:=rfl
@[simp,go_sem] theorem Kn.wTold_told (K:Kn) (x:List Ev):(K.wTold x).told=x:=rfl
@[simp,go_sem] theorem Kn.wTold_S (K:Kn) (x:List Ev):(K.wTold x).S=K.S:=rfl
@[simp,go_sem] theorem Kn.wTold_R (K:Kn) (x:List Ev):(K.wTold x).R=K.R:=rfl
@[simp,go_sem] theorem Kn.wTold_run (K:Kn) (x:List Ev):(K.wTold x).run=K.run:=rfl
@[simp,go_sem] theorem Kn.wTold_iat (K:Kn) (x:List Ev):(K.wTold x).iat=K.iat:=rfl
@[simp,go_sem] theorem Kn.wTold_irg (K:Kn) (x:List Ev):(K.wTold x).irg=K.irg:=rfl
@[simp,go_sem] theorem Kn.wTold_mems (K:Kn) (x:List Ev):(K.wTold x).mems=K.mems:=rfl
@[simp,go_sem] theorem Kn.wTold_T (K:Kn) (x:List Ev):(K.wTold x).T=K.T:=rfl
@[simp,go_sem] theorem Kn.wTold_tm (K:Kn) (x:List Ev):(K.wTold x).tm=K.tm:=rfl
@[simp,go_sem] theorem Kn.wTold_L (K:Kn) (x:List Ev):(K.wTold x).L=K.L:=rfl
@[simp,go_sem] theorem Kn.wTold_sm (K:Kn) (x:List Ev):(K.wTold x).sm=K.sm:=rfl
@[simp,go_sem] theorem Kn.wTold_ml (K:Kn) (x:List Ev):(K.wTold x).ml=K.ml:=rfl
@[simp,go_sem] theorem Kn.wTold_ln (K:Kn) (x:List Ev):(K.wTold x).ln=K.ln:=rfl
@[simp,go_sem] theorem Kn.wTold_reads (K:Kn) (x:List Ev):(K.wTold x).reads=K.reads:=rfl
@[simp,go_sem] theorem Kn.wTold_stopped (K:Kn) (x:List Ev):(K.wTold x).stopped=K.stopped:=rfl
@[simp] theorem Kn.wTold_self (K:Kn):K.wTold K.told=K:=rfl
@[simp] theorem Kn.wTold_wTold (K:Kn) (x y:List Ev):(K.wTold x).wTold y=K.wTold y:=rfl
@[simp,go_sem] theorem Kn.wS_count (K:Kn) (x:List Ck):(K.wS x).count=K.count:=rfl
@[simp,go_sem] theorem Kn.wS_cycle (K:Kn) (x:List Ck):(K.wS x).cycle=K.cycle:=rfl
@[simp,go_sem] theorem Kn.wS_told (K:Kn) (x:List Ck):(K.wS x).told=K.told:=rfl
@[simp,go_sem] theorem Kn.wS_S (K:Kn) (x:List Ck):(K.wS x).S=x:=rfl
@[simp,go_sem] theorem Kn.wS_R (K:Kn) (x:List Ck):(K.wS x).R=K.R:=rfl
@[simp,go_sem] theorem Kn.wS_run (K:Kn) (x:List Ck):(K.wS x).run=K.run:=rfl
@[simp,go_sem] theorem Kn.wS_iat (K:Kn) (x:List Ck):(K.wS x).iat=K.iat:=rfl
@[simp,go_sem] theorem Kn.wS_irg (K:Kn) (x:List Ck):(K.wS x).irg=K.irg:=rfl
@[simp,go_sem] theorem Kn.wS_mems (K:Kn) (x:List Ck):(K.wS x).mems=K.mems:=rfl
@[simp,go_sem] theorem Kn.wS_T (K:Kn) (x:List Ck):(K.wS x).T=K.T:=rfl
@[simp,go_sem] theorem Kn.wS_tm (K:Kn) (x:List Ck):(K.wS x).tm=K.tm:=rfl
@[simp,go_sem] theorem Kn.wS_L (K:Kn) (x:List Ck):(K.wS x).L=K.L:=rfl
@[simp,go_sem] theorem Kn.wS_sm (K:Kn) (x:List Ck):(K.wS x).sm=K.sm:=rfl
@[simp,go_sem] theorem Kn.wS_ml (K:Kn) (x:List Ck):(K.wS x).ml=K.ml:=rfl
@[simp,go_sem] theorem Kn.wS_ln (K:Kn) (x:List Ck):(K.wS x).ln=K.ln:=rfl
@[simp,go_sem] theorem Kn.wS_reads (K:Kn) (x:List Ck):(K.wS x).reads=K.reads:=rfl
@[simp,go_sem] theorem Kn.wS_stopped (K:Kn) (x:List Ck):(K.wS x).stopped=K.stopped:=rfl
@[simp] theorem Kn.wS_self (K:Kn):K.wS K.S=K:=rfl
@[simp] theorem Kn.wS_wS (K:Kn) (x y:List Ck):(K.wS x).wS y=K.wS y:=rfl
@[simp,go_sem] theorem Kn.wR_count (K:Kn) (x:Nat→List Nat):(K.wR x).count=K.count:=rfl
@[simp,go_sem] theorem Kn.wR_cycle (K:Kn) (x:Nat→List Nat):(K.wR x).cycle=K.cycle:=rfl
@[simp,go_sem] theorem Kn.wR_told (K:Kn) (x:Nat→List Nat):(K.wR x).told=K.told:=rfl
@[simp,go_sem] theorem Kn.wR_S (K:Kn) (x:Nat→List Nat):(K.wR x).S=K.S:=rfl
@[simp,go_sem] theorem Kn.wR_R (K:Kn) (x:Nat→List Nat):(K.wR x).R=x:=rfl
@[simp,go_sem] theorem Kn.wR_run (K:Kn) (x:Nat→List Nat):(K.wR x).run=K.run:=rfl
@[simp,go_sem] theorem Kn.wR_iat (K:Kn) (x:Nat→List Nat):(K.wR x).iat=K.iat:=rfl
@[simp,go_sem] theorem Kn.wR_irg (K:Kn) (x:Nat→List Nat):(K.wR x).irg=K.irg:=rfl
@[simp,go_sem] theorem Kn.wR_mems (K:Kn) (x:Nat→List Nat):(K.wR x).mems=K.mems:=rfl
@[simp,go_sem] theorem Kn.wR_T (K:Kn) (x:Nat→List Nat):(K.wR x).T=K.T:=rfl
@[simp,go_sem] theorem Kn.wR_tm (K:Kn) (x:Nat→List Nat):(K.wR x).tm=K.tm:=rfl
@[simp,go_sem] theorem Kn.wR_L (K:Kn) (x:Nat→List Nat):(K.wR x).L=K.L:=rfl
@[simp,go_sem] theorem Kn.wR_sm (K:Kn) (x:Nat→List Nat):(K.wR x).sm=K.sm:=rfl
@[simp,go_sem] theorem Kn.wR_ml (K:Kn) (x:Nat→List Nat):(K.wR x).ml=K.ml:=rfl
@[simp,go_sem] theorem Kn.wR_ln (K:Kn) (x:Nat→List Nat):(K.wR x).ln=K.ln:=rfl
@[simp,go_sem] theorem Kn.wR_reads (K:Kn) (x:Nat→List Nat):(K.wR x).reads=K.reads:=rfl
@[simp,go_sem] theorem Kn.wR_stopped (K:Kn) (x:Nat→List Nat):(K.wR x).stopped=K.stopped:=rfl
@[simp] theorem Kn.wR_self (K:Kn):K.wR K.R=K:=rfl
@[simp] theorem Kn.wR_wR (K:Kn) (x y:Nat→List Nat):(K.wR x).wR y=K.wR y:=rfl
@[simp,go_sem] theorem Kn.wRun_count (K:Kn) (x:Int):(K.wRun x).count=K.count:=rfl
@[simp,go_sem] theorem Kn.wRun_cycle (K:Kn) (x:Int):(K.wRun x).cycle=K.cycle:=rfl
@[simp,go_sem] theorem Kn.wRun_told (K:Kn) (x:Int):(K.wRun x).told=K.told:=rfl
@[simp,go_sem] theorem Kn.wRun_S (K:Kn) (x:Int):(K.wRun x).S=K.S:=rfl
@[simp,go_sem] theorem Kn.wRun_R (K:Kn) (x:Int):(K.wRun x).R=K.R:=rfl
@[simp,go_sem] theorem Kn.wRun_run (K:Kn) (x:Int):(K.wRun x).run=x:=rfl
@[simp,go_sem] theorem Kn.wRun_iat (K:Kn) (x:Int):(K.wRun x).iat=K.iat:=rfl
@[simp,go_sem] theorem Kn.wRun_irg (K:Kn) (x:Int):(K.wRun x).irg=K.irg:=rfl
@[simp,go_sem] theorem Kn.wRun_mems (K:Kn) (x:Int):(K.wRun x).mems=K.mems:=rfl
@[simp,go_sem] theorem Kn.wRun_T (K:Kn) (x:Int):(K.wRun x).T=K.T:=rfl
@[simp,go_sem] theorem Kn.wRun_tm (K:Kn) (x:Int):(K.wRun x).tm=K.tm:=rfl
@[simp,go_sem] theorem Kn.wRun_L (K:Kn) (x:Int):(K.wRun x).L=K.L:=rfl
@[simp,go_sem] theorem Kn.wRun_sm (K:Kn) (x:Int):(K.wRun x).sm=K.sm:=rfl
@[simp,go_sem] theorem Kn.wRun_ml (K:Kn) (x:Int):(K.wRun x).ml=K.ml:=rfl
@[simp,go_sem] theorem Kn.wRun_ln (K:Kn) (x:Int):(K.wRun x).ln=K.ln:=rfl
@[simp,go_sem] theorem Kn.wRun_reads (K:Kn) (x:Int):(K.wRun x).reads=K.reads:=rfl
@[simp,go_sem] theorem Kn.wRun_stopped (K:Kn) (x:Int):(K.wRun x).stopped=K.stopped:=rfl
@[simp] theorem Kn.wRun_self (K:Kn):K.wRun K.run=K:=rfl
@[simp] theorem Kn.wRun_wRun (K:Kn) (x y:Int):(K.wRun x).wRun y=K.wRun y:=rfl
@[simp,go_sem] theorem Kn.wIat_count (K:Kn) (x:Int):(K.wIat x).count=K.count:=rfl
@[simp,go_sem] theorem Kn.wIat_cycle (K:Kn) (x:Int):(K.wIat x).cycle=K.cycle:=rfl
@[simp,go_sem] theorem Kn.wIat_told (K:Kn) (x:Int):(K.wIat x).told=K.told:=rfl
@[simp,go_sem] theorem Kn.wIat_S (K:Kn) (x:Int):(K.wIat x).S=K.S:=rfl
@[simp,go_sem] theorem Kn.wIat_R (K:Kn) (x:Int):(K.wIat x).R=K.R:=rfl
@[simp,go_sem] theorem Kn.wIat_run (K:Kn) (x:Int):(K.wIat x).run=K.run:=rfl
@[simp,go_sem] theorem Kn.wIat_iat (K:Kn) (x:Int):(K.wIat x).iat=x:=rfl
@[simp,go_sem] theorem Kn.wIat_irg (K:Kn) (x:Int):(K.wIat x).irg=K.irg:=rfl
@[simp,go_sem] theorem Kn.wIat_mems (K:Kn) (x:Int):(K.wIat x).mems=K.mems:=rfl
@[simp,go_sem] theorem Kn.wIat_T (K:Kn) (x:Int):(K.wIat x).T=K.T:=rfl
@[simp,go_sem] theorem Kn.wIat_tm (K:Kn) (x:Int):(K.wIat x).tm=K.tm:=rfl
@[simp,go_sem] theorem Kn.wIat_L (K:Kn) (x:Int):(K.wIat x).L=K.L:=rfl
@[simp,go_sem] theorem Kn.wIat_sm (K:Kn) (x:Int):(K.wIat x).sm=K.sm:=rfl
@[simp,go_sem] theorem Kn.wIat_ml (K:Kn) (x:Int):(K.wIat x).ml=K.ml:=rfl
@[simp,go_sem] theorem Kn.wIat_ln (K:Kn) (x:Int):(K.wIat x).ln=K.ln:=rfl
@[simp,go_sem] theorem Kn.wIat_reads (K:Kn) (x:Int):(K.wIat x).reads=K.reads:=rfl
@[simp,go_sem] theorem Kn.wIat_stopped (K:Kn) (x:Int):(K.wIat x).stopped=K.stopped:=rfl
@[simp] theorem Kn.wIat_self (K:Kn):K.wIat K.iat=K:=rfl
@[simp] theorem Kn.wIat_wIat (K:Kn) (x y:Int):(K.wIat x).wIat y=K.wIat y:=rfl
@[simp,go_sem] theorem Kn.wIrg_count (K:Kn) (x:R8):(K.wIrg x).count=K.count:=rfl
@[simp,go_sem] theorem Kn.wIrg_cycle (K:Kn) (x:R8):(K.wIrg x).cycle=K.cycle:=rfl
@[simp,go_sem] theorem Kn.wIrg_told (K:Kn) (x:R8):(K.wIrg x).told=K.told:=rfl
@[simp,go_sem] theorem Kn.wIrg_S (K:Kn) (x:R8):(K.wIrg x).S=K.S:=rfl
@[simp,go_sem] theorem Kn.wIrg_R (K:Kn) (x:R8):(K.wIrg x).R=K.R:=rfl
@[simp,go_sem] theorem Kn.wIrg_run (K:Kn) (x:R8):(K.wIrg x).run=K.run:=rfl
@[simp,go_sem] theorem Kn.wIrg_iat (K:Kn) (x:R8):(K.wIrg x).iat=K.iat:=rfl
@[simp,go_sem] theorem Kn.wIrg_irg (K:Kn) (x:R8):(K.wIrg x).irg=x:=rfl
@[simp,go_sem] theorem Kn.wIrg_mems (K:Kn) (x:R8):(K.wIrg x).mems=K.mems:=rfl
@[simp,go_sem] theorem Kn.wIrg_T (K:Kn) (x:R8):(K.wIrg x).T=K.T:=rfl
@[simp,go_sem] theorem Kn.wIrg_tm (K:Kn) (x:R8):(K.wIrg x).tm=K.tm:=rfl
@[simp,go_sem] theorem Kn.wIrg_L (K:Kn) (x:R8):(K.wIrg x).L=K.L:=rfl
@[simp,go_sem] theorem Kn.wIrg_sm (K:Kn) (x:R8):(K.wIrg x).sm=K.sm:=rfl
@[simp,go_sem] theorem Kn.wIrg_ml (K:Kn) (x:R8):(K.wIrg x).ml=K.ml:=rfl
@[simp,go_sem] theorem Kn.wIrg_ln (K:Kn) (x:R8):(K.wIrg x).ln=K.ln:=rfl
@[simp,go_sem] theorem Kn.wIrg_reads (K:Kn) (x:R8):(K.wIrg x).reads=K.reads:=rfl
@[simp,go_sem] theorem Kn.wIrg_stopped (K:Kn) (x:R8):(K.wIrg x).stopped=K.stopped:=rfl
@[simp] theorem Kn.wIrg_self (K:Kn):K.wIrg K.irg=K:=rfl
@[simp] theorem Kn.wIrg_wIrg (K:Kn) (x y:R8):(K.wIrg x).wIrg y=K.wIrg y:=rfl
@[simp,go_sem] theorem Kn.wMems_count (K:Kn) (x:Nat→List Int):(K.wMems x).count=K.count:=rfl
@[simp,go_sem] theorem Kn.wMems_cycle (K:Kn) (x:Nat→List Int):(K.wMems x).cycle=K.cycle:=rfl
@[simp,go_sem] theorem Kn.wMems_told (K:Kn) (x:Nat→List Int):(K.wMems x).told=K.told:=rfl
@[simp,go_sem] theorem Kn.wMems_S (K:Kn) (x:Nat→List Int):(K.wMems x).S=K.S:=rfl
@[simp,go_sem] theorem Kn.wMems_R (K:Kn) (x:Nat→List Int):(K.wMems x).R=K.R:=rfl
@[simp,go_sem] theorem Kn.wMems_run (K:Kn) (x:Nat→List Int):(K.wMems x).run=K.run:=rfl
@[simp,go_sem] theorem Kn.wMems_iat (K:Kn) (x:Nat→List Int):(K.wMems x).iat=K.iat:=rfl
@[simp,go_sem] theorem Kn.wMems_irg (K:Kn) (x:Nat→List Int):(K.wMems x).irg=K.irg:=rfl
@[simp,go_sem] theorem Kn.wMems_mems (K:Kn) (x:Nat→List Int):(K.wMems x).mems=x:=rfl
@[simp,go_sem] theorem Kn.wMems_T (K:Kn) (x:Nat→List Int):(K.wMems x).T=K.T:=rfl
@[simp,go_sem] theorem Kn.wMems_tm (K:Kn) (x:Nat→List Int):(K.wMems x).tm=K.tm:=rfl
@[simp,go_sem] theorem Kn.wMems_L (K:Kn) (x:Nat→List Int):(K.wMems x).L=K.L:=rfl
@[simp,go_sem] theorem Kn.wMems_sm (K:Kn) (x:Nat→List Int):(K.wMems x).sm=K.sm:=rfl
@[simp,go_sem] theorem Kn.wMems_ml (K:Kn) (x:Nat→List Int):(K.wMems x).ml=K.ml:=rfl
@[simp,go_sem] theorem Kn.wMems_ln (K:Kn) (x:Nat→List Int):(K.wMems x).ln=K.ln:=rfl
@[simp,go_sem] theorem Kn.wMems_reads (K:Kn) (x:Nat→List Int):(K.wMems x).reads=K.reads:=rfl
@[simp,go_sem] theorem Kn.wMems_stopped (K:Kn) (x:Nat→List Int):(K.wMems x).stopped=K.stopped:=rfl
@[simp] theorem Kn.wMems_self (K:Kn):K.wMems K.mems=K:=rfl
@[simp] theorem Kn.wMems_wMems (K:Kn) (x y:Nat→List Int):(K.wMems x).wMems y=K.wMems y:=rfl
@[simp,go_sem] theorem Kn.wT_count (K:Kn) (x:Nat→Ts):(K.wT x).count=K.count:=rfl
@[simp,go_sem] theorem Kn.wT_cycle (K:Kn) (x:Nat→Ts):(K.wT x).cycle=K.cycle:=rfl
@[simp,go_sem] theorem Kn.wT_told (K:Kn) (x:Nat→Ts):(K.wT x).told=K.told:=rfl
@[simp,go_sem] theorem Kn.wT_S (K:Kn) (x:Nat→Ts):(K.wT x).S=K.S:=rfl
@[simp,go_sem] theorem Kn.wT_R (K:Kn) (x:Nat→Ts):(K.wT x).R=K.R:=rfl
@[simp,go_sem] theorem Kn.wT_run (K:Kn) (x:Nat→Ts):(K.wT x).run=K.run:=rfl
@[simp,go_sem] theorem Kn.wT_iat (K:Kn) (x:Nat→Ts):(K.wT x).iat=K.iat:=rfl
@[simp,go_sem] theorem Kn.wT_irg (K:Kn) (x:Nat→Ts):(K.wT x).irg=K.irg:=rfl
@[simp,go_sem] theorem Kn.wT_mems (K:Kn) (x:Nat→Ts):(K.wT x).mems=K.mems:=rfl
@[simp,go_sem] theorem Kn.wT_T (K:Kn) (x:Nat→Ts):(K.wT x).T=x:=rfl
@[simp,go_sem] theorem Kn.wT_tm (K:Kn) (x:Nat→Ts):(K.wT x).tm=K.tm:=rfl
@[simp,go_sem] theorem Kn.wT_L (K:Kn) (x:Nat→Ts):(K.wT x).L=K.L:=rfl
@[simp,go_sem] theorem Kn.wT_sm (K:Kn) (x:Nat→Ts):(K.wT x).sm=K.sm:=rfl
@[simp,go_sem] theorem Kn.wT_ml (K:Kn) (x:Nat→Ts):(K.wT x).ml=K.ml:=rfl
@[simp,go_sem] theorem Kn.wT_ln (K:Kn) (x:Nat→Ts):(K.wT x).ln=K.ln:=rfl
@[simp,go_sem] theorem Kn.wT_reads (K:Kn) (x:Nat→Ts):(K.wT x).reads=K.reads:=rfl
@[simp,go_sem] theorem Kn.wT_stopped (K:Kn) (x:Nat→Ts):(K.wT x).stopped=K.stopped:=rfl
@[simp] theorem Kn.wT_self (K:Kn):K.wT K.T=K:=rfl
@[simp] theorem Kn.wT_wT (K:Kn) (x y:Nat→Ts):(K.wT x).wT y=K.wT y:=rfl
@[simp,go_sem] theorem Kn.wTm_count (K:Kn) (x:Nat→List Int):(K.wTm x).count=K.count:=rfl
@[simp,go_sem] theorem Kn.wTm_cycle (K:Kn) (x:Nat→List Int):(K.wTm x).cycle=K.cycle:=rfl
@[simp,go_sem] theorem Kn.wTm_told (K:Kn) (x:Nat→List Int):(K.wTm x).told=K.told:=rfl
@[simp,go_sem] theorem Kn.wTm_S (K:Kn) (x:Nat→List Int):(K.wTm x).S=K.S:=rfl
@[simp,go_sem] theorem Kn.wTm_R (K:Kn) (x:Nat→List Int):(K.wTm x).R=K.R:=rfl
@[simp,go_sem] theorem Kn.wTm_run (K:Kn) (x:Nat→List Int):(K.wTm x).run=K.run:=rfl
@[simp,go_sem] theorem Kn.wTm_iat (K:Kn) (x:Nat→List Int):(K.wTm x).iat=K.iat:=rfl
@[simp,go_sem] theorem Kn.wTm_irg (K:Kn) (x:Nat→List Int):(K.wTm x).irg=K.irg:=rfl
@[simp,go_sem] theorem Kn.wTm_mems (K:Kn) (x:Nat→List Int):(K.wTm x).mems=K.mems:=rfl
@[simp,go_sem] theorem Kn.wTm_T (K:Kn) (x:Nat→List Int):(K.wTm x).T=K.T:=rfl
@[simp,go_sem] theorem Kn.wTm_tm (K:Kn) (x:Nat→List Int):(K.wTm x).tm=x:=rfl
@[simp,go_sem] theorem Kn.wTm_L (K:Kn) (x:Nat→List Int):(K.wTm x).L=K.L:=rfl
@[simp,go_sem] theorem Kn.wTm_sm (K:Kn) (x:Nat→List Int):(K.wTm x).sm=K.sm:=rfl
@[simp,go_sem] theorem Kn.wTm_ml (K:Kn) (x:Nat→List Int):(K.wTm x).ml=K.ml:=rfl
@[simp,go_sem] theorem Kn.wTm_ln (K:Kn) (x:Nat→List Int):(K.wTm x).ln=K.ln:=rfl
@[simp,go_sem] theorem Kn.wTm_reads (K:Kn) (x:Nat→List Int):(K.wTm x).reads=K.reads:=rfl
@[simp,go_sem] theorem Kn.wTm_stopped (K:Kn) (x:Nat→List Int):(K.wTm x).stopped=K.stopped:=rfl
@[simp] theorem Kn.wTm_self (K:Kn):K.wTm K.tm=K:=rfl
@[simp] theorem Kn.wTm_wTm (K:Kn) (x y:Nat→List Int):(K.wTm x).wTm y=K.wTm y:=rfl
@[simp,go_sem] theorem Kn.wL_count (K:Kn) (x:Lk):(K.wL x).count=K.count:=rfl
@[simp,go_sem] theorem Kn.wL_cycle (K:Kn) (x:Lk):(K.wL x).cycle=K.cycle:=rfl
@[simp,go_sem] theorem Kn.wL_told (K:Kn) (x:Lk):(K.wL x).told=K.told:=rfl
@[simp,go_sem] theorem Kn.wL_S (K:Kn) (x:Lk):(K.wL x).S=K.S:=rfl
@[simp,go_sem] theorem Kn.wL_R (K:Kn) (x:Lk):(K.wL x).R=K.R:=rfl
@[simp,go_sem] theorem Kn.wL_run (K:Kn) (x:Lk):(K.wL x).run=K.run:=rfl
@[simp,go_sem] theorem Kn.wL_iat (K:Kn) (x:Lk):(K.wL x).iat=K.iat:=rfl
@[simp,go_sem] theorem Kn.wL_irg (K:Kn) (x:Lk):(K.wL x).irg=K.irg:=rfl
@[simp,go_sem] theorem Kn.wL_mems (K:Kn) (x:Lk):(K.wL x).mems=K.mems:=rfl
@[simp,go_sem] theorem Kn.wL_T (K:Kn) (x:Lk):(K.wL x).T=K.T:=rfl
@[simp,go_sem] theorem Kn.wL_tm (K:Kn) (x:Lk):(K.wL x).tm=K.tm:=rfl
@[simp,go_sem] theorem Kn.wL_L (K:Kn) (x:Lk):(K.wL x).L=x:=rfl
@[simp,go_sem] theorem Kn.wL_sm (K:Kn) (x:Lk):(K.wL x).sm=K.sm:=rfl
@[simp,go_sem] theorem Kn.wL_ml (K:Kn) (x:Lk):(K.wL x).ml=K.ml:=rfl
@[simp,go_sem] theorem Kn.wL_ln (K:Kn) (x:Lk):(K.wL x).ln=K.ln:=rfl
@[simp,go_sem] theorem Kn.wL_reads (K:Kn) (x:Lk):(K.wL x).reads=K.reads:=rfl
@[simp,go_sem] theorem Kn.wL_stopped (K:Kn) (x:Lk):(K.wL x).stopped=K.stopped:=rfl
@[simp] theorem Kn.wL_self (K:Kn):K.wL K.L=K:=rfl
@[simp] theorem Kn.wL_wL (K:Kn) (x y:Lk):(K.wL x).wL y=K.wL y:=rfl
@[simp,go_sem] theorem Kn.wSm_count (K:Kn) (x:Nat→Int×List Int):(K.wSm x).count=K.count:=rfl
@[simp,go_sem] theorem Kn.wSm_cycle (K:Kn) (x:Nat→Int×List Int):(K.wSm x).cycle=K.cycle:=rfl
@[simp,go_sem] theorem Kn.wSm_told (K:Kn) (x:Nat→Int×List Int):(K.wSm x).told=K.told:=rfl
@[simp,go_sem] theorem Kn.wSm_S (K:Kn) (x:Nat→Int×List Int):(K.wSm x).S=K.S:=rfl
@[simp,go_sem] theorem Kn.wSm_R (K:Kn) (x:Nat→Int×List Int):(K.wSm x).R=K.R:=rfl
@[simp,go_sem] theorem Kn.wSm_run (K:Kn) (x:Nat→Int×List Int):(K.wSm x).run=K.run:=rfl
@[simp,go_sem] theorem Kn.wSm_iat (K:Kn) (x:Nat→Int×List Int):(K.wSm x).iat=K.iat:=rfl
@[simp,go_sem] theorem Kn.wSm_irg (K:Kn) (x:Nat→Int×List Int):(K.wSm x).irg=K.irg:=rfl
@[simp,go_sem] theorem Kn.wSm_mems (K:Kn) (x:Nat→Int×List Int):(K.wSm x).mems=K.mems:=rfl
@[simp,go_sem] theorem Kn.wSm_T (K:Kn) (x:Nat→Int×List Int):(K.wSm x).T=K.T:=rfl
@[simp,go_sem] theorem Kn.wSm_tm (K:Kn) (x:Nat→Int×List Int):(K.wSm x).tm=K.tm:=rfl
@[simp,go_sem] theorem Kn.wSm_L (K:Kn) (x:Nat→Int×List Int):(K.wSm x).L=K.L:=rfl
@[simp,go_sem] theorem Kn.wSm_sm (K:Kn) (x:Nat→Int×List Int):(K.wSm x).sm=x:=rfl
@[simp,go_sem] theorem Kn.wSm_ml (K:Kn) (x:Nat→Int×List Int):(K.wSm x).ml=K.ml:=rfl
@[simp,go_sem] theorem Kn.wSm_ln (K:Kn) (x:Nat→Int×List Int):(K.wSm x).ln=K.ln:=rfl
@[simp,go_sem] theorem Kn.wSm_reads (K:Kn) (x:Nat→Int×List Int):(K.wSm x).reads=K.reads:=rfl
@[simp,go_sem] theorem Kn.wSm_stopped (K:Kn) (x:Nat→Int×List Int):(K.wSm x).stopped=K.stopped:=rfl
@[simp] theorem Kn.wSm_self (K:Kn):K.wSm K.sm=K:=rfl
@[simp] theorem Kn.wSm_wSm (K:Kn) (x y:Nat→Int×List Int):(K.wSm x).wSm y=K.wSm y:=rfl
@[simp,go_sem] theorem Kn.wMl_count (K:Kn) (x:Nat→Mq):(K.wMl x).count=K.count:=rfl
@[simp,go_sem] theorem Kn.wMl_cycle (K:Kn) (x:Nat→Mq):(K.wMl x).cycle=K.cycle:=rfl
@[simp,go_sem] theorem Kn.wMl_told (K:Kn) (x:Nat→Mq):(K.wMl x).told=K.told:=rfl
@[simp,go_sem] theorem Kn.wMl_S (K:Kn) (x:Nat→Mq):(K.wMl x).S=K.S:=rfl
@[simp,go_sem] theorem Kn.wMl_R (K:Kn) (x:Nat→Mq):(K.wMl x).R=K.R:=rfl
@[simp,go_sem] theorem Kn.wMl_run (K:Kn) (x:Nat→Mq):(K.wMl x).run=K.run:=rfl
@[simp,go_sem] theorem Kn.wMl_iat (K:Kn) (x:Nat→Mq):(K.wMl x).iat=K.iat:=rfl
@[simp,go_sem] theorem Kn.wMl_irg (K:Kn) (x:Nat→Mq):(K.wMl x).irg=K.irg:=rfl
@[simp,go_sem] theorem Kn.wMl_mems (K:Kn) (x:Nat→Mq):(K.wMl x).mems=K.mems:=rfl
@[simp,go_sem] theorem Kn.wMl_T (K:Kn) (x:Nat→Mq):(K.wMl x).T=K.T:=rfl
@[simp,go_sem] theorem Kn.wMl_tm (K:Kn) (x:Nat→Mq):(K.wMl x).tm=K.tm:=rfl
@[simp,go_sem] theorem Kn.wMl_L (K:Kn) (x:Nat→Mq):(K.wMl x).L=K.L:=rfl
@[simp,go_sem] theorem Kn.wMl_sm (K:Kn) (x:Nat→Mq):(K.wMl x).sm=K.sm:=rfl
@[simp,go_sem] theorem Kn.wMl_ml (K:Kn) (x:Nat→Mq):(K.wMl x).ml=x:=rfl
@[simp,go_sem] theorem Kn.wMl_ln (K:Kn) (x:Nat→Mq):(K.wMl x).ln=K.ln:=rfl
@[simp,go_sem] theorem Kn.wMl_reads (K:Kn) (x:Nat→Mq):(K.wMl x).reads=K.reads:=rfl
@[simp,go_sem] theorem Kn.wMl_stopped (K:Kn) (x:Nat→Mq):(K.wMl x).stopped=K.stopped:=rfl
@[simp] theorem Kn.wMl_self (K:Kn):K.wMl K.ml=K:=rfl
@[simp] theorem Kn.wMl_wMl (K:Kn) (x y:Nat→Mq):(K.wMl x).wMl y=K.wMl y:=rfl
@[simp,go_sem] theorem Kn.wLn_count (K:Kn) (x:Ln):(K.wLn x).count=K.count:=rfl
@[simp,go_sem] theorem Kn.wLn_cycle (K:Kn) (x:Ln):(K.wLn x).cycle=K.cycle:=rfl
@[simp,go_sem] theorem Kn.wLn_told (K:Kn) (x:Ln):(K.wLn x).told=K.told:=rfl
@[simp,go_sem] theorem Kn.wLn_S (K:Kn) (x:Ln):(K.wLn x).S=K.S:=rfl
@[simp,go_sem] theorem Kn.wLn_R (K:Kn) (x:Ln):(K.wLn x).R=K.R:=rfl
@[simp,go_sem] theorem Kn.wLn_run (K:Kn) (x:Ln):(K.wLn x).run=K.run:=rfl
@[simp,go_sem] theorem Kn.wLn_iat (K:Kn) (x:Ln):(K.wLn x).iat=K.iat:=rfl
@[simp,go_sem] theorem Kn.wLn_irg (K:Kn) (x:Ln):(K.wLn x).irg=K.irg:=rfl
@[simp,go_sem] theorem Kn.wLn_mems (K:Kn) (x:Ln):(K.wLn x).mems=K.mems:=rfl
@[simp,go_sem] theorem Kn.wLn_T (K:Kn) (x:Ln):(K.wLn x).T=K.T:=rfl
@[simp,go_sem] theorem Kn.wLn_tm (K:Kn) (x:Ln):(K.wLn x).tm=K.tm:=rfl
@[simp,go_sem] theorem Kn.wLn_L (K:Kn) (x:Ln):(K.wLn x).L=K.L:=rfl
@[simp,go_sem] theorem Kn.wLn_sm (K:Kn) (x:Ln):(K.wLn x).sm=K.sm:=rfl
@[simp,go_sem] theorem Kn.wLn_ml (K:Kn) (x:Ln):(K.wLn x).ml=K.ml:=rfl
@[simp,go_sem] theorem Kn.wLn_ln (K:Kn) (x:Ln):(K.wLn x).ln=x:=rfl
@[simp,go_sem] theorem Kn.wLn_reads (K:Kn) (x:Ln):(K.wLn x).reads=K.reads:=rfl
@[simp,go_sem] theorem Kn.wLn_stopped (K:Kn) (x:Ln):(K.wLn x).stopped=K.stopped:=rfl
@[simp] theorem Kn.wLn_self (K:Kn):K.wLn K.ln=K:=rfl
@[simp] theorem Kn.wLn_wLn (K:Kn) (x y:Ln):(K.wLn x).wLn y=K.wLn y:=rfl
@[simp,go_sem] theorem Kn.wReads_count (K:Kn) (x:Int):(K.wReads x).count=K.count:=rfl
@[simp,go_sem] theorem Kn.wReads_cycle (K:Kn) (x:Int):(K.wReads x).cycle=K.cycle:=rfl
@[simp,go_sem] theorem Kn.wReads_told (K:Kn) (x:Int):(K.wReads x).told=K.told:=rfl
@[simp,go_sem] theorem Kn.wReads_S (K:Kn) (x:Int):(K.wReads x).S=K.S:=rfl
@[simp,go_sem] theorem Kn.wReads_R (K:Kn) (x:Int):(K.wReads x).R=K.R:=rfl
@[simp,go_sem] theorem Kn.wReads_run (K:Kn) (x:Int):(K.wReads x).run=K.run:=rfl
@[simp,go_sem] theorem Kn.wReads_iat (K:Kn) (x:Int):(K.wReads x).iat=K.iat:=rfl
@[simp,go_sem] theorem Kn.wReads_irg (K:Kn) (x:Int):(K.wReads x).irg=K.irg:=rfl
@[simp,go_sem] theorem Kn.wReads_mems (K:Kn) (x:Int):(K.wReads x).mems=K.mems:=rfl
@[simp,go_sem] theorem Kn.wReads_T (K:Kn) (x:Int):(K.wReads x).T=K.T:=rfl
@[simp,go_sem] theorem Kn.wReads_tm (K:Kn) (x:Int):(K.wReads x).tm=K.tm:=rfl
@[simp,go_sem] theorem Kn.wReads_L (K:Kn) (x:Int):(K.wReads x).L=K.L:=rfl
@[simp,go_sem] theorem Kn.wReads_sm (K:Kn) (x:Int):(K.wReads x).sm=K.sm:=rfl
@[simp,go_sem] theorem Kn.wReads_ml (K:Kn) (x:Int):(K.wReads x).ml=K.ml:=rfl
@[simp,go_sem] theorem Kn.wReads_ln (K:Kn) (x:Int):(K.wReads x).ln=K.ln:=rfl
@[simp,go_sem] theorem Kn.wReads_reads (K:Kn) (x:Int):(K.wReads x).reads=x:=rfl
@[simp,go_sem] theorem Kn.wReads_stopped (K:Kn) (x:Int):(K.wReads x).stopped=K.stopped:=rfl
@[simp] theorem Kn.wReads_self (K:Kn):K.wReads K.reads=K:=rfl
@[simp] theorem Kn.wReads_wReads (K:Kn) (x y:Int):(K.wReads x).wReads y=K.wReads y:=rfl
@[simp,go_sem] theorem Kn.wStopped_count (K:Kn) (x:Bool):(K.wStopped x).count=K.count:=rfl
@[simp,go_sem] theorem Kn.wStopped_cycle (K:Kn) (x:Bool):(K.wStopped x).cycle=K.cycle:=rfl
@[simp,go_sem] theorem Kn.wStopped_told (K:Kn) (x:Bool):(K.wStopped x).told=K.told:=rfl
@[simp,go_sem] theorem Kn.wStopped_S (K:Kn) (x:Bool):(K.wStopped x).S=K.S:=rfl
@[simp,go_sem] theorem Kn.wStopped_R (K:Kn) (x:Bool):(K.wStopped x).R=K.R:=rfl
@[simp,go_sem] theorem Kn.wStopped_run (K:Kn) (x:Bool):(K.wStopped x).run=K.run:=rfl
@[simp,go_sem] theorem Kn.wStopped_iat (K:Kn) (x:Bool):(K.wStopped x).iat=K.iat:=rfl
@[simp,go_sem] theorem Kn.wStopped_irg (K:Kn) (x:Bool):(K.wStopped x).irg=K.irg:=rfl
@[simp,go_sem] theorem Kn.wStopped_mems (K:Kn) (x:Bool):(K.wStopped x).mems=K.mems:=rfl
@[simp,go_sem] theorem Kn.wStopped_T (K:Kn) (x:Bool):(K.wStopped x).T=K.T:=rfl
@[simp,go_sem] theorem Kn.wStopped_tm (K:Kn) (x:Bool):(K.wStopped x).tm=K.tm:=rfl
@[simp,go_sem] theorem Kn.wStopped_L (K:Kn) (x:Bool):(K.wStopped x).L=K.L:=rfl
@[simp,go_sem] theorem Kn.wStopped_sm (K:Kn) (x:Bool):(K.wStopped x).sm=K.sm:=rfl
@[simp,go_sem] theorem Kn.wStopped_ml (K:Kn) (x:Bool):(K.wStopped x).ml=K.ml:=rfl
@[simp,go_sem] theorem Kn.wStopped_ln (K:Kn) (x:Bool):(K.wStopped x).ln=K.ln:=rfl
@[simp,go_sem] theorem Kn.wStopped_reads (K:Kn) (x:Bool):(K.wStopped x).reads=K.reads:=rfl
@[simp,go_sem] theorem Kn.wStopped_stopped (K:Kn) (x:Bool):(K.wStopped x).stopped=x:=rfl
@[simp] theorem Kn.wStopped_self (K:Kn):K.wStopped K.stopped=K:=rfl
@[simp] theorem Kn.wStopped_wStopped (K:Kn) (x y:Bool):(K.wStopped x).wStopped y=K.wStopped y:=rfl
def Kn.wSt (K:Kn) (t:Nat) (v:Int):Kn:=K.setT t { K.T t with st:=v }
def Kn.wLev (K:Kn) (t:Nat) (v:Int):Kn:=K.setT t { K.T t with lev:=v }
def Kn.wOn (K:Kn) (t:Nat) (v:Int):Kn:=K.setT t { K.T t with on:=v }
def Kn.wLate (K:Kn) (t:Nat) (v:Int):Kn:=K.setT t { K.T t with late:=v }
def Kn.wJob (K:Kn) (t:Nat) (v:Int):Kn:=K.setT t { K.T t with job:=v }
def Kn.wAt (K:Kn) (t:Nat) (v:Int):Kn:=K.setT t { K.T t with at_:=v }
def Kn.wReg (K:Kn) (t n:Nat) (v:Int):Kn:=K.setT t { K.T t with rg:=(K.T t).rg.set n v }
@[simp,go_sem] theorem Kn.wSt_count (K:Kn) (t:Nat) (v:Int):(K.wSt t v).count=K.count:=rfl
@[simp,go_sem] theorem Kn.wSt_cycle (K:Kn) (t:Nat) (v:Int):(K.wSt t v).cycle=K.cycle:=rfl
@[simp,go_sem] theorem Kn.wSt_told (K:Kn) (t:Nat) (v:Int):(K.wSt t v).told=K.told:=rfl
@[simp,go_sem] theorem Kn.wSt_S (K:Kn) (t:Nat) (v:Int):(K.wSt t v).S=K.S:=rfl
@[simp,go_sem] theorem Kn.wSt_R (K:Kn) (t:Nat) (v:Int):(K.wSt t v).R=K.R:=rfl
@[simp,go_sem] theorem Kn.wSt_run (K:Kn) (t:Nat) (v:Int):(K.wSt t v).run=K.run:=rfl
@[simp,go_sem] theorem Kn.wSt_iat (K:Kn) (t:Nat) (v:Int):(K.wSt t v).iat=K.iat:=rfl
@[simp,go_sem] theorem Kn.wSt_irg (K:Kn) (t:Nat) (v:Int):(K.wSt t v).irg=K.irg:=rfl
@[simp,go_sem] theorem Kn.wSt_mems (K:Kn) (t:Nat) (v:Int):(K.wSt t v).mems=K.mems:=rfl
@[simp,go_sem] theorem Kn.wSt_tm (K:Kn) (t:Nat) (v:Int):(K.wSt t v).tm=K.tm:=rfl
@[simp,go_sem] theorem Kn.wSt_L (K:Kn) (t:Nat) (v:Int):(K.wSt t v).L=K.L:=rfl
@[simp,go_sem] theorem Kn.wSt_sm (K:Kn) (t:Nat) (v:Int):(K.wSt t v).sm=K.sm:=rfl
@[simp,go_sem] theorem Kn.wSt_ml (K:Kn) (t:Nat) (v:Int):(K.wSt t v).ml=K.ml:=rfl
@[simp,go_sem] theorem Kn.wSt_ln (K:Kn) (t:Nat) (v:Int):(K.wSt t v).ln=K.ln:=rfl
@[simp,go_sem] theorem Kn.wSt_reads (K:Kn) (t:Nat) (v:Int):(K.wSt t v).reads=K.reads:=rfl
@[simp,go_sem] theorem Kn.wSt_stopped (K:Kn) (t:Nat) (v:Int):(K.wSt t v).stopped=K.stopped:=rfl
@[simp,go_sem] theorem Kn.wLev_count (K:Kn) (t:Nat) (v:Int):(K.wLev t v).count=K.count:=rfl
@[simp,go_sem] theorem Kn.wLev_cycle (K:Kn) (t:Nat) (v:Int):(K.wLev t v).cycle=K.cycle:=rfl
@[simp,go_sem] theorem Kn.wLev_told (K:Kn) (t:Nat) (v:Int):(K.wLev t v).told=K.told:=rfl
@[simp,go_sem] theorem Kn.wLev_S (K:Kn) (t:Nat) (v:Int):(K.wLev t v).S=K.S:=rfl
@[simp,go_sem] theorem Kn.wLev_R (K:Kn) (t:Nat) (v:Int):(K.wLev t v).R=K.R:=rfl
@[simp,go_sem] theorem Kn.wLev_run (K:Kn) (t:Nat) (v:Int):(K.wLev t v).run=K.run:=rfl
@[simp,go_sem] theorem Kn.wLev_iat (K:Kn) (t:Nat) (v:Int):(K.wLev t v).iat=K.iat:=rfl
@[simp,go_sem] theorem Kn.wLev_irg (K:Kn) (t:Nat) (v:Int):(K.wLev t v).irg=K.irg:=rfl
@[simp,go_sem] theorem Kn.wLev_mems (K:Kn) (t:Nat) (v:Int):(K.wLev t v).mems=K.mems:=rfl
@[simp,go_sem] theorem Kn.wLev_tm (K:Kn) (t:Nat) (v:Int):(K.wLev t v).tm=K.tm:=rfl
@[simp,go_sem] theorem Kn.wLev_L (K:Kn) (t:Nat) (v:Int):(K.wLev t v).L=K.L:=rfl
@[simp,go_sem] theorem Kn.wLev_sm (K:Kn) (t:Nat) (v:Int):(K.wLev t v).sm=K.sm:=rfl
@[simp,go_sem] theorem Kn.wLev_ml (K:Kn) (t:Nat) (v:Int):(K.wLev t v).ml=K.ml:=rfl
@[simp,go_sem] theorem Kn.wLev_ln (K:Kn) (t:Nat) (v:Int):(K.wLev t v).ln=K.ln:=rfl
@[simp,go_sem] theorem Kn.wLev_reads (K:Kn) (t:Nat) (v:Int):(K.wLev t v).reads=K.reads:=rfl
@[simp,go_sem] theorem Kn.wLev_stopped (K:Kn) (t:Nat) (v:Int):(K.wLev t v).stopped=K.stopped:=rfl
@[simp,go_sem] theorem Kn.wOn_count (K:Kn) (t:Nat) (v:Int):(K.wOn t v).count=K.count:=rfl
@[simp,go_sem] theorem Kn.wOn_cycle (K:Kn) (t:Nat) (v:Int):(K.wOn t v).cycle=K.cycle:=rfl
@[simp,go_sem] theorem Kn.wOn_told (K:Kn) (t:Nat) (v:Int):(K.wOn t v).told=K.told:=rfl
@[simp,go_sem] theorem Kn.wOn_S (K:Kn) (t:Nat) (v:Int):(K.wOn t v).S=K.S:=rfl
@[simp,go_sem] theorem Kn.wOn_R (K:Kn) (t:Nat) (v:Int):(K.wOn t v).R=K.R:=rfl
@[simp,go_sem] theorem Kn.wOn_run (K:Kn) (t:Nat) (v:Int):(K.wOn t v).run=K.run:=rfl
@[simp,go_sem] theorem Kn.wOn_iat (K:Kn) (t:Nat) (v:Int):(K.wOn t v).iat=K.iat:=rfl
@[simp,go_sem] theorem Kn.wOn_irg (K:Kn) (t:Nat) (v:Int):(K.wOn t v).irg=K.irg:=rfl
@[simp,go_sem] theorem Kn.wOn_mems (K:Kn) (t:Nat) (v:Int):(K.wOn t v).mems=K.mems:=rfl
@[simp,go_sem] theorem Kn.wOn_tm (K:Kn) (t:Nat) (v:Int):(K.wOn t v).tm=K.tm:=rfl
@[simp,go_sem] theorem Kn.wOn_L (K:Kn) (t:Nat) (v:Int):(K.wOn t v).L=K.L:=rfl
@[simp,go_sem] theorem Kn.wOn_sm (K:Kn) (t:Nat) (v:Int):(K.wOn t v).sm=K.sm:=rfl
@[simp,go_sem] theorem Kn.wOn_ml (K:Kn) (t:Nat) (v:Int):(K.wOn t v).ml=K.ml:=rfl
@[simp,go_sem] theorem Kn.wOn_ln (K:Kn) (t:Nat) (v:Int):(K.wOn t v).ln=K.ln:=rfl
@[simp,go_sem] theorem Kn.wOn_reads (K:Kn) (t:Nat) (v:Int):(K.wOn t v).reads=K.reads:=rfl
@[simp,go_sem] theorem Kn.wOn_stopped (K:Kn) (t:Nat) (v:Int):(K.wOn t v).stopped=K.stopped:=rfl
@[simp,go_sem] theorem Kn.wLate_count (K:Kn) (t:Nat) (v:Int):(K.wLate t v).count=K.count:=rfl
@[simp,go_sem] theorem Kn.wLate_cycle (K:Kn) (t:Nat) (v:Int):(K.wLate t v).cycle=K.cycle:=rfl
@[simp,go_sem] theorem Kn.wLate_told (K:Kn) (t:Nat) (v:Int):(K.wLate t v).told=K.told:=rfl
@[simp,go_sem] theorem Kn.wLate_S (K:Kn) (t:Nat) (v:Int):(K.wLate t v).S=K.S:=rfl
@[simp,go_sem] theorem Kn.wLate_R (K:Kn) (t:Nat) (v:Int):(K.wLate t v).R=K.R:=rfl
@[simp,go_sem] theorem Kn.wLate_run (K:Kn) (t:Nat) (v:Int):(K.wLate t v).run=K.run:=rfl
@[simp,go_sem] theorem Kn.wLate_iat (K:Kn) (t:Nat) (v:Int):(K.wLate t v).iat=K.iat:=rfl
@[simp,go_sem] theorem Kn.wLate_irg (K:Kn) (t:Nat) (v:Int):(K.wLate t v).irg=K.irg:=rfl
@[simp,go_sem] theorem Kn.wLate_mems (K:Kn) (t:Nat) (v:Int):(K.wLate t v).mems=K.mems:=rfl
@[simp,go_sem] theorem Kn.wLate_tm (K:Kn) (t:Nat) (v:Int):(K.wLate t v).tm=K.tm:=rfl
@[simp,go_sem] theorem Kn.wLate_L (K:Kn) (t:Nat) (v:Int):(K.wLate t v).L=K.L:=rfl
@[simp,go_sem] theorem Kn.wLate_sm (K:Kn) (t:Nat) (v:Int):(K.wLate t v).sm=K.sm:=rfl
@[simp,go_sem] theorem Kn.wLate_ml (K:Kn) (t:Nat) (v:Int):(K.wLate t v).ml=K.ml:=rfl
@[simp,go_sem] theorem Kn.wLate_ln (K:Kn) (t:Nat) (v:Int):(K.wLate t v).ln=K.ln:=rfl
@[simp,go_sem] theorem Kn.wLate_reads (K:Kn) (t:Nat) (v:Int):(K.wLate t v).reads=K.reads:=rfl
@[simp,go_sem] theorem Kn.wLate_stopped (K:Kn) (t:Nat) (v:Int):(K.wLate t v).stopped=K.stopped:=rfl
@[simp,go_sem] theorem Kn.wJob_count (K:Kn) (t:Nat) (v:Int):(K.wJob t v).count=K.count:=rfl
@[simp,go_sem] theorem Kn.wJob_cycle (K:Kn) (t:Nat) (v:Int):(K.wJob t v).cycle=K.cycle:=rfl
@[simp,go_sem] theorem Kn.wJob_told (K:Kn) (t:Nat) (v:Int):(K.wJob t v).told=K.told:=rfl
@[simp,go_sem] theorem Kn.wJob_S (K:Kn) (t:Nat) (v:Int):(K.wJob t v).S=K.S:=rfl
@[simp,go_sem] theorem Kn.wJob_R (K:Kn) (t:Nat) (v:Int):(K.wJob t v).R=K.R:=rfl
@[simp,go_sem] theorem Kn.wJob_run (K:Kn) (t:Nat) (v:Int):(K.wJob t v).run=K.run:=rfl
@[simp,go_sem] theorem Kn.wJob_iat (K:Kn) (t:Nat) (v:Int):(K.wJob t v).iat=K.iat:=rfl
@[simp,go_sem] theorem Kn.wJob_irg (K:Kn) (t:Nat) (v:Int):(K.wJob t v).irg=K.irg:=rfl
@[simp,go_sem] theorem Kn.wJob_mems (K:Kn) (t:Nat) (v:Int):(K.wJob t v).mems=K.mems:=rfl
@[simp,go_sem] theorem Kn.wJob_tm (K:Kn) (t:Nat) (v:Int):(K.wJob t v).tm=K.tm:=rfl
@[simp,go_sem] theorem Kn.wJob_L (K:Kn) (t:Nat) (v:Int):(K.wJob t v).L=K.L:=rfl
@[simp,go_sem] theorem Kn.wJob_sm (K:Kn) (t:Nat) (v:Int):(K.wJob t v).sm=K.sm:=rfl
@[simp,go_sem] theorem Kn.wJob_ml (K:Kn) (t:Nat) (v:Int):(K.wJob t v).ml=K.ml:=rfl
@[simp,go_sem] theorem Kn.wJob_ln (K:Kn) (t:Nat) (v:Int):(K.wJob t v).ln=K.ln:=rfl
@[simp,go_sem] theorem Kn.wJob_reads (K:Kn) (t:Nat) (v:Int):(K.wJob t v).reads=K.reads:=rfl
@[simp,go_sem] theorem Kn.wJob_stopped (K:Kn) (t:Nat) (v:Int):(K.wJob t v).stopped=K.stopped:=rfl
@[simp,go_sem] theorem Kn.wAt_count (K:Kn) (t:Nat) (v:Int):(K.wAt t v).count=K.count:=rfl
@[simp,go_sem] theorem Kn.wAt_cycle (K:Kn) (t:Nat) (v:Int):(K.wAt t v).cycle=K.cycle:=rfl
@[simp,go_sem] theorem Kn.wAt_told (K:Kn) (t:Nat) (v:Int):(K.wAt t v).told=K.told:=rfl
@[simp,go_sem] theorem Kn.wAt_S (K:Kn) (t:Nat) (v:Int):(K.wAt t v).S=K.S:=rfl
@[simp,go_sem] theorem Kn.wAt_R (K:Kn) (t:Nat) (v:Int):(K.wAt t v).R=K.R:=rfl
@[simp,go_sem] theorem Kn.wAt_run (K:Kn) (t:Nat) (v:Int):(K.wAt t v).run=K.run:=rfl
@[simp,go_sem] theorem Kn.wAt_iat (K:Kn) (t:Nat) (v:Int):(K.wAt t v).iat=K.iat:=rfl
@[simp,go_sem] theorem Kn.wAt_irg (K:Kn) (t:Nat) (v:Int):(K.wAt t v).irg=K.irg:=rfl
@[simp,go_sem] theorem Kn.wAt_mems (K:Kn) (t:Nat) (v:Int):(K.wAt t v).mems=K.mems:=rfl
@[simp,go_sem] theorem Kn.wAt_tm (K:Kn) (t:Nat) (v:Int):(K.wAt t v).tm=K.tm:=rfl
@[simp,go_sem] theorem Kn.wAt_L (K:Kn) (t:Nat) (v:Int):(K.wAt t v).L=K.L:=rfl
@[simp,go_sem] theorem Kn.wAt_sm (K:Kn) (t:Nat) (v:Int):(K.wAt t v).sm=K.sm:=rfl
@[simp,go_sem] theorem Kn.wAt_ml (K:Kn) (t:Nat) (v:Int):(K.wAt t v).ml=K.ml:=rfl
@[simp,go_sem] theorem Kn.wAt_ln (K:Kn) (t:Nat) (v:Int):(K.wAt t v).ln=K.ln:=rfl
@[simp,go_sem] theorem Kn.wAt_reads (K:Kn) (t:Nat) (v:Int):(K.wAt t v).reads=K.reads:=rfl
@[simp,go_sem] theorem Kn.wAt_stopped (K:Kn) (t:Nat) (v:Int):(K.wAt t v).stopped=K.stopped:=rfl
@[simp,go_sem] theorem Kn.wReg_count (K:Kn) (t n:Nat) (v:Int):(K.wReg t n v).count=K.count:=rfl
@[simp,go_sem] theorem Kn.wReg_cycle (K:Kn) (t n:Nat) (v:Int):(K.wReg t n v).cycle=K.cycle:=rfl
@[simp,go_sem] theorem Kn.wReg_told (K:Kn) (t n:Nat) (v:Int):(K.wReg t n v).told=K.told:=rfl
@[simp,go_sem] theorem Kn.wReg_S (K:Kn) (t n:Nat) (v:Int):(K.wReg t n v).S=K.S:=rfl
@[simp,go_sem] theorem Kn.wReg_R (K:Kn) (t n:Nat) (v:Int):(K.wReg t n v).R=K.R:=rfl
@[simp,go_sem] theorem Kn.wReg_run (K:Kn) (t n:Nat) (v:Int):(K.wReg t n v).run=K.run:=rfl
@[simp,go_sem] theorem Kn.wReg_iat (K:Kn) (t n:Nat) (v:Int):(K.wReg t n v).iat=K.iat:=rfl
@[simp,go_sem] theorem Kn.wReg_irg (K:Kn) (t n:Nat) (v:Int):(K.wReg t n v).irg=K.irg:=rfl
@[simp,go_sem] theorem Kn.wReg_mems (K:Kn) (t n:Nat) (v:Int):(K.wReg t n v).mems=K.mems:=rfl
@[simp,go_sem] theorem Kn.wReg_tm (K:Kn) (t n:Nat) (v:Int):(K.wReg t n v).tm=K.tm:=rfl
@[simp,go_sem] theorem Kn.wReg_L (K:Kn) (t n:Nat) (v:Int):(K.wReg t n v).L=K.L:=rfl
@[simp,go_sem] theorem Kn.wReg_sm (K:Kn) (t n:Nat) (v:Int):(K.wReg t n v).sm=K.sm:=rfl
@[simp,go_sem] theorem Kn.wReg_ml (K:Kn) (t n:Nat) (v:Int):(K.wReg t n v).ml=K.ml:=rfl
@[simp,go_sem] theorem Kn.wReg_ln (K:Kn) (t n:Nat) (v:Int):(K.wReg t n v).ln=K.ln:=rfl
@[simp,go_sem] theorem Kn.wReg_reads (K:Kn) (t n:Nat) (v:Int):(K.wReg t n v).reads=K.reads:=rfl
@[simp,go_sem] theorem Kn.wReg_stopped (K:Kn) (t n:Nat) (v:Int):(K.wReg t n v).stopped=K.stopped:=rfl
end Go.Proofs.YtkeommmigopnkaaGreatDoor
namespace Go.Proofs.YtkeommmigopnkaaGreatDoor
open Go.RowKit Go.Sx Go.Au
abbrev evCells (e:Ev):List Value:=[.int .i64 e.k,.int .u64 e.cy,.int .u64 e.co,.int .u32 e.a,.int .u32 e.b,.int .u32 e.v]
def evV (e:Ev):Value:=.agg #[.int .i64 e.k,.int .u64 e.cy,.int .u64 e.co,.int .u32 e.a,.int .u32 e.b,.int .u32 e.v]
instance encEv:Enc Ev 6 where
 enc e:=evCells e
 len _:=rfl
 one t:=by intro u hu;simp at hu;rcases hu with rfl | rfl | rfl | rfl | rfl | rfl<;>rfl
 dft:=ev0
 pos:=by decide
instance:ElemR Tryz.prog 29 Ev 6 encEv 45 40 (.agg #[.int .i64 0,.int .u64 0,.int .u64 0,.int .u32 0,.int .u32 0,.int .u32 0]):=⟨⟨by kernel_rfl,by kernel_rfl,rfl⟩,by decide⟩
def evg (l:List Ev) (k:Nat):Ev:=l.getD k ev0
end Go.Proofs.YtkeommmigopnkaaGreatDoor
namespace Go.Proofs.YtkeommmigopnkaaGreatDoor
open Go.RowKit Go.Sx Go.Dl Go.Lk Go.Rq Go.Au
structure Hd where
 a:Option Addr
 b:Nat
 o:Nat
 cap:Nat
def Hd.ad (h:Hd) (n:Nat):Option Addr:=if n=0 then h.a else some ⟨h.b,h.o,none⟩
abbrev Hd.v (h:Hd) (n:Nat):Value:=.slice (h.ad n) n h.cap
@[simp,go_sem] theorem Hd.v_eq (h:Hd) (n:Nat):h.v n=.slice (h.ad n) n h.cap:=rfl
instance encIns:Enc Ins 6 where
 enc i:=[.int .i64 i.op,.int .i64 i.a,.int .i64 i.b,.int .i64 i.c,.int .i64 i.d,.int .u32 i.k]
 len _:=rfl
 one t:=by intro u hu;simp at hu;rcases hu with rfl | rfl | rfl | rfl | rfl | rfl<;>rfl
 dft:=ins0
 pos:=by decide
structure Cx0 where
 ct:Hd
 cl:Hd
 cs:Hd
 cq:Hd
 cm:Hd
 tv:Nat→Hd
 lv:Nat→Hd
structure Sh where
 a:Option Addr
 n:Nat
 c:Nat
abbrev Sh.v (m:Sh):Value:=.slice m.a m.n m.c
structure Fx where
 c:Cx0
 mm:Hd
 mv:Nat→Hd
 ta:Hd
 tv:Nat→Hd
 lk:Nat
 sa:Hd
 sb:Nat→Nat
 qa:Hd
 qb:Nat→Nat
 ln:Nat
section
variable (b:Nat) (x:Fx) (c:Cf) (K:Kn)
variable {b x c K}
end
def rngW (x:Int):Prop:=0≤x∧x<4294967296
structure CfOk (c:Cf):Prop where
 nt:c.ts.length≤64
 nl:c.ls.length≤16
 t:∀ t,t<c.ts.length→(0≤(tcg c t).lev∧(tcg c t).lev<32)∧(1≤(tcg c t).off∧(tcg c t).off≤1073741824)∧(0≤(tcg c t).per∧(tcg c t).per≤1073741824)∧(0≤(tcg c t).dl∧(tcg c t).dl≤1073741824)∧(0≤(tcg c t).mem∧(tcg c t).mem≤256)∧(tcg c t).code.length≤256
 tc:∀ t,t<c.ts.length→∀ i∈(tcg c t).code,checkE i (tcg c t).code.length false=0∧rngW i.k
 l:∀ n,n<c.ls.length→(0≤(lcg c n).mem∧(lcg c n).mem≤256)∧(lcg c n).code.length≤256
 lc:∀ n,n<c.ls.length→∀ i∈(lcg c n).code,checkE i (lcg c n).code.length true=0∧rngW i.k
 mu:0≤c.mutexes∧c.mutexes≤32
 ns:c.sems.length≤32
 sems:∀ x∈c.sems,0≤x∧x≤255
 nq:c.queues.length≤32
 queues:∀ x∈c.queues,1≤x∧x≤64
 nm:c.timers.length≤32
 timers:∀ x∈c.timers,0≤x∧x<c.sems.length
 table:0≤c.table∧c.table≤64
 mask:c.mask<2^c.ls.length
 filter:c.filter<4294967296
 charge:0≤c.charge∧c.charge≤64
 cyc:0≤c.cycle∧c.cycle<18446744073709551616
 cnt:0≤c.count∧c.count<18446744073709551616
theorem insAt_mem {l:List Ins} {n:Int} (h0:0≤n) (h:n<l.length):insAt l n∈l:=by
 unfold insAt;have:n.toNat<l.length:=by omega
 simp [List.getD,this]
structure TsOk (c:Cf) (t:Nat) (x:Ts):Prop where
 lev:0≤x.lev∧x.lev<32
 late:0≤x.late∧x.late≤255
 job:rngW x.job
 rg:∀ n,rngW (x.rg.get n)
 at_:0≤x.at_∧x.at_≤300
 st:0≤x.st∧x.st≤8
 run:x.st=0∨x.st=1→x.at_≤(tcg c t).code.length
 blk:2≤x.st→x.st≤6→1≤x.at_∧x.at_≤(tcg c t).code.length
 on4:x.st=4→64≤x.on∧x.on<64+c.sems.length
 on5:x.st=5→96≤x.on∧x.on<96+c.queues.length
 on6:x.st=6→128≤x.on∧x.on<128+c.queues.length
 on:0≤x.on∧x.on<160
def slept (x:Ts):Prop:=x.st=2∨x.st=4∨x.st=5∨x.st=6
def clkOk (c:Cf) (T:Nat→Ts) (id:Int):Prop :=
 0≤id∧(id<64→id<c.ts.length)∧(64≤id→id<128→id-64<c.ts.length∧slept (T (id-64).toNat))∧(128≤id→id-128<c.timers.length)
structure MqW (q:Mq):Prop where
 c:∀ w∈q.C,rngW w
 h:∀ w∈q.H,rngW w
structure Inv (c:Cf) (K:Kn):Prop where
 cf:CfOk c
 cnt:0≤K.count∧K.count<18446744073709551616
 cyc:0≤K.cycle∧K.cycle<18446744073709551616
 rds:0≤K.reads∧K.reads<18446744073709551616
 S:SOk K.S
 clk:∀ id,has K.S id→clkOk c K.T id
 R:RdOk K.R
 rdy:∀ l t,t∈K.R l→t<c.ts.length∧(K.T t).st=1
 L:Good K.L
 Ln:K.L.own.length=c.ts.length
 Lm:(K.L.ow.length:Int)=c.mutexes
 Lw:∀ t,t<c.ts.length→0≤onAt K.L t→(K.T t).st=3
 T:∀ t,t<c.ts.length→TsOk c t (K.T t)
 tm:∀ t,t<c.ts.length→(K.tm t).length=(tcg c t).mem.toNat∧∀ w∈K.tm t,rngW w
 mems:∀ n,n<c.ls.length→(K.mems n).length=(lcg c n).mem.toNat∧∀ w∈K.mems n,rngW w
 sm:∀ s,s<c.sems.length→SemOk (K.sm s).1 (K.sm s).2
 smr:∀ s,s<c.sems.length→∀ t∈(K.sm s).2,t<c.ts.length∧(K.T t.toNat).st=4∧(K.T t.toNat).on=64+s
 ml:∀ q,q<c.queues.length→MqOk (K.ml q)∧MqW (K.ml q)
 mls:∀ q,q<c.queues.length→∀ t∈(K.ml q).S,t<c.ts.length∧(K.T t.toNat).st=5∧(K.T t.toNat).on=96+q
 mlr:∀ q,q<c.queues.length→∀ t∈(K.ml q).R,t<c.ts.length∧(K.T t.toNat).st=6∧(K.T t.toNat).on=128+q
 irg:∀ n,rngW (K.irg.get n)
 iat:0≤K.iat∧K.iat≤300
 act:K.ln.active=255∨(0≤K.ln.active∧K.ln.active<c.ls.length∧K.iat≤(lcg c K.ln.active.toNat).code.length)
 all:K.ln.all=2^c.ls.length-1
 pnd:K.ln.pending<2^c.ls.length
 msk:K.ln.mask<2^c.ls.length
 run:K.run=255∨(0≤K.run∧K.run<c.ts.length)
section
variable {c:Cf} {K:Kn}
end
section
variable {c:Cf} {K:Kn}
def Mild (K K':Kn):Prop:=∀ u,(K'.T u).st=(K.T u).st∨(K'.T u).st=1
theorem Mild.refl (K:Kn):Mild K K:=fun _=>.inl rfl
theorem Mild.trans {A B C:Kn} (h:Mild A B) (k:Mild B C):Mild A C:=fun u=>by
 rcases k u with e | e
 ·rcases h u with f | f
  ·exact .inl (e.trans f)
  ·exact .inr (e.trans f)
 ·exact .inr e
end
end Go.Proofs.YtkeommmigopnkaaGreatDoor
namespace Go.Proofs.YtkeommmigopnkaaGreatDoor
open Go.RowKit Go.Sx Go.Rq
def Tab (w:World):Prop:=TabAt 0 Lib.deBruijn32tab w
theorem Tab.later {w0 w:World} {P:HP} (h:Tab w0) (hs:Sat w0 w P):Tab w:=fun j hj=>hs.keep (h j hj)
end Go.Proofs.YtkeommmigopnkaaGreatDoor
