/-
  Parts of the proof: KernW KernX Line DelD DelE DelF DelI LockO Cpu CpuB.
-/
import Derived.Test.YtgiiidminlhbpaaGreatDoorKD1
import Derived.Test.YtgiiidminlhbpaaGreatDoorKD3
import Derived.Test.YtgiiidminlhbpaaGreatDoorKD4
import Derived.Test.YtgiiidminlhbpaaGreatDoorKD5
import Derived.Test.YtgiiidminlhbpaaGreatDoorKD6
set_option linter.unusedVariables false
set_option linter.unusedSimpArgs false
set_option maxHeartbeats 32000000
set_option maxRecDepth 100000
namespace Go.Proofs.YtgiiidminlhbpaaGreatDoor
open Go.RowKit Go.Sx Go.Dl Go.Lk Go.Rq Go.Au
section
variable {c:Cf} {K:Kn}
theorem zfI (L:Lk) (t m:Int):zG (z0f L t m).2.1:=by
 unfold z0f;repeat' split
 all_goals exact ⟨by simp,by simp⟩
theorem zct (L:Lk) (t m:Int):zG (zi L t m).2.1:=by
 unfold zi;repeat' split
 all_goals exact ⟨by simp,by simp⟩
theorem zey {t:Nat} (h:Inv c K) (ht:t<c.ts.length):z3u c t:=.inl ⟨by have:=h.cf.nt;omega,ht⟩
theorem zhm (h:Inv c K) {t:Nat} (ht:t<c.ts.length) (hc:z20 c K t) {i:Ins} (hi:zI i) (hd:i.d=0):Inv c (K.lock c t i):=by
 have hg:=h.L;have hw:=zey h ht;have ho:=zaD hg t i.k;unfold Kn.lock;dsimp only
 by_cases he:(z0f K.L t i.k).2.1=0
 ·rw [if_neg (Classical.not_not.2 he)]
  by_cases hh:(z0f K.L t i.k).1=true
  ·rw [if_pos hh];have h1:Inv c { K with L:=z1B K.L t i.k }:=zah h (z5j hg t i.k) (by rw [ho.1]) ho.2 fun u hu e=>by
    rcases z9j hg t i.k e with f | f
    ·exact h.Lw u hu f
    ·rw [hh] at f;exact absurd f.2.1 (by simp)
   exact zl (z0v h1 hw _ ⟨by simp,by simp⟩) _ _ _ _
  ·rw [if_neg hh];have hm:0≤i.k∧i.k<32:=by
    rcases z1C K.L hg t i.k with ⟨_,k⟩ | ⟨a,b,d,e,f,g,k⟩ | ⟨a,b,d,e,f,g,i,j,k⟩
    ·exact absurd he k
    ·rw [k] at hh;exact absurd rfl hh
    ·have:=hg.fit.m;omega
   have hr:=z2B h ht hc.st;have hx:=z5N h ht hc.at_ (status:=3) (on:=32+i.k) (by omega) (by omega) (by omega) (by omega) (by omega);have hv:=z4J h hr (i:=i) hx (fun e=>absurd e (by omega));have hT:(K.hold c t 3 (32+i.k) i).T=upd K.T t { K.T t with st:=3,on:=32+i.k }:=zag _ _ _ _;have hL:(K.hold c t 3 (32+i.k) i).L=K.L:=zjc _ _ _ _;have e1:({ K with L:=z1B K.L t i.k }).hold c t 3 (32+i.k) i={ K.hold c t 3 (32+i.k) i with L:=z1B K.L t i.k }:=by
    have hd2:¬ i.d=2:=by omega
    by_cases e:z1l c.filter 9=true
    ·simp only [Kn.hold,Kn.tell,Kn.setT,hd2,e,if_true,if_false]
    ·simp only [Kn.hold,Kn.tell,Kn.setT,hd2,e,if_true,if_false,Bool.false_eq_true]
   rw [e1];refine z3a (zah hv (z5j hg t i.k) (by rw [hL,ho.1]) (by rw [hL,ho.2]) fun u hu e=>?_);rw [hT];unfold upd
   split
   ·rfl
   ·rename_i hne
    rcases z9j hg t i.k e with f | f
    ·exact h.Lw u hu f
    ·omega
 ·rw [if_pos he];exact z05 h hw i (zfI _ _ _)
theorem zdQ (h:Inv c K) {t:Nat} (ht:t<c.ts.length) {i:Ins}:Inv c (K.unlock c t i):=by
 have hg:=h.L;have hw:=zey h ht;unfold Kn.unlock;dsimp only
 by_cases he:(zi K.L t i.k).2.1=0
 ·rw [if_neg (Classical.not_not.2 he)];have h1:=z6n (z0v h hw i.a (v:=0) ⟨by simp,by simp⟩) t i.k;have e1:(K.put t i.a 0).give c t i.k=(({ K with L:=zE K.L t i.k }).put t i.a 0).handed c t i.k (zi K.L t i.k).1:=by
   unfold Kn.give;rw [zms];unfold Kn.put;split<;>rfl
  rw [e1] at h1;exact z3a h1
 ·rw [if_pos he];exact z05 h hw i (zct _ _ _)
theorem zf8 (h:Inv c K) {t:Nat} (ht:t<c.ts.length) (hc:z20 c K t) {i:Ins} (hi:zI i):Inv c (K.await c t i):=by
 have hw:=zey h ht;unfold Kn.await;dsimp only
 by_cases hs:(c.sems.length:Int)≤i.k
 ·rw [if_pos hs];exact z05 h hw i ⟨by simp,by simp⟩
 rw [if_neg hs];have hk:((i.k.toNat:Nat):Int)=i.k:=by have:=hi.k.1;omega
 have hlt:i.k.toNat<c.sems.length:=by omega
 have hok:=h.sm _ hlt
 by_cases he:z3t (K.sm i.k.toNat).1=0
 ·rw [if_pos he];exact zl (z0v (zcZ h hlt (z5H hok) fun x hx=>h.smr _ hlt x hx) hw _ ⟨by simp,by simp⟩) _ _ _ _
 rw [if_neg he]
 by_cases hd:i.d=1
 ·rw [if_pos hd];refine z05 h hw i ?_;unfold z3t;split<;>exact ⟨by simp,by simp⟩
 rw [if_neg hd]
 by_cases h0:K.holdE c t i=0
 ·rw [if_pos h0];have hr:=z2B h ht hc.st;have hx:=z5N h ht hc.at_ (status:=4) (on:=64+i.k) (by omega) (by have:=hi.k.1;omega) (by omega) (by omega) (by have:=hi.k.1;have:=h.cf.ns;omega);have hv:=z4J h hr (i:=i) hx (fun _=>.inr (.inl rfl));have hT:(K.hold c t 4 (64+i.k) i).T=upd K.T t { K.T t with st:=4,on:=64+i.k }:=zag _ _ _ _;have hS:(K.hold c t 4 (64+i.k) i).sm=K.sm:=zf5 _ _ _ _;rw [show ((K.hold c t 4 (64+i.k) i).sm i.k.toNat)=K.sm i.k.toNat by rw [hS]];refine zcZ hv hlt (zck hok t) fun x hx=>?_;have:x∈(K.sm i.k.toNat).2∨x=t:=by
   unfold z4f at hx;split at hx
   ·exact .inl hx
   ·exact z5u hx
  rcases this with e | rfl
  ·exact hv.smr _ hlt x (by rw [hS];exact e)
  ·rw [hT];simp;omega
 ·rw [if_neg h0];exact z05 h hw i (z6W _ _)
theorem zfb (h:Inv c K) {t:Nat} (ht:t<c.ts.length) (hc:z20 c K t) {i:Ins} (hi:zI i) (hd:i.d=0):Inv c (K.sleep c t i):=by
 have hw:=zey h ht;unfold Kn.sleep;dsimp only
 split
 ·exact z0v h hw _ ⟨by simp,by simp⟩
 ·split
  ·exact z05 h hw i ⟨by simp,by simp⟩
  ·have hr:=z2B h ht hc.st;have hx:=z5N h ht hc.at_ (status:=2) (on:=0) (by omega) (by omega) (by omega) (by omega) (by omega);exact zaj h hr (z9G h.S _ _) (fun id hid=>(zc8 hid).symm) (.inl (by omega)) hx (fun _=>.inl rfl)
theorem zhn (h:Inv c K) {t:Nat} (ht:t<c.ts.length) (hs:(K.T t).st=1):Inv c (K.next c t):=by
 have hT:=h.T t ht;unfold Kn.next;dsimp only;have h1:=zl h 8 t 0 (K.T t).job;have h1:Inv c (K.tell c 8 t 0 (K.T t).job):=h1
 split
 ·have hx:z8a c t { K.T t with late:=(K.T t).late-1,job:=((K.T t).job+1)%4294967296 }:=⟨hT.lev,by have:=hT.late;show 0≤(K.T t).late-1∧(K.T t).late-1≤_;omega,⟨Int.emod_nonneg _ (by decide),Int.emod_lt_of_pos _ (by decide)⟩,hT.rg,hT.at_,hT.st,hT.run,hT.blk,hT.on4,hT.on5,hT.on6,hT.on⟩;exact zl (z0t h1 ht hx (by simp) (by simp)) _ _ _ _
 ·have hx:z8a c t { K.T t with st:=0 }:=⟨hT.lev,hT.late,hT.job,hT.rg,hT.at_,by simp,fun _=>hT.run (.inr hs),by simp,by simp,by simp,by simp,hT.on⟩;exact z2f h1 (z2B h1 ht (by simp [hs])) hx
theorem zfc (h:Inv c K) {who:Nat} (hw:z3u c who) {i:Ins} (hi:zI i):Inv c (K.timer c who i):=by
 unfold Kn.timer;dsimp only
 by_cases he:K.timerE c who i=0
 ·rw [if_neg (Classical.not_not.2 he)];have hlt:i.k<c.timers.length:=by
   unfold Kn.timerE at he
   rcases Int.lt_or_le i.k c.timers.length with a | a
   ·exact a
   ·rw [if_pos a] at he;omega
  have hk:=hi.k.1;have h1:=z5n h (128+i.k);refine zl (z0v ?_ hw _ ⟨by simp,by simp⟩) _ _ _ _
  split
  ·exact z4p h1 ⟨by omega,fun a=>by omega,fun a b=>by omega,fun _=>by omega⟩
  ·exact h1
 ·rw [if_pos he];refine z05 h hw i ?_;unfold Kn.timerE;repeat' split
  all_goals exact ⟨by simp,by simp⟩
theorem z3w {a b n:Nat} (hb:b<2^n):a &&& b<2^n:=Nat.and_lt_two_pow a hb
theorem zfz (h:Inv c K) (w:Nat):(K.ln.let_ w).mask<2^c.ls.length:=by
 have:K.ln.all<2^c.ls.length:=by rw [h.all];have:=Nat.two_pow_pos c.ls.length;omega
 exact z3w this
theorem z8k (h:Inv c K) {who:Nat} (hw:z3u c who) (hc:who<64→z20 c K who) {i:Ins} (hi:zI i) (hm:64≤who→i.op=27∨i.op=28→i.d=1) {value:Int} (hv:zG value):Inv c (K.shared c who i value):=by
 unfold Kn.shared
 split
 ·have h1:Inv c { K with reads:=(K.reads+1)%18446744073709551616 }:={ h with rds:=⟨Int.emod_nonneg _ (by decide),Int.emod_lt_of_pos _ (by decide)⟩ };exact zl (z0v h1 hw _ hv) _ _ _ _
 split
 ·exact zl h _ _ _ _
 split
 ·exact { h with msk:=zfz h _ }
 split
 ·exact z0v h hw _ ⟨by omega,by omega⟩
 split
 ·exact z0v h hw _ ⟨Int.emod_nonneg _ (by decide),Int.emod_lt_of_pos _ (by decide)⟩
 split
 ·split
  ·exact z05 h hw i ⟨by simp,by simp⟩
  ·rename_i hlt
   split
   ·refine z05 h hw i ?_;unfold Kn.postE postE;repeat' split
    all_goals exact ⟨by simp,by simp⟩
   ·exact z0v (z8X h _ (by have:=hi.k.1;omega)) hw _ ⟨by simp,by simp⟩
 split
 ·rename_i e
  split
  ·exact z05 h hw i ⟨by simp,by simp⟩
  ·rename_i hlt
   split
   ·exact zhq h hw hc hi (fun a=>hm a e) (by omega)
   ·exact zho h hw hc hi (fun a=>hm a e) (by omega)
 split
 ·exact zfc h hw hi
 ·exact h
theorem zeV {i:Ins} (h:z2K i=0) (hu:(z0x i.op).testBit 3=false):i.d=0:=by
 unfold z2K at h
 split at h
 ·omega
 ·split at h
  ·rename_i h2
   unfold z8e at h2;simp only [Bool.and_eq_true,hu,Bool.false_or] at h2;exact of_decide_eq_true h2.1.1.2
  ·omega
theorem z8Y (h:Inv c K) {t:Nat} (ht:t<c.ts.length) (hc:z20 c K t) {i:Ins} (hi:zI i) {value:Int} (hv:zG value):Inv c (K.serveTask c t i value):=by
 unfold Kn.serveTask
 split
 ·rename_i e;exact zhm h ht hc hi (zeV hi.form (by rw [e];decide))
 split
 ·exact zdQ h ht
 split
 ·exact zf8 h ht hc hi
 split
 ·rename_i e;exact zfb h ht hc hi (zeV hi.form (by rw [e];decide))
 split
 ·exact zfd h t
 split
 ·exact zhn h ht hc.st
 ·exact z8k h (zey h ht) (fun _=>hc) hi (fun a=>by have:=h.cf.nt;omega) hv
structure zjy (x:Cx):Prop where
 rg:∀ n,zG (x.rg.get n)
 mem:∀ w∈x.mem,zG w
theorem z9w (n:Int):zG (n%4294967296):=⟨Int.emod_nonneg _ (by decide),Int.emod_lt_of_pos _ (by decide)⟩
theorem zch {n:Nat} (h:n<4294967296):zG (n:Int):=⟨by omega,by omega⟩
theorem zeg {op b d x:Int} (hb:zG b) (hd:zG d) (h:z1T op b d=some x):zG x:=by
 have hbn:b.toNat<2^32:=by have:=hb.2;have:=hb.1;omega
 have hdn:d.toNat<2^32:=by have:=hd.2;have:=hd.1;omega
 unfold z1T at h
 split at h
 ·have h:=Option.some.inj h;subst h;exact z9w _
 split at h
 ·have h:=Option.some.inj h;subst h;exact z9w _
 split at h
 ·have h:=Option.some.inj h;subst h;exact z9w _
 split at h
 ·split at h
  ·cases h
  ·rename_i e
   have h:=Option.some.inj h;subst h;have hd0:0<d:=by have:=hd.1;omega
   have h1:b / d≤b:=Int.ediv_le_self _ hb.1;exact ⟨Int.ediv_nonneg hb.1 hd.1,by have:=hb.2;omega⟩
 split at h
 ·split at h
  ·cases h
  ·rename_i e
   have h:=Option.some.inj h;subst h;have hd0:0<d:=by have:=hd.1;omega
   have h1:=Int.emod_lt_of_pos b hd0;exact ⟨Int.emod_nonneg _ (by omega),by have:=hd.2;omega⟩
 split at h
 ·have h:=Option.some.inj h;subst h;exact zch (Nat.and_lt_two_pow _ hdn)
 split at h
 ·have h:=Option.some.inj h;subst h;exact zch (Nat.or_lt_two_pow hbn hdn)
 split at h
 ·have h:=Option.some.inj h;subst h;exact zch (Nat.xor_lt_two_pow hbn hdn)
 split at h
 ·have h:=Option.some.inj h;subst h;exact z9w _
 split at h
 ·have h:=Option.some.inj h;subst h;have h2:(0:Int)<2^(d.toNat%32):=Int.pow_pos (by decide);have h1:b / 2^(d.toNat%32)≤b:=Int.ediv_le_self _ hb.1;exact ⟨Int.ediv_nonneg hb.1 (Int.le_of_lt h2),by have:=hb.2;omega⟩
 split at h
 ·have h:=Option.some.inj h;subst h;split<;>exact ⟨by simp,by simp⟩
 ·have h:=Option.some.inj h;subst h;split<;>exact ⟨by simp,by simp⟩
theorem zdh {x:Cx} (h:zjy x) (n:Int) {v:Int} (hv:zG v):zjy (x.put n v).on:=⟨R8.set_rng h.rg hv _,h.mem⟩
theorem z6N {i:Ins} (hi:zI i) {x:Cx} (h:zjy x):zjy (doI i x).2∧(doI i x).2.mem.length=x.mem.length:=by
 unfold doI;have hr:∀ n,zG (x.reg n):=fun n=>h.rg _
 split
 ·exact ⟨zdh h _ hi.k,rfl⟩
 split
 ·exact ⟨zdh h _ (hr _),rfl⟩
 split
 ·dsimp only
  split
  ·exact ⟨h,rfl⟩
  ·split
   ·exact ⟨zdh h _ (zcg h.mem _),rfl⟩
   ·exact ⟨⟨h.rg,z9x h.mem _ (hr _)⟩,by simp [Cx.on]⟩
 split
 ·exact ⟨⟨h.rg,h.mem⟩,rfl⟩
 split
 ·split
  ·exact ⟨⟨h.rg,h.mem⟩,rfl⟩
  ·exact ⟨⟨h.rg,h.mem⟩,rfl⟩
 split
 ·split
  ·exact ⟨⟨h.rg,h.mem⟩,rfl⟩
  ·exact ⟨⟨h.rg,h.mem⟩,rfl⟩
 split
 ·exact ⟨⟨h.rg,h.mem⟩,rfl⟩
 split
 ·exact ⟨h,rfl⟩
 ·rename_i n e;exact ⟨zdh h _ (zeg (hr _) (hr _) e),rfl⟩
theorem zcI {i:Ins} {x:Cx} {n:Int} (hi:zI i) (h0:0≤x.at_) (h1:x.at_<n) (hj:i.op=17∨i.op=18∨i.op=19→i.k<n):0≤(doI i x).2.at_∧(doI i x).2.at_≤n:=by
 unfold doI;have hk:=hi.k.1;have on_:∀ y:Cx,y.at_=x.at_→0≤y.on.at_∧y.on.at_≤n:=fun y e=>by show 0≤y.at_+1∧y.at_+1≤n;omega
 split
 ·exact on_ _ rfl
 split
 ·exact on_ _ rfl
 split
 ·dsimp only
  split
  ·exact ⟨h0,Int.le_of_lt h1⟩
  ·split
   ·exact on_ _ rfl
   ·exact on_ _ rfl
 split
 ·rename_i e;exact ⟨hk,Int.le_of_lt (hj (.inl e))⟩
 split
 ·rename_i e
  split
  ·exact ⟨hk,Int.le_of_lt (hj (.inr (.inl e)))⟩
  ·exact on_ _ rfl
 split
 ·rename_i e
  split
  ·exact on_ _ rfl
  ·exact ⟨hk,Int.le_of_lt (hj (.inr (.inr e)))⟩
 split
 ·exact on_ _ rfl
 split
 ·exact ⟨h0,Int.le_of_lt h1⟩
 ·exact on_ _ rfl
theorem z40 {i:Ins} {n:Int} {s:Bool} (h:z1y i n s=0) (hj:i.op=17∨i.op=18∨i.op=19):i.k<n:=by
 unfold z1y at h
 split at h
 ·rename_i e;exact absurd h e
 split at h
 ·omega
 split at h
 ·omega
 ·rename_i e
  have:¬ n≤i.k:=fun f=>e ⟨hj,f⟩;omega
theorem z4D {i:Ins} {n:Int} {s:Bool} (h:z1y i n s=0):may i s=true:=by
 unfold z1y at h
 split at h
 ·rename_i e;exact absurd h e
 split at h
 ·omega
 ·rename_i e;simpa using e
theorem z3H {l:List Ins} {a last:Int} (h0:0≤a):(a<l.length∧z0j l a last=zM l a∧zM l a∈l)∨(l.length≤a∧z0j l a last=⟨last,0,0,0,0,0⟩):=by
 unfold z0j
 by_cases h:a<l.length
 ·rw [if_pos h];exact .inl ⟨h,rfl,z3C h0 h⟩
 ·rw [if_neg h];exact .inr ⟨by omega,rfl⟩
theorem zjd (h:Inv c K) {t:Nat} (ht:t<c.ts.length) (hs:(K.T t).st=1) {value:Int} (hv:zG value):Inv c (K.go c t value):=by
 have hT:=h.T t ht;have ha:=hT.at_;have hrun:=hT.run (.inr hs);have hi:=z0k h.cf ht ha.1;have hcf:=h.cf.t t ht;unfold Kn.go;dsimp only;have h1:=zU h (zT (z0j (tcg c t).code (K.T t).at_ 37));have hl:=z3H (l:=(tcg c t).code) (a:=(K.T t).at_) (last:=37) ha.1
 split
 ·rename_i hop
  rcases hl with ⟨g1,g2,g3⟩ | ⟨_,g2⟩
  ·have hck:=(h.cf.tc t ht _ g3).1;have t64:t<64:=by have:=h.cf.nt;omega
   have hcx:(K.cost (zT (z0j (tcg c t).code (K.T t).at_ 37))).cx t=⟨(K.T t).at_,(K.T t).rg,K.tm t⟩:=by unfold Kn.cx;rw [if_pos t64];rfl
   rw [hcx];have hok:=z6N hi (x:=⟨(K.T t).at_,(K.T t).rg,K.tm t⟩) ⟨hT.rg,(h.tm t ht).2⟩;have hat:=zcI hi (x:=⟨(K.T t).at_,(K.T t).rg,K.tm t⟩) (n:=(tcg c t).code.length) ha.1 g1 (fun e=>by rw [g2] at e ⊢;exact z40 hck e);generalize doI (z0j (tcg c t).code (K.T t).at_ 37) ⟨(K.T t).at_,(K.T t).rg,K.tm t⟩=r at hok hat;have hx:z8a c t { K.T t with at_:=r.2.at_,rg:=r.2.rg }:=⟨hT.lev,hT.late,hT.job,hok.1.rg,⟨hat.1,by have:=hat.2;have:=hcf.2.2.2.2.2;show r.2.at_≤300;omega⟩,hT.st,fun _=>hat.2,by show 2≤(K.T t).st→_;omega,hT.on4,hT.on5,hT.on6,hT.on⟩;have h2:=z0t h1 ht hx rfl rfl;have h3:Inv c ((K.cost (zT (z0j (tcg c t).code (K.T t).at_ 37))).putCx t r.2):=by
    unfold Kn.putCx;rw [if_pos t64];refine { h2 with tm:=fun u hu=>?_ };show (upd K.tm t r.2.mem u).length=_∧∀ w∈upd K.tm t r.2.mem u,zG w;unfold upd;split
    ·rename_i e;subst e;exact ⟨by rw [hok.2];exact (h.tm u ht).1,hok.1.mem⟩
    ·exact h.tm u hu
   split
   ·exact h3
   ·have h4:=zl h3 21 t r.1 0;refine zhl h4 (z2B h4 ht ?_) 8 (.inr rfl);rw [z01];unfold Kn.putCx;rw [if_pos t64];show (upd _ _ _ _:Ts).st=1;rw [zK];exact hs
  ·rw [g2] at hop;simp at hop
 ·rename_i hop
  split
  ·-- halt: the task is behind its end
   have hr:=z2B h ht hs;have key:∀ K1:Kn,Inv c K1→Rdy c K1 t→K1.T t=K.T t→Inv c (((K1.setT t { K1.T t with at_:=(K1.T t).at_+1 }).tell c 22 t 0 0).gone c t 7):=by
    intro K1 hI r e;have hT1:=hI.T t ht;have hx:z8a c t { K1.T t with at_:=(K1.T t).at_+1,st:=7 }:=⟨hT1.lev,hT1.late,hT1.job,hT1.rg,by rw [e];show 0≤(K.T t).at_+1∧(K.T t).at_+1≤300;omega,by simp,by simp,by simp,by simp,by simp,by simp,hT1.on⟩;have g:=zl (z2f hI r hx) 22 t 0 0;have g2:=z3a (z3E t (z1O K1.L t) _ (z5n g t));have e2:((K1.setT t { K1.T t with at_:=(K1.T t).at_+1 }).tell c 22 t 0 0).gone c t 7=((z1O K1.L t).foldl (fun (K:Kn) m=>K.give c t m) { ({ K1.setT t { K1.T t with at_:=(K1.T t).at_+1,st:=7 } with R:=z5F K1.R t }).tell c 22 t 0 0 with S:=z33 t ((({ K1.setT t { K1.T t with at_:=(K1.T t).at_+1,st:=7 } with R:=z5F K1.R t }).tell c 22 t 0 0)).S }).relevel c:=by
     unfold Kn.gone;dsimp only;rw [zbe]
     congr 2
     unfold Kn.tell Kn.setT;dsimp only
     split
     ·simp
     ·simp
    rw [e2];exact g2
   exact key _ h1 (z2B h1 ht hs) rfl
  ·rename_i hne
   rcases hl with ⟨g1,g2,g3⟩ | ⟨_,g2⟩
   ·have hx:z8a c t { K.T t with at_:=(K.T t).at_+1 }:=⟨hT.lev,hT.late,hT.job,hT.rg,by have:=hcf.2.2.2.2.2;show 0≤(K.T t).at_+1∧(K.T t).at_+1≤300;omega,hT.st,fun _=>by show (K.T t).at_+1≤_;omega,by show 2≤(K.T t).st→_;omega,hT.on4,hT.on5,hT.on6,hT.on⟩;have h2:=z0t h1 ht hx rfl rfl;refine z8Y h2 ht ⟨?_,?_⟩ hi hv
    ·show (upd _ _ _ _:Ts).st=1;rw [zK];exact hs
    ·show 1≤(upd _ _ _ _:Ts).at_∧(upd _ _ _ _:Ts).at_≤_;rw [zK];show 1≤(K.T t).at_+1∧(K.T t).at_+1≤_;omega
   ·rw [g2] at hne;exact absurd rfl hne
theorem zai (h:Inv c K) {value:Int} (hv:zG value):Inv c (K.dispatch c value):=by
 unfold Kn.dispatch
 cases hf:z0h K.R with
 | none =>
  dsimp only
  split
  ·exact zU h 1
  ·have g:Inv c { (K.tell c 5 255 K.run 0).cost 10 with run:=255 }:={ zU (zl h 5 255 K.run 0) 10 with run:=.inl rfl };exact zU g 1
 | some t =>
  obtain ⟨l,hl⟩:=z0q hf;obtain ⟨ht,hs⟩:=h.rdy l t hl;dsimp only
  split
  ·exact zjd h ht hs hv
  ·have g:Inv c { (K.tell c 5 t K.run 0).cost 10 with run:=(t:Int) }:={ zU (zl h 5 t K.run 0) 10 with run:=.inr ⟨by show (0:Int)≤t;omega,by show (t:Int)<_;omega⟩ };refine zjd g ht ?_ hv;show ((Kn.tell _ _ _ _ _ _).T t).st=1;rw [z01];exact hs
end
theorem zfK {n:Nat} (h0:n≠0) (h:n<4294967296):n.testBit (low n)=true∧low n<32∧∀ k,k<low n→n.testBit k=false:=by
 unfold low
 cases e:(List.range 32).find? fun i=>n.testBit i with
 | none =>
  exfalso
  apply h0;apply Nat.eq_of_testBit_eq;intro i;rw [Nat.zero_testBit]
  rcases Nat.lt_or_ge i 32 with a | a
  ·rw [List.find?_eq_none] at e;have:=e i (List.mem_range.2 a)
   simpa using this
  ·exact Nat.testBit_lt_two_pow (Nat.lt_of_lt_of_le h (Nat.pow_le_pow_right (by decide:0<2) a:2^32≤2^i))
 | some l =>
  obtain ⟨h1,h2,h3⟩:=z0m e;exact ⟨h2,h1,h3⟩
theorem zfL {n m:Nat} (h0:n≠0) (h:n<2^m) (hm:m≤32):low n<m:=by
 have h32:n<4294967296:=Nat.lt_of_lt_of_le h (Nat.pow_le_pow_right (by decide) hm:2^m≤2^32);obtain ⟨h1,_,_⟩:=zfK h0 h32
 rcases Nat.lt_or_ge (low n) m with a | a
 ·exact a
 ·rw [Nat.testBit_lt_two_pow (Nat.lt_of_lt_of_le h (Nat.pow_le_pow_right (by decide) a))] at h1;cases h1
theorem zc9 (n:Nat):zG (R8.get r80 n):=by
 have h:R8.get r80 n=0:=by
  match n with
  | 0=>rfl
  | 1=>rfl
  | 2=>rfl
  | 3=>rfl
  | 4=>rfl
  | 5=>rfl
  | 6=>rfl
  | n+7=>rfl
 rw [h];exact ⟨by simp,by simp⟩
section
variable {c:Cf} {K:Kn}
theorem zcW (h:Inv c K) {l:Ln} (h1:l.all=K.ln.all) (h2:l.pending<2^c.ls.length) (h3:l.mask<2^c.ls.length) (h4:l.active=255∨(0≤l.active∧l.active<c.ls.length∧K.iat≤(lcg c l.active.toNat).code.length)):Inv c { K with ln:=l } :=
 { h with act:=h4,all:=h1.trans h.all,pnd:=h2,msk:=h3 }
theorem z8i (h:Inv c K):Inv c { K with ln:=K.ln.leave }:=zcW h rfl h.pnd h.msk (.inl rfl)
theorem zk7 (h:Inv c K) (n:Nat):Inv c { K with ln:=K.ln.bar n }:=zcW h rfl h.pnd (Nat.lt_of_le_of_lt Nat.and_le_left h.msk) h.act
theorem zfa (h:Inv c K) (ha:K.ln.active≠255) {value:Int} (hv:zG value):Inv c (K.serve c K.ln.active.toNat value):=by
 obtain ⟨a1,a2,a3⟩:=h.act.resolve_left ha;have hn:K.ln.active.toNat<c.ls.length:=by omega
 have hi:=z1k h.cf hn h.iat.1;have hl:=z3H (l:=(lcg c K.ln.active.toNat).code) (a:=K.iat) (last:=38) h.iat.1;have hcf:=h.cf.l _ hn;generalize hnn:K.ln.active.toNat=n at *;unfold Kn.serve;dsimp only;have h1:=zU h (zT (z0j (lcg c n).code K.iat 38));have n64:¬ 64+n<64:=by omega
 have e64:64+n-64=n:=by omega
 split
 ·rename_i hop
  rcases hl with ⟨g1,g2,g3⟩ | ⟨_,g2⟩
  ·have hck:=(h.cf.lc n hn _ g3).1;have hcx:(K.cost (zT (z0j (lcg c n).code K.iat 38))).cx (64+n)=⟨K.iat,K.irg,K.mems n⟩:=by unfold Kn.cx;rw [if_neg n64,e64];rfl
   rw [hcx];have hok:=z6N hi (x:=⟨K.iat,K.irg,K.mems n⟩) ⟨h.irg,(h.mems n hn).2⟩;have hat:=zcI hi (x:=⟨K.iat,K.irg,K.mems n⟩) (n:=(lcg c n).code.length) h.iat.1 g1 (fun e=>by rw [g2] at e ⊢;exact z40 hck e);generalize doI (z0j (lcg c n).code K.iat 38) ⟨K.iat,K.irg,K.mems n⟩=r at hok hat;have h3:Inv c ((K.cost (zT (z0j (lcg c n).code K.iat 38))).putCx (64+n) r.2):=by
    unfold Kn.putCx;rw [if_neg n64];refine { h1 with mems:=fun u hu=>?_,irg:=hok.1.rg,iat:=⟨hat.1,?_⟩,act:=.inr ⟨a1,a2,?_⟩ }
    ·show (upd K.mems (64+n-64) r.2.mem u).length=_∧∀ w∈upd K.mems (64+n-64) r.2.mem u,zG w;rw [e64];unfold upd;split
     ·rename_i e;subst e;exact ⟨by rw [hok.2];exact (h.mems u hu).1,hok.1.mem⟩
     ·exact h.mems u hu
    ·have:=hat.2;show r.2.at_≤300;omega
    ·show r.2.at_≤((lcg c K.ln.active.toNat).code.length:Int);rw [hnn];exact hat.2
   split
   ·exact h3
   ·exact z8i (zl (zk7 (zl h3 21 (64+n) r.1 0) n) 4 n 0 0)
  ·rw [g2] at hop;simp at hop
 ·rename_i hop
  split
  ·exact z8i (zl h1 4 n 0 0)
  ·rename_i hne
   rcases hl with ⟨g1,g2,g3⟩ | ⟨_,g2⟩
   ·have hck:=(h.cf.lc n hn _ g3).1;have h2:Inv c { K.cost (zT (z0j (lcg c n).code K.iat 38)) with iat:=K.iat+1 }:={ h1 with iat:=⟨by have:=h.iat.1;show 0≤K.iat+1;omega,by show K.iat+1≤300;omega⟩,act:=.inr ⟨a1,a2,by show K.iat+1≤((lcg c K.ln.active.toNat).code.length:Int);rw [hnn];omega⟩ };refine z8k h2 (.inr ⟨by omega,by omega⟩) (fun a=>absurd a n64) hi (fun _ e=>?_) hv;have hm:=z4D hck;rw [← g2] at hm;unfold may at hm;rw [if_neg hne] at hm
    simpa [e] using hm
   ·rw [g2] at hne;exact absurd rfl hne
theorem zk6 (h:Inv c K) {value:Int} (hv:zG value):Inv c (K.act c value):=by
 unfold Kn.act
 split
 ·exact h
 split
 ·rename_i ha;exact zfa h ha hv
 split
 ·rename_i hr
  have hr':K.ln.active=255∧K.ln.pending &&& K.ln.mask≠0:=by unfold Ln.ready at hr;simpa using hr
  have hsm:K.ln.pending &&& K.ln.mask<2^c.ls.length:=z3w h.msk;have hlow:low (K.ln.pending &&& K.ln.mask)<c.ls.length:=zfL hr'.2 hsm (by have:=h.cf.nl;omega);have he:K.ln.enter={ K.ln with active:=low (K.ln.pending &&& K.ln.mask),pending:=K.ln.pending &&& (4294967295-2^low (K.ln.pending &&& K.ln.mask)) }:=by unfold Ln.enter;rw [if_pos hr]
  have h0:Inv c { K with iat:=0,irg:=r80 }:=by
   refine { h with iat:=⟨Int.le_refl _,by show (0:Int)≤300;decide⟩,irg:=zc9,act:=?_ }
   rcases h.act with a | ⟨a,b,d⟩
   ·exact .inl a
   ·exact .inr ⟨a,b,by show (0:Int)≤_;omega⟩
  have h1:Inv c { { K with iat:=0,irg:=r80 } with ln:=K.ln.enter }:=by
   refine zcW h0 (by rw [he]) (by rw [he];exact Nat.lt_of_le_of_lt Nat.and_le_left h.pnd) (by rw [he];exact h.msk) (by rw [he];exact .inr ⟨by show (0:Int)≤(low _:Nat);omega,by show ((low _:Nat):Int)<_;omega,by show (0:Int)≤_;omega⟩)
  have h2:=zU (zl h1 3 K.ln.enter.active 0 0) 6;have e2:{ ({ K with ln:=K.ln.enter }.tell c 3 K.ln.enter.active 0 0).cost 6 with iat:=0,irg:=r80 }=((Kn.tell { { K with iat:=0,irg:=r80 } with ln:=K.ln.enter } c 3 K.ln.enter.active 0 0).cost 6):=by
   by_cases e:z1l c.filter 3=true
   ·simp only [Kn.tell,Kn.cost,e,if_true]
   ·simp only [Kn.tell,Kn.cost,e,if_false,Bool.false_eq_true]
  rw [e2];exact h2
 ·exact zai h hv
theorem z5o (h:Inv c K) (a b:Nat):∀ n,Inv c (K.raiseN c a b n)
 | 0=>h
 | n+1=>by
  unfold Kn.raiseN;dsimp only;split
  ·exact zl (z5o h a b n) _ _ _ _
  ·exact z5o h a b n
theorem z8j (h:Inv c K) (bits:Nat):Inv c { K with ln:=K.ln.raise bits }:=by
 refine zcW h rfl ?_ h.msk h.act;have:K.ln.all<2^c.ls.length:=by rw [h.all];have:=Nat.two_pow_pos c.ls.length;omega
 exact Nat.or_lt_two_pow h.pnd (z3w this)
theorem z71 (h:Inv c K) (bits:Nat):Inv c (K.raise c bits):=by
 unfold Kn.raise;split
 ·exact h
 ·exact z5o (z8j h bits) _ _ _
theorem z23 (h:Inv c K) (bits:Nat) {value:Int} (hv:zG value):Inv c (K.step c bits value) :=
 z3b (zk6 (z3b (z71 (z3b (z8Z h)) bits)) hv)
end
def zgU (c:Cf):List Int:=(List.range c.ts.length).map fun t=>(tcg c t).lev
def z0p (c:Cf) (n:Nat):List Ck:=(List.range n).foldl (fun S (t:Nat)=>z5B S (t:Int) (tcg c t).off) []
def zjm (room:Int):Mq:=⟨List.replicate 64 0,0,0,room.toNat,[],[],List.replicate 64 0⟩
def z34 (c:Cf):Kn where
 count:=c.count
 cycle:=c.cycle
 told:=[]
 S:=z0p c c.ts.length
 R:=fun _=>[]
 run:=255
 iat:=0
 irg:=r80
 mems:=fun n=>List.replicate (lcg c n).mem.toNat 0
 T:=fun t=>{ ts0 with lev:=(tcg c t).lev }
 tm:=fun t=>List.replicate (tcg c t).mem.toNat 0
 L:=z5x (zgU c) c.mutexes.toNat
 sm:=fun s=>(lg c.sems s,[])
 ml:=fun q=>zjm (lg c.queues q)
 ln:=⟨2^c.ls.length-1,0,c.mask,255⟩
 reads:=0
 stopped:=false
theorem z6J (c:Cf):∀ n id,has (z0p c n) id→∃ t:Nat,t<n∧id=t
 | 0,id,h=>by unfold z0p at h;exact absurd h (by unfold has;simp)
 | n+1,id,h=>by
  unfold z0p at h;rw [List.range_succ,List.foldl_append,List.foldl_cons,List.foldl_nil] at h
  rcases zc8 h with rfl | h
  ·exact ⟨n,by omega,rfl⟩
  ·obtain ⟨t,ht,e⟩:=z6J c n id h;exact ⟨t,by omega,e⟩
theorem z5e (c:Cf):∀ n,SOk (z0p c n)
 | 0=>zl9
 | n+1=>by
  unfold z0p;rw [List.range_succ,List.foldl_append,List.foldl_cons,List.foldl_nil];exact z9G (z5e c n) _ _
theorem z6z (n:Nat):∀ w∈List.replicate n (0:Int),zG w:=fun w hw=>by
 rw [List.mem_replicate] at hw;rw [hw.2];exact ⟨by simp,by simp⟩
theorem ze1 {l:List Int} {n:Nat} (h:n<l.length):lg l n∈l:=by unfold lg;simp [List.getD,h]
theorem z8W {c:Cf} (hc:z7T c):Inv c (z34 c):=by
 have hlv:ziX (zgU c):=by
  intro x hx;unfold zgU at hx;rw [List.mem_map] at hx;obtain ⟨t,ht,rfl⟩:=hx;exact (hc.t t (List.mem_range.1 ht)).1
 have hll:(zgU c).length=c.ts.length:=by simp [zgU]
 have hm:=hc.mu;have hg:=zcQ (zgU c) c.mutexes.toNat (by rw [hll];exact hc.nt) (by omega) hlv;refine { cf:=hc,cnt:=hc.cnt,cyc:=hc.cyc,rds:=⟨Int.le_refl _,by show (0:Int)<_;decide⟩,S:=z5e c _,clk:=?_,R:=z4x.none,rdy:=fun l t h=>(by cases h),L:=hg,Ln:=hll,Lm:=?_,Lw:=?_,T:=?_,tm:=?_,mems:=?_,sm:=?_,smr:=fun s _ t h=>(by cases h),ml:=?_,mls:=fun s _ t h=>(by cases h),mlr:=fun s _ t h=>(by cases h),irg:=zc9,iat:=⟨Int.le_refl _,by show (0:Int)≤_;decide⟩,act:=.inl rfl,all:=rfl,pnd:=Nat.two_pow_pos _,msk:=hc.mask,run:=.inl rfl }
 ·intro id h;obtain ⟨t,ht,rfl⟩:=z6J c _ id h;have:=hc.nt;exact ⟨by omega,fun _=>by omega,fun a=>by omega,fun a=>by omega⟩
 ·show ((List.replicate c.mutexes.toNat (255:Int)).length:Int)=c.mutexes;rw [List.length_replicate];omega
 ·intro t ht h
  exfalso
  have:z0N (z5x (zgU c) c.mutexes.toNat) t=-1:=by
   show lg (List.replicate (zgU c).length (-1)) t=-1;unfold lg;rw [List.getD_eq_getElem?_getD,List.getElem?_replicate,if_pos (by rw [hll];exact ht)];rfl
  have h:0≤z0N (z5x (zgU c) c.mutexes.toNat) t:=h;omega
 ·intro t ht;exact ⟨(hc.t t ht).1,⟨by simp [z34],by simp [z34]⟩,⟨by simp [z34],by simp [z34]⟩,zc9,⟨by simp [z34],by simp [z34]⟩,⟨by simp [z34],by simp [z34]⟩,fun _=>by show (0:Int)≤_;omega,by simp [z34],by simp [z34],by simp [z34],by simp [z34],⟨by simp [z34],by simp [z34]⟩⟩
 ·intro t ht;exact ⟨by simp [z34],z6z _⟩
 ·intro t ht;exact ⟨by simp [z34],z6z _⟩
 ·intro s hs;have:=hc.sems _ (ze1 hs);exact ⟨this.1,this.2,z2k,fun _=>rfl⟩
 ·intro q hq;have:=hc.queues _ (ze1 hq);exact ⟨zhY (by omega),⟨z6z _,z6z _⟩⟩
end Go.Proofs.YtgiiidminlhbpaaGreatDoor
namespace Go.Proofs.YtgiiidminlhbpaaGreatDoor
open Go.RowKit Go.Sx Go.Rq
def Tab (w:World):Prop:=TabAt 0 Lib.deBruijn32tab w
theorem Tab.later {w0 w:World} {P:HP} (h:Tab w0) (hs:Sat w0 w P):Tab w:=fun j hj=>hs.keep (h j hj)
theorem zkC {x:Nat} (h0:x≠0) (hx:x<4294967296):Lib.ctz 32 x=low x:=by
 obtain ⟨m,hm,hk⟩:=Lib.ctzFrom_spec 32 x (by omega) (by omega);have e:Lib.ctz 32 x=Lib.ctzFrom 32 x:=by unfold Lib.ctz;rw [if_neg h0]
 rw [e];generalize Lib.ctzFrom 32 x=k at hm hk;have h1:∀ j,j<k→x.testBit j=false:=fun j hj=>by
  rw [hm,Nat.mul_comm,Nat.testBit_mul_two_pow];simp;omega
 have h2:x.testBit k=true:=by
  rw [hm,Nat.mul_comm,Nat.testBit_mul_two_pow];simp [Nat.testBit_zero]
 unfold low;rw [z26 hk h2 h1];rfl
theorem zbp (x k idx:Nat) (w:World) (hx0:((x:Int)==0)=false)
  (key:bits BinOp.and IntKind.u32 (x:Int) (-(x:Int)%4294967296)*125613361%4294967296 / 134217728=(idx:Int))
  (hi:idx<32) (hk:k<32) (hcell:w.cell? ⟨0,idx,none⟩=some (.int .u8 k)) :
  Calls Tryz.prog 99 #[.int .u32 x] w fun e w'=>e=.returned (.int .i64 k)∧w=w':=by
 go_enter Tryz.func99,Tryz.ntmps99
 go_wp2_with (simp only [key]);go_ret;exact ⟨rfl,rfl⟩
theorem zj3 (x:Nat) (h0:x≠0) (hx:x<4294967296) (w:World) (hT:Tab w):Calls Tryz.prog 99 #[.int .u32 x] w fun e w'=>e=.returned (.int .i64 (low x))∧w=w':=by
 rw [← zkC h0 hx];obtain ⟨hlow,hk⟩:=Lib.lowest_bit 32 x h0 hx;obtain ⟨hi,htab⟩:=Lib.deBruijn32_at _ hk;have hcell:=hT _ hi;rw [htab] at hcell;exact zbp x _ _ w (by simp;omega) (tz32_key x _ hx h0 hlow) hi hk hcell
theorem zil {R n fr bk ah af lv} (h:Rep R n fr bk ah af lv) (e:z0h R=none):n=0:=by
 apply Nat.eq_of_testBit_eq;intro i;rw [Nat.zero_testBit]
 rcases Nat.lt_or_ge i 32 with a | a
 ·rw [h.bit a];apply decide_eq_false;intro hne;unfold z0h at e
  split at e
  ·rename_i f
   rw [List.find?_eq_none] at f;have:=f i (List.mem_range.2 a);simp at this;exact hne this
  ·rename_i l f
   obtain ⟨h1,h2,_⟩:=z0m f;have h2:R l≠[]:=of_decide_eq_true h2
   cases hr:R l with
   | nil=>exact h2 hr
   | cons x r=>rw [hr] at e;cases e
 ·exact Nat.testBit_lt_two_pow (Nat.lt_of_lt_of_le h.top (Nat.pow_le_pow_right (by decide:0<2) a:2^32≤2^i))
theorem zim {R n fr bk ah af lv} (h:Rep R n fr bk ah af lv) {t:Nat} (e:z0h R=some t):n≠0∧low n<32∧ag fr (low n)=t∧t<64:=by
 unfold z0h at e
 split at e
 ·cases e
 ·rename_i l f
  obtain ⟨h1,h2,h3⟩:=z0m f;have h2':R l≠[]:=of_decide_eq_true h2;have hb:n.testBit l=true:=by rw [h.bit h1];exact decide_eq_true h2'
  have hlow:low n=l:=by
   unfold low;rw [z26 h1 hb fun k hk=>by rw [h.bit (by omega)];exact h3 k hk];rfl
  rw [hlow]
  cases hr:R l with
  | nil=>exact absurd hr h2'
  | cons x r =>
   rw [hr] at e;simp at e;subst e;refine ⟨fun e0=>?_,h1,?_,h.rng (l:=l) (by rw [hr];simp)⟩
   ·rw [e0,Nat.zero_testBit] at hb;cases hb
   ·rw [h.hfr h2',hr];rfl
theorem z7u (b o:Nat) (R:Nat→List Nat) (e:z0h R=none) (w0 w:World) (F:HP) (hs:Sat w0 w (rdP b o R*F)) :
  Calls Tryz.prog 100 #[.pointer (some ⟨b,o,none⟩)] w (zp w0 (.tuple #[.int .i64 0,.bool false]) (rdP b o R*F)):=by
 obtain ⟨⟨n,fr,bk,ah,af,lv,cnt⟩,h,hs⟩:=z3S hs;obtain rfl:n=0:=zil h e;have H:=hid h;have hs2:Sat w0 w (pts b o [.int .u32 0]*(pts b (o+1) (fr.map (Value.int .i8))*(pts b (o+33) (bk.map (Value.int .i8))*(pts b (o+65) (ah.map (Value.int .i8))*(pts b (o+129) (af.map (Value.int .i8))*(pts b (o+193) (lv.map (Value.int .i8))*(pts b (o+257) [.int .i64 cnt]*F))))))):=hs.perm (by unfold raP;simp only [Int.natCast_zero];ac_rfl);clear h hs e
 go_enter Tryz.func100,Tryz.ntmps100
 go_wp2_with fail;go_ret2;exact ⟨rfl,z2S (n:=0) (cnt:=cnt) z3 H.out⟩
theorem z7v (b o:Nat) (R:Nat→List Nat) (t:Nat) (e:z0h R=some t) (w0 w:World) (F:HP) (hs:Sat w0 w (rdP b o R*F)) (hT:Tab w0) :
  Calls Tryz.prog 100 #[.pointer (some ⟨b,o,none⟩)] w (zp w0 (.tuple #[.int .i64 t,.bool true]) (rdP b o R*F)):=by
 obtain ⟨⟨n,fr,bk,ah,af,lv,cnt⟩,h,hs⟩:=z3S hs;obtain ⟨h0,h1,h2,h3⟩:=zim h e;have h0:n≠0:=h0;have h1:low n<32:=h1;have h2:ag fr (low n)=t:=h2;have htop:n<4294967296:=h.top;have H:=hid h;have hs2:Sat w0 w (pts b o [.int .u32 n]*(pts b (o+1) (fr.map (Value.int .i8))*(pts b (o+33) (bk.map (Value.int .i8))*(pts b (o+65) (ah.map (Value.int .i8))*(pts b (o+129) (af.map (Value.int .i8))*(pts b (o+193) (lv.map (Value.int .i8))*(pts b (o+257) [.int .i64 cnt]*F))))))):=hs.perm (by unfold raP;ac_rfl);have htz:∀ m,Hid (Calls Tryz.prog 99 #[.int .u32 n] (w.drewN m) fun e w'=>e=.returned (.int .i64 (low n))∧w.drewN m=w'):=fun m=>zj3 n h0 htop _ (hT.later (hs2.drewN m));haveI:Lt (low n) fr.length:=⟨by rw [h.lfr];exact h1⟩;have d1:decide (low n<32)=true:=decide_eq_true h1;have i1:(low n:Int)<32:=by omega
 have e0:((n:Int)==0)=false:=by simp;omega
 have H0:=hid h0;generalize low n=l at *;clear h hs e hT h0
 go_enter Tryz.func100,Tryz.ntmps100
 go_wp2_with fail;go_quiet ((go_at_call 99;exact zif (htz _).out));go_wp2_with fail;go_ret2;exact ⟨rfl,z2S (n:=n) (cnt:=cnt) z3 H.out⟩
structure zgY (l:Ln):Prop where
 all:l.all<4294967296
 pnd:l.pending<4294967296
 msk:l.mask<4294967296
theorem z3L {w0 w:World} {F:HP} {b:Nat} {l:Ln} (hs:Sat w0 w (lnP b l*F)):Sat w0 w (pts b 0 [.int .u32 l.all,.int .u32 l.pending,.int .u32 l.mask,.int .i64 l.active]*F):=hs
theorem zhJ (b:Nat) (l:Ln) (w0 w:World) (F:HP) (hs:Sat w0 w (lnP b l*F)):Calls Tryz.prog 51 #[.pointer (some ⟨b,0,none⟩)] w (zp w0 (.int .i64 l.active) (lnP b l*F)):=by
 have hs2:=z3L hs
 go_enter Tryz.func51,Tryz.ntmps51
 go_wp2_with fail;go_ret;exact ⟨rfl,z6⟩
theorem zfG (b:Nat) (l:Ln) (w0 w:World) (F:HP) (hs:Sat w0 w (lnP b l*F)):Calls Tryz.prog 52 #[.pointer (some ⟨b,0,none⟩)] w (zp w0 (.int .u32 l.pending) (lnP b l*F)):=by
 have hs2:=z3L hs
 go_enter Tryz.func52,Tryz.ntmps52
 go_wp2_with fail;go_ret;exact ⟨rfl,z6⟩
theorem zmm (b:Nat) (l:Ln) (w0 w:World) (F:HP) (hs:Sat w0 w (lnP b l*F)):Calls Tryz.prog 53 #[.pointer (some ⟨b,0,none⟩)] w (zp w0 (.int .u32 l.mask) (lnP b l*F)):=by
 have hs2:=z3L hs
 go_enter Tryz.func53,Tryz.ntmps53
 go_wp2_with fail;go_ret;exact ⟨rfl,z6⟩
theorem zkz (b:Nat) (l:Ln) (w0 w:World) (F:HP) (hs:Sat w0 w (lnP b l*F)):Calls Tryz.prog 98 #[.pointer (some ⟨b,0,none⟩)] w (Ret w0 fun _=>lnP b l.leave*F):=by
 obtain ⟨al,pn,mk,ac⟩:=l;have hs2:=z3L hs;clear hs
 by_cases e:ac=255
 ·subst e
  go_enter Tryz.func98,Tryz.ntmps98
  go_wp2_with fail;go_ret;exact ⟨_,rfl,z6⟩
 ·have e1:(ac==255)=false:=by simp [e]
  go_enter Tryz.func98,Tryz.ntmps98
  go_wp2_with fail;go_ret;exact ⟨_,rfl,z6⟩
theorem znu (b:Nat) (l:Ln) (x:Nat) (w0 w:World) (F:HP) (hs:Sat w0 w (lnP b l*F)) (hl:zgY l) (hx:x<4294967296):Calls Tryz.prog 114 #[.pointer (some ⟨b,0,none⟩),.int .u32 x] w (zp w0 (.tuple #[]) (lnP b (l.let_ x)*F)):=by
 obtain ⟨al,pn,mk,ac⟩:=l;have hs2:=z3L hs;have e1:=hid (bits_and_u32_nat x al hx hl.all);clear hs
 go_enter Tryz.func114,Tryz.ntmps114
 go_wp2_with fail
 go_end0
 rw [e1.out];exact ⟨rfl,z6⟩
theorem znt (b:Nat) (l:Ln) (n:Nat) (w0 w:World) (F:HP) (hs:Sat w0 w (lnP b l*F)) (hl:zgY l) (hn:n<16):Calls Tryz.prog 97 #[.pointer (some ⟨b,0,none⟩),.int .i64 n] w (zp w0 (.tuple #[]) (lnP b (l.bar n)*F)):=by
 obtain ⟨al,pn,mk,ac⟩:=l;have hs2:=z3L hs;have e1:=hid (z1c mk n hl.msk (by omega));have e2:=hid (z9p (show n<32 by omega));have d1:decide (n<16)=true:=decide_eq_true hn;clear hs
 go_enter Tryz.func97,Tryz.ntmps97
 go_wp2_with fail;refine z9 (w0:=w0) ?_;intro wx hsx;go_still_tail 9,(by kernel_rfl);change wpList _ _ _ _ _ wx.drew;go_wp2_with fail
 go_end0
 rw [e2.out,e1.out];exact ⟨rfl,z6⟩
theorem zkA (b:Nat) (l:Ln) (x:Nat) (w0 w:World) (F:HP) (hs:Sat w0 w (lnP b l*F)) (hl:zgY l) (hx:x<4294967296):Calls Tryz.prog 76 #[.pointer (some ⟨b,0,none⟩),.int .u32 x] w (zp w0 (.tuple #[.int .u32 (x &&& l.all:Nat),.int .u32 ((x &&& l.all) &&& l.pending:Nat)]) (lnP b (l.raise x)*F)):=by
 obtain ⟨al,pn,mk,ac⟩:=l;have hs2:=z3L hs;have ha:x &&& al<4294967296:=zbo hx;have e1:=hid (bits_and_u32_nat x al hx hl.all);have e2:=hid (bits_and_u32_nat (x &&& al) pn ha hl.pnd);have e3:=hid (z2d pn (x &&& al) hl.pnd ha);clear hs
 go_enter Tryz.func76,Tryz.ntmps76
 go_wp2_with fail;go_ret2;rw [e1.out,e2.out,e3.out];exact ⟨rfl,z6⟩
theorem zky (b:Nat) (l:Ln) (w0 w:World) (F:HP) (hs:Sat w0 w (lnP b l*F)) (hl:zgY l) (hT:Tab w0):Calls Tryz.prog 78 #[.pointer (some ⟨b,0,none⟩)] w (zp w0 (.tuple #[.int .i64 (if l.ready then l.enter.active else 0),.bool l.ready]) (lnP b l.enter*F)):=by
 obtain ⟨al,pn,mk,ac⟩:=l;have hs2:=z3L hs;have ha:pn &&& mk<4294967296:=zbo hl.pnd;have e1:=hid (bits_and_u32_nat pn mk hl.pnd hl.msk);clear hs
 by_cases e:ac=255
 ·subst e
  by_cases h0:pn &&& mk=0
  ·have hr:Ln.ready ⟨al,pn,mk,255⟩=false:=by unfold Ln.ready;simp [h0]
   have he:Ln.enter ⟨al,pn,mk,255⟩=⟨al,pn,mk,255⟩:=by unfold Ln.enter;rw [hr];rfl
   rw [he,hr];have e2:bits .and .u32 (pn:Int) (mk:Int)=0:=by rw [e1.out,h0];rfl
   clear e1 h0 hr he
   go_enter Tryz.func78,Tryz.ntmps78
   go_wp2_with fail;go_quiet (fail);go_wp2_with fail;go_ret2;exact ⟨rfl,z6⟩
  ·have hr:Ln.ready ⟨al,pn,mk,255⟩=true:=by unfold Ln.ready;simp [h0]
   have he:Ln.enter ⟨al,pn,mk,255⟩=⟨al,pn &&& (4294967295-2^low (pn &&& mk)),mk,low (pn &&& mk)⟩:=by unfold Ln.enter;rw [hr];rfl
   rw [he,hr];have hlow:=(zfK h0 ha).2.1;have hs2:=hs2;have htz:∀ (wx:World) (P:HP),Sat w0 wx P→Calls Tryz.prog 99 #[.int .u32 (pn &&& mk:Nat)] wx fun e w'=>e=.returned (.int .i64 (low (pn &&& mk)))∧wx=w':=fun wx P h=>zj3 _ h0 ha _ (hT.later h);have htz:=hid htz;have e2:((((pn &&& mk:Nat)):Int)==0)=false:=by simp;omega
   have e3:=hid (z1c pn (low (pn &&& mk)) hl.pnd hlow);have e4:=hid (z9p hlow);have e1:=e1.out;generalize low (pn &&& mk)=lo at *;generalize pn &&& mk=z at *;have i1:(lo:Int)<32:=by omega
   clear h0 hr he hT
   go_enter Tryz.func78,Tryz.ntmps78
   go_wp2_with fail;go_quiet (fail);go_wp2_with fail;refine zj (fun w'=>w'.cell? ⟨b,1,none⟩=some (.int .u32 pn)∧w'.cell? ⟨b,2,none⟩=some (.int .u32 mk)) [(0,true),(1,true),(2,true),(3,true),(4,true),(5,true),(6,true),(7,true),(8,true),(9,true),(10,false),(11,true),(12,true),(13,false)] (by kernel_rfl) (by kernel_rfl) (fun _ _ _ _ h=>h) ⟨z4,z4⟩ ?_
   iterate 10 (first | refine zsR ?_ | refine zsQ ?_)
   refine z29 rfl (by rfl) (fun K hK=>?_);go_wp2_with fail;refine (htz.out _ _ z6).mono ?_;rintro en w1 ⟨rfl,rfl⟩;go_wp2_with fail;refine ⟨⟨z4,z4⟩,?_⟩
   iterate 2 (first | refine zsR ?_ | refine zsQ ?_)
   refine z29 rfl (by rfl) (fun K hK=>?_);go_wp2_with fail;refine ⟨⟨z4,z4⟩,?_⟩;refine zB ?_;go_wp2_with fail;refine z9 (w0:=w0) ?_;intro wx hsx;go_still_tail 12,(by kernel_rfl);change wpList _ _ _ _ _ wx.drew;go_wp2_with fail;go_ret2;rw [e4.out,e3.out];exact ⟨rfl,z6⟩
 ·have hr:Ln.ready ⟨al,pn,mk,ac⟩=false:=by unfold Ln.ready;simp [e]
  have he:Ln.enter ⟨al,pn,mk,ac⟩=⟨al,pn,mk,ac⟩:=by unfold Ln.enter;rw [hr];rfl
  rw [he,hr];have e2:(ac != 255)=true:=by simp [e]
  clear e1 hr he e
  go_enter Tryz.func78,Tryz.ntmps78
  go_wp2_with fail;go_quiet (fail);go_wp2_with fail;go_ret2;exact ⟨rfl,z6⟩
end Go.Proofs.YtgiiidminlhbpaaGreatDoor
namespace Go.Proofs.YtgiiidminlhbpaaGreatDoor
open Go.RowKit Go.Sx Go.Dl
theorem zcH (acc:Int) (S:List Ck):(z0H acc S).map Prod.fst=S.map Prod.fst:=by
 induction S generalizing acc with
 | nil=>rfl
 | cons x r ih=>simp [z0H,ih]
theorem zhh {S:List Ck} {id:Int}:has (z0H 0 S) id↔has S id:=by unfold has;rw [zcH]
theorem zjG (S:List Ck) (id:Int):at_ (z0H 0 S) id=at_ S id:=by unfold at_;rw [zcH]
theorem z9Y (b o:Nat) (S:List Ck) (id:Int) (w0 w:World) (F:HP) (hs:Sat w0 w (z21 b o S*F)) (hno:¬ has S id) :
  Calls Tryz.prog 108 #[.pointer (some ⟨b,o,none⟩),.int .i64 id] w (zp w0 (.bool false) (z21 b o S*F)):=by
 obtain ⟨a,c,hs⟩:=z2w hs
 by_cases h1:id<0
 ·have d1:decide (id<0)=true:=by simp [h1]
  go_enter Tryz.func108,Tryz.ntmps108
  go_wp2_with fail;go_quiet (fail);go_wp2_with fail;go_ret;exact ⟨rfl,z1W z6 rfl rfl⟩
 ·have d1:decide (id<0)=false:=by simp [h1]
  by_cases h2:256≤id
  ·have d2:decide (256≤id)=true:=by simp [h2]
   go_enter Tryz.func108,Tryz.ntmps108
   go_wp2_with fail;go_quiet (fail);go_wp2_with fail;go_ret;exact ⟨rfl,z1W z6 rfl rfl⟩
  ·have d2:decide (256≤id)=false:=by simp [h2]
   obtain ⟨m,rfl⟩:=Int.eq_ofNat_of_zero_le (show 0≤id by omega);have hm:m<256:=by omega
   have hmI:(m:Int)<256:=by omega
   have d256:decide (m<256)=true:=by simp [hm]
   haveI:Lt m (zO S).length:=⟨by rw [z48];exact hm⟩;haveI:zC (pts b (o+1) ((zO S).map Value.bool)) b (o+1+m) (.bool false):=by
    have:=zC.bln b (o+1) m (zO S)
    rwa [z9B S hm,decide_eq_false hno] at this
   clear hno
   go_enter Tryz.func108,Tryz.ntmps108
   go_wp2_with fail;go_quiet (fail);go_wp2_with fail;go_ret;exact ⟨rfl,z1W z6 rfl rfl⟩
theorem z8O (b o:Nat) (S:List Ck) (id:Int) (w0 w:World) (F:HP) (hs:Sat w0 w (z21 b o S*F)) (hok:SOk S) (hi:has S id) :
  Calls Tryz.prog 108 #[.pointer (some ⟨b,o,none⟩),.int .i64 id] w (zp w0 (.bool true) (z21 b o (z33 id S)*F)):=by
 have hl:=z5I hok;have hdl:=z1o 0 S;have hib:0≤id∧id<256:=by
  obtain ⟨x,hx,rfl⟩:=List.mem_map.1 hi;exact hok.id x hx
 obtain ⟨m,rfl⟩:=Int.eq_ofNat_of_zero_le hib.1;have hm:m<256:=by omega
 have hmI:(m:Int)<256:=by omega
 have d1:decide ((m:Int)<0)=false:=by simp
 have d2:decide (256≤(m:Int))=false:=by rw [decide_eq_false_iff_not];omega
 have d256:decide (m<256)=true:=by simp [hm]
 obtain ⟨a,c,hs⟩:=z2w hs;haveI:Lt m (zO S).length:=⟨by rw [z48];exact hm⟩;haveI:zC (pts b (o+1) ((zO S).map Value.bool)) b (o+1+m) (.bool true):=by
  have:=zC.bln b (o+1) m (zO S)
  rwa [z9B S hm,decide_eq_true hi] at this
 have Hruns:=hid (ziq (S:=S) (m:=m));have Hat:=hid (zjG S (m:Int));have Hhas:=hid (zhh.2 hi);have Hdel:=hid (zlG hok hi);have hk:=zh2 hi;have Hrow:=hid (fun h=>zjT S (at_ S (m:Int)) h);have Hrowe:=hid (fun h=>zbs S (at_ S (m:Int)) hk h);have Hget:=hid (fun k hk=>z6j S k hk);have Hps:=hid (z4R S (at_ S (m:Int)));have hlf:=hid hok.lf;have hup:=hid hok.up;have Hnn:=hid (fun k hk=>z5A hok k hk);clear hok hi hib;generalize at_ S (m:Int)=k at *;generalize hD:z0H 0 S=D at *;have HD:=hid hD;have Hdl:=hid hdl;have hDl:D.length≤256:=by omega
 have hkD:k<D.length:=by omega
 clear hD hdl;obtain ⟨g,off,rfl⟩:=hs.someR (E:=z5i) a D.length c (show 0<D.length by omega)
 go_enter Tryz.func108,Tryz.ntmps108
 go_wp2_with fail;go_quiet (fail);go_wp2_with fail;refine (z7K _ D (m:Int) _ w0 _ _ zea Hhas.out hDl).mono ?_;rintro e w2 ⟨rfl,hs2⟩;rw [Hat.out];generalize w.heap.size=cb at *;haveI:Lt k D.length:=⟨hkD⟩
 by_cases hlast:k+1<S.length
 ·have hlD:k+1<D.length:=by have:=Hdl.out;omega
  haveI:Lt (k+1) D.length:=⟨hlD⟩;have g1:=Hget.out k hk;have g2:=Hget.out (k+1) hlast;rw [Hps.out] at g2;have hrw:=Hrow.out hlast;have f1:=hlf.out (S.getD k (0,0)) (by simp [List.getD,hk]);have f2:=hlf.out (S.getD (k+1) (0,0)) (by simp [List.getD,hlast]);have n1:=Hnn.out k (by omega);have u1:(S.getD k (0,0)).2≤(S.getD (k+1) (0,0)).2:=by
   have:=List.pairwise_iff_getElem.1 hup.out k (k+1) hk hlast (by omega)
   simpa [List.getD,hk,hlast] using this
  have u2:pre S k≤(S.getD k (0,0)).2:=by
   unfold pre
   split
   ·omega
   ·have:=List.pairwise_iff_getElem.1 hup.out (k-1) k (by omega) hk (by omega)
    simpa [List.getD,hk,show k-1<S.length by omega] using this
  generalize S.getD k (0,0)=y1 at *;generalize S.getD (k+1) (0,0)=y2 at *;obtain ⟨i1,l1⟩:=y1;obtain ⟨i2,l2⟩:=y2;dsimp only at g1 g2 f1 f2 u1 u2 hrw;generalize pre S k=p at *;haveI e1:z1v (D.getD k (0,0)) 1 (.int .i64 (l1-p)):=⟨by rw [g1];rfl⟩;haveI e2:z1v (D.getD (k+1) (0,0)) 1 (.int .i64 (l2-l1)):=⟨by rw [g2];rfl⟩;have G2:=hid g2;have Hrw:=hid hrw;clear g1 g2 hrw;obtain ⟨f1a,f1b⟩:=f1;obtain ⟨f2a,f2b⟩:=f2;have Hsplit:=hid (zb6 D (k+1) ((D.getD (k+1) (0,0)).1,l2-l1+(l1-p)) hlD);have hkd:decide (k+1<D.length)=true:=by simp [hlD]
  have hkd':decide (k<D.length)=true:=by simp [hkD]
  have hkI:(k:Int)+1<(D.length:Int):=by omega
  have hkI2:(k:Int)<(D.length:Int):=by omega
  go_wp2_with fail;refine z9 (w0:=w0) ?_;intro wx hsx;have q1:(0:Int)≤(k:Int)+1:=by omega
  have q4:IntKind.i64.wrap ((k:Int)+1)=(k:Int)+1:=by rw [IntKind.wrap_i64];omega
  have q5:((k:Int)+1).toNat=k+1:=by omega
  have q6:IntKind.i64.wrap (l2-l1+(l1-p))=l2-l1+(l1-p):=by rw [IntKind.wrap_i64];omega
  go_still_tail 20,(by kernel_rfl)
  change wpList _ _ _ _ _ wx.drew
  clear q4 q5 q6;go_wp2_with fail;refine (z50 _ (D.set (k+1) ((D.getD (k+1) (0,0)).1,l2-l1+(l1-p))) k _ rfl w0 _ _ own (by rw [List.length_set];exact hkD) (by rw [List.length_set];exact hDl)).mono ?_;rintro e w3 ⟨v3,rfl,hs3⟩;generalize hL:(D.set (k+1) ((D.getD (k+1) (0,0)).1,l2-l1+(l1-p))).eraseIdx k=L at hs3;have HL:=hid hL;clear hL;obtain ⟨a5,c5,rfl⟩:=hs3.recs_form;go_wp2_with fail;refine z9 (w0:=w0) ?_;intro wy hsy
  go_still_tail 5,(by kernel_rfl)
  change wpList _ _ _ _ _ wy.drew
  go_wp2_with fail;go_ret;refine ⟨rfl,z1W z6 ?_ Hruns.out⟩;rw [← HL.out,Hdel.out,Hrw.out,List.eraseIdx_eq_take_drop_succ,Hsplit.out.2,G2.out,List.take_set_of_le (by omega)]
  congr 2
  show ((i2,l2-l1+(l1-p)):Ck)=(i2,l2-p)
  congr 1
  omega
 ·have hlD:¬ k+1<D.length:=by have:=Hdl.out;omega
  have hkd:decide (k+1<D.length)=false:=by simp;omega
  have hrw:=hid (Hrowe.out (by omega));go_wp2_with fail;refine (z50 _ D k _ rfl w0 _ _ own hkD hDl).mono ?_;rintro e w3 ⟨v3,rfl,hs3⟩;generalize hL:D.eraseIdx k=L at hs3;have HL:=hid hL;clear hL;obtain ⟨a5,c5,rfl⟩:=hs3.recs_form;go_wp2_with fail;refine z9 (w0:=w0) ?_;intro wy hsy
  go_still_tail 5,(by kernel_rfl)
  change wpList _ _ _ _ _ wy.drew
  go_wp2_with fail;go_ret;refine ⟨rfl,z1W z6 ?_ Hruns.out⟩;rw [← HL.out,Hdel.out,hrw.out,List.eraseIdx_eq_take_drop_succ,List.drop_eq_nil_of_le (by omega),List.append_nil]
theorem za1 (b o:Nat) (w0 w:World) (F:HP) (hs:Sat w0 w (z21 b o []*F)) :
  Calls Tryz.prog 70 #[.pointer (some ⟨b,o,none⟩)] w (Ret w0 fun v=>z5 .i64 v []*(z21 b o []*F)):=by
 obtain ⟨a,c,hs⟩:=z2w hs;have hl:(z0H 0 []).length=0:=rfl;rw [hl] at hs
 go_enter Tryz.func70,Tryz.ntmps70
 go_wp2_with fail;go_ret;refine ⟨_,rfl,?_⟩;have h2:Sat w0 w (z21 b o []*F):=z1W z6 rfl rfl;exact h2.slice_nil 1
def lenOf (v:Value):Nat:=match v with
 | .slice _ n _=>n
 | _=>0
theorem zir {x:Ck} {r:List Ck} (nd:((x::r).map Prod.fst).Nodup) {m:Nat} (hm:x.1=(m:Int)):(zO (x::r)).set m false=zO r:=by
 rw [List.map_cons,List.nodup_cons] at nd;refine z9C false (decide_eq_false (by rw [← hm];exact nd.1)) fun i hi=>?_;unfold has;rw [List.map_cons,List.mem_cons]
 constructor
 ·exact .inr
 ·rintro (h | h)
  ·exact absurd h (by omega)
  ·exact h
theorem zip (S:List Ck):zO (S.map dec)=zO S:=by
 unfold zO;refine List.map_congr_left fun i _=>decide_eq_decide.2 ?_;unfold has;rw [List.map_map];exact Iff.rfl
theorem zhe {A T:List Ck} (h:(A++T).Pairwise fun a b=>a.2≤b.2) (hA:∀ y∈A,y.2=0) (hT:∀ y,T.head?=some y→0<y.2) :
  (A++T).filter (fun x=>x.2==0)=A∧(A++T).filter (fun x=>x.2 != 0)=T:=by
 have hall:∀ y∈T,0<y.2:=by
  intro y hy
  cases T with
  | nil=>cases hy
  | cons z r =>
   have h1:=hT z rfl;rw [List.pairwise_append] at h;have h2:=h.2.1;rw [List.pairwise_cons] at h2
   rcases List.mem_cons.1 hy with rfl | hy
   ·exact h1
   ·have:=h2.1 y hy;omega
 constructor
 ·rw [List.filter_append,List.filter_eq_self.2 (fun y hy=>by simp [hA y hy]),List.filter_eq_nil_iff.2 (fun y hy=>by have:=hall y hy;simp;omega),List.append_nil]
 ·rw [List.filter_append,List.filter_eq_nil_iff.2 (fun y hy=>by simp [hA y hy]),List.filter_eq_self.2 (fun y hy=>by have:=hall y hy;simp;omega),List.nil_append]
theorem za2 (b o:Nat) (x0:Ck) (S0:List Ck) (w0 w:World) (F:HP) (hs:Sat w0 w (z21 b o (x0::S0)*F)) (hok:SOk (x0::S0)) :
  Calls Tryz.prog 70 #[.pointer (some ⟨b,o,none⟩)] w (Ret w0 fun v=>z5 .i64 v (z2H (x0::S0))*(z21 b o (z2X (x0::S0))*F)):=by
 have hl:=z5I hok;obtain ⟨a,c,hs⟩:=z2w hs;have hdl:(z0H 0 (x0::S0)).length=S0.length+1:=by rw [z1o];rfl
 rw [hdl] at hs;have hd0:z0H 0 (x0::S0)=(x0.1,x0.2-0)::z0H x0.2 S0:=rfl;have hx0:=hok.lf x0 (by simp);have Hup:=hid hok.up;have Hnd:=hid hok.nd;have Hid':=hid hok.id;have Hlf:=hid hok.lf;have HT:=hid (ziJ (x0::S0));have Hsp:Hid ((x0::S0).map dec=(((x0::S0).map dec).filter fun x=>x.2==0)++((x0::S0).map dec).filter fun x=>x.2 != 0):=by
  refine zbu ?_ ?_
  ·rw [List.pairwise_map];exact hok.up.imp_of_mem fun _ _ h=>by show _-1≤_-1;omega
  ·intro y hy;obtain ⟨z,hz,rfl⟩:=List.mem_map.1 hy;have:=hok.lf z hz;show 0≤z.2-1;omega
 have Hdd:=hid (zhc x0 S0);have Hrd:=hid (zip (x0::S0));obtain ⟨g,off,rfl⟩:=hs.someR (E:=z5i) a (S0.length+1) c (show 0<(z0H 0 (x0::S0)).length by omega);haveI:Lt 0 (z0H 0 (x0::S0)).length:=⟨by omega⟩;haveI e1:z1v ((z0H 0 (x0::S0)).getD 0 (0,0)) 1 (.int .i64 x0.2):=⟨by rw [hd0];show some (Value.int .i64 (x0.2-0))=_;rw [Int.sub_zero]⟩;have Hset:Hid ((z0H 0 (x0::S0)).set 0 (((z0H 0 (x0::S0)).getD 0 (0,0)).1,x0.2-1)=z0H 0 ((x0::S0).map dec)):=by
  rw [Hid,Hdd.out,hd0];rfl
 clear hok hd0 hdl;generalize hD:z0H 0 (x0::S0)=D at *;generalize hOv:z2H (x0::S0)=OV at *;generalize hTk:z2X (x0::S0)=TK at *;have hx2:=hx0.1;have hx3:=hx0.2;generalize x0.2=q at hx2 hx3 e1 Hset;clear hx0 hD;have hl1:S0.length+1≤256:=hl;have hb0:((S0.length:Int)+1==0)=false:=by rw [beq_eq_false_iff_ne];omega
 go_enter Tryz.func70,Tryz.ntmps70
 go_wp2_with fail
 go_loopw [3] (fun ov wr=>∃ (A T:List Ck) (v:Value),(x0::S0).map dec=A++T∧(∀ y∈A,y.2=0)∧Sat w0 wr (z5 .i64 ov (A.map Prod.fst)*(pts b o [v]*(z7 v (z0H 0 T)*(pts b (o+1) ((zO T).map Value.bool)*F))))) (fun ov _=>S0.length+1-lenOf ov)
 case atStart =>
  refine ⟨[],(x0::S0).map dec,.slice (some ⟨g,off,none⟩) (S0.length+1) c,rfl,by simp,?_⟩;have h5:=z6 (w0:=w0) (w:=w.setCell ⟨g,off+1,none⟩ (.int .i64 (q-1)));rw [show D.set 0 ((D.getD 0 Enc.dft).1,q-1)=_ from Hset.out] at h5;rw [Hrd.out];show Sat w0 _ (z5 .i64 (.slice none 0 0) []*_);rw [z1r,zm];exact h5.perm (by ac_rfl)
 case round =>
  obtain ⟨A,T,v,hAT,hA0,hs2⟩:=hrel;clear hs;obtain ⟨a3,c3,rfl⟩:=(hs2.pull (Q:=z5 .i64 u3 (A.map Prod.fst))).slice_form;obtain ⟨a4,c4,rfl⟩:=(hs2.pull (Q:=z7 v (z0H 0 T))).recs_form;rw [z1o] at hs2;have hlen:A.length+T.length=S0.length+1:=by
   have:=congrArg List.length hAT
   simpa using this.symm
  have hnd:(T.map Prod.fst).Nodup:=by
   have h1:(((x0::S0).map dec).map Prod.fst).Nodup:=by rw [List.map_map];exact Hnd.out
   rw [hAT,List.map_append,List.nodup_append] at h1;exact h1.2.1
  have htm:∀ y∈T,0≤y.1∧y.1<256∧0≤y.2∧y.2<4294967296:=by
   intro y hy;have hy:y∈(x0::S0).map dec:=by rw [hAT];simp [hy]
   obtain ⟨z,hz,rfl⟩:=List.mem_map.1 hy;have h1:=Hid'.out z hz;have h2:=Hlf.out z hz;exact ⟨h1.1,h1.2,by show 0≤z.2-1;omega,by show z.2-1<_;omega⟩
  have hAl:(A.map Prod.fst).length=A.length:=by simp
  have hup:(A++T).Pairwise fun a b=>a.2≤b.2:=by
   rw [← hAT,List.pairwise_map];exact Hup.out.imp_of_mem fun _ _ h=>by show _-1≤_-1;omega
  have Hfin:Hid ((∀ y,T.head?=some y→0<y.2)→OV=A.map Prod.fst∧TK=T):=fun hT=>by
   obtain ⟨t1,t2⟩:=HT.out;obtain ⟨d1,d2⟩:=zhe hup hA0 hT;rw [hAT] at t1 t2;rw [d1] at t1;rw [d2] at t2;exact ⟨t1.symm,t2.symm⟩
  have HAT:=hid hAT;have HA0:=hid hA0;have Hn:=hid hnd;clear hAT hA0 hup hnd Hsp;rw [← hAl] at hlen;clear hAl;generalize hids:A.map Prod.fst=ids at *;have Hids:=hid hids;clear hids
  cases T with
  | nil =>
   obtain ⟨f1,f2⟩:=Hfin.out (fun y hy=>by cases hy);have F1:=hid f1;have F2:=hid f2;clear f1 f2;simp only [List.length_nil,Nat.add_zero] at hlen hs2;clear hlen;go_wp2_with fail;go_ret;refine ⟨_,rfl,?_⟩;rw [F1.out,F2.out];have h7:Sat w0 wr (z21 b o []*(z5 .i64 (.slice a3 ids.length c3) ids*F)):=z1W z6 rfl rfl;have h8:Sat w0 wr (z5 .i64 (.slice a3 ids.length c3) ids*(z21 b o []*F)):=h7.perm (by ac_rfl);exact h8
  | cons y r =>
   have hty:=htm y (by simp);obtain ⟨i,l⟩:=y;dsimp only at hty;obtain ⟨ty1,ty2,ty3,ty4⟩:=hty;obtain ⟨m,rfl⟩:=Int.eq_ofNat_of_zero_le ty1;have hm:m<256:=by omega
   have hmI:(m:Int)<256:=by omega
   have d256:decide (m<256)=true:=by simp [hm]
   haveI:Lt m (zO (((m:Int),l)::r)).length:=⟨by rw [z48];exact hm⟩;have hdd:z0H 0 (((m:Int),l)::r)=((m:Int),l)::z0H l r:=by
    show ((m:Int),l-0)::z0H l r=_;rw [Int.sub_zero]
   have Hrun:=hid (zir (x:=((m:Int),l)) Hn.out (m:=m) rfl);have hdz:l=0→z0H l r=z0H 0 r:=fun h=>by rw [h]
   replace hdz:=hid hdz;simp only [List.length_cons] at hlen hs2;rw [hdd] at hs2;have HXDd:=hid hdd;have hdl2:=z1o l r;have Hdl2:=hid hdl2;clear htm hdd hdl2;generalize z0H l r=D2 at *;obtain ⟨g4,off4,rfl⟩:=hs2.someR (E:=z5i) a4 (r.length+1) c4 (show 0<(((m:Int),l)::D2).length by simp);haveI:Lt 0 ((((m:Int),l)::D2).length):=⟨by simp⟩;have hcap:r.length+1≤c4:=((hs2.pull (Q:=z7 (.slice (some ⟨g4,off4,none⟩) (r.length+1) c4) (((m:Int),l)::D2))).rdR.caps).2.1;have hcm4:c4≤maxLen:=((hs2.pull (Q:=z7 (.slice (some ⟨g4,off4,none⟩) (r.length+1) c4) (((m:Int),l)::D2))).rdR.caps).2.2;unfold maxLen at hcm4;haveI e2:z1v ((((m:Int),l)::D2).getD 0 (0,0)) 1 (.int .i64 l):=⟨rfl⟩;haveI e3:z1v ((((m:Int),l)::D2).getD 0 (0,0)) 0 (.int .i64 (m:Int)):=⟨rfl⟩;generalize hXD:(((m:Int),l)::D2)=XD at *;have HXD:=hid hXD;clear hXD
   by_cases hl0:l=0
   ·subst hl0;have hAm:ids.length<256:=by omega
    go_wp2_with (first | (at_builtin;refine z06 rfl rfl rfl rfl (by omega) ?_;intro ap ac aL aw ahL ah1 ah2 ahs _) | (refine z0l rfl rfl rfl rfl (by omega) (by omega) ?_;intro px pc pL php phL ph1 ph2) | (refine z0B rfl rfl rfl rfl (by omega) (by omega) ?_;intro px pc pL php phL ph1 ph2));refine z9 (w0:=w0) ?_;intro wx hsx
    go_still_tail 11,(by kernel_rfl)
    change wpList _ _ _ _ _ wx.drew
    have hdr:=hdz.out trivial;have Hdr:=hid hdr;clear hdr hdz;have rl:=Hdl2.out;have HATn:Hid ((x0::S0).map dec=(A++[((m:Int),(0:Int))])++r):=by rw [Hid,HAT.out,List.append_assoc];rfl
    have HA0n:Hid (∀ y∈A++[((m:Int),(0:Int))],y.2=0):=fun y hy=>by
     rcases List.mem_append.1 hy with h | h
     ·exact HA0.out y h
     ·rw [List.mem_singleton] at h;subst h;rfl
    have HaLn:Hid (aL=(A++[((m:Int),(0:Int))]).map Prod.fst):=by rw [Hid,List.map_append,Hids.out];exact ahL.out
    have key:Hid (∀ wz G,Sat w0 wz (z7 (.slice (some ⟨g4,off4,none⟩) (r.length+1) c4) XD*G)→Sat w0 wz (z7 (.slice (some ⟨g4,off4+2,none⟩) r.length (c4-1)) D2*G)):=by
     rw [Hid];rw [← HXD.out];intro wz G h;have h9:=h.recs_tail;rw [Hdl2.out] at h9;exact h9
    by_cases hc4:c4=1
    ·subst hc4;obtain rfl:r=[]:=List.length_eq_zero_iff.1 (by omega);go_wp2_with fail;go_roundw
     case rel =>
      refine ⟨A++[((m:Int),(0:Int))],[],.slice (some ⟨g4,off4,none⟩) 0 0,HATn.out,HA0n.out,?_⟩;rw [← HaLn.out,← Hrun.out,show z0H 0 []=[] from rfl,z7x,zm];exact z3
     case measure=>simp [lenOf];omega
    ·go_wp2_with fail;go_roundw
     case rel =>
      refine ⟨A++[((m:Int),(0:Int))],r,.slice (some ⟨g4,off4+2,none⟩) r.length (c4-1),HATn.out,HA0n.out,?_⟩;rw [← HaLn.out,← Hrun.out,← Hdr.out];refine (key.out _ (z5 .i64 (.slice ap aL.length ac) aL*(pts b o [.slice (some ⟨g4,off4+2,none⟩) r.length (c4-1)]*(pts b (o+1) (((zO (((m:Int),(0:Int))::r)).set m false).map Value.bool)*F))) ?_).perm (by ac_rfl);exact z3
     case measure=>simp [lenOf];omega
   ·have hb:(l==0)=false:=by simp [hl0]
    have hpos:0<l:=by omega
    obtain ⟨f1,f2⟩:=Hfin.out (fun y hy=>by simp only [List.head?_cons,Option.some.injEq] at hy;subst hy;exact hpos);have F1:=hid f1;have F2:=hid f2;clear f1 f2;go_wp2_with fail;go_ret;refine ⟨_,rfl,?_⟩;rw [F1.out,F2.out];have h7:Sat w0 wr (z21 b o (((m:Int),l)::r)*(z5 .i64 (.slice a3 ids.length c3) ids*F)):=z1W z6 HXDd.out.symm rfl;have h8:Sat w0 wr (z5 .i64 (.slice a3 ids.length c3) ids*(z21 b o (((m:Int),l)::r)*F)):=h7.perm (by ac_rfl);exact h8
theorem zne:z1m Tryz.prog 43 179 2 16 (.agg #[.int .i64 0,.int .i64 0]):=⟨by kernel_rfl,by kernel_rfl,rfl⟩
instance:z63 Tryz.prog 43 Ck 2 z5i 179 16 (.agg #[.int .i64 0,.int .i64 0]):=⟨zne,by decide⟩
theorem zmr {S:List Ck} (h:SOk S) (k:Nat):pre S k<4294967296:=by
 unfold pre
 split
 ·omega
 ·by_cases hk:k-1<S.length
  ·rw [List.getD_eq_getElem?_getD,List.getElem?_eq_getElem hk];exact (h.lf _ (List.getElem_mem hk)).2
  ·rw [List.getD_eq_getElem?_getD,List.getElem?_eq_none (by omega)]
   decide
theorem z9Z (b o:Nat) (S:List Ck) (w0 w:World) (F:HP) (hs:Sat w0 w (z21 b o S*F)) (hok:SOk S) :
  Calls Tryz.prog 54 #[.pointer (some ⟨b,o,none⟩)] w (Ret w0 fun v=>z7 v S*(z21 b o S*F)):=by
 have hl:=z5I hok;obtain ⟨a,c,hs⟩:=z2w hs;have hdl:=z1o 0 S;rw [hdl] at hs;have Hget:=hid (fun k hk=>z6j S k hk);have Hnn:=hid (fun k hk=>z5A hok k hk);have Hlt:=hid (zmr hok);have hlf:=hid hok.lf;clear hok;generalize hD:z0H 0 S=D at *;have HD:=hid hD;clear hD
 go_enter Tryz.func54,Tryz.ntmps54
 go_wp2_with fail
 go_loopw [3,4,14] (fun ov acc i wr=>∃ (k:Nat),k≤S.length∧i=.int .i64 k∧acc=.int .i64 (pre S k)∧Sat w0 wr (z7 ov (S.take k)*(pts b o [.slice a S.length c]*(z7 (.slice a S.length c) D*(pts b (o+1) ((zO S).map Value.bool)*F))))) (fun _ _ i _=>S.length-(intOf i).toNat)
 case atStart =>
  refine ⟨0,Nat.zero_le _,rfl,rfl,?_⟩;rw [List.take_zero,z03,zm];exact hs
 case round =>
  obtain ⟨k,hk,rfl,rfl,hs2⟩:=hrel;clear hs;obtain ⟨a3,c3,rfl⟩:=(hs2.pull (Q:=z7 u3 (S.take k))).recs_form;have hT:(S.take k).length=k:=by rw [List.length_take];omega
  generalize hTk:S.take k=T at *;have HT:=hid hTk;clear hTk;subst hT
  by_cases hlt:T.length<S.length
  ·obtain ⟨g,off,rfl⟩:=(hs2.pull (Q:=z7 (.slice a S.length c) D)).someR (E:=z5i) a S.length c (show 0<D.length by omega);haveI:Lt T.length D.length:=⟨by omega⟩;have g1:=Hget.out T.length hlt;have p1:=Hnn.out T.length hk;have p2:=Hlt.out T.length;have f1:=hlf.out (S.getD T.length (0,0)) (by simp [List.getD,hlt]);have Hp1:Hid (pre S (T.length+1)=(S.getD T.length (0,0)).2):=z4R S T.length;have Ht1:Hid (S.take (T.length+1)=T++[S.getD T.length (0,0)]):=by
    rw [Hid,List.take_add_one,HT.out,List.getD_eq_getElem?_getD,List.getElem?_eq_getElem hlt];rfl
   generalize S.getD T.length (0,0)=y at *;generalize pre S T.length=p at *;obtain ⟨id,l⟩:=y;dsimp only at f1 g1;obtain ⟨f2,f3⟩:=f1;haveI e0:z1v (D.getD T.length (0,0)) 0 (.int .i64 id):=⟨by rw [g1];rfl⟩;haveI e1:z1v (D.getD T.length (0,0)) 1 (.int .i64 (l-p)):=⟨by rw [g1];rfl⟩;clear g1;have hw1:IntKind.i64.wrap (p+(l-p))=l:=by rw [IntKind.wrap_i64];omega
   have hw2:p+(l-p)=l:=by omega
   go_wp2_with (at_builtin;refine zA rfl rfl rfl rfl (by omega) ?_;intro ap ac aL aw ahL ah1 ah2 ahs _);go_roundw
   case rel =>
    refine ⟨T.length+1,by omega,by go_num,by rw [Hp1.out],?_⟩;rw [Ht1.out];obtain rfl:=ahL.out;exact z3
   case measure=>simp [intOf];omega
  ·obtain rfl:S=T:=by rw [← HT.out,List.take_of_length_le (by omega)]
   go_wp2_with fail;go_ret;refine ⟨_,rfl,?_⟩;have h7:Sat w0 wr (z21 b o S*(z7 (.slice a3 S.length c3) S*F)):=z1W z6 HD.out.symm rfl;exact h7.perm (by ac_rfl)
theorem zeW (T:List Ck) (y:Ck) (id:Int):z1M (T++[y]) id=z1M T id+if id≤y.1 then 1 else 0:=by
 unfold z1M;rw [List.countP_append,List.countP_cons,List.countP_nil]
 by_cases h:id≤y.1<;>simp [h]
theorem zk3 (T:List Ck) (id:Int):0≤z1M T id∧z1M T id≤T.length:=by
 unfold z1M;have:=List.countP_le_length (p:=fun x:Ck=>decide (id≤x.1)) (l:=T);omega
theorem za0 (b o:Nat) (S:List Ck) (id:Int) (w0 w:World) (F:HP) (hs:Sat w0 w (z21 b o S*F)) (hok:SOk S) :
  Calls Tryz.prog 161 #[.pointer (some ⟨b,o,none⟩),.int .i64 id] w (zp w0 (.int .i64 (z1M S id)) (z21 b o S*F)):=by
 have hl:=z5I hok;obtain ⟨a,c,hs⟩:=z2w hs;have hdl:=z1o 0 S;rw [hdl] at hs;have Hget:=hid (fun k hk=>z6j S k hk);clear hok;generalize hD:z0H 0 S=D at *;have HD:=hid hD;clear hD
 go_enter Tryz.func161,Tryz.ntmps161
 go_wp2_with fail
 go_loopw [5,15] (fun n i wr=>∃ (k:Nat),k≤S.length∧i=.int .i64 k∧n=.int .i64 (z1M (S.take k) id)∧Sat w0 wr (pts b o [.slice a S.length c]*(z7 (.slice a S.length c) D*(pts b (o+1) ((zO S).map Value.bool)*F)))) (fun _ i _=>S.length-(intOf i).toNat)
 case atStart=>exact ⟨0,Nat.zero_le _,rfl,rfl,hs⟩
 case round =>
  obtain ⟨k,hk,rfl,rfl,hs2⟩:=hrel;clear hs;have hn:=zk3 (S.take k) id;rw [List.length_take] at hn;have hn1:z1M (S.take k) id≤256:=by omega
  have hn0:=hn.1;clear hn
  by_cases hlt:k<S.length
  ·obtain ⟨g,off,rfl⟩:=(hs2.pull (Q:=z7 (.slice a S.length c) D)).someR (E:=z5i) a S.length c (show 0<D.length by omega);haveI:Lt k D.length:=⟨by omega⟩;have g1:=Hget.out k hlt;have Ht1:Hid (z1M (S.take (k+1)) id=z1M (S.take k) id+if id≤(S.getD k (0,0)).1 then 1 else 0):=by
    rw [Hid,List.take_add_one,List.getElem?_eq_getElem hlt,List.getD_eq_getElem?_getD,List.getElem?_eq_getElem hlt];exact zeW _ _ id
   generalize S.getD k (0,0)=y at *;generalize z1M (S.take k) id=m at *;obtain ⟨i1,l1⟩:=y;dsimp only at g1 Ht1;haveI e0:z1v (D.getD k (0,0)) 0 (.int .i64 i1):=⟨by rw [g1];rfl⟩;clear g1
   by_cases hi:id≤i1
   ·rw [if_pos hi] at Ht1;have hd:decide (id≤i1)=true:=by simp [hi]
    go_wp2_with fail;go_roundw
    case rel=>exact ⟨k+1,by omega,by go_num,by rw [Ht1.out],z3⟩
    case measure=>simp [intOf];omega
   ·rw [if_neg hi] at Ht1;have hd:decide (id≤i1)=false:=by simp [hi]
    go_wp2_with fail;go_roundw
    case rel=>exact ⟨k+1,by omega,by go_num,by rw [Ht1.out,Int.add_zero],z3⟩
    case measure=>simp [intOf];omega
  ·have hkS:Hid (S.take k=S):=List.take_of_length_le (by omega);rw [hkS.out] at *;go_wp2_with fail;go_ret;exact ⟨rfl,z1W z6 HD.out.symm rfl⟩
theorem zj5 (b o:Nat) (S:List Ck) (id t:Int) (w0 w:World) (F:HP) (hs:Sat w0 w (z21 b o S*F)) (hok:SOk S) :
  Calls Tryz.prog 42 #[.pointer (some ⟨b,o,none⟩),.int .i64 id,.int .i64 t] w (zp w0 (.int .i64 (znD S id t)) (z21 b o (z5B S id t)*F)):=by
 unfold znD z5B
 by_cases h:zc7 S id t
 ·rw [if_pos h,if_pos h];exact zdD b o S id t w0 w F hs hok h
 ·rw [if_neg h,if_neg h];exact zeP b o S id t w0 w F hs h
theorem zeO (b o:Nat) (S:List Ck) (id:Int) (w0 w:World) (F:HP) (hs:Sat w0 w (z21 b o S*F)) (hok:SOk S) :
  Calls Tryz.prog 108 #[.pointer (some ⟨b,o,none⟩),.int .i64 id] w (zp w0 (.bool (decide (has S id))) (z21 b o (z33 id S)*F)):=by
 by_cases h:has S id
 ·rw [decide_eq_true h];exact z8O b o S id w0 w F hs hok h
 ·rw [decide_eq_false h,z6i h];exact z9Y b o S id w0 w F hs h
theorem zjR (b o:Nat) (S:List Ck) (w0 w:World) (F:HP) (hs:Sat w0 w (z21 b o S*F)) (hok:SOk S) :
  Calls Tryz.prog 70 #[.pointer (some ⟨b,o,none⟩)] w (Ret w0 fun v=>z5 .i64 v (z2H S)*(z21 b o (z2X S)*F)):=by
 cases S with
 | nil=>exact za1 b o w0 w F hs
 | cons x S=>exact za2 b o x S w0 w F hs hok
end Go.Proofs.YtgiiidminlhbpaaGreatDoor
namespace Go.Proofs.YtgiiidminlhbpaaGreatDoor
open Go.RowKit Go.Sx Go.Lk
def s0:Lk:=⟨[5,3,1],[5,3,1],[-1, -1, -1],[255,255],[[],[]]⟩
def s1:Lk:=⟨[5,3,1],[5,3,1],[-1, -1, -1],[0,255],[[],[]]⟩
def s2:Lk:=⟨[5,3,1],[5,3,1],[-1, -1, -1],[0,1],[[],[]]⟩
def s3:Lk:=⟨[5,3,1],[3,3,1],[-1,0, -1],[0,1],[[1],[]]⟩
def s4:Lk:=⟨[5,3,1],[1,1,1],[-1,0,1],[0,1],[[1],[2]]⟩
def s5:Lk:=⟨[5,3,1],[5,1,1],[-1, -1,1],[1,1],[[],[2]]⟩
theorem r4:Go.Lk.Reach s4 1 0:=.step (L:=s4) (s:=1) (t:=1) .refl (by decide)
end Go.Proofs.YtgiiidminlhbpaaGreatDoor
namespace Go.Proofs.YtgiiidminlhbpaaGreatDoor
open Go.RowKit Go.Sx
theorem zjM (z:Bool) (n:Int) (hn:(if z then (1:Int) else 0)=n) (w:World):Calls Tryz.prog 141 #[.bool z] w fun e w'=>e=.returned (.int .u32 n)∧w=w':=by
 subst hn
 cases z
 all_goals
  simp only [if_true,if_false,Bool.false_eq_true]
  go_enter Tryz.func141,Tryz.ntmps141
  go_wp2;go_ret;exact ⟨rfl,rfl⟩
def rkV (op b c:Int):Int:=(z1T op b c).getD 0
def rkE (op b c:Int):Int:=match z1T op b c with
 | none=>13
 | some _=>0
theorem zeK (op b c:Int) (hop:3≤op∧op≤14) (hb:0≤b∧b<4294967296) (hc:0≤c∧c<4294967296) (v e:Int) (hv:rkV op b c=v) (he:rkE op b c=e) (w:World) :
  Calls Tryz.prog 113 #[.int .i64 op,.int .u32 b,.int .u32 c] w fun en w'=>en=.returned (.tuple #[.int .u32 v,.int .i64 e])∧w=w':=by
 have Hv:=hid hv;have He:=hid he;obtain ⟨b,rfl⟩:=Int.eq_ofNat_of_zero_le hb.1;obtain ⟨c,rfl⟩:=Int.eq_ofNat_of_zero_le hc.1;have hb':b<4294967296:=by omega
 have hc':c<4294967296:=by omega
 have HF:=hid (fun z n hn w=>zjM z n hn w);clear hv he;have hcs:(op=3∨op=4∨op=5)∨(op=6∨op=7)∨(op=8∨op=9∨op=10)∨(op=11∨op=12)∨(op=13∨op=14):=by omega
 have E1:=hid (bits_and_u32_nat b c hb' hc');have E2:=hid (z2d b c hb' hc');have E3:=hid (z66 b c hb' hc');have E4:bits .and .u32 (c:Int) 31=((c%32:Nat):Int):=by
  have:=bits_and_u32_nat c 31 hc' (by decide);rw [show ((31:Nat):Int)=31 from rfl] at this;rw [this,show (31:Nat)=2^5-1 from rfl,Nat.and_two_pow_sub_one_eq_mod]
 clear hop hb hc
 rcases hcs with h | h | h | h | h
 ·clear E1 E2 E3 E4
  rcases h with rfl | rfl | rfl
  all_goals
   go_enter Tryz.func113,Tryz.ntmps113
   go_wp2_with fail;go_ret2;refine ⟨?_,rfl⟩;rw [← Hv.out,← He.out];simp [rkV,rkE,z1T]
 ·clear E1 E2 E3 E4
  by_cases h0:c=0
  ·subst h0
   rcases h with rfl | rfl
   all_goals
    go_enter Tryz.func113,Tryz.ntmps113
    go_wp2_with fail;go_ret2;refine ⟨?_,rfl⟩;rw [← Hv.out,← He.out];simp [rkV,rkE,z1T]
  ·have h1:((c:Int)==0)=false:=by simp [h0]
   have h2:(c:Int)≠0:=by omega
   rcases h with rfl | rfl
   all_goals
    go_enter Tryz.func113,Tryz.ntmps113
    go_wp2_with fail;go_ret2;refine ⟨?_,rfl⟩;rw [← Hv.out,← He.out];simp [rkV,rkE,z1T,h0]
   have h3:(b:Int) / (c:Int)≤b:=Int.ediv_le_self _ (by omega);have h4:0≤(b:Int) / (c:Int):=Int.ediv_nonneg (by omega) (by omega);omega
 ·clear E4
  rcases h with rfl | rfl | rfl
  all_goals
   go_enter Tryz.func113,Tryz.ntmps113
   go_wp2_with fail;go_ret2;refine ⟨?_,rfl⟩;rw [← Hv.out,← He.out];simp [rkV,rkE,z1T,E1.out,E2.out,E3.out]
 ·clear E1 E2 E3
  rcases h with rfl | rfl
  all_goals
   go_enter Tryz.func113,Tryz.ntmps113
   go_wp2_with fail;go_ret2;refine ⟨?_,rfl⟩;rw [← Hv.out,← He.out];simp [rkV,rkE,z1T]
 ·clear E1 E2 E3 E4
  rcases h with rfl | rfl
  ·by_cases hlt:b<c
   ·have i1:(b:Int)<(c:Int):=by omega
    go_enter Tryz.func113,Tryz.ntmps113
    go_wp2_with fail;refine (HF.out _ 1 (by simp [hlt]) _).mono ?_;rintro en w1 ⟨rfl,rfl⟩;go_wp2_with fail;go_ret2;refine ⟨?_,rfl⟩;rw [← Hv.out,← He.out];simp [rkV,rkE,z1T,hlt]
   ·have i1:¬ (b:Int)<(c:Int):=by omega
    go_enter Tryz.func113,Tryz.ntmps113
    go_wp2_with fail;refine (HF.out _ 0 (by simp [hlt]) _).mono ?_;rintro en w1 ⟨rfl,rfl⟩;go_wp2_with fail;go_ret2;refine ⟨?_,rfl⟩;rw [← Hv.out,← He.out];simp [rkV,rkE,z1T,hlt]
  ·by_cases hlt:b=c
   ·have i1:((b:Int)==(c:Int))=true:=by simp [hlt]
    have Hlt:=hid hlt;clear hlt
    go_enter Tryz.func113,Tryz.ntmps113
    go_wp2_with fail;refine (HF.out _ 1 (by first | rfl | simp [Hlt.out]) _).mono ?_;rintro en w1 ⟨rfl,rfl⟩;go_wp2_with fail;go_ret2;refine ⟨?_,rfl⟩;rw [← Hv.out,← He.out];simp [rkV,rkE,z1T,Hlt.out]
   ·have i1:((b:Int)==(c:Int))=false:=by simp;omega
    have Hlt:=hid hlt;clear hlt
    go_enter Tryz.func113,Tryz.ntmps113
    go_wp2_with fail;refine (HF.out _ 0 (by first | rfl | simp [Hlt.out]) _).mono ?_;rintro en w1 ⟨rfl,rfl⟩;go_wp2_with fail;go_ret2;refine ⟨?_,rfl⟩;rw [← Hv.out,← He.out];have h9:¬ (b:Int)=c:=by have:=Hlt.out;omega
    simp [rkV,rkE,z1T,h9]
end Go.Proofs.YtgiiidminlhbpaaGreatDoor
namespace Go.Proofs.YtgiiidminlhbpaaGreatDoor
open Go.RowKit Go.Sx Go.Lk
def z3v (b o:Nat) (h:Hd) (x:Cx):HP:=pts b o (cxL x.at_ x.rg (h.v x.mem.length))*pts h.b h.o (x.mem.map (Value.int .u32))
section
variable (b o:Nat) (h:Hd) (x:Cx)
instance (priority:=1300):zC (z3v b o h x) b o (.int .i64 x.at_):=za rfl (by have:=zg (b:=b) (o:=o) (xs:=cxL x.at_ x.rg (h.v x.mem.length)) (j:=0) rfl;exact this)
instance (priority:=1300) (n:Int):Upd (z3v b o h x) b o (.int .i64 n) (z3v b o h { x with at_:=n }):=z0e rfl rfl (by have:=z0w (b:=b) (o:=o) (xs:=cxL x.at_ x.rg (h.v x.mem.length)) (ys:=cxL n x.rg (h.v x.mem.length)) (j:=0) (by simp [R8.cells]) rfl;exact this)
instance (priority:=1250) (n:Nat) [m:Lt n 8]:zC (z3v b o h x) b (o+1+n) (.int .u32 (x.reg n)):=za rfl (by
 have:=zg (b:=b) (o:=o) (zeM (a:=x.at_) (r:=x.rg) (v:=h.v x.mem.length) m.lt);rw [← Nat.add_assoc] at this;exact this)
instance (priority:=1250) (n:Nat) (v:Int) [m:Lt n 8]:Upd (z3v b o h x) b (o+1+n) (.int .u32 v) (z3v b o h (x.put n v)):=z0e rfl rfl (by
 have:=z0w (b:=b) (o:=o) (xs:=cxL x.at_ x.rg (h.v x.mem.length)) (ys:=cxL x.at_ (x.rg.set n v) (h.v x.mem.length)) (j:=1+n) (by simp [R8.cells];have:=m.lt;omega) (zeL m.lt);rw [← Nat.add_assoc] at this;exact this)
instance (priority:=1300):zC (z3v b o h x) b (o+9) (.slice (h.ad x.mem.length) x.mem.length h.cap):=za rfl (zg (j:=9) rfl)
instance (priority:=1300) (n:Nat) [m:Lt n x.mem.length]:zC (z3v b o h x) h.b (h.o+n) (.int .u32 (lg x.mem n)):=z1d rfl (zg (getElem?_map_int .u32 m.lt))
instance (priority:=1300) (n:Nat) (v:Int) [m:Lt n x.mem.length]:Upd (z3v b o h x) h.b (h.o+n) (.int .u32 v) (z3v b o h { x with mem:=x.mem.set n v }):=zgO (R:=pts b o (cxL x.at_ x.rg (h.v x.mem.length))) (Q':=pts h.b h.o ((x.mem.set n v).map (Value.int .u32))) rfl (by unfold z3v;simp only [List.length_set]) (z0w (by rw [List.length_map];exact m.lt) (by rw [List.map_set]))
end
@[simp,go_sem] theorem zlF (x:Cx) (n v:Int):(x.put n v).at_=x.at_:=rfl
@[simp,go_sem] theorem zli (x:Cx) (n v:Int):(x.put n v).mem=x.mem:=rfl
structure CxR (x:Cx):Prop where
 rg:∀ n,zG (x.rg.get n)
 at_:0≤x.at_∧x.at_≤300
 mem:x.mem.length≤256
theorem zjN (b o:Nat) (h:Hd) (x:Cx) (op:Int) (a b' c d k:Int) (hop:op=15∨op=16) (ha:0≤a∧a<8) (hb:0≤b'∧b'<8) (hk:zG k) (hx:CxR x) (w0 w:World) (F:HP) (hs:Sat w0 w (z3v b o h x*F)) :
  Calls Tryz.prog 112 #[.pointer (some ⟨b,o,none⟩),z22 ⟨op,a,b',c,d,k⟩] w
   (zp w0 (.int .i64 (if (x.mem.length:Int)≤(x.reg b'+k)%4294967296 then 12 else 0))
    (z3v b o h (if (x.mem.length:Int)≤(x.reg b'+k)%4294967296 then x else if op=15 then x.put a (lg x.mem ((x.reg b'+k)%4294967296).toNat) else { x with mem:=x.mem.set ((x.reg b'+k)%4294967296).toNat (x.reg a) })*F)):=by
 obtain ⟨a,rfl⟩:=Int.eq_ofNat_of_zero_le ha.1;obtain ⟨b',rfl⟩:=Int.eq_ofNat_of_zero_le hb.1;haveI:Lt a 8:=⟨by omega⟩;haveI:Lt b' 8:=⟨by omega⟩;have d1:decide (a<8)=true:=decide_eq_true (by omega);have d2:decide (b'<8)=true:=decide_eq_true (by omega);have i1:(a:Int)<8:=ha.2;have i2:(b':Int)<8:=hb.2;have hr:=hx.rg b';have hm:=hx.mem;have hr2:0≤x.reg b'∧x.reg b'<4294967296:=hr;generalize hAt:(x.reg b'+k)%4294967296=at_;have hat:0≤at_∧at_<4294967296:=by rw [← hAt];exact ⟨Int.emod_nonneg _ (by decide),Int.emod_lt_of_pos _ (by decide)⟩
 obtain ⟨n,rfl⟩:=Int.eq_ofNat_of_zero_le hat.1;rw [Int.toNat_natCast];have hk0:0≤k:=hk.1;have hk1:k<4294967296:=hk.2;clear hx hr ha hb hk
 by_cases hle:(x.mem.length:Int)≤(n:Int)
 ·rw [if_pos hle,if_pos hle]
  go_enter Tryz.func112,Tryz.ntmps112
  go_wp2_with fail;go_quiet (fail);go_wp2_with fail;go_ret;exact ⟨rfl,z3⟩
 ·rw [if_neg hle,if_neg hle];have hlt:n<x.mem.length:=by omega
  haveI:Lt n x.mem.length:=⟨hlt⟩;have hd:=h.ad_pos (show 0<x.mem.length by omega);have d3:decide (n<x.mem.length)=true:=decide_eq_true hlt;have i3:(n:Int)<(x.mem.length:Int):=by omega
  rcases hop with rfl | rfl
  ·rw [if_pos rfl]
   go_enter Tryz.func112,Tryz.ntmps112
   go_wp2_with fail;go_quiet (fail);go_wp2_with fail;refine z9 (w0:=w0) ?_;intro wx hsx;go_still_tail 13,(by kernel_rfl);change wpList _ _ _ _ _ wx.drew;go_wp2_with fail;go_ret;exact ⟨rfl,z3⟩
  ·rw [if_neg (by decide)]
   go_enter Tryz.func112,Tryz.ntmps112
   go_wp2_with fail;go_quiet (fail);go_wp2_with fail;refine z9 (w0:=w0) ?_;intro wx hsx;go_still_tail 13,(by kernel_rfl);change wpList _ _ _ _ _ wx.drew;go_wp2_with fail;go_ret;exact ⟨rfl,z3⟩
theorem zcy {n:Int} (h:0≤n∧n≤300):wrap64 (n+1)=n+1:=IntWalk.wrap64_in _ ⟨by omega,by omega⟩
theorem zbr (b o:Nat) (h:Hd) (x:Cx) (op:Int) (a b' c d k:Int) (hop:op=1∨op=2∨op=17∨op=18∨op=19∨op=20) (hf:z2K ⟨op,a,b',c,d,k⟩=0) (ha:0≤a∧a<8) (hb:0≤b'∧b'<8) (hk:zG k) (hx:CxR x) (w0 w:World) (F:HP) (hs:Sat w0 w (z3v b o h x*F)) :
  Calls Tryz.prog 95 #[.pointer (some ⟨b,o,none⟩),z22 ⟨op,a,b',c,d,k⟩] w (zp w0 (.int .i64 (doI ⟨op,a,b',c,d,k⟩ x).1) (z3v b o h (doI ⟨op,a,b',c,d,k⟩ x).2*F)):=by
 have hF:=hid (fun wx Q h=>z72 ⟨op,a,b',c,d,k⟩ 0 hf w0 wx Q h);obtain ⟨a,rfl⟩:=Int.eq_ofNat_of_zero_le ha.1;obtain ⟨b',rfl⟩:=Int.eq_ofNat_of_zero_le hb.1;haveI:Lt a 8:=⟨by omega⟩;haveI:Lt b' 8:=⟨by omega⟩;have d1:decide (a<8)=true:=decide_eq_true (by omega);have d2:decide (b'<8)=true:=decide_eq_true (by omega);have i1:(a:Int)<8:=ha.2;have i2:(b':Int)<8:=hb.2;have hwr:=hid (zcy hx.at_);have hk0:0≤k:=hk.1;have hk1:k<4294967296:=hk.2;have hwk:=hid (IntWalk.wrap64_in k ⟨by omega,by omega⟩);clear hf ha hb hk hx
 rcases hop with rfl | rfl | rfl | rfl | rfl | rfl
 ·have hD:doI ⟨1,a,b',c,d,k⟩ x=(0,{ x.put a k with at_:=x.at_+1 }):=rfl;rw [hD];clear hD
  go_enter Tryz.func95,Tryz.ntmps95
  go_wp2_with fail;refine (hF.out _ _ z6).mono ?_;rintro en w1 ⟨rfl,hs1⟩;clear hs;go_wp2_with fail;refine z9 (w0:=w0) ?_;intro wx hsx;go_still_tail 8,(by kernel_rfl);change wpList _ _ _ _ _ wx.drew;go_wp2_with fail;go_ret
  try rw [hwr.out]
  exact ⟨rfl,z3⟩
 ·have hD:doI ⟨2,a,b',c,d,k⟩ x=(0,{ x.put a (x.reg b') with at_:=x.at_+1 }):=rfl;rw [hD];clear hD
  go_enter Tryz.func95,Tryz.ntmps95
  go_wp2_with fail;refine (hF.out _ _ z6).mono ?_;rintro en w1 ⟨rfl,hs1⟩;clear hs;go_wp2_with fail;refine z9 (w0:=w0) ?_;intro wx hsx;go_still_tail 13,(by kernel_rfl);change wpList _ _ _ _ _ wx.drew;go_wp2_with fail;go_ret
  try rw [hwr.out]
  exact ⟨rfl,z3⟩
 ·have hD:doI ⟨17,a,b',c,d,k⟩ x=(0,{ x with at_:=k }):=rfl;rw [hD];clear hD
  go_enter Tryz.func95,Tryz.ntmps95
  go_wp2_with fail;refine (hF.out _ _ z6).mono ?_;rintro en w1 ⟨rfl,hs1⟩;clear hs;go_wp2_with fail;go_quiet (fail);go_wp2_with fail;go_ret
  try rw [hwk.out]
  exact ⟨rfl,z3⟩
 ·by_cases h0:x.reg a=0
  ·have e0:(x.reg (a:Int)==0)=true:=by simp [h0]
   have hD:doI ⟨18,a,b',c,d,k⟩ x=(0,{ x with at_:=k }):=by unfold doI;simp [h0]
   rw [hD];clear h0 hD
   go_enter Tryz.func95,Tryz.ntmps95
   go_wp2_with fail;refine (hF.out _ _ z6).mono ?_;rintro en w1 ⟨rfl,hs1⟩;clear hs;go_wp2_with fail;go_quiet (fail);go_wp2_with fail;go_ret
   try rw [hwk.out]
   exact ⟨rfl,z3⟩
  ·have e0:(x.reg (a:Int)==0)=false:=by simp [h0]
   have hD:doI ⟨18,a,b',c,d,k⟩ x=(0,{ x with at_:=x.at_+1 }):=by unfold doI;simp [h0,Cx.on]
   rw [hD];clear h0 hD
   go_enter Tryz.func95,Tryz.ntmps95
   go_wp2_with fail;refine (hF.out _ _ z6).mono ?_;rintro en w1 ⟨rfl,hs1⟩;clear hs;go_wp2_with fail;go_quiet (fail);go_wp2_with fail;go_ret
   try rw [hwr.out]
   exact ⟨rfl,z3⟩
 ·by_cases h0:x.reg a=0
  ·have e0:(x.reg (a:Int)==0)=true:=by simp [h0]
   have hD:doI ⟨19,a,b',c,d,k⟩ x=(0,{ x with at_:=x.at_+1 }):=by unfold doI;simp [h0,Cx.on]
   rw [hD];clear h0 hD
   go_enter Tryz.func95,Tryz.ntmps95
   go_wp2_with fail;refine (hF.out _ _ z6).mono ?_;rintro en w1 ⟨rfl,hs1⟩;clear hs;go_wp2_with fail;go_quiet (fail);go_wp2_with fail;go_ret
   try rw [hwr.out]
   exact ⟨rfl,z3⟩
  ·have e0:(x.reg (a:Int)==0)=false:=by simp [h0]
   have hD:doI ⟨19,a,b',c,d,k⟩ x=(0,{ x with at_:=k }):=by unfold doI;simp [h0]
   rw [hD];clear h0 hD
   go_enter Tryz.func95,Tryz.ntmps95
   go_wp2_with fail;refine (hF.out _ _ z6).mono ?_;rintro en w1 ⟨rfl,hs1⟩;clear hs;go_wp2_with fail;go_quiet (fail);go_wp2_with fail;go_ret
   try rw [hwk.out]
   exact ⟨rfl,z3⟩
 ·have hD:doI ⟨20,a,b',c,d,k⟩ x=(0,{ x with at_:=x.at_+1 }):=rfl;rw [hD];clear hD
  go_enter Tryz.func95,Tryz.ntmps95
  go_wp2_with fail;refine (hF.out _ _ z6).mono ?_;rintro en w1 ⟨rfl,hs1⟩;clear hs;go_wp2_with fail;go_ret
  try rw [hwr.out]
  exact ⟨rfl,z3⟩
theorem zeI (b o:Nat) (h:Hd) (x:Cx) (op:Int) (a b' c d k:Int) (hop:op=15∨op=16) (hf:z2K ⟨op,a,b',c,d,k⟩=0) (ha:0≤a∧a<8) (hb:0≤b'∧b'<8) (hk:zG k) (hx:CxR x) (w0 w:World) (F:HP) (hs:Sat w0 w (z3v b o h x*F)) :
  Calls Tryz.prog 95 #[.pointer (some ⟨b,o,none⟩),z22 ⟨op,a,b',c,d,k⟩] w (zp w0 (.int .i64 (doI ⟨op,a,b',c,d,k⟩ x).1) (z3v b o h (doI ⟨op,a,b',c,d,k⟩ x).2*F)):=by
 have hF:=hid (fun wx Q h=>z72 ⟨op,a,b',c,d,k⟩ 0 hf w0 wx Q h);have hM:=hid (fun wx Q hs=>zjN b o h x op a b' c d k hop ha hb hk hx w0 wx Q hs);have hwr:=hid (zcy hx.at_);clear hf
 by_cases hle:(x.mem.length:Int)≤(x.reg b'+k)%4294967296
 ·have hD:doI ⟨op,a,b',c,d,k⟩ x=(12,x):=by
   rcases hop with rfl | rfl<;>(unfold doI;simp;first | exact hle | rw [if_pos hle])
  rw [hD];rw [if_pos hle,if_pos hle] at hM;clear hD hle hx hk ha hb
  rcases hop with rfl | rfl
  all_goals
   go_enter Tryz.func95,Tryz.ntmps95
   go_wp2_with fail;refine (hF.out _ _ z6).mono ?_;rintro en w1 ⟨rfl,hs1⟩;clear hs;go_wp2_with fail;refine (hM.out _ _ own).mono ?_;rintro en w2 ⟨rfl,hs2⟩;clear hs1;go_wp2_with fail;go_ret;exact ⟨rfl,z3⟩
 ·rw [if_neg hle,if_neg hle] at hM;have hD:doI ⟨op,a,b',c,d,k⟩ x=(0,{ (if op=15 then x.put a (lg x.mem ((x.reg b'+k)%4294967296).toNat) else { x with mem:=x.mem.set ((x.reg b'+k)%4294967296).toNat (x.reg a) }) with at_:=x.at_+1 }):=by
   rcases hop with rfl | rfl<;>(unfold doI;simp only [show ¬ (15:Int)=1 by decide,show ¬ (15:Int)=2 by decide,show ¬ (16:Int)=1 by decide,show ¬ (16:Int)=2 by decide,show ¬ (16:Int)=15 by decide,or_true,true_or,if_true,if_false];rw [if_neg hle];rfl)
  rw [hD];have hat:(if op=15 then x.put a (lg x.mem ((x.reg b'+k)%4294967296).toNat) else { x with mem:=x.mem.set ((x.reg b'+k)%4294967296).toNat (x.reg a) }).at_=x.at_:=by split<;>rfl
  generalize (if op=15 then x.put a (lg x.mem ((x.reg b'+k)%4294967296).toNat) else { x with mem:=x.mem.set ((x.reg b'+k)%4294967296).toNat (x.reg a) })=y at hM hat ⊢;rw [← hat] at hwr ⊢;clear hD hle hx hk ha hb hat
  rcases hop with rfl | rfl
  all_goals
   go_enter Tryz.func95,Tryz.ntmps95
   go_wp2_with fail;refine (hF.out _ _ z6).mono ?_;rintro en w1 ⟨rfl,hs1⟩;clear hs;go_wp2_with fail;refine (hM.out _ _ own).mono ?_;rintro en w2 ⟨rfl,hs2⟩;clear hs1;go_wp2_with fail;go_ret
   try rw [hwr.out]
   exact ⟨rfl,z3⟩
theorem zeJ (b o:Nat) (h:Hd) (x:Cx) (op:Int) (a b' c d k:Int) (hop:3≤op∧op≤14) (hf:z2K ⟨op,a,b',c,d,k⟩=0) (ha:0≤a∧a<8) (hb:0≤b'∧b'<8) (hc:0≤c∧c<8) (hx:CxR x) (w0 w:World) (F:HP) (hs:Sat w0 w (z3v b o h x*F)) :
  Calls Tryz.prog 95 #[.pointer (some ⟨b,o,none⟩),z22 ⟨op,a,b',c,d,k⟩] w (zp w0 (.int .i64 (doI ⟨op,a,b',c,d,k⟩ x).1) (z3v b o h (doI ⟨op,a,b',c,d,k⟩ x).2*F)):=by
 have hF:=hid (fun wx Q h=>z72 ⟨op,a,b',c,d,k⟩ 0 hf w0 wx Q h);obtain ⟨a,rfl⟩:=Int.eq_ofNat_of_zero_le ha.1;obtain ⟨b',rfl⟩:=Int.eq_ofNat_of_zero_le hb.1;obtain ⟨c,rfl⟩:=Int.eq_ofNat_of_zero_le hc.1;haveI:Lt a 8:=⟨by omega⟩;haveI:Lt b' 8:=⟨by omega⟩;haveI:Lt c 8:=⟨by omega⟩;have d1:decide (a<8)=true:=decide_eq_true (by omega);have d2:decide (b'<8)=true:=decide_eq_true (by omega);have d3:decide (c<8)=true:=decide_eq_true (by omega);have i1:(a:Int)<8:=ha.2;have i2:(b':Int)<8:=hb.2;have i3:(c:Int)<8:=hc.2;have hwr:=hid (zcy hx.at_);have hR:=hid (fun v e hv he wx=>zeK op (x.reg b') (x.reg c) hop (hx.rg b') (hx.rg c) v e hv he wx);have hop0:3≤op:=hop.1;have hop1:op≤14:=hop.2;have hD:doI ⟨op,a,b',c,d,k⟩ x=match z1T op (x.reg b') (x.reg c) with
  | none=>(13,x)
  | some n=>(0,{ x.put a n with at_:=x.at_+1 }):=by
  unfold doI;simp only [show ¬ op=1 by omega,show ¬ op=2 by omega,show ¬ (op=15∨op=16) by omega,show ¬ op=17 by omega,show ¬ op=18 by omega,show ¬ op=19 by omega,show ¬ op=20 by omega,if_false]
  rfl
 rw [hD];clear hD hf ha hb hc hx hop
 cases hr:z1T op (x.reg b') (x.reg c) with
 | none =>
  have hv:Hid (rkV op (x.reg b') (x.reg c)=0):=by unfold Hid rkV;rw [hr];rfl
  have he:Hid (rkE op (x.reg b') (x.reg c)=13):=by unfold Hid rkE;rw [hr]
  clear hr
  go_enter Tryz.func95,Tryz.ntmps95
  go_wp2_with fail;refine (hF.out _ _ z6).mono ?_;rintro en w1 ⟨rfl,hs1⟩;clear hs;go_wp2_with fail;refine z9 (w0:=w0) ?_;intro wx hsx;clear hs1;refine zj (fun w'=>Sat w0 w' (pts w.heap.size 0 [.int .i64 op,.int .i64 a,.int .i64 b',.int .i64 c,.int .i64 d,.int .u32 k]*(z3v b o h x*any))) [(0,true),(1,true),(2,true),(3,true),(4,true),(5,true),(6,true),(7,true),(8,true),(9,true),(10,true),(11,true),(12,true),(13,true),(14,true),(15,true),(16,false),(17,true),(18,true),(19,true),(20,true),(21,true)] (by kernel_rfl) (by kernel_rfl) (fun _ _ _ _ h=>h) zk ?_
  iterate 16 (first | refine zsR ?_ | refine zsQ ?_)
  refine z29 rfl (by rfl) (fun K hK=>?_);go_wp2_with fail;refine (hR.out 0 13 hv.out he.out _).mono ?_;rintro en w2 ⟨rfl,rfl⟩;go_wp2_with fail;refine ⟨zk,?_⟩
  iterate 5 (first | refine zsR ?_ | refine zsQ ?_)
  refine zB ?_;go_wp2_with fail;go_ret;exact ⟨rfl,z3⟩
 | some n =>
  have hv:Hid (rkV op (x.reg b') (x.reg c)=n):=by unfold Hid rkV;rw [hr];rfl
  have he:Hid (rkE op (x.reg b') (x.reg c)=0):=by unfold Hid rkE;rw [hr]
  clear hr
  go_enter Tryz.func95,Tryz.ntmps95
  go_wp2_with fail;refine (hF.out _ _ z6).mono ?_;rintro en w1 ⟨rfl,hs1⟩;clear hs;go_wp2_with fail;refine z9 (w0:=w0) ?_;intro wx hsx;clear hs1;refine zj (fun w'=>Sat w0 w' (pts w.heap.size 0 [.int .i64 op,.int .i64 a,.int .i64 b',.int .i64 c,.int .i64 d,.int .u32 k]*(z3v b o h x*any))) [(0,true),(1,true),(2,true),(3,true),(4,true),(5,true),(6,true),(7,true),(8,true),(9,true),(10,true),(11,true),(12,true),(13,true),(14,true),(15,true),(16,false),(17,true),(18,true),(19,true),(20,true),(21,true)] (by kernel_rfl) (by kernel_rfl) (fun _ _ _ _ h=>h) zk ?_
  iterate 16 (first | refine zsR ?_ | refine zsQ ?_)
  refine z29 rfl (by rfl) (fun K hK=>?_);go_wp2_with fail;refine (hR.out n 0 hv.out he.out _).mono ?_;rintro en w2 ⟨rfl,rfl⟩;go_wp2_with fail;refine ⟨zk,?_⟩
  iterate 5 (first | refine zsR ?_ | refine zsQ ?_)
  refine zB ?_;go_wp2_with fail;refine z9 (w0:=w0) ?_;intro wx hsx;go_still_tail 7,(by kernel_rfl);change wpList _ _ _ _ _ wx.drew;go_wp2_with fail;go_ret
  try rw [hwr.out]
  exact ⟨rfl,z3⟩
theorem zjL (b o:Nat) (h:Hd) (x:Cx) (i:Ins) (hi:zI i) (hop:i.op≤20) (hx:CxR x) (w0 w:World) (F:HP) (hs:Sat w0 w (z3v b o h x*F)) :
  Calls Tryz.prog 95 #[.pointer (some ⟨b,o,none⟩),z22 i] w (zp w0 (.int .i64 (doI i x).1) (z3v b o h (doI i x).2*F)):=by
 obtain ⟨op,a,b',c,d,k⟩:=i;have h1:=hi.op;have h1:1≤op∧op≤38:=h1;have h2:op≤20:=hop;have hcs:(op=1∨op=2∨op=17∨op=18∨op=19∨op=20)∨(op=15∨op=16)∨(3≤op∧op≤14):=by omega
 rcases hcs with g | g | g
 ·exact zbr b o h x op a b' c d k g hi.form hi.a hi.b hi.k hx w0 w F hs
 ·exact zeI b o h x op a b' c d k g hi.form hi.a hi.b hi.k hx w0 w F hs
 ·exact zeJ b o h x op a b' c d k g hi.form hi.a hi.b hi.c hx w0 w F hs
end Go.Proofs.YtgiiidminlhbpaaGreatDoor
