/-
  Parts of the proof: KernSb RegionF Struct RegionG SameA.
-/
import Derived.Deep.MidRow
import Derived.Test.YtlbjjoeocdimfaaGreatDoorKD0
import Derived.Test.YtlbjjoeocdimfaaGreatDoorKD1
import Derived.Test.YtlbjjoeocdimfaaGreatDoorKD3
import Derived.Test.YtlbjjoeocdimfaaGreatDoorKD13
set_option linter.unusedVariables false
set_option linter.unusedSimpArgs false
set_option maxHeartbeats 32000000
set_option maxRecDepth 100000
namespace Go.Proofs.YtlbjjoeocdimfaaGreatDoor
open Go.RowKit Go.Sx Go.Dl Go.Lk Go.Rq Go.Au
section
variable (b:Nat) (x:Fx) (c:Cf) (K:Kn) (w0 w:World) (F:HP) (hs:Sat w0 w (knP b x c K*F))
include hs
theorem znl (l:Nat) (hl:l<32):Calls Tryz.prog 75 #[.pointer (some ⟨b,260,none⟩),.int .i64 l] w (Ret w0 fun v=>z5 .i64 v (z2N (K.R l))*(knP b x c K*F)) :=
 let ⟨_,h⟩:=zkp b x c K;z69 (h K.R) (h K.R) hs fun hs=>zkW b 260 K.R l w0 w _ hs hl
theorem zkf (s:Nat) (h:s<c.queues.length) (ok:z3Z (K.ml s)):Calls Tryz.prog 80 #[.pointer (some ⟨x.qb s,0,none⟩)] w (Ret w0 fun v=>z5 .u32 v (z4h (K.ml s))*(knP b x c K*F)) :=
 let ⟨_,e⟩:=z1Q (b:=b) (x:=x) (K:=K) h;z69 ((z0I b x c K s).symm.trans (e (K.ml s))) ((z0I b x c K s).symm.trans (e (K.ml s))) hs fun hs=>zhR (x.qb s) _ w0 w _ hs ok
theorem zdU (s:Nat) (h:s<c.queues.length) (ok:z3Z (K.ml s)):Calls Tryz.prog 81 #[.pointer (some ⟨x.qb s,0,none⟩)] w (Ret w0 fun v=>z5 .i64 v (K.ml s).S*(knP b x c K*F)) :=
 let ⟨_,e⟩:=z1Q (b:=b) (x:=x) (K:=K) h;z69 ((z0I b x c K s).symm.trans (e (K.ml s))) ((z0I b x c K s).symm.trans (e (K.ml s))) hs fun hs=>zc2 (x.qb s) _ w0 w _ hs ok
theorem zao (s:Nat) (h:s<c.queues.length) (ok:z3Z (K.ml s)):Calls Tryz.prog 82 #[.pointer (some ⟨x.qb s,0,none⟩)] w (Ret w0 fun v=>z5 .i64 v (K.ml s).R*(knP b x c K*F)) :=
 let ⟨_,e⟩:=z1Q (b:=b) (x:=x) (K:=K) h;z69 ((z0I b x c K s).symm.trans (e (K.ml s))) ((z0I b x c K s).symm.trans (e (K.ml s))) hs fun hs=>z9l (x.qb s) _ w0 w _ hs ok
theorem zd1 (n:Nat) (h:n<c.ls.length) (hl:(K.mems n).length=z1w c n) (hm:z1w c n≤1000):Calls Tryz.prog 74 #[.slice ((x.mv n).ad (z1w c n)) (z1w c n) (x.mv n).cap] w (Ret w0 fun v=>z5 .u32 v (K.mems n)*(knP b x c K*F)):=by
 obtain ⟨R,e⟩:=zje (b:=b) (x:=x) (K:=K) h;have e1:knP b x c K=pts (x.mv n).b (x.mv n).o ((K.mems n).map (Value.int .u32))*(pts x.mm.b (x.mm.o+n) [(x.mv n).v (z1w c n)]*R):=by
  rw [← zdb b x c K n,e];unfold zex;ac_rfl
 exact z69 e1 e1 hs fun hs=>zj4 (x.mv n) (z1w c n) (K.mems n) hl w0 w _ hs hm
theorem zhC (t:Nat) (h:t<c.ts.length) (hl:(K.tm t).length=z1x c t) (hm:z1x c t≤1000):Calls Tryz.prog 74 #[.slice ((x.tv t).ad (z1x c t)) (z1x c t) (x.tv t).cap] w (Ret w0 fun v=>z5 .u32 v (K.tm t)*(knP b x c K*F)):=by
 obtain ⟨R,e⟩:=z0P (b:=b) (x:=x) (K:=K) h;have e1:knP b x c K=pts (x.tv t).b (x.tv t).o ((K.tm t).map (Value.int .u32))*(pts x.ta.b (x.ta.o+t*15) (tsL (K.T t))*(pts x.ta.b (x.ta.o+t*15+5) (cxL (K.T t).at_ (K.T t).rg ((x.tv t).v (z1x c t)))*R)):=by
  rw [← z0c b x c K t,e];unfold zcp;ac_rfl
 exact z69 e1 e1 hs fun hs=>zj4 (x.tv t) (z1x c t) (K.tm t) hl w0 w _ hs hm
end
structure Sn where
 count:Int
 cycle:Int
 run:Int
 isr:Int
 iat:Int
 irg:R8
 imem:List Int
 mems:List (List Int)
 pend:Nat
 mask:Nat
 tasks:List (Ts×List Int)
 ready:List (List Int)
 owners:List Int
 lockers:List (List Int)
 sems:List Int
 takers:List (List Int)
 queues:List (List Int)
 senders:List (List Int)
 receivers:List (List Int)
 dues:List Ck
 reads:Int
 stopped:Bool
def Kn.st (c:Cf) (K:Kn):Sn where
 count:=K.count
 cycle:=K.cycle
 run:=K.run
 isr:=K.ln.active
 iat:=if K.ln.active=255 then 0 else K.iat
 irg:=if K.ln.active=255 then r80 else K.irg
 imem:=if K.ln.active=255 then [] else K.mems K.ln.active.toNat
 mems:=(List.range c.ls.length).map K.mems
 pend:=K.ln.pending
 mask:=K.ln.mask
 tasks:=(List.range c.ts.length).map fun t=>(K.T t,K.tm t)
 ready:=(List.range 32).map fun l=>z2N (K.R l)
 owners:=(List.range c.mutexes.toNat).map fun m=>z1D K.L (m:Nat)
 lockers:=(List.range c.mutexes.toNat).map fun m=>z2j K.L (m:Nat)
 sems:=(List.range c.sems.length).map fun s=>(K.sm s).1
 takers:=(List.range c.sems.length).map fun s=>(K.sm s).2
 queues:=(List.range c.queues.length).map fun q=>z4h (K.ml q)
 senders:=(List.range c.queues.length).map fun q=>(K.ml q).S
 receivers:=(List.range c.queues.length).map fun q=>(K.ml q).R
 dues:=K.S
 reads:=K.reads
 stopped:=K.stopped
abbrev Mv.v (m:Mv):Value:=.slice m.a m.n m.c
def zZ (κ:IntKind) (ms:List Mv) (f:Nat→List Int) (k:Nat):HP:=z0F (fun i=>z5 κ (ms.getD i mv0).v (f i)) k
theorem z2m {κ:IntKind} {ms:List Mv} {f:Nat→List Int} {k:Nat} {m:Mv} (hl:ms.length=k):zZ κ (ms++[m]) f (k+1)=z5 κ m.v (f k)*zZ κ ms f k:=by
 unfold zZ;rw [z0G,z0W]
 congr 1
 ·rw [show (ms++[m]).getD k mv0=m by simp [List.getD,← hl]]
 ·refine zS fun i hi=>?_;rw [show (ms++[m]).getD i mv0=ms.getD i mv0 by simp [List.getD,List.getElem?_append_left (show i<ms.length by omega)]]
def rwP (κ:IntKind) (v:Value) (ll:List (List Int)):HP:=ex fun ms:List Mv=>pur (ms.length=ll.length)*(z7 v ms*zZ κ ms (fun i=>ll.getD i []) ll.length)
theorem z5X {κ:IntKind} {w0 w:World} {F:HP} {v:Value} {ms:List Mv} {f:Nat→List Int} {k:Nat} (hl:ms.length=k) (hs:Sat w0 w (z7 v ms*(zZ κ ms f k*F))):Sat w0 w (rwP κ v ((List.range k).map f)*F):=by
 refine Sat.ex_in (f:=fun ms:List Mv=>pur (ms.length=((List.range k).map f).length)*(z7 v ms*zZ κ ms (fun i=>((List.range k).map f).getD i []) ((List.range k).map f).length)) ms ?_;refine Sat.perm (Sat.pur_in (p:=ms.length=((List.range k).map f).length) (by simpa using hl) (F:=z7 v ms*(zZ κ ms f k*F)) hs) ?_;have e:zZ κ ms (fun i=>((List.range k).map f).getD i []) ((List.range k).map f).length=zZ κ ms f k:=by
  unfold zZ;rw [List.length_map,List.length_range];exact zS fun i hi=>by dsimp only;rw [z27 (f:=f) (d:=[]) hi]
 rw [e];ac_rfl
def z9O (ts:List Tr) (f:Nat→List Int) (k:Nat):HP:=z0F (fun i=>z5 .u32 (.slice (ts.getD i tr0).a (ts.getD i tr0).n (ts.getD i tr0).c) (f i)) k
theorem ziN {ts:List Tr} {f:Nat→List Int} {k:Nat} {m:Tr} (hl:ts.length=k):z9O (ts++[m]) f (k+1)=z5 .u32 (.slice m.a m.n m.c) (f k)*z9O ts f k:=by
 unfold z9O;rw [z0G,z0W]
 congr 1
 ·rw [show (ts++[m]).getD k tr0=m by simp [List.getD,← hl]]
 ·refine zS fun i hi=>?_;rw [show (ts++[m]).getD i tr0=ts.getD i tr0 by simp [List.getD,List.getElem?_append_left (show i<ts.length by omega)]]
def tkP (v:Value) (l:List (Ts×List Int)):HP:=ex fun ts:List Tr=>pur (ts.map Tr.s=l.map Prod.fst)*(z7 v ts*z9O ts (fun i=>(l.getD i (ts0,[])).2) l.length)
theorem zjw {w0 w:World} {F:HP} {v:Value} {ts:List Tr} {f:Nat→Ts×List Int} {k:Nat} (hl:ts.map Tr.s=(List.range k).map fun i=>(f i).1) (hs:Sat w0 w (z7 v ts*(z9O ts (fun i=>(f i).2) k*F))):Sat w0 w (tkP v ((List.range k).map f)*F):=by
 refine Sat.ex_in (f:=fun ts:List Tr=>pur (ts.map Tr.s=((List.range k).map f).map Prod.fst)*(z7 v ts*z9O ts (fun i=>(((List.range k).map f).getD i (ts0,[])).2) ((List.range k).map f).length)) ts ?_;refine Sat.perm (Sat.pur_in (p:=ts.map Tr.s=((List.range k).map f).map Prod.fst) (by rw [hl,List.map_map];rfl) (F:=z7 v ts*(z9O ts (fun i=>(f i).2) k*F)) hs) ?_;have e:z9O ts (fun i=>(((List.range k).map f).getD i (ts0,[])).2) ((List.range k).map f).length=z9O ts (fun i=>(f i).2) k:=by
  unfold z9O;rw [List.length_map,List.length_range];exact zS fun i hi=>by dsimp only;rw [z27 (f:=f) (d:=(ts0,[])) hi]
 rw [e];ac_rfl
structure Sv where
 im:Value
 mm:Value
 tt:Value
 rr:Value
 oo:Value
 ll:Value
 ss:Value
 kk:Value
 qq:Value
 sd:Value
 rc:Value
 dd:Value
abbrev stA (s:Sn):List Value:=[.int .u64 s.count,.int .u64 s.cycle,.int .i64 s.run,.int .i64 s.isr]
abbrev stC (s:Sn) (y:Sv):List Value:=[y.mm,.int .u32 s.pend,.int .u32 s.mask,y.tt,y.rr,y.oo,y.ll,y.ss,y.kk,y.qq,y.sd,y.rc,y.dd,.int .u64 s.reads,.bool s.stopped]
abbrev stL (s:Sn) (y:Sv):List Value:=stA s++(cxL s.iat s.irg y.im++stC s y)
def stH (y:Sv) (s:Sn):HP:=z5 .u32 y.im s.imem*(rwP .u32 y.mm s.mems*(tkP y.tt s.tasks*(rwP .i64 y.rr s.ready*(z5 .i64 y.oo s.owners*(rwP .i64 y.ll s.lockers*(z5 .i64 y.ss s.sems*(rwP .i64 y.kk s.takers*(rwP .u32 y.qq s.queues*(rwP .i64 y.sd s.senders*(rwP .i64 y.rc s.receivers*z7 y.dd s.dues))))))))))
def stP (v:Value) (s:Sn):HP:=ex fun y:Sv=>pur (v=.agg (stL s y).toArray)*stH y s
theorem zmG {w0 w:World} {F:HP} {v:Value} {s:Sn} (y:Sv) (e:v=.agg (stL s y).toArray) (hs:Sat w0 w (stH y s*F)):Sat w0 w (stP v s*F) :=
 Sat.ex_in (f:=fun y:Sv=>pur (v=.agg (stL s y).toArray)*stH y s) y (Sat.perm (Sat.pur_in e hs) (zb _ _ _).symm)
theorem z9H {w0 w:World} {F:HP} {v:Value} {s:Sn} (hs:Sat w0 w (stP v s*F)):∃ y:Sv,v=.agg (stL s y).toArray∧Sat w0 w (stH y s*F):=by
 obtain ⟨y,h⟩:=hs.ex_out;obtain ⟨e,h⟩:=(h.perm (zb _ _ _)).pur_out;exact ⟨y,e,h⟩
class zbm (xs:List Value) (n:Nat):Prop where
 eq:xs.length=n
instance zbm.nil:zbm [] 0:=⟨rfl⟩
instance zbm.cons (x:Value) (xs:List Value) (n:Nat) [h:zbm xs n]:zbm (x::xs) (n+1):=⟨by rw [List.length_cons,h.eq]⟩
end Go.Proofs.YtlbjjoeocdimfaaGreatDoor
namespace Go.Sx
open Go.RowKit
def zlj (md:Region.Mode) (o:Oper):Nat:=o.after.toList.foldr (fun e m=>if Region.binds md e=true then m ||| 2^e.on else m) 0
def zlu (a m:Nat):Bool:=(a &&& m)==a
theorem zdq {a m:Nat}:zlu a m=true↔∀ k,a.testBit k=true→m.testBit k=true:=by
 unfold zlu;rw [beq_iff_eq]
 constructor
 ·intro h k hk;rw [← h,Nat.testBit_and] at hk;simp only [Bool.and_eq_true] at hk;exact hk.2
 ·intro h;refine Nat.eq_of_testBit_eq fun k=>?_;rw [Nat.testBit_and]
  cases e:a.testBit k with
  | false=>rfl
  | true=>rw [h k e];rfl
theorem zeQ (md:Region.Mode) (o:Oper) (k:Nat):(zlj md o).testBit k=true↔∃ e∈o.after.toList,Region.binds md e=true∧e.on=k:=by
 unfold zlj
 induction o.after.toList with
 | nil=>simp
 | cons e l ih =>
  rw [List.foldr_cons]
  by_cases h:Region.binds md e=true
  ·rw [if_pos h,Nat.testBit_or,Bool.or_eq_true,ih,Nat.testBit_two_pow];simp [h]
   constructor
   ·rintro (⟨a,b,c⟩ | a)
    ·exact .inr ⟨a,b,c⟩
    ·exact .inl a
   ·rintro (a | ⟨a,b,c⟩)
    ·exact .inr a
    ·exact .inl ⟨a,b,c⟩
  ·rw [if_neg h,ih];simp [h]
structure Agr (listed:Array Bool) (m n:Nat):Prop where
 sz:listed.size=n
 eq:∀ i,listed.getD i false=m.testBit i
theorem Agr.un {listed:Array Bool} {m n i:Nat} (h:Agr listed m n) (hi:i<n):listed.getD i true=m.testBit i:=by
 rw [← h.eq i];have:i<listed.size:=by rw [h.sz];exact hi
 simp [Array.getD,this]
theorem Agr.set {listed:Array Bool} {m n i:Nat} (h:Agr listed m n) (hi:i<n):Agr (listed.setIfInBounds i true) (m ||| 2^i) n:=by
 refine ⟨by rw [Array.size_setIfInBounds];exact h.sz,fun k=>?_⟩;rw [Nat.testBit_or,Nat.testBit_two_pow,← h.eq k]
 by_cases e:i=k
 ·subst e;have:i<listed.size:=by rw [h.sz];exact hi
  simp [Array.getD,this]
 ·rw [getD_set_ne false e];simp [e]
def zaW (D:List Nat) (n m:Nat):List Nat:=(List.range n).filter fun i=>!m.testBit i && zlu (D.getD i 0) m
theorem z9t {md:Region.Mode} {ops:Array Oper} {listed:Array Bool} {m:Nat} {D:List Nat} (hD:ops.toList.map (zlj md)=D) (h:Agr listed m ops.size) :
  Region.ready md ops listed=zaW D ops.size m:=by
 unfold Region.ready zaW;refine List.filter_congr fun i hi=>?_;have hi:=List.mem_range.1 hi;rw [h.un hi]
 congr 1
 have hd:D.getD i 0=zlj md ops[i]:=by rw [← hD];simp [List.getD,hi]
 rw [hd,Array.getElem?_eq_getElem hi,Option.map_some,Option.getD_some];rw [Bool.eq_iff_iff,zdq,Array.all_eq_true_iff_forall_mem]
 constructor
 ·intro h1 k hk;obtain ⟨e,he,hb,rfl⟩:=(zeQ md _ k).1 hk;have:=h1 e (by simpa using he);rw [hb,h.eq] at this
  simpa using this
 ·intro h1 e he
  by_cases hb:Region.binds md e=true
  ·have:=h1 e.on ((zeQ md _ _).2 ⟨e,by simpa using he,hb,rfl⟩);rw [h.eq,this];simp
  ·simp [hb]
def znb (md:Region.Mode) (ops:Array Oper) (i:Nat):Nat:=match ops[i]? with
 | none=>0
 | some oi=>(List.range ops.size).foldr (fun j m=>if j=i then m else match ops[j]? with
  | some oj=>if oj.after.any (fun e=>Region.binds md e && e.on==i) || oi.apart ops oj then m else m ||| 2^j
  | none=>m) 0
theorem zh5 {md:Region.Mode} {ops:Array Oper} {listed:Array Bool} {m i:Nat} (h:Agr listed m ops.size) (hi:i<ops.size) (hb:zlu (znb md ops i) m=true):Region.free md ops listed i=true:=by
 rw [zdq] at hb;unfold Region.free;unfold znb at hb;rw [Array.getElem?_eq_getElem hi] at hb ⊢;dsimp only at hb ⊢;have key:∀ (l:List Nat),(∀ j∈l,j<ops.size)→(∀ k,Nat.testBit (l.foldr (fun j m=>if j=i then m else match ops[j]? with
  | some oj=>if oj.after.any (fun e=>Region.binds md e && e.on==i) || (ops[i]).apart ops oj then m else m ||| 2^j
  | none=>m) 0) k=true→m.testBit k=true)→l.all (fun j=>j==i || listed.getD j true || match ops[j]? with
   | some oj=>oj.after.any (fun e=>Region.binds md e && e.on==i) || (ops[i]).apart ops oj
   | none=>true)=true:=by
  intro l
  induction l with
  | nil=>intro _ _;rfl
  | cons j l ih =>
   intro hl hk;rw [List.foldr_cons] at hk;have hj:j<ops.size:=hl j (List.mem_cons_self ..);rw [List.all_cons,Bool.and_eq_true];have hrest:∀ k,Nat.testBit (l.foldr (fun j m=>if j=i then m else match ops[j]? with
    | some oj=>if oj.after.any (fun e=>Region.binds md e && e.on==i) || (ops[i]).apart ops oj then m else m ||| 2^j
    | none=>m) 0) k=true→m.testBit k=true:=by
    intro k hk2;refine hk k ?_
    split
    ·exact hk2
    ·split
     ·split
      ·exact hk2
      ·rw [Nat.testBit_or,hk2];rfl
     ·exact hk2
   refine ⟨?_,ih (fun x hx=>hl x (List.mem_cons_of_mem _ hx)) hrest⟩
   by_cases e:j=i
   ·simp [e]
   ·rw [if_neg e,Array.getElem?_eq_getElem hj] at hk;rw [Array.getElem?_eq_getElem hj];dsimp only at hk ⊢
    by_cases e2:(ops[j].after.any (fun e=>Region.binds md e && e.on==i) || (ops[i]).apart ops ops[j])=true
    ·rw [e2];simp
    ·rw [if_neg e2] at hk;have:=hk j (by rw [Nat.testBit_or,Nat.testBit_two_pow];simp);rw [h.un hj,this];simp
 exact key _ (fun j hj=>List.mem_range.1 hj) hb
def z7O (md:Region.Mode) (ops:Array Oper) (D:List Nat) (n:Nat):z58→Nat→Bool
 | .done,m=>(zaW D n m).isEmpty
 | .read i p,m=>decide (i<n) && !m.testBit i && zlu (D.getD i 0) m && zlu (znb md ops i) m && z7O md ops D n p (m ||| 2^i)
 | .run i p,m=>decide (i<n) && (zaW D n m==[i]) && z7O md ops D n p (m ||| 2^i)
 | .alt i p j q,m=>decide (i<n) && decide (j<n) && (zaW D n m==[i,j]) && (p.size==q.size) && z7O md ops D n p (m ||| 2^i) && z7O md ops D n q (m ||| 2^j)
 | .alt3 _ _ _ _ _ _,_=>false
theorem z2Z {md:Region.Mode} {ops:Array Oper} {D:List Nat} (hD:ops.toList.map (zlj md)=D):∀ (p:z58) (m:Nat) (listed:Array Bool),Agr listed m ops.size→z7O md ops D ops.size p m=true→z3i md ops p listed=true
 | .done,m,listed,h,hN=>by
  unfold z7O at hN;unfold z3i;rw [z9t hD h];exact hN
 | .read i p,m,listed,h,hN=>by
  simp only [z7O,Bool.and_eq_true,decide_eq_true_eq,Bool.not_eq_true'] at hN;obtain ⟨⟨⟨⟨h1,h2⟩,h3⟩,h4⟩,h5⟩:=hN;simp only [z3i,Bool.and_eq_true];refine ⟨⟨?_,zh5 h h1 h4⟩,z2Z hD p _ _ (h.set h1) h5⟩;rw [z9t hD h];simp only [List.contains_iff_mem];exact List.mem_filter.2 ⟨List.mem_range.2 h1,by rw [h2,h3];rfl⟩
 | .run i p,m,listed,h,hN=>by
  simp only [z7O,Bool.and_eq_true,decide_eq_true_eq] at hN;obtain ⟨⟨h1,h2⟩,h5⟩:=hN;simp only [z3i,Bool.and_eq_true];exact ⟨by rw [z9t hD h];exact h2,z2Z hD p _ _ (h.set h1) h5⟩
 | .alt i p j q,m,listed,h,hN=>by
  simp only [z7O,Bool.and_eq_true,decide_eq_true_eq] at hN;obtain ⟨⟨⟨⟨⟨h1,h2⟩,h3⟩,h4⟩,h5⟩,h6⟩:=hN;simp only [z3i,Bool.and_eq_true];exact ⟨⟨⟨by rw [z9t hD h];exact h3,h4⟩,z2Z hD p _ _ (h.set h1) h5⟩,z2Z hD q _ _ (h.set h2) h6⟩
 | .alt3 _ _ _ _ _ _,_,_,_,hN=>by simp [z7O] at hN
def z7P (ops:Array Oper) (D:List Nat) (n:Nat) (plan:z58):Bool :=
 (ops.size==n) && Region.noSelect ops && (plan.size==n) && (ops.toList.map (zlj .any)==D) && z7O .any ops D n plan 0
theorem z87 {ops:Array Oper} {D:List Nat} {n:Nat} {plan:z58} (h:z7P ops D n plan=true):z54 ops plan=true:=by
 simp only [z7P,Bool.and_eq_true,beq_iff_eq] at h;obtain ⟨⟨⟨⟨rfl,h1⟩,h2⟩,h3⟩,h4⟩:=h;simp only [z54,Bool.and_eq_true,beq_iff_eq];refine ⟨⟨h1,h2⟩,z2Z h3 plan 0 _ ⟨by simp,fun i=>?_⟩ h4⟩;simp [Array.getD]
theorem z2t {P:Program} {ops:Array Oper} {Q:Exit→Act→World→Prop} {id:Nat} {a:Act} {w:World} (S:World→Prop) (D:List Nat) (n:Nat) (plan:z58) (hm:P.follows .mixedOrders=true) (hB:z7P ops D n plan=true)
  (hQ:∀ (t:Array Value) c (a:Act) w,Q (.panic c) { a with tmps:=t } w→Q (.panic c) a w) (hS:S w.drew) (h:z08 P ops Q S plan a w.drew):(Code.region id ops true).wp P Q a w :=
 z4l S plan hm (z87 hB) hQ hS h
section
variable {P:Program} {l:List Oper} {Q:Exit→Act→World→Prop} {S:World→Prop} {i:Nat} {p:z58} {a:Act} {w w':World} {o:Oper}
theorem z9L (ho:l[i]?=some o) (hg:o.guard=none) (h:o.wp P a w (fun a' w'=>∃ S':World→Prop,(∀ w,S' w→S w)∧S' w'∧z08 P l.toArray Q S' p a' w') Q):z08 P l.toArray Q S (.run i p) a w:=by
 show wpOp P l.toArray Q i _ a w;unfold wpOp;have e:l.toArray[i]?=l[i]?:=by simp
 rw [e,ho];show if Region.wanted o (yielded l.toArray a.tmps)=true then _ else _;rw [if_pos (show Region.wanted o (yielded l.toArray a.tmps)=true by simp [Region.wanted,hg])];exact .inl h
theorem z0d {R:Ending→World→Prop} {f:FuncId} {vals:Array Value} (ho:l[i]?=some o) (hg:o.guard=none) (hx:(execOp a.eval o).run P w=.ok (.enter f vals) w) (hc:Calls P f vals w R)
  (hk:∀ e w',R e w'→∃ v,e=.returned v∧∃ S':World→Prop,(∀ w,S' w→S w)∧S' w'∧z08 P l.toArray Q S' p (a.put o.dst v) w'):z08 P l.toArray Q S (.run i p) a w:=by
 refine z9L ho hg ?_;unfold Oper.wp;rw [hx,Oper.upon_enter];refine hc.mono ?_;intro e w' hr;obtain ⟨v,rfl,h⟩:=hk e w' hr;exact h
theorem ziP {v:Value} (ho:l[i]?=some o) (hg:o.guard=none) (hx:(execOp a.eval o).run P w=.ok (.value v) w') (hk:∃ S':World→Prop,(∀ w,S' w→S w)∧S' w'∧z08 P l.toArray Q S' p (a.put o.dst v) w'):z08 P l.toArray Q S (.run i p) a w:=by
 refine z9L ho hg ?_;unfold Oper.wp;rw [hx];exact hk
end
section
variable {P:Program} {w0 w:World} {F:HP} {b o:Nat} {cells old:List Value} {ty:TypeId} {x y:Operand} {op:Oper} {a:Act} {Q:Exit→Act→World→Prop}
theorem Sat.there (hs:Sat w0 w (pts b o old*F)) {n:Nat} (hn:n≤old.length):w.there b o n:=fun j hj =>
 ⟨by rw [hs.cell (List.getElem?_eq_getElem (show j<old.length by omega))];rfl,hs.frz (by omega)⟩
theorem Sat.range (hs:Sat w0 w (pts b o cells*F)):w.rangeAt b o cells:=fun _ _ hj=>hs.cell hj
theorem Sat.stored (hs:Sat w0 w (pts b o old*F)) (hl:cells.length=old.length):Sat w0 (w.setCells b o cells) (pts b o cells*F):=by
 have h:=Sat.setCells (b:=b) (o:=o) (F:=F) cells w [] old (hs.perm (by simp)) (by omega);have e:old.drop cells.length=[]:=List.drop_eq_nil_of_le (by omega);rw [e] at h
 simpa using h
theorem z62 {K:Act→World→Prop} (ho:op.op=.store ty x y) (hx:a.eval x=.pointer (some ⟨b,o,none⟩)) (hy:a.eval y=.agg cells.toArray) (hs:Sat w0 w (pts b o old*F)) (hl:cells.length=old.length)
  (hi : (P.info? ty).map (·.size) = some cells.length) (h1 : cells.all (·.oneCell') = true) (h : ∀ w',Sat w0 w' (pts b o cells * F) → K (a.put op.dst undef) w') : op.wp P a w K Q :=
 wp_store_mid ty x y ho b o cells.toArray hx hy (by simpa [hl] using hs.there (Nat.le_refl _)) (by simpa using hi) (by simpa using h1) (h _ (by simpa using hs.stored hl))
theorem z09 {ops:Array Oper} {rest:List Oper} (hgd:op.guard=none) (ho:op.op=.store ty x y) (hx:a.eval x=.pointer (some ⟨b,o,none⟩)) (hy:a.eval y=.agg cells.toArray) (hs:Sat w0 w (pts b o old*F)) (hl:cells.length=old.length)
  (hi : (P.info? ty).map (·.size) = some cells.length) (h1 : cells.all (·.oneCell') = true) (h : ∀ w',Sat w0 w' (pts b o cells * F) → wpList P ops Q rest (a.put op.dst undef) w') : wpList P ops Q (op :: rest) a w :=
 wpList_plain hgd fun _ hK=>z62 ho hx hy hs hl hi h1 fun w' h2=>hK _ _ (h w' h2)
theorem z1u {ops:Array Oper} {rest:List Oper} {d:TypeDesc} (hgd:op.guard=none) (ho:op.op=.load ty x) (hx:a.eval x=.pointer (some ⟨b,o,none⟩)) (hs:Sat w0 w (pts b o cells*F))
  (hu : P.underlying ty = some d) (hd : d.isRow = true) (hi : (P.info? ty).map (·.size) = some cells.length)
  (h:wpList P ops Q rest (a.put op.dst (.agg cells.toArray)) w):wpList P ops Q (op::rest) a w :=
 wpList_load_mid hgd ty x ho b o hx cells d hs.range hu hd hi h
theorem z17 {l:List Oper} {S:World→Prop} {i:Nat} {p:z58} (hi0:l[i]?=some op) (hgd:op.guard=none) (ho:op.op=.store ty x y) (hx:a.eval x=.pointer (some ⟨b,o,none⟩)) (hy:a.eval y=.agg cells.toArray) (hs:Sat w0 w (pts b o old*F)) (hl:cells.length=old.length)
  (hi : (P.info? ty).map (·.size) = some cells.length) (h1 : cells.all (·.oneCell') = true) (h : ∀ w',Sat w0 w' (pts b o cells * F) → ∃ S' : World → Prop,(∀ w,S' w → S w) ∧ S' w' ∧ z08 P l.toArray Q S' p (a.put op.dst undef) w') : z08 P l.toArray Q S (.run i p) a w :=
 z9L hi0 hgd (z62 ho hx hy hs hl hi h1 h)
theorem z15 {l:List Oper} {S:World→Prop} {i:Nat} {p:z58} {R:HP} (zs:List Value) (t:TypeId) [hs:Sat w0 w R] (hi0:l[i]?=some op) (hgd:op.guard=none)
  (hx:(execOp a.eval op).run P w=.ok (.value (.pointer (some ⟨w.heap.size,0,none⟩))) (w.alloc (.cells zs.toArray t)))
  (h:∀ b w',Sat w0 w' (pts b 0 zs*R)→∃ S':World→Prop,(∀ w,S' w→S w)∧S' w'∧z08 P l.toArray Q S' p (a.put op.dst (.pointer (some ⟨b,0,none⟩))) w'):z08 P l.toArray Q S (.run i p) a w :=
 ziP hi0 hgd hx (h _ _ (hs.alloc zs.toArray t))
end
theorem z3p {P:Program} {w0 w:World} {F:HP} {fn:Func} {p b o:Nat} {ty:TypeId} {tmps:Array Value} {cells:List Value} {d:TypeDesc} (h:fn.results=#[.cell p ty]) (hp:tmps.getD p undef=.pointer (some ⟨b,o,none⟩)) (hs:Sat w0 w (pts b o cells*F))
  (hu : P.underlying ty = some d) (hd : d.isRow = true) (hi : (P.info? ty).map (·.size) = some cells.length) : (results fn tmps).run P w = .ok (.agg cells.toArray) w:=by
 have hp':tmps[p]?.getD undef=.pointer (some ⟨b,o,none⟩):=by simpa using hp
 simp [results,h,hp',asAddr,run_loadVar_mid w b o ty cells d hs.range hu hd hi]
theorem zew {P:Program} {c1 c2:Code} {Q:Exit→Act→World→Prop} {a:Act} {w:World} (h:∀ K:Act→World→Prop,(∀ a w,c2.wp P Q a w→K a w)→c1.wp P (Exit.then K Q) a w):(c1.seq c2).wp P Q a w:=wp_seq (h _ fun _ _ h=>h)
section
variable {P:Program} {l:List Oper} {Q:Exit→Act→World→Prop} {S:World→Prop} {j0 i n:Nat} {rest:List (Nat×Nat)} {a:Act} {w w' w0:World} {o:Oper}
theorem z9o (ho:l[i]?=some o) (hg:o.guard=none) (h:o.wp P a w (fun a' w'=>S w'∧z0o P l.toArray Q S j0 rest a' w') Q):z0o P l.toArray Q S j0 ((i,2)::rest) a w:=by
 refine z0L fun K hK=>?_;rw [ho];show if Region.wanted o (yielded l.toArray a.tmps)=true then _ else _;rw [if_pos (show Region.wanted o (yielded l.toArray a.tmps)=true by simp [Region.wanted,hg])];exact Oper.wp_mono (fun a w h=>hK a w h) h
theorem zib (ho:l[i]?=some o) (hg:o.guard=none) (h:o.wp P a w (fun a' w'=>z0o P l.toArray Q S j0 rest a' w') Q):z0o P l.toArray Q S j0 ((i,n+3)::rest) a w:=by
 refine z14 fun K hK=>?_;rw [ho];show if Region.wanted o (yielded l.toArray a.tmps)=true then _ else _;rw [if_pos (show Region.wanted o (yielded l.toArray a.tmps)=true by simp [Region.wanted,hg])];exact Oper.wp_mono (fun a w h=>hK a w h) h
theorem z13 {R:Ending→World→Prop} {f:FuncId} {vals:Array Value} (ho:l[i]?=some o) (hg:o.guard=none) (hx:(execOp a.eval o).run P w=.ok (.enter f vals) w) (hc:Calls P f vals w R)
  (hk:∀ e w',R e w'→∃ v,e=.returned v∧S w'∧z0o P l.toArray Q S j0 rest (a.put o.dst v) w'):z0o P l.toArray Q S j0 ((i,2)::rest) a w:=by
 refine z9o ho hg ?_;unfold Oper.wp;rw [hx,Oper.upon_enter];refine hc.mono ?_;intro e w' hr;obtain ⟨v,rfl,h⟩:=hk e w' hr;exact h
theorem z24 {R:HP} [hs:Sat w0 w R] (vs:List Value) (t:TypeId) (m:Nat) (ho:l[i]?=some o) (hg:o.guard=none)
  (hx:(execOp a.eval o).run P w=.ok (.value (.slice (some ⟨w.heap.size,0,none⟩) m m)) (w.alloc (.cells vs.toArray t)))
  (hk:∀ b w',Sat w0 w' (pts b 0 vs*R)→S w'∧z0o P l.toArray Q S j0 rest (a.put o.dst (.slice (some ⟨b,0,none⟩) m m)) w'):z0o P l.toArray Q S j0 ((i,2)::rest) a w:=by
 refine z9o ho hg ?_;unfold Oper.wp;rw [hx];exact hk _ _ (hs.alloc vs.toArray t)
theorem z3d {α:Type} {sz:Nat} {E:Enc α sz} {t e bytes:Nat} {z:Value} {l1 l2:List α} {s x:Operand} {sa:Option Addr} {sn sc m b:Nat} {F:HP}
  (ho:l[i]?=some o) (hg:o.guard=none) (hop:o.op=.call { callee:=.builtin .append,args:=#[s,x],argTypes:=#[t,t] }) [ET:z63 P t α sz E e bytes z]
  (hv:a.eval s=.slice sa sn sc) (hx:a.eval x=.slice (some ⟨b,0,none⟩) m m) (hs:Sat w0 w (z7 (.slice sa sn sc) l1*(pts b 0 (cellsOf l2)*F))) (hm:m=l2.length) (h63:sn+m≤1000000000)
  (hk:∀ a' cap' L w',Hid (L=l1++l2)→Sat w0 w' (z7 (.slice a' L.length cap') L*(pts b 0 (cellsOf l2)*F))→S w'∧z0o P l.toArray Q S j0 rest (a.put o.dst (.slice a' L.length cap')) w'):z0o P l.toArray Q S j0 ((i,2)::rest) a w:=by
 subst hm;refine z9o ho hg ?_;have h2:=hs.perm (by ac_rfl:_=pts b 0 (cellsOf l2)*(z7 (.slice sa sn sc) l1*F));haveI:RdC w E (.slice (some ⟨b,0,none⟩) l2.length l2.length) l2:=⟨⟨_,l2.length,b,0,rfl,Nat.le_refl _,by unfold maxLen;omega,fun _=>rfl,fun j u hj=>h2.cell hj⟩⟩;haveI:=hs;refine z2J hop hv hx h63 ?_;intro a' cap' L w' hL _ _ hs' _;exact hk a' cap' L w' hL hs'
theorem zaN {t e bytes:Nat} {z:Value} {κ:IntKind} {l1 l2:List Int} {s x:Operand} {sa:Option Addr} {sn sc m b:Nat} {F:HP}
  (ho:l[i]?=some o) (hg:o.guard=none) (hop:o.op=.call { callee:=.builtin .append,args:=#[s,x],argTypes:=#[t,t] }) [ET:zjz P t κ e bytes z]
  (hv:a.eval s=.slice sa sn sc) (hx:a.eval x=.slice (some ⟨b,0,none⟩) m m) (hs:Sat w0 w (z5 κ (.slice sa sn sc) l1*(pts b 0 (l2.map (Value.int κ))*F))) (hm:m=l2.length) (h63:sn+m≤1000000000)
  (hk:∀ a' cap' L w',Hid (L=l1++l2)→Sat w0 w' (z5 κ (.slice a' L.length cap') L*(pts b 0 (l2.map (Value.int κ))*F))→S w'∧z0o P l.toArray Q S j0 rest (a.put o.dst (.slice a' L.length cap')) w'):z0o P l.toArray Q S j0 ((i,2)::rest) a w:=by
 subst hm;refine z9o ho hg ?_;have h2:=hs.perm (by ac_rfl:_=pts b 0 (l2.map (Value.int κ))*(z5 κ (.slice sa sn sc) l1*F));haveI:Rd w κ (.slice (some ⟨b,0,none⟩) l2.length l2.length) l2:=⟨⟨_,l2.length,b,0,rfl,Nat.le_refl _,by unfold maxLen;omega,fun _=>rfl,fun j hj=>by
  have:=h2.cell (j:=j) (v:=.int κ (l2.getD j 0)) (by simp [List.getD,hj]);exact this⟩⟩
 haveI:=hs;refine z4k hop hv hx h63 ?_;intro a' cap' L w' hL _ _ hs' _;exact hk a' cap' L w' hL hs'
theorem z1I {ad:Addr} {v:Value} (ho:l[i]?=some o) (hg:o.guard=none) (hx:(execOp a.eval o).run P w=.ok .skip (w.setCell ad v))
  (hk:z0o P l.toArray Q S j0 rest (a.put o.dst undef) (w.setCell ad v)):z0o P l.toArray Q S j0 ((i,n+3)::rest) a w:=by
 refine zib ho hg ?_;unfold Oper.wp;rw [hx];exact hk
theorem zcx {α:Type} {sz:Nat} [E:Enc α sz] {t e bytes:Nat} {z:Value} {l1 l2:List α} {s x:Operand} {sa:Option Addr} {sn sc m b:Nat} {F:HP} {ops:Array Oper} {rst:List Oper}
  (hg:o.guard=none) (hop:o.op=.call { callee:=.builtin .append,args:=#[s,x],argTypes:=#[t,t] }) (ET:z1m P t e sz bytes z) (hbt:bytes≤1000)
  (hv:a.eval s=.slice sa sn sc) (hx:a.eval x=.slice (some ⟨b,0,none⟩) m m) (hs:Sat w0 w (z7 (.slice sa sn sc) l1*(pts b 0 (cellsOf l2)*F))) (hm:m=l2.length) (h63:sn+m≤1000000)
  (hk:∀ a' cap' L w',Hid (L=l1++l2)→Sat w0 w' (z7 (.slice a' L.length cap') L*(pts b 0 (cellsOf l2)*F))→wpList P ops Q rst (a.put o.dst (.slice a' L.length cap')) w'):wpList P ops Q (o::rst) a w:=by
 subst hm;have h2:=hs.perm (by ac_rfl:_=pts b 0 (cellsOf l2)*(z7 (.slice sa sn sc) l1*F));have hsl:sn=l1.length:=hs.rdR.caps.1;have hbb:(l1.length+l2.length)*bytes≤140737488355328:=Nat.le_trans (Nat.mul_le_mul (show l1.length+l2.length≤1000000 by omega) hbt) (by decide);refine z00 hg s x hop ET hv hs (some ⟨b,0,none⟩) l2.length l2.length (cellsOf l2) hx (zJ l2) (fun h=>by cases h) (fun ad hd j u hj=>?_) (z1f l2) (by unfold maxLen;omega) hbb ?_
 ·cases hd
  rw [Addr.add_lit];exact h2.cell hj
 ·intro v' w' hs' _;have hs2:Sat w0 w' (z7 v' (l1++l2)*(pts b 0 (cellsOf l2)*F)):=by
   unfold z7;rw [List.length_append,z0g];exact hs'
  obtain ⟨a',cap',rfl⟩:=hs2.slice_form;exact hk a' cap' _ w' rfl hs2
end
end Go.Sx
namespace Go.Proofs.YtlbjjoeocdimfaaGreatDoor
open Go.RowKit Go.Sx Go.Dl Go.Lk Go.Rq Go.Au
def z8J (κ:IntKind) (w:World) (v:Value) (ll:List (List Int)):Prop:=∃ ms:List Mv,RdR w v ms∧ms.length=ll.length∧∀ i,i<ll.length→RdN κ w (ms.getD i mv0).v (ll.getD i [])
theorem z8J.later {κ:IntKind} {w0 w:World} {v:Value} {ll:List (List Int)} {P:HP} (h:z8J κ w0 v ll) (hs:Sat w0 w P):z8J κ w v ll:=by
 obtain ⟨ms,h1,h2,h3⟩:=h;exact ⟨ms,h1.later hs,h2,fun i hi=>(h3 i hi).later hs⟩
theorem z8J.form {κ:IntKind} {w:World} {v:Value} {ll:List (List Int)} (h:z8J κ w v ll):∃ a c b off,v=.slice a ll.length c∧ll.length≤9223372036854775807∧(ll≠[]→a=some ⟨b,off,none⟩) ∧
  ∀ k,k<ll.length→∃ ra rn rc,w.cell? ⟨b,off+k,none⟩=some (.slice ra rn rc)∧RdN κ w (.slice ra rn rc) (ll.getD k []):=by
 obtain ⟨ms,⟨a,cap,b,off,rfl,hcap,hbig,ha,hc⟩,h2,h3⟩:=h;refine ⟨a,cap,b,off,by rw [h2],by unfold maxLen at hbig;omega,fun hne=>ha (fun e=>hne (List.eq_nil_of_length_eq_zero (by rw [← h2,e];rfl))),fun k hk=>?_⟩;refine ⟨(ms.getD k mv0).a,(ms.getD k mv0).n,(ms.getD k mv0).c,hc k _ ?_,h3 k hk⟩;have:=z0Y (l:=ms) (k:=k) (c:=0) (by omega) (by decide);rw [Nat.mul_one,Nat.add_zero] at this;rw [this];rfl
end Go.Proofs.YtlbjjoeocdimfaaGreatDoor
