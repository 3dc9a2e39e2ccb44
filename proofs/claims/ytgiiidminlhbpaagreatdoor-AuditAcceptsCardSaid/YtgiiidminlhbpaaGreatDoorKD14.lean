/-
  Parts of the proof: WorldA KernNv KernNu KernNw KernNf KernSa MailD KernSb LSm WorldG Zn WorldHa RegionG.
-/
import Derived.Test.YtgiiidminlhbpaaGreatDoorKD1
import Derived.Test.YtgiiidminlhbpaaGreatDoorKD2
import Derived.Test.YtgiiidminlhbpaaGreatDoorKD9
import Derived.Test.YtgiiidminlhbpaaGreatDoorKD12
import Derived.Test.YtgiiidminlhbpaaGreatDoorKD13
set_option linter.unusedVariables false
set_option linter.unusedSimpArgs false
set_option maxHeartbeats 32000000
set_option maxRecDepth 100000
namespace Go.Proofs.YtgiiidminlhbpaaGreatDoor
open Go.RowKit Go.Sx Go.Dl Go.Lk Go.Rq Go.Au
theorem zqz (l:List Ar) (k:Nat):zqo l (k+1)=(arg l k).step:=rfl
theorem zrj {l:List Ar} {k:Nat} (h:(arg l k).step<zqo l k∨(arg l k).line<0∨16≤(arg l k).line):¬ zqc l k:=fun f=>by
 obtain ⟨a,b,d⟩:=f;omega
theorem zqt {l:List Ar} {k:Nat} (h:∀ j,j<k→zqc l j) (h1:zqc l k):∀ j,j<k+1→zqc l j:=fun j hj=>by
 rcases Nat.lt_or_ge j k with g | g
 ·exact h j g
 ·obtain rfl:j=k:=by omega
  exact h1
theorem zr7 (v:Value) (s:Sc) (w0:World) (hr:zQa w0 v s):Calls Tryz.prog 24 #[v] w0 (zp w0 (.int .i64 (scE s)) emp):=by
 have hs:=Sat.start w0;obtain ⟨st,A,T⟩:=s;obtain ⟨aa,ac,ta,tc,rfl,hA,hT⟩:=hr;dsimp only at hA hT ⊢;have Hc:=hid hA;obtain ⟨_,_,ag,ao,e0,_,_,ha,hc⟩:=hA;clear hT;simp only [Value.slice.injEq,true_and] at e0
 by_cases g1:st<0
 ·have hx:=hid (zqD (s:=⟨st,A,T⟩) (.inl g1));have d1:decide (st<0)=true:=decide_eq_true g1;rw [hx.out];clear g1 ha hc e0
  go_enter Tryz.func24,Tryz.ntmps24
  go_wp2_with fail;go_ret;exact ⟨rfl,z3⟩
 have d1:decide (st<0)=false:=decide_eq_false g1
 by_cases g2:65536<st
 ·have hx:=hid (zqD (s:=⟨st,A,T⟩) (.inr g2));have d2:decide (65536<st)=true:=decide_eq_true g2;rw [hx.out];clear g1 g2 ha hc e0
  go_enter Tryz.func24,Tryz.ntmps24
  go_wp2_with fail;go_ret;exact ⟨rfl,z3⟩
 have d2:decide (65536<st)=false:=decide_eq_false g2;have G1:=hid (show ¬ (st<0∨65536<st) by omega);clear g1 g2
 by_cases g3:65536<A.length
 ·have hx:=hid (zqp (s:=⟨st,A,T⟩) G1.out (.inl g3));have d3:decide (65536<A.length)=true:=decide_eq_true g3;have e3:decide ((65536:Int)<(A.length:Int))=true:=by simp;omega
  rw [hx.out];clear g3 ha hc e0
  go_enter Tryz.func24,Tryz.ntmps24
  go_wp2_with fail;go_ret;exact ⟨rfl,z3⟩
 have d3:decide (65536<A.length)=false:=decide_eq_false g3;have e3:decide ((65536:Int)<(A.length:Int))=false:=by simp;omega
 by_cases g4:65536<T.length
 ·have hx:=hid (zqp (s:=⟨st,A,T⟩) G1.out (.inr g4));have d4:decide (65536<T.length)=true:=decide_eq_true g4;have e4:decide ((65536:Int)<(T.length:Int))=true:=by simp;omega
  rw [hx.out];clear g3 g4 ha hc e0
  go_enter Tryz.func24,Tryz.ntmps24
  go_wp2_with fail;go_ret;exact ⟨rfl,z3⟩
 have d4:decide (65536<T.length)=false:=decide_eq_false g4;have e4:decide ((65536:Int)<(T.length:Int))=false:=by simp;omega
 have G2:=hid (show ¬ (65536<A.length∨65536<T.length) by omega);have hAl:A.length≤65536:=by omega
 obtain ⟨rfl,rfl⟩:=e0;have Ha:=hid ha;have Hx:=hid hc;clear g3 g4 ha hc
 go_enter Tryz.func24,Tryz.ntmps24
 go_wp2_with fail;refine z9 (w0:=w0) ?_;intro ww hsw;clear hs
 go_loopw [3,29] (fun lv i wr=>∃ (k:Nat) (la:Int),k≤A.length∧Hid (la=zqo A k)∧lv=.int .i64 la∧i=.int .i64 k∧(∀ j,j<k→zqc A j)∧Sat w0 wr (pts w0.heap.size 0 [.slice aa A.length ac,.slice ta T.length tc,.int .i64 st]*any)) (fun _ i _=>A.length-(intOf i).toNat)
 case atStart=>exact ⟨0,1,Nat.zero_le _,hid rfl,rfl,rfl,fun j hj=>absurd hj (by omega),z3⟩
 case round =>
  obtain ⟨k,la,hk,hla,rfl,rfl,hb,hsr⟩:=hrel;clear hsw;have Hb:=hid hb;clear hb
  by_cases hlt:k<A.length
  ·have f3:decide (k<A.length)=true:=decide_eq_true hlt;have i3:(k:Int)<(A.length:Int):=by omega
   obtain rfl:=Ha.out (by intro h;simp [h] at hlt);obtain ⟨x,hx⟩:∃ x,x=arg A k:=⟨_,rfl⟩;have oc:∀ c u,c<2→(zqj.enc x)[c]?=some u→w0.cell? ⟨ag,ao+k*2+c,none⟩=some u:=fun c u hc6 he=>z2i Hx.out hlt hc6 (by show (zqj.enc (arg A k))[c]?=some u;rw [← hx];exact he);haveI o0:Old w0 ag (ao+k*2) (.int .i64 x.step):=⟨oc 0 _ (by decide) rfl⟩;haveI o1:Old w0 ag (ao+k*2+1) (.int .i64 x.line):=⟨oc 1 _ (by decide) rfl⟩;have hbad:=hid fun (h:x.step<la∨x.line<0∨16≤x.line)=>zrl (s:=⟨st,A,T⟩) G1.out G2.out (k:=k) hlt (zrj (by rw [← hx,← hla.out];exact h));have hgood:=hid fun (h:¬ (x.step<la∨x.line<0∨16≤x.line))=>(show zqc A k by unfold zqc;rw [← hx,← hla.out];omega);have hnx:=hid (show x.step=zqo A (k+1) by rw [zqz,← hx]);clear oc hx hla;obtain ⟨xs,xl⟩:=x;dsimp only at hbad hgood hnx o0 o1
   by_cases b1:xs<la
   ·have q1:decide (xs<la)=true:=decide_eq_true b1;rw [hbad.out (.inl b1)];clear b1 hbad hgood hnx;go_wp2_with fail;go_ret;exact ⟨rfl,z3⟩
   have q1:decide (xs<la)=false:=decide_eq_false b1
   by_cases b2:xl<0
   ·have q2:decide (xl<0)=true:=decide_eq_true b2;rw [hbad.out (.inr (.inl b2))];clear b1 b2 hbad hgood hnx;go_wp2_with fail;go_ret;exact ⟨rfl,z3⟩
   have q2:decide (xl<0)=false:=decide_eq_false b2
   by_cases b3:16≤xl
   ·have q3:decide (16≤xl)=true:=decide_eq_true b3;rw [hbad.out (.inr (.inr b3))];clear b1 b2 b3 hbad hgood hnx;go_wp2_with fail;go_ret;exact ⟨rfl,z3⟩
   have q3:decide (16≤xl)=false:=decide_eq_false b3;have hb2:Hid (∀ j,j<k+1→zqc A j):=hid (zqt Hb.out (hgood.out (by omega)));clear b1 b2 b3 hbad hgood;go_wp2_with fail;go_roundw
   case rel=>exact ⟨k+1,xs,by omega,hnx,rfl,by go_num,hb2.out,z3⟩
   case measure=>simp [intOf];omega
  ·have hkl:k=A.length:=by omega
   subst hkl;have f3:decide (A.length<A.length)=false:=by simp
   have hx:=hid (zrC (s:=⟨st,A,T⟩) G1.out G2.out Hb.out);clear hlt hla hk;go_wp2_with fail;go_ret;refine ⟨?_,z3⟩;show Ending.returned (.int .i64 0)=.returned (.int .i64 (scE ⟨st,A,T⟩));rw [hx.out]
instance (priority:=1200) Sat.noughts (w0 w:World) (P:HP) (M n:Nat) (t:TypeId) [h:Sat w0 w P] [s:z89 w n]:Sat w0 (w.alloc (.cells (Array.replicate M (Value.int .u32 0)) t)) (pts n 0 ((List.replicate M (0:Int)).map (Value.int .u32))*P) :=
 s.eq ▸ (h.alloc (Array.replicate M (Value.int .u32 0)) t).perm (by rw [Array.toList_replicate,List.map_replicate])
theorem znv (n m:Nat) (w0 w:World) (F:HP) (hs:Sat w0 w F) (hn:n≤16) (hm:m<2^n) :
  Calls Tryz.prog 46 #[.int .i64 n,.int .u32 m] w (zp w0 (.tuple #[.pointer (some ⟨w.heap.size,0,none⟩),.int .i64 0]) (lnP w.heap.size ⟨2^n-1,0,m,255⟩*F)):=by
 have d1:decide ((n:Int)<0)=false:=by simp
 have d2:decide ((16:Int)<n)=false:=by simp;omega
 have d3:decide (16<n)=false:=by simp;omega
 have e4:((m:Int) / 2^n != 0)=false:=by
  have:(m:Int) / 2^n=0:=Int.ediv_eq_zero_of_lt (Int.natCast_nonneg _) (by exact_mod_cast hm);simp [this]
 have e5:((2:Int)^n-1)%4294967296=((2^n-1:Nat):Int):=by
  have h1:2^n≤2^16:=Nat.pow_le_pow_right (by decide) hn;have h2:1≤2^n:=Nat.one_le_two_pow;have h3:((2:Int)^n)=((2^n:Nat):Int):=by push_cast;rfl
  rw [h3];omega
 go_enter Tryz.func46,Tryz.ntmps46
 go_wp2_with fail;go_ret2;exact ⟨rfl,hs.alloc #[.int .u32 ((2^n-1:Nat):Int),.int .u32 0,.int .u32 m,.int .i64 255] _⟩
def mrK (c:Cf) (hd:Nat→Hd) (k:Nat):List Mv:=(List.range k).map fun t=>⟨(hd t).ad (z1w c t),z1w c t,(hd t).cap⟩
theorem zc3 (c:Cf) (hd:Nat→Hd) (k:Nat):(mrK c hd k).length=k:=by simp [mrK]
theorem zi1 (c:Cf) (hd:Nat→Hd) (k:Nat) (h:Hd):mrK c (upd hd k h) (k+1)=mrK c hd k++[⟨h.ad (z1w c k),z1w c k,h.cap⟩]:=by
 unfold mrK;rw [List.range_succ,List.map_append]
 congr 1
 ·refine List.map_congr_left fun t ht=>?_;have:=List.mem_range.1 ht;rw [zL _ _ (by omega)]
 ·simp
def prK (sb:Nat→Nat) (k:Nat):List Pv:=(List.range k).map fun t=>⟨sb t⟩
theorem z5z (sb:Nat→Nat) (k:Nat):(prK sb k).length=k:=by simp [prK]
theorem zdg (sb:Nat→Nat) (k b:Nat):prK (upd sb k b) (k+1)=prK sb k++[⟨b⟩]:=by
 unfold prK;rw [List.range_succ,List.map_append]
 congr 1
 ·refine List.map_congr_left fun t ht=>?_;have:=List.mem_range.1 ht;rw [zL _ _ (by omega)]
 ·simp
theorem z9R {f:Nat→Nat→HP} {hd:Nat→Nat} {k:Nat} {h:Nat}:z0F (fun t=>f t (upd hd k h t)) (k+1)=z0F (fun t=>f t (hd t)) k*f k h:=by
 rw [z0G,zK]
 congr 1
 exact zS fun t ht=>by rw [zL _ _ (by omega)]
theorem z46 {α:Type} (f:Nat→α) (d:α) {n t:Nat} (h:t<n):((List.range n).map f).getD t d=f t:=by
 simp [List.getD,h]
section
variable (x:Fx) (c:Cf)
theorem zkF:pts x.mm.b x.mm.o (cellsOf (mrK c x.mv c.ls.length))*z0F (fun t=>pts (x.mv t).b (x.mv t).o ((List.replicate (z1w c t) (0:Int)).map (Value.int .u32))) c.ls.length=zfR x c (z34 c).mems:=by
 rw [z5c,zc3,z36];refine zS fun t ht=>?_;have e:(mrK c x.mv c.ls.length).getD t (Enc.dft:Mv)=⟨(x.mv t).ad (z1w c t),z1w c t,(x.mv t).cap⟩:=z46 _ _ ht;rw [e,Nat.mul_one];rfl
theorem zl4:pts x.sa.b x.sa.o (cellsOf (prK x.sb c.sems.length))*z0F (fun t=>z3f (x.sb t) (lg c.sems t) []) c.sems.length=ziv x c (z34 c).sm:=by
 rw [z5c,z5z,z36];refine zS fun t ht=>?_;have e:(prK x.sb c.sems.length).getD t (Enc.dft:Pv)=⟨x.sb t⟩:=z46 _ _ ht;rw [e,Nat.mul_one];rfl
theorem zhV:pts x.qa.b x.qa.o (cellsOf (prK x.qb c.queues.length))*z0F (fun t=>mqP (x.qb t) (zjm (lg c.queues t))) c.queues.length=zda x c (z34 c).ml:=by
 rw [z5c,z5z,z36];refine zS fun t ht=>?_;have e:(prK x.qb c.queues.length).getD t (Enc.dft:Pv)=⟨x.qb t⟩:=z46 _ _ ht;rw [e,Nat.mul_one];rfl
theorem ziF:pts x.ta.b x.ta.o (cellsOf (trK c x.tv c.ts.length))*z0F (fun t=>pts (x.tv t).b (x.tv t).o ((List.replicate (z1x c t) (0:Int)).map (Value.int .u32))) c.ts.length=zbd x c (fun t=>((z34 c).T t,(z34 c).tm t)):=by
 rw [z5c,zcr,z36];refine zS fun t ht=>?_;have e:(trK c x.tv c.ts.length).getD t (Enc.dft:Tr)=⟨zaJ c t,(x.tv t).ad (z1x c t),z1x c t,(x.tv t).cap⟩:=z46 _ _ ht;rw [e];show pts x.ta.b (x.ta.o+t*15) (tsL (zaJ c t)++cxL (zaJ c t).at_ (zaJ c t).rg _)*_=_;rw [zd,zb]
 rfl
end
theorem Sat.snoc {α:Type} {sz:Nat} [E:Enc α sz] {w0 w:World} {F:HP} {v:Value} {l:List α} {x:α} (hs:Sat w0 w (zX sz v (l.length+1) (cellsOf l++E.enc x)*F)):Sat w0 w (z7 v (l++[x])*F) :=
 hs.perm (by unfold z7;rw [List.length_append,z0g,zy,z1e,List.append_nil];rfl)
instance (b:Nat):zgX zjW [.pointer (some ⟨b,0,none⟩)] [⟨b⟩]:=⟨rfl⟩
theorem zhS (u:Int) (w0 w:World) (F:HP) (hs:Sat w0 w F) (h:1≤u∧u≤64) :
  Calls Tryz.prog 45 #[.int .i64 u] w (zp w0 (.tuple #[.pointer (some ⟨w.heap.size,0,none⟩),.int .i64 0]) (mqP w.heap.size (zjm u)*F)) :=
 zc1 u.toNat u (by omega) w0 w F hs h
theorem zmk (v:Value) (l:List Int) (m:Int) (w0 w:World) (F:HP) (hs:Sat w0 w (z5 .i64 v l*F)) (hl:l.length≤64) (hM:0≤m∧m≤32) (hv:ziX l) :
  Calls Tryz.prog 43 #[v,.int .i64 m] w (Ret w0 fun v'=>ex fun b:Nat=>pur (v'=.tuple #[.pointer (some ⟨b,0,none⟩),.int .i64 0])*(lkP b (z5x l m.toNat)*(z5 .i64 v l*F))):=by
 obtain ⟨M,rfl⟩:=Int.eq_ofNat_of_zero_le hM.1;refine (ze3 v l M w0 w F hs hl (by omega)).mono ?_;rintro en w' ⟨hy, -⟩;obtain ⟨b,rfl,h⟩:=hy hv;exact ⟨_,rfl,Sat.perm (Sat.ex_in (F:=emp) b (Sat.perm (Sat.pur_in rfl h) (zz _).symm)) (zz _)⟩
theorem zno {w0 w:World} (kb nb lb:Nat) (x:Cx0) (c:Cf) (hT hM:Nat→Hd) (sb qb:Nat→Nat) (ml ta1 sl ql:Option Addr) (mc0 tc1 sc0 qc0:Nat)
  (hs:Sat w0 w (pts kb 541 [.slice ml (mrK c hM c.ls.length).length mc0,.slice ta1 (trK c hT c.ts.length).length tc1,.pointer (some ⟨lb,0,none⟩),.slice sl (prK sb c.sems.length).length sc0,.slice ql (prK qb c.queues.length).length qc0,.pointer (some ⟨nb,0,none⟩),.int .u64 0,.bool false]*(z7 (.slice ml (mrK c hM c.ls.length).length mc0) (mrK c hM c.ls.length)*(z7 (.slice ta1 (trK c hT c.ts.length).length tc1) (trK c hT c.ts.length)*(z7 (.slice sl (prK sb c.sems.length).length sc0) (prK sb c.sems.length)*(z7 (.slice ql (prK qb c.queues.length).length qc0) (prK qb c.queues.length)*(z0F (fun t=>pts (hM t).b (hM t).o ((List.replicate (z1w c t) (0:Int)).map (Value.int .u32))) c.ls.length*(z0F (fun t=>pts (hT t).b (hT t).o ((List.replicate (z1x c t) (0:Int)).map (Value.int .u32))) c.ts.length*(z0F (fun t=>z3f (sb t) (lg c.sems t) []) c.sems.length*(z0F (fun t=>mqP (qb t) (zjm (lg c.queues t))) c.queues.length*(lkP lb (z5x (lvK c c.ts.length) c.mutexes.toNat)*(lnP nb ⟨2^c.ls.length-1,0,c.mask,255⟩*(z21 kb 2 (z0p c c.ts.length)*(pts kb 0 [.int .u64 c.count,.int .u64 c.cycle]*(pts kb 259 [.int .i64 c.table]*(rdP kb 260 (fun _=>[])*(pts kb 518 (cfL x c)*(pts kb 530 [.int .i64 255]*(pts kb 531 (cxL 0 r80 (.slice none 0 0))*(pts kb 549 [.slice none 0 0]*(cfH x c))))))))))))))))))))):Sat w0 w (ex fun y:Fx=>knP kb y c (z34 c)):=by
 obtain ⟨hm,em, -,hs⟩:=z2T (hs.pull (Q:=z7 (.slice ml (mrK c hM c.ls.length).length mc0) (mrK c hM c.ls.length)));obtain ⟨ht,et, -,hs⟩:=z2T (hs.pull (Q:=z7 (.slice ta1 (trK c hT c.ts.length).length tc1) (trK c hT c.ts.length)));obtain ⟨hS,eS, -,hs⟩:=z2T (hs.pull (Q:=z7 (.slice sl (prK sb c.sems.length).length sc0) (prK sb c.sems.length)));obtain ⟨hQ,eQ, -,hs⟩:=z2T (hs.pull (Q:=z7 (.slice ql (prK qb c.queues.length).length qc0) (prK qb c.queues.length)));rw [em,et,eS,eQ,zc3,zcr,z5z,z5z] at hs;obtain ⟨y,hy⟩:∃ y:Fx,y=⟨x,hm,hM,ht,hT,lb,hS,sb,hQ,qb,nb⟩:=⟨_,rfl⟩;have e1:=zkF y c;have e2:=ziF y c;have e3:=zl4 y c;have e4:=zhV y c;have h1:=Sat.ex_in (f:=fun v:Sh=>pts kb 531 (cxL 0 r80 v.v)) ⟨none,0,0⟩ (hs.pull (Q:=pts kb 531 (cxL 0 r80 (.slice none 0 0))));have h2:=z6A (v:=.slice none 0 0) (l:=[]) ((h1.pull (Q:=pts kb 549 [.slice none 0 0])).perm (by show _=_*(z7 (α:=Ev) (.slice none 0 0) []*_);rw [z03,zm]));refine Sat.perm (Sat.ex_in (F:=emp) y ?_) (zz _);refine h2.perm ?_;rw [zz];unfold knP;dsimp only [z34] at e1 e2 e3 e4 ⊢;rw [show zgU c=lvK c c.ts.length from rfl];rw [← e1,← e2,← e3,← e4,hy];dsimp only [kcL]
 ac_rfl
theorem zhA (v:Value) (c:Cf) (rg:z6B c) (sm:z5a c) (w0:World) (hr:z8I w0 v c) (hok:(z5g c).err=0) :
  Calls Tryz.prog 23 #[v] w0 (Ret w0 fun v'=>ex fun b:Nat=>ex fun y:Fx=>pur (v'=.tuple #[.pointer (some ⟨b,0,none⟩),ftV ft0])*knP b y c (z34 c)):=by
 have hs:=Sat.start w0;have ok:=z4E rg hok;have hnt:=ok.nt;have hnl:=ok.nl;have hns:=ok.ns;have hnq:=ok.nq;have hTm:=hid (fun t ht=>(ok.t t ht).2.2.2.2.1);have hLm:=hid (fun t ht=>(ok.l t ht).1);have OK:=hid ok;clear ok;have hA:=hid (fun (w:World) (h:Sat w0 w any)=>z9W v c rg w (hr.later h));have hB:=hid (fun (w:World) (h:Sat w0 w any)=>zcG v c sm w (hr.later h));obtain ⟨ta,la,sa,qa,ma,tc,lc,sc,qc,mc,rfl,h1,h2,h3,h4,h5⟩:=hr.form;clear hr h1 h2 h3 h4 h5
 go_enter Tryz.func23,Tryz.ntmps23
 go_wp2_with fail;refine (hA.out _ z3).mono ?_;rintro en w1 ⟨rfl,hs1⟩;have hs2:=Sat.past (w0:=w0) z6 hs1;clear hs1 hs;unfold ftV;go_wp2_with fail;refine (hB.out _ z3).mono ?_;rintro en w3 ⟨v3,rfl,hs3⟩;obtain ⟨x,hs4⟩:=(hs3.perm (zz _).symm).ex_out;obtain ⟨⟨e3,hcap⟩,hs5⟩:=(hs4.perm (zb _ _ _)).pur_out;clear hs3 hs4;have hs6:=Sat.over (w0:=w0) z6 hs5;clear hs5 hs2;have e4:v3=.agg #[.slice (x.ct.ad c.ts.length) c.ts.length x.ct.cap,.slice (x.cl.ad c.ls.length) c.ls.length x.cl.cap,.int .i64 c.mutexes,.slice (x.cs.ad c.sems.length) c.sems.length x.cs.cap,.slice (x.cq.ad c.queues.length) c.queues.length x.cq.cap,.slice (x.cm.ad c.timers.length) c.timers.length x.cm.cap,.int .i64 c.table,.int .u32 c.mask,.int .u32 c.filter,.int .i64 c.charge,.int .u64 c.cycle,.int .u64 c.count]:=e3;clear e3;obtain ⟨at0,hA0⟩:∃ a,x.ct.ad c.ts.length=a:=⟨_,rfl⟩;obtain ⟨al0,hL0⟩:∃ a,x.cl.ad c.ls.length=a:=⟨_,rfl⟩;obtain ⟨as0,hS0⟩:∃ a,x.cs.ad c.sems.length=a:=⟨_,rfl⟩;obtain ⟨aq0,hQ0⟩:∃ a,x.cq.ad c.queues.length=a:=⟨_,rfl⟩;rw [hA0,hL0,hS0,hQ0] at e4;have HA0:=hid hA0;have HL0:=hid hL0;have HS0:=hid hS0;have HQ0:=hid hQ0;have HC:=hid hcap;clear hA0 hL0 hS0 hQ0 hcap;subst e4;have hs7:Sat w0 w3 (pts w0.heap.size 0 [.slice ta c.ts.length tc,.slice la c.ls.length lc,.int .i64 c.mutexes,.slice sa c.sems.length sc,.slice qa c.queues.length qc,.slice ma c.timers.length mc,.int .i64 c.table,.int .u32 c.mask,.int .u32 c.filter,.int .i64 c.charge,.int .u64 c.cycle,.int .u64 c.count]*(pts (w0.heap.size+1) 0 [.int .i64 0,.int .i64 0,.int .i64 0,.int .i64 0]*cfH x c)):=z3;clear hs6
 go_simp
 iterate 9 (first | go_values | go_skip | go_guarded | go_step | go_upon | go_back | go_simp)
 refine zev (w0:=w0) ?_;intro w4 hs8;clear hs7
 iterate 30 (first | go_values | go_skip | go_guarded | go_step | go_upon | go_back | go_simp)
 refine z9 (w0:=w0) ?_;intro w5 hs9;clear hs8;generalize w4.heap.size=kb at *;generalize Value.agg (Array.setIfInBounds _ 1 _)=vK;go_wp2_with fail;refine z9 (w0:=w0) ?_;intro w6 hsw;clear hs9
 go_loopw [6,44] (fun lvv i wr=>∃ k:Nat, ∃ lva:Option Addr, ∃ lvc:Nat, ∃ ta1:Option Addr, ∃ tc1:Nat, ∃ hT:Nat→Hd, ∃ lv:List Int, ∃ tr:List Tr,k≤c.ts.length∧lvv=.slice lva lv.length lvc∧i=.int .i64 k∧(lv=lvK c k∧tr=trK c hT k∧∀ t,t<k→z1x c t≤(hT t).cap∧(hT t).cap≤maxLen)∧Sat w0 wr (pts kb 541 [.slice none 0 0,.slice ta1 tr.length tc1,.pointer none,.slice none 0 0,.slice none 0 0,.pointer none,.int .u64 0,.bool false]*(z21 kb 2 (z0p c k)*(z5 .i64 (.slice lva lv.length lvc) lv*(z7 (.slice ta1 tr.length tc1) tr*(z0F (fun t=>pts (hT t).b (hT t).o ((List.replicate (z1x c t) (0:Int)).map (Value.int .u32))) k*(pts kb 0 [.int .u64 c.count,.int .u64 c.cycle]*(pts kb 259 [.int .i64 c.table]*(rdP kb 260 (fun _=>[])*(pts kb 518 [.slice at0 c.ts.length x.ct.cap,.slice al0 c.ls.length x.cl.cap,.int .i64 c.mutexes,.slice as0 c.sems.length x.cs.cap,.slice aq0 c.queues.length x.cq.cap,.slice (x.cm.ad c.timers.length) c.timers.length x.cm.cap,.int .i64 c.table,.int .u32 c.mask,.int .u32 c.filter,.int .i64 c.charge,.int .u64 c.cycle,.int .u64 c.count]*(pts kb 530 [.int .i64 255]*(pts kb 531 (cxL 0 r80 (.slice none 0 0))*(pts kb 549 [.slice none 0 0]*(pts w0.heap.size 0 [.slice at0 c.ts.length x.ct.cap,.slice al0 c.ls.length x.cl.cap,.int .i64 c.mutexes,.slice as0 c.sems.length x.cs.cap,.slice aq0 c.queues.length x.cq.cap,.slice (x.cm.ad c.timers.length) c.timers.length x.cm.cap,.int .i64 c.table,.int .u32 c.mask,.int .u32 c.filter,.int .i64 c.charge,.int .u64 c.cycle,.int .u64 c.count]*(pts (w0.heap.size+1) 0 [.int .i64 0,.int .i64 0,.int .i64 0,.int .i64 0]*(cfH x c*(any))))))))))))))))) (fun _ i _=>c.ts.length-(intOf i).toNat)
 case atStart =>
  refine ⟨0,none,0,none,0,fun _=>⟨none,0,0,0⟩,[],[],Nat.zero_le _,rfl,rfl,⟨rfl,rfl,fun t ht=>absurd ht (by omega)⟩,?_⟩;refine mpS (P:=pts kb 541 [.slice none 0 0,.slice none 0 0,.pointer none,.slice none 0 0,.slice none 0 0,.pointer none,.int .u64 0,.bool false]*(z21 kb 2 []*(pts kb 0 [.int .u64 c.count,.int .u64 c.cycle]*(pts kb 259 [.int .i64 c.table]*(rdP kb 260 (fun _=>[])*(pts kb 518 [.slice at0 c.ts.length x.ct.cap,.slice al0 c.ls.length x.cl.cap,.int .i64 c.mutexes,.slice as0 c.sems.length x.cs.cap,.slice aq0 c.queues.length x.cq.cap,.slice (x.cm.ad c.timers.length) c.timers.length x.cm.cap,.int .i64 c.table,.int .u32 c.mask,.int .u32 c.filter,.int .i64 c.charge,.int .u64 c.cycle,.int .u64 c.count]*(pts kb 530 [.int .i64 255]*(pts kb 531 (cxL 0 r80 (.slice none 0 0))*(pts kb 549 [.slice none 0 0]*(pts w0.heap.size 0 [.slice at0 c.ts.length x.ct.cap,.slice al0 c.ls.length x.cl.cap,.int .i64 c.mutexes,.slice as0 c.sems.length x.cs.cap,.slice aq0 c.queues.length x.cq.cap,.slice (x.cm.ad c.timers.length) c.timers.length x.cm.cap,.int .i64 c.table,.int .u32 c.mask,.int .u32 c.filter,.int .i64 c.charge,.int .u64 c.cycle,.int .u64 c.count]*(pts (w0.heap.size+1) 0 [.int .i64 0,.int .i64 0,.int .i64 0,.int .i64 0]*(cfH x c*(any))))))))))))) z3 (fun hz=>hz.perm (by show _=_*(_*(z5 .i64 (.slice none 0 0) []*(z7 (α:=Tr) (.slice none 0 0) []*(emp*_))));rw [z1r,z03,zm,zm,zm];rfl))
 case round =>
  obtain ⟨k,lva,lvc,ta1,tc1,hT,lv,tr,hk,rfl,rfl,hI,hsr⟩:=hrel;clear hsw;have Hl1:lv.length=k:=by rw [hI.1];exact zkD c k
  have Hl2:tr.length=k:=by rw [hI.2.1];exact zcr c hT k
  have hl1:lv.length≤64:=by omega
  have hl2:tr.length≤64:=by omega
  have HI:=hid hI;clear hI Hl1 Hl2
  by_cases hlt:k<c.ts.length
  ·have d3:decide (k<c.ts.length)=true:=decide_eq_true hlt;have i3:(k:Int)<(c.ts.length:Int):=by omega
   obtain rfl:at0=some ⟨x.ct.b,x.ct.o,none⟩:=HA0.out.symm.trans (x.ct.ad_pos (by omega));haveI:Lt k c.ts.length:=⟨hlt⟩;have hmem:(tcg c k).mem=((z1x c k:Nat):Int):=by have:=hTm.out k hlt;unfold z1x;omega
   have hm256:z1x c k≤256:=by have:=hTm.out k hlt;unfold z1x;omega
   have hmk:=hid (zfQ (z1x c k) hm256);go_wp2_with (first | (at_builtin;refine z06 rfl rfl rfl rfl (by omega) ?_;intro ap ac aL aw ahL ah1 ah2 ahs _) | (refine z0l rfl rfl rfl rfl (by omega) (by omega) ?_;intro px pc pL php phL ph1 ph2) | (refine z0B rfl rfl rfl rfl (by omega) (by omega) ?_;intro px pc pL php phL ph1 ph2));refine z9 (w0:=w0) ?_;intro wy hsy;clear hsr;generalize wr.heap.size=tb at *;refine zv (fun w'=>w'.cell? ⟨kb,542,none⟩=some (.slice ta1 tr.length tc1)∧w'.cell? ⟨tb,0,none⟩=some (.int .i64 (tcg c k).lev)∧w'.cell? ⟨tb,4,none⟩=some (.int .i64 (z1x c k))) 16 [(0,0),(1,0),(2,0),(3,0),(4,1),(5,0),(6,1),(7,0),(8,1),(9,2),(10,0),(11,0),(12,2),(13,2),(14,0),(15,0),(16,3)] (by kernel_rfl) (by kernel_rfl) (fun _ _ _ _ h=>h) ⟨z4,z4,z4⟩ ?_
   iterate 9 (first | refine zsW ?_ | refine zsY ?_ | refine zsV ?_ | refine zsX ?_)
   have hmk:=hmk.out;refine zpR rfl (by rfl) (fun K hK=>?_);go_wp2_with fail;refine ⟨⟨z4,z4,z4⟩,?_⟩;refine z4Q (w0:=w0) ?_;intro wz hsz;clear hsy;generalize wy.heap.size=mb at *
   iterate 2 (first | refine zsW ?_ | refine zsY ?_ | refine zsV ?_ | refine zsX ?_)
   refine zpR rfl (by rfl) (fun K hK=>?_);go_wp2_with fail;refine ⟨⟨z4,z4,z4⟩,?_⟩;refine z4Q (w0:=w0) ?_;intro w10 hs10;clear hsz;generalize wz.heap.size=nb at *;refine zpR rfl (by rfl) (fun K hK=>?_);refine z0E (.tmp 58) (.tmp 66) rfl zj7 rfl (own:Sat w0 w10 (z7 (.slice ta1 tr.length tc1) tr*_)) (some ⟨nb,0,none⟩) 1 1 (zjX.enc ⟨zaJ c k,some ⟨mb,0,none⟩,z1x c k,z1x c k⟩) rfl rfl (by simp) (fun a ha j u hj=>?_) (zjX.one _) (by unfold maxLen;omega) (by omega) ?_
   ·obtain rfl:=Option.some.inj ha;have:=hs10.cell hj;rw [Nat.zero_add] at this;rw [← this];cases j<;>simp [Addr.add]
   intro v11 w11 hs11 _;have hs12:=Sat.snoc hs11;clear hs10 hs11;obtain ⟨tr2,htr2⟩:∃ l,l=tr++[⟨zaJ c k,some ⟨mb,0,none⟩,z1x c k,z1x c k⟩]:=⟨_,rfl⟩;have hl3:tr2.length≤65:=by rw [htr2,List.length_append];simp;omega
   rw [← htr2] at hs12;obtain ⟨ta2,tc2,rfl⟩:=hs12.recs_form;have Htr2:=hid htr2;clear htr2;refine hK _ _ ⟨⟨z4,z4,z4⟩,?_⟩;clear hK K;simp only [Act.put,zqA,zqP,zqQ]
   iterate 2 (first | refine zsW ?_ | refine zsY ?_ | refine zsV ?_ | refine zsX ?_)
   refine z14 (fun K hK=>?_);simp only [zqS,zqZ];rw [if_pos (by rfl)];go_wp2_with fail;refine z0a ?_;go_wp2_with fail;refine z9 (w0:=w0) ?_;intro wx hsx;go_still_tail 7,(by kernel_rfl);change wpList _ _ _ _ _ wx.drew;go_wp2_with fail;refine (zj5 kb 2 (z0p c k) _ _ w0 _ _ own (z5e c k)).mono ?_;rintro en w14 ⟨rfl,hs14⟩;clear hs12 hsx;go_wp2_with fail;go_roundw
   case rel =>
    have hI:=HI.out;have e2:(⟨some ⟨mb,0,none⟩,mb,0,z1x c k⟩:Hd).ad (z1x c k)=some ⟨mb,0,none⟩:=by unfold Hd.ad;split<;>rfl
    refine ⟨k+1,ap,ac,ta2,tc2,upd hT k ⟨some ⟨mb,0,none⟩,mb,0,z1x c k⟩,aL,tr2,by omega,rfl,by go_num,⟨?_,?_,fun t ht=>?_⟩,?_⟩
    ·rw [ahL,hI.1,zhM]
    ·rw [Htr2.out,hI.2.1,ziO,e2]
    ·by_cases e:t=k
     ·rw [e,zK];exact ⟨Nat.le_refl _,by unfold maxLen;show z1x c k≤_;omega⟩
     ·rw [zL _ _ e];exact hI.2.2 t (by omega)
    ·rw [z6h (f:=fun t h=>pts h.b h.o ((List.replicate (z1x c t) (0:Int)).map (Value.int .u32))),z9V];exact Sat.perm (show Sat w0 _ (pts kb 541 [.slice none 0 0,.slice ta2 tr2.length tc2,.pointer none,.slice none 0 0,.slice none 0 0,.pointer none,.int .u64 0,.bool false]*(z21 kb 2 (z5B (z0p c k) (k:Int) (tcg c k).off)*(z5 .i64 (.slice ap aL.length ac) aL*(z7 (.slice ta2 tr2.length tc2) tr2*(z0F (fun t=>pts (hT t).b (hT t).o ((List.replicate (z1x c t) (0:Int)).map (Value.int .u32))) k*(pts mb 0 ((List.replicate (z1x c k) (0:Int)).map (Value.int .u32))*(pts kb 0 [.int .u64 c.count,.int .u64 c.cycle]*(pts kb 259 [.int .i64 c.table]*(rdP kb 260 (fun _=>[])*(pts kb 518 [.slice (some ⟨x.ct.b,x.ct.o,none⟩) c.ts.length x.ct.cap,.slice al0 c.ls.length x.cl.cap,.int .i64 c.mutexes,.slice as0 c.sems.length x.cs.cap,.slice aq0 c.queues.length x.cq.cap,.slice (x.cm.ad c.timers.length) c.timers.length x.cm.cap,.int .i64 c.table,.int .u32 c.mask,.int .u32 c.filter,.int .i64 c.charge,.int .u64 c.cycle,.int .u64 c.count]*(pts kb 530 [.int .i64 255]*(pts kb 531 (cxL 0 r80 (.slice none 0 0))*(pts kb 549 [.slice none 0 0]*(pts w0.heap.size 0 [.slice (some ⟨x.ct.b,x.ct.o,none⟩) c.ts.length x.ct.cap,.slice al0 c.ls.length x.cl.cap,.int .i64 c.mutexes,.slice as0 c.sems.length x.cs.cap,.slice aq0 c.queues.length x.cq.cap,.slice (x.cm.ad c.timers.length) c.timers.length x.cm.cap,.int .i64 c.table,.int .u32 c.mask,.int .u32 c.filter,.int .i64 c.charge,.int .u64 c.cycle,.int .u64 c.count]*(pts (w0.heap.size+1) 0 [.int .i64 0,.int .i64 0,.int .i64 0,.int .i64 0]*(cfH x c*(any))))))))))))))))) from z3) (by ac_rfl)
   case measure=>simp [intOf];omega
  ·have hkn:k=c.ts.length:=by omega
   subst hkn;have d3:decide (c.ts.length<c.ts.length)=false:=by simp
   clear hlt hk;go_wp2_with fail;refine z9 (w0:=w0) ?_;intro w16 hs16;clear hsr
   go_loopw [82] (fun i wr=>∃ k:Nat, ∃ ml:Option Addr, ∃ mc0:Nat, ∃ hM:Nat→Hd, ∃ mr:List Mv,k≤c.ls.length∧i=.int .i64 k∧(mr=mrK c hM k∧∀ t,t<k→z1w c t≤(hM t).cap∧(hM t).cap≤maxLen)∧Sat w0 wr (pts kb 541 [.slice ml mr.length mc0,.slice ta1 tr.length tc1,.pointer none,.slice none 0 0,.slice none 0 0,.pointer none,.int .u64 0,.bool false]*(z7 (.slice ml mr.length mc0) mr*(z0F (fun t=>pts (hM t).b (hM t).o ((List.replicate (z1w c t) (0:Int)).map (Value.int .u32))) k*(z21 kb 2 (z0p c c.ts.length)*(z5 .i64 (.slice lva lv.length lvc) lv*(z7 (.slice ta1 tr.length tc1) tr*(z0F (fun t=>pts (hT t).b (hT t).o ((List.replicate (z1x c t) (0:Int)).map (Value.int .u32))) c.ts.length*(pts kb 0 [.int .u64 c.count,.int .u64 c.cycle]*(pts kb 259 [.int .i64 c.table]*(rdP kb 260 (fun _=>[])*(pts kb 518 [.slice at0 c.ts.length x.ct.cap,.slice al0 c.ls.length x.cl.cap,.int .i64 c.mutexes,.slice as0 c.sems.length x.cs.cap,.slice aq0 c.queues.length x.cq.cap,.slice (x.cm.ad c.timers.length) c.timers.length x.cm.cap,.int .i64 c.table,.int .u32 c.mask,.int .u32 c.filter,.int .i64 c.charge,.int .u64 c.cycle,.int .u64 c.count]*(pts kb 530 [.int .i64 255]*(pts kb 531 (cxL 0 r80 (.slice none 0 0))*(pts kb 549 [.slice none 0 0]*(pts w0.heap.size 0 [.slice at0 c.ts.length x.ct.cap,.slice al0 c.ls.length x.cl.cap,.int .i64 c.mutexes,.slice as0 c.sems.length x.cs.cap,.slice aq0 c.queues.length x.cq.cap,.slice (x.cm.ad c.timers.length) c.timers.length x.cm.cap,.int .i64 c.table,.int .u32 c.mask,.int .u32 c.filter,.int .i64 c.charge,.int .u64 c.cycle,.int .u64 c.count]*(pts (w0.heap.size+1) 0 [.int .i64 0,.int .i64 0,.int .i64 0,.int .i64 0]*(cfH x c*(any))))))))))))))))))) (fun i _=>c.ls.length-(intOf i).toNat)
   case atStart =>
    refine ⟨0,none,0,fun _=>⟨none,0,0,0⟩,[],Nat.zero_le _,rfl,⟨rfl,fun t ht=>absurd ht (by omega)⟩,?_⟩;refine mpS (P:=pts kb 541 [.slice none 0 0,.slice ta1 tr.length tc1,.pointer none,.slice none 0 0,.slice none 0 0,.pointer none,.int .u64 0,.bool false]*(z21 kb 2 (z0p c c.ts.length)*(z5 .i64 (.slice lva lv.length lvc) lv*(z7 (.slice ta1 tr.length tc1) tr*(z0F (fun t=>pts (hT t).b (hT t).o ((List.replicate (z1x c t) (0:Int)).map (Value.int .u32))) c.ts.length*(pts kb 0 [.int .u64 c.count,.int .u64 c.cycle]*(pts kb 259 [.int .i64 c.table]*(rdP kb 260 (fun _=>[])*(pts kb 518 [.slice at0 c.ts.length x.ct.cap,.slice al0 c.ls.length x.cl.cap,.int .i64 c.mutexes,.slice as0 c.sems.length x.cs.cap,.slice aq0 c.queues.length x.cq.cap,.slice (x.cm.ad c.timers.length) c.timers.length x.cm.cap,.int .i64 c.table,.int .u32 c.mask,.int .u32 c.filter,.int .i64 c.charge,.int .u64 c.cycle,.int .u64 c.count]*(pts kb 530 [.int .i64 255]*(pts kb 531 (cxL 0 r80 (.slice none 0 0))*(pts kb 549 [.slice none 0 0]*(pts w0.heap.size 0 [.slice at0 c.ts.length x.ct.cap,.slice al0 c.ls.length x.cl.cap,.int .i64 c.mutexes,.slice as0 c.sems.length x.cs.cap,.slice aq0 c.queues.length x.cq.cap,.slice (x.cm.ad c.timers.length) c.timers.length x.cm.cap,.int .i64 c.table,.int .u32 c.mask,.int .u32 c.filter,.int .i64 c.charge,.int .u64 c.cycle,.int .u64 c.count]*(pts (w0.heap.size+1) 0 [.int .i64 0,.int .i64 0,.int .i64 0,.int .i64 0]*(cfH x c*(any)))))))))))))))) z3 (fun hz=>hz.perm (by show _=_*(z7 (α:=Mv) (.slice none 0 0) []*(emp*_));rw [z03,zm,zm];rfl))
   case round =>
    obtain ⟨k,ml,mc0,hM,mr,hk,rfl,hJ,hsr⟩:=hrel;clear hs16;have hl4:mr.length≤16:=by rw [hJ.1,zc3];omega
    have HJ:=hid hJ;clear hJ
    by_cases hlt:k<c.ls.length
    ·have d4:decide (k<c.ls.length)=true:=decide_eq_true hlt;have i4:(k:Int)<(c.ls.length:Int):=by omega
     obtain rfl:al0=some ⟨x.cl.b,x.cl.o,none⟩:=HL0.out.symm.trans (x.cl.ad_pos (by omega));haveI:Lt k c.ls.length:=⟨hlt⟩;have hmem:(lcg c k).mem=((z1w c k:Nat):Int):=by have:=hLm.out k hlt;unfold z1w;omega
     have hm256:z1w c k≤256:=by have:=hLm.out k hlt;unfold z1w;omega
     have hmk:=hid (zfQ (z1w c k) hm256);go_wp2_with fail;refine z9 (w0:=w0) ?_;intro wy hsy;clear hsr;generalize wr.heap.size=tb at *;refine zv (fun w'=>w'.cell? ⟨kb,541,none⟩=some (.slice ml mr.length mc0)∧w'.cell? ⟨tb,0,none⟩=some (.int .i64 (z1w c k))) 12 [(0,0),(1,0),(2,0),(3,0),(4,1),(5,0),(6,1),(7,2),(8,2),(9,2),(10,0),(11,0),(12,3)] (by kernel_rfl) (by kernel_rfl) (fun _ _ _ _ h=>h) ⟨z4,z4⟩ ?_
     iterate 7 (first | refine zsW ?_ | refine zsY ?_ | refine zsV ?_ | refine zsX ?_)
     have hmk:=hmk.out;refine zpR rfl (by rfl) (fun K hK=>?_);go_wp2_with fail;refine ⟨⟨z4,z4⟩,?_⟩;refine z4Q (w0:=w0) ?_;intro wz hsz;clear hsy;generalize wy.heap.size=mb at *;refine zpR rfl (by rfl) (fun K hK=>?_);go_wp2_with fail;refine ⟨⟨z4,z4⟩,?_⟩;refine z4Q (w0:=w0) ?_;intro w10 hs10;clear hsz;generalize wz.heap.size=nb at *;refine zpR rfl (by rfl) (fun K hK=>?_);refine z0E (.tmp 90) (.tmp 94) rfl zj6 rfl (own:Sat w0 w10 (z7 (.slice ml mr.length mc0) mr*_)) (some ⟨nb,0,none⟩) 1 1 (z6P.enc ⟨some ⟨mb,0,none⟩,z1w c k,z1w c k⟩) rfl rfl (by simp) (fun a ha j u hj=>?_) (z6P.one _) (by unfold maxLen;omega) (by omega) ?_
     ·obtain rfl:=Option.some.inj ha;have:=hs10.cell hj;rw [Nat.zero_add] at this;rw [← this];cases j<;>simp [Addr.add]
     intro v11 w11 hs11 _;have hs12:=Sat.snoc hs11;clear hs10 hs11;obtain ⟨mr2,hmr2⟩:∃ l,l=mr++[⟨some ⟨mb,0,none⟩,z1w c k,z1w c k⟩]:=⟨_,rfl⟩;have hl5:mr2.length≤17:=by rw [hmr2,List.length_append];simp;omega
     rw [← hmr2] at hs12;obtain ⟨ml2,mc2,rfl⟩:=hs12.recs_form;have Hmr2:=hid hmr2;clear hmr2;refine hK _ _ ⟨⟨z4,z4⟩,?_⟩;clear hK K;simp only [Act.put,zqA,zqP,zqQ]
     iterate 2 (first | refine zsW ?_ | refine zsY ?_ | refine zsV ?_ | refine zsX ?_)
     refine z14 (fun K hK=>?_);simp only [zqS,zqZ];rw [if_pos (by rfl)];go_wp2_with fail;refine z0a ?_;go_wp2_with fail;go_roundw
     case rel =>
      have hJ:=HJ.out;have e2:(⟨some ⟨mb,0,none⟩,mb,0,z1w c k⟩:Hd).ad (z1w c k)=some ⟨mb,0,none⟩:=by unfold Hd.ad;split<;>rfl
      refine ⟨k+1,ml2,mc2,upd hM k ⟨some ⟨mb,0,none⟩,mb,0,z1w c k⟩,mr2,by omega,by go_num,⟨?_,fun t ht=>?_⟩,?_⟩
      ·rw [Hmr2.out,hJ.1,zi1,e2]
      ·by_cases e:t=k
       ·rw [e,zK];exact ⟨Nat.le_refl _,by unfold maxLen;show z1w c k≤_;omega⟩
       ·rw [zL _ _ e];exact hJ.2 t (by omega)
      ·rw [z6h (f:=fun t h=>pts h.b h.o ((List.replicate (z1w c t) (0:Int)).map (Value.int .u32)))];exact Sat.perm (show Sat w0 _ (pts kb 541 [.slice ml2 mr2.length mc2,.slice ta1 tr.length tc1,.pointer none,.slice none 0 0,.slice none 0 0,.pointer none,.int .u64 0,.bool false]*(z7 (.slice ml2 mr2.length mc2) mr2*(z0F (fun t=>pts (hM t).b (hM t).o ((List.replicate (z1w c t) (0:Int)).map (Value.int .u32))) k*(pts mb 0 ((List.replicate (z1w c k) (0:Int)).map (Value.int .u32))*(z21 kb 2 (z0p c c.ts.length)*(z5 .i64 (.slice lva lv.length lvc) lv*(z7 (.slice ta1 tr.length tc1) tr*(z0F (fun t=>pts (hT t).b (hT t).o ((List.replicate (z1x c t) (0:Int)).map (Value.int .u32))) c.ts.length*(pts kb 0 [.int .u64 c.count,.int .u64 c.cycle]*(pts kb 259 [.int .i64 c.table]*(rdP kb 260 (fun _=>[])*(pts kb 518 [.slice at0 c.ts.length x.ct.cap,.slice (some ⟨x.cl.b,x.cl.o,none⟩) c.ls.length x.cl.cap,.int .i64 c.mutexes,.slice as0 c.sems.length x.cs.cap,.slice aq0 c.queues.length x.cq.cap,.slice (x.cm.ad c.timers.length) c.timers.length x.cm.cap,.int .i64 c.table,.int .u32 c.mask,.int .u32 c.filter,.int .i64 c.charge,.int .u64 c.cycle,.int .u64 c.count]*(pts kb 530 [.int .i64 255]*(pts kb 531 (cxL 0 r80 (.slice none 0 0))*(pts kb 549 [.slice none 0 0]*(pts w0.heap.size 0 [.slice at0 c.ts.length x.ct.cap,.slice (some ⟨x.cl.b,x.cl.o,none⟩) c.ls.length x.cl.cap,.int .i64 c.mutexes,.slice as0 c.sems.length x.cs.cap,.slice aq0 c.queues.length x.cq.cap,.slice (x.cm.ad c.timers.length) c.timers.length x.cm.cap,.int .i64 c.table,.int .u32 c.mask,.int .u32 c.filter,.int .i64 c.charge,.int .u64 c.cycle,.int .u64 c.count]*(pts (w0.heap.size+1) 0 [.int .i64 0,.int .i64 0,.int .i64 0,.int .i64 0]*(cfH x c*(any))))))))))))))))))) from z3) (by ac_rfl)
     case measure=>simp [intOf];omega
    ·have hkn:k=c.ls.length:=by omega
     subst hkn;have d4:decide (c.ls.length<c.ls.length)=false:=by simp
     clear hlt hk;go_wp2_with fail;refine (zmk _ lv c.mutexes w0 _ _ own hl1 OK.out.mu (by rw [HI.out.1];exact (fun x hx=>by obtain ⟨t,ht,rfl⟩:=List.mem_map.1 hx;exact (OK.out.t t (List.mem_range.1 ht)).1))).mono ?_;rintro en w20 ⟨v20,rfl,hs20⟩;obtain ⟨lb,hs21⟩:=(hs20.perm (zz _).symm).ex_out;obtain ⟨e20,hs22⟩:=(hs21.perm (zb _ _ _)).pur_out;subst e20;have hs23:=hs22.perm (zz _);clear hs20 hs21 hs22 hsr;go_wp2_with fail;refine z9 (w0:=w0) ?_;intro w24 hs24;clear hs23
     go_loopw [112] (fun i wr=>∃ k:Nat, ∃ sl:Option Addr, ∃ sc0:Nat, ∃ sb:Nat→Nat, ∃ sr:List Pv,k≤c.sems.length∧i=.int .i64 k∧sr=prK sb k∧Sat w0 wr (pts kb 541 [.slice ml mr.length mc0,.slice ta1 tr.length tc1,.pointer (some ⟨lb,0,none⟩),.slice sl sr.length sc0,.slice none 0 0,.pointer none,.int .u64 0,.bool false]*(z7 (.slice sl sr.length sc0) sr*(z0F (fun t=>z3f (sb t) (lg c.sems t) []) k*(lkP lb (z5x lv c.mutexes.toNat)*(z7 (.slice ml mr.length mc0) mr*(z0F (fun t=>pts (hM t).b (hM t).o ((List.replicate (z1w c t) (0:Int)).map (Value.int .u32))) c.ls.length*(z21 kb 2 (z0p c c.ts.length)*(z5 .i64 (.slice lva lv.length lvc) lv*(z7 (.slice ta1 tr.length tc1) tr*(z0F (fun t=>pts (hT t).b (hT t).o ((List.replicate (z1x c t) (0:Int)).map (Value.int .u32))) c.ts.length*(pts kb 0 [.int .u64 c.count,.int .u64 c.cycle]*(pts kb 259 [.int .i64 c.table]*(rdP kb 260 (fun _=>[])*(pts kb 518 [.slice at0 c.ts.length x.ct.cap,.slice al0 c.ls.length x.cl.cap,.int .i64 c.mutexes,.slice as0 c.sems.length x.cs.cap,.slice aq0 c.queues.length x.cq.cap,.slice (x.cm.ad c.timers.length) c.timers.length x.cm.cap,.int .i64 c.table,.int .u32 c.mask,.int .u32 c.filter,.int .i64 c.charge,.int .u64 c.cycle,.int .u64 c.count]*(pts kb 530 [.int .i64 255]*(pts kb 531 (cxL 0 r80 (.slice none 0 0))*(pts kb 549 [.slice none 0 0]*(pts w0.heap.size 0 [.slice at0 c.ts.length x.ct.cap,.slice al0 c.ls.length x.cl.cap,.int .i64 c.mutexes,.slice as0 c.sems.length x.cs.cap,.slice aq0 c.queues.length x.cq.cap,.slice (x.cm.ad c.timers.length) c.timers.length x.cm.cap,.int .i64 c.table,.int .u32 c.mask,.int .u32 c.filter,.int .i64 c.charge,.int .u64 c.cycle,.int .u64 c.count]*(pts (w0.heap.size+1) 0 [.int .i64 0,.int .i64 0,.int .i64 0,.int .i64 0]*(cfH x c*(any)))))))))))))))))))))) (fun i _=>c.sems.length-(intOf i).toNat)
     case atStart =>
      refine ⟨0,none,0,fun _=>0,[],Nat.zero_le _,rfl,rfl,?_⟩;refine mpS (P:=pts kb 541 [.slice ml mr.length mc0,.slice ta1 tr.length tc1,.pointer (some ⟨lb,0,none⟩),.slice none 0 0,.slice none 0 0,.pointer none,.int .u64 0,.bool false]*(lkP lb (z5x lv c.mutexes.toNat)*(z7 (.slice ml mr.length mc0) mr*(z0F (fun t=>pts (hM t).b (hM t).o ((List.replicate (z1w c t) (0:Int)).map (Value.int .u32))) c.ls.length*(z21 kb 2 (z0p c c.ts.length)*(z5 .i64 (.slice lva lv.length lvc) lv*(z7 (.slice ta1 tr.length tc1) tr*(z0F (fun t=>pts (hT t).b (hT t).o ((List.replicate (z1x c t) (0:Int)).map (Value.int .u32))) c.ts.length*(pts kb 0 [.int .u64 c.count,.int .u64 c.cycle]*(pts kb 259 [.int .i64 c.table]*(rdP kb 260 (fun _=>[])*(pts kb 518 [.slice at0 c.ts.length x.ct.cap,.slice al0 c.ls.length x.cl.cap,.int .i64 c.mutexes,.slice as0 c.sems.length x.cs.cap,.slice aq0 c.queues.length x.cq.cap,.slice (x.cm.ad c.timers.length) c.timers.length x.cm.cap,.int .i64 c.table,.int .u32 c.mask,.int .u32 c.filter,.int .i64 c.charge,.int .u64 c.cycle,.int .u64 c.count]*(pts kb 530 [.int .i64 255]*(pts kb 531 (cxL 0 r80 (.slice none 0 0))*(pts kb 549 [.slice none 0 0]*(pts w0.heap.size 0 [.slice at0 c.ts.length x.ct.cap,.slice al0 c.ls.length x.cl.cap,.int .i64 c.mutexes,.slice as0 c.sems.length x.cs.cap,.slice aq0 c.queues.length x.cq.cap,.slice (x.cm.ad c.timers.length) c.timers.length x.cm.cap,.int .i64 c.table,.int .u32 c.mask,.int .u32 c.filter,.int .i64 c.charge,.int .u64 c.cycle,.int .u64 c.count]*(pts (w0.heap.size+1) 0 [.int .i64 0,.int .i64 0,.int .i64 0,.int .i64 0]*(cfH x c*(any))))))))))))))))))) z3 (fun hz=>hz.perm (by show _=_*(z7 (α:=Pv) (.slice none 0 0) []*(emp*_));rw [z03,zm,zm];rfl))
     case round =>
      obtain ⟨k,sl,sc0,sb,sr,hk,rfl,hJ,hsr⟩:=hrel;clear hs24;have hl_sr:sr.length≤32:=by have:=OK.out.ns;rw [hJ,z5z];omega
      have HJ_sr:=hid hJ;clear hJ
      by_cases hlt:k<c.sems.length
      ·have d_sr:decide (k<c.sems.length)=true:=decide_eq_true hlt;have i_sr:(k:Int)<(c.sems.length:Int):=by omega
       obtain rfl:as0=some ⟨x.cs.b,x.cs.o,none⟩:=HS0.out.symm.trans (x.cs.ad_pos (by omega));haveI:Lt k c.sems.length:=⟨hlt⟩;go_wp2_with fail;refine (zen (lg c.sems k) w0 _ _ z6 (OK.out.sems _ (ze1 hlt))).mono ?_;rintro en w26 ⟨rfl,hs26⟩;clear hsr;generalize wr.heap.size=pb at *;go_wp2_with (first | (at_builtin;refine zA rfl rfl rfl rfl (by omega) ?_;intro ap ac aL aw ahL ah1 ah2 ahs _) | (refine z07 rfl rfl rfl rfl (by omega) (by omega) ?_;intro px pc pL php phL ph1 ph2) | (refine z0r rfl rfl rfl rfl (by omega) (by omega) ?_;intro px pc pL php phL ph1 ph2));go_roundw
       case rel =>
        refine ⟨k+1,ap,ac,upd sb k pb,aL,by omega,by go_num,?_,?_⟩
        ·rw [ahL,HJ_sr.out,zdg]
        ·rw [z9R (f:=fun t b=>z3f b (lg c.sems t) [])];exact Sat.perm (show Sat w0 _ (pts kb 541 [.slice ml mr.length mc0,.slice ta1 tr.length tc1,.pointer (some ⟨lb,0,none⟩),.slice ap aL.length ac,.slice none 0 0,.pointer none,.int .u64 0,.bool false]*(z7 (.slice ap aL.length ac) aL*(z0F (fun t=>z3f (sb t) (lg c.sems t) []) k*(z3f pb (lg c.sems k) []*(lkP lb (z5x lv c.mutexes.toNat)*(z7 (.slice ml mr.length mc0) mr*(z0F (fun t=>pts (hM t).b (hM t).o ((List.replicate (z1w c t) (0:Int)).map (Value.int .u32))) c.ls.length*(z21 kb 2 (z0p c c.ts.length)*(z5 .i64 (.slice lva lv.length lvc) lv*(z7 (.slice ta1 tr.length tc1) tr*(z0F (fun t=>pts (hT t).b (hT t).o ((List.replicate (z1x c t) (0:Int)).map (Value.int .u32))) c.ts.length*(pts kb 0 [.int .u64 c.count,.int .u64 c.cycle]*(pts kb 259 [.int .i64 c.table]*(rdP kb 260 (fun _=>[])*(pts kb 518 [.slice at0 c.ts.length x.ct.cap,.slice al0 c.ls.length x.cl.cap,.int .i64 c.mutexes,.slice (some ⟨x.cs.b,x.cs.o,none⟩) c.sems.length x.cs.cap,.slice aq0 c.queues.length x.cq.cap,.slice (x.cm.ad c.timers.length) c.timers.length x.cm.cap,.int .i64 c.table,.int .u32 c.mask,.int .u32 c.filter,.int .i64 c.charge,.int .u64 c.cycle,.int .u64 c.count]*(pts kb 530 [.int .i64 255]*(pts kb 531 (cxL 0 r80 (.slice none 0 0))*(pts kb 549 [.slice none 0 0]*(pts w0.heap.size 0 [.slice at0 c.ts.length x.ct.cap,.slice al0 c.ls.length x.cl.cap,.int .i64 c.mutexes,.slice (some ⟨x.cs.b,x.cs.o,none⟩) c.sems.length x.cs.cap,.slice aq0 c.queues.length x.cq.cap,.slice (x.cm.ad c.timers.length) c.timers.length x.cm.cap,.int .i64 c.table,.int .u32 c.mask,.int .u32 c.filter,.int .i64 c.charge,.int .u64 c.cycle,.int .u64 c.count]*(pts (w0.heap.size+1) 0 [.int .i64 0,.int .i64 0,.int .i64 0,.int .i64 0]*(cfH x c*(any)))))))))))))))))))))) from z3) (by ac_rfl)
       case measure=>simp [intOf];omega
      ·have hkn:k=c.sems.length:=by omega
       subst hkn;have d_sr:decide (c.sems.length<c.sems.length)=false:=by simp
       clear hlt hk;go_wp2_with fail;refine z9 (w0:=w0) ?_;intro w30 hs30;clear hsr
       go_loopw [135] (fun i wr=>∃ k:Nat, ∃ ql:Option Addr, ∃ qc0:Nat, ∃ qb:Nat→Nat, ∃ qr:List Pv,k≤c.queues.length∧i=.int .i64 k∧qr=prK qb k∧Sat w0 wr (pts kb 541 [.slice ml mr.length mc0,.slice ta1 tr.length tc1,.pointer (some ⟨lb,0,none⟩),.slice sl sr.length sc0,.slice ql qr.length qc0,.pointer none,.int .u64 0,.bool false]*(z7 (.slice ql qr.length qc0) qr*(z0F (fun t=>mqP (qb t) (zjm (lg c.queues t))) k*(z7 (.slice sl sr.length sc0) sr*(z0F (fun t=>z3f (sb t) (lg c.sems t) []) c.sems.length*(lkP lb (z5x lv c.mutexes.toNat)*(z7 (.slice ml mr.length mc0) mr*(z0F (fun t=>pts (hM t).b (hM t).o ((List.replicate (z1w c t) (0:Int)).map (Value.int .u32))) c.ls.length*(z21 kb 2 (z0p c c.ts.length)*(z5 .i64 (.slice lva lv.length lvc) lv*(z7 (.slice ta1 tr.length tc1) tr*(z0F (fun t=>pts (hT t).b (hT t).o ((List.replicate (z1x c t) (0:Int)).map (Value.int .u32))) c.ts.length*(pts kb 0 [.int .u64 c.count,.int .u64 c.cycle]*(pts kb 259 [.int .i64 c.table]*(rdP kb 260 (fun _=>[])*(pts kb 518 [.slice at0 c.ts.length x.ct.cap,.slice al0 c.ls.length x.cl.cap,.int .i64 c.mutexes,.slice as0 c.sems.length x.cs.cap,.slice aq0 c.queues.length x.cq.cap,.slice (x.cm.ad c.timers.length) c.timers.length x.cm.cap,.int .i64 c.table,.int .u32 c.mask,.int .u32 c.filter,.int .i64 c.charge,.int .u64 c.cycle,.int .u64 c.count]*(pts kb 530 [.int .i64 255]*(pts kb 531 (cxL 0 r80 (.slice none 0 0))*(pts kb 549 [.slice none 0 0]*(pts w0.heap.size 0 [.slice at0 c.ts.length x.ct.cap,.slice al0 c.ls.length x.cl.cap,.int .i64 c.mutexes,.slice as0 c.sems.length x.cs.cap,.slice aq0 c.queues.length x.cq.cap,.slice (x.cm.ad c.timers.length) c.timers.length x.cm.cap,.int .i64 c.table,.int .u32 c.mask,.int .u32 c.filter,.int .i64 c.charge,.int .u64 c.cycle,.int .u64 c.count]*(pts (w0.heap.size+1) 0 [.int .i64 0,.int .i64 0,.int .i64 0,.int .i64 0]*(cfH x c*(any)))))))))))))))))))))))) (fun i _=>c.queues.length-(intOf i).toNat)
       case atStart =>
        refine ⟨0,none,0,fun _=>0,[],Nat.zero_le _,rfl,rfl,?_⟩;refine mpS (P:=pts kb 541 [.slice ml mr.length mc0,.slice ta1 tr.length tc1,.pointer (some ⟨lb,0,none⟩),.slice sl sr.length sc0,.slice none 0 0,.pointer none,.int .u64 0,.bool false]*(z7 (.slice sl sr.length sc0) sr*(z0F (fun t=>z3f (sb t) (lg c.sems t) []) c.sems.length*(lkP lb (z5x lv c.mutexes.toNat)*(z7 (.slice ml mr.length mc0) mr*(z0F (fun t=>pts (hM t).b (hM t).o ((List.replicate (z1w c t) (0:Int)).map (Value.int .u32))) c.ls.length*(z21 kb 2 (z0p c c.ts.length)*(z5 .i64 (.slice lva lv.length lvc) lv*(z7 (.slice ta1 tr.length tc1) tr*(z0F (fun t=>pts (hT t).b (hT t).o ((List.replicate (z1x c t) (0:Int)).map (Value.int .u32))) c.ts.length*(pts kb 0 [.int .u64 c.count,.int .u64 c.cycle]*(pts kb 259 [.int .i64 c.table]*(rdP kb 260 (fun _=>[])*(pts kb 518 [.slice at0 c.ts.length x.ct.cap,.slice al0 c.ls.length x.cl.cap,.int .i64 c.mutexes,.slice as0 c.sems.length x.cs.cap,.slice aq0 c.queues.length x.cq.cap,.slice (x.cm.ad c.timers.length) c.timers.length x.cm.cap,.int .i64 c.table,.int .u32 c.mask,.int .u32 c.filter,.int .i64 c.charge,.int .u64 c.cycle,.int .u64 c.count]*(pts kb 530 [.int .i64 255]*(pts kb 531 (cxL 0 r80 (.slice none 0 0))*(pts kb 549 [.slice none 0 0]*(pts w0.heap.size 0 [.slice at0 c.ts.length x.ct.cap,.slice al0 c.ls.length x.cl.cap,.int .i64 c.mutexes,.slice as0 c.sems.length x.cs.cap,.slice aq0 c.queues.length x.cq.cap,.slice (x.cm.ad c.timers.length) c.timers.length x.cm.cap,.int .i64 c.table,.int .u32 c.mask,.int .u32 c.filter,.int .i64 c.charge,.int .u64 c.cycle,.int .u64 c.count]*(pts (w0.heap.size+1) 0 [.int .i64 0,.int .i64 0,.int .i64 0,.int .i64 0]*(cfH x c*(any))))))))))))))))))))) z3 (fun hz=>hz.perm (by show _=_*(z7 (α:=Pv) (.slice none 0 0) []*(emp*_));rw [z03,zm,zm];rfl))
       case round =>
        obtain ⟨k,ql,qc0,qb,qr,hk,rfl,hJ,hsr⟩:=hrel;clear hs30;have hl_qr:qr.length≤32:=by have:=OK.out.nq;rw [hJ,z5z];omega
        have HJ_qr:=hid hJ;clear hJ
        by_cases hlt:k<c.queues.length
        ·have d_qr:decide (k<c.queues.length)=true:=decide_eq_true hlt;have i_qr:(k:Int)<(c.queues.length:Int):=by omega
         obtain rfl:aq0=some ⟨x.cq.b,x.cq.o,none⟩:=HQ0.out.symm.trans (x.cq.ad_pos (by omega));haveI:Lt k c.queues.length:=⟨hlt⟩;go_wp2_with fail;have hqk:=OK.out.queues _ (ze1 hlt);refine (zhS (lg c.queues k) w0 _ _ z6 hqk).mono ?_;rintro en w26 ⟨rfl,hs26⟩;clear hsr;generalize wr.heap.size=pb at *;go_wp2_with (first | (at_builtin;refine zA rfl rfl rfl rfl (by omega) ?_;intro ap ac aL aw ahL ah1 ah2 ahs _) | (refine z07 rfl rfl rfl rfl (by omega) (by omega) ?_;intro px pc pL php phL ph1 ph2) | (refine z0r rfl rfl rfl rfl (by omega) (by omega) ?_;intro px pc pL php phL ph1 ph2));go_roundw
         case rel =>
          refine ⟨k+1,ap,ac,upd qb k pb,aL,by omega,by go_num,?_,?_⟩
          ·rw [ahL,HJ_qr.out,zdg]
          ·rw [z9R (f:=fun t b=>mqP b (zjm (lg c.queues t)))];exact Sat.perm (show Sat w0 _ (pts kb 541 [.slice ml mr.length mc0,.slice ta1 tr.length tc1,.pointer (some ⟨lb,0,none⟩),.slice sl sr.length sc0,.slice ap aL.length ac,.pointer none,.int .u64 0,.bool false]*(z7 (.slice ap aL.length ac) aL*(z0F (fun t=>mqP (qb t) (zjm (lg c.queues t))) k*(mqP pb (zjm (lg c.queues k))*(z7 (.slice sl sr.length sc0) sr*(z0F (fun t=>z3f (sb t) (lg c.sems t) []) c.sems.length*(lkP lb (z5x lv c.mutexes.toNat)*(z7 (.slice ml mr.length mc0) mr*(z0F (fun t=>pts (hM t).b (hM t).o ((List.replicate (z1w c t) (0:Int)).map (Value.int .u32))) c.ls.length*(z21 kb 2 (z0p c c.ts.length)*(z5 .i64 (.slice lva lv.length lvc) lv*(z7 (.slice ta1 tr.length tc1) tr*(z0F (fun t=>pts (hT t).b (hT t).o ((List.replicate (z1x c t) (0:Int)).map (Value.int .u32))) c.ts.length*(pts kb 0 [.int .u64 c.count,.int .u64 c.cycle]*(pts kb 259 [.int .i64 c.table]*(rdP kb 260 (fun _=>[])*(pts kb 518 [.slice at0 c.ts.length x.ct.cap,.slice al0 c.ls.length x.cl.cap,.int .i64 c.mutexes,.slice as0 c.sems.length x.cs.cap,.slice (some ⟨x.cq.b,x.cq.o,none⟩) c.queues.length x.cq.cap,.slice (x.cm.ad c.timers.length) c.timers.length x.cm.cap,.int .i64 c.table,.int .u32 c.mask,.int .u32 c.filter,.int .i64 c.charge,.int .u64 c.cycle,.int .u64 c.count]*(pts kb 530 [.int .i64 255]*(pts kb 531 (cxL 0 r80 (.slice none 0 0))*(pts kb 549 [.slice none 0 0]*(pts w0.heap.size 0 [.slice at0 c.ts.length x.ct.cap,.slice al0 c.ls.length x.cl.cap,.int .i64 c.mutexes,.slice as0 c.sems.length x.cs.cap,.slice (some ⟨x.cq.b,x.cq.o,none⟩) c.queues.length x.cq.cap,.slice (x.cm.ad c.timers.length) c.timers.length x.cm.cap,.int .i64 c.table,.int .u32 c.mask,.int .u32 c.filter,.int .i64 c.charge,.int .u64 c.cycle,.int .u64 c.count]*(pts (w0.heap.size+1) 0 [.int .i64 0,.int .i64 0,.int .i64 0,.int .i64 0]*(cfH x c*(any)))))))))))))))))))))))) from z3) (by ac_rfl)
         case measure=>simp [intOf];omega
        ·have hkn:k=c.queues.length:=by omega
         subst hkn;have d_qr:decide (c.queues.length<c.queues.length)=false:=by simp
         clear hlt hk;go_wp2_with fail;refine (znv c.ls.length c.mask w0 _ _ z6 hnl OK.out.mask).mono ?_;rintro en w34 ⟨rfl,hs34⟩;clear hsr;generalize wr.heap.size=nb at *;go_wp2_with fail;go_returns;refine ⟨_,rfl,?_⟩;obtain rfl:=HA0.out;obtain rfl:=HL0.out;obtain rfl:=HS0.out;obtain rfl:=HQ0.out;obtain rfl:=HI.out.2.1;obtain rfl:=HI.out.1;obtain rfl:=HJ.out.1;obtain rfl:=HJ_sr.out;obtain rfl:=HJ_qr.out;refine Sat.perm (Sat.ex_in (F:=emp) kb ?_) (zz _);refine mpS (P:=ex fun y:Fx=>knP kb y c (z34 c)) (zno kb nb lb x c hT hM sb qb ml ta1 sl ql mc0 tc1 sc0 qc0 z3) (fun hz=>?_);obtain ⟨y,hy⟩:=(hz.perm (zz _).symm).ex_out;refine Sat.ex_in (F:=emp) y ?_;exact Sat.perm (Sat.pur_in rfl (F:=knP kb y c (z34 c)) (hy.perm (zz _))) (zz _).symm
theorem z92 (v:Value) (c:Cf) (rg:z6B c) (w0:World) (hr:z8I w0 v c) (hok:(z5g c).err≠0) :
  Calls Tryz.prog 23 #[v] w0 (zp w0 (.tuple #[.pointer none,ftV (z5g c)]) emp):=by
 have hs:=Sat.start w0;have hA:=hid (fun (w:World) (h:Sat w0 w any)=>z9W v c rg w (hr.later h));obtain ⟨ta,la,sa,qa,ma,tc,lc,sc,qc,mc,rfl,h1,h2,h3,h4,h5⟩:=hr.form;clear hr h1 h2 h3 h4 h5;have e1:((z5g c).err==0)=false:=by simp [hok]
 have e2:((z5g c).err != 0)=true:=by simp [hok]
 go_enter Tryz.func23,Tryz.ntmps23
 go_wp2_with fail;refine (hA.out _ z3).mono ?_;rintro en w1 ⟨rfl,hs1⟩;have hs2:=Sat.past (w0:=w0) z6 hs1;clear hs1 hs;unfold ftV;go_wp2_with fail;refine z9 (w0:=w0) ?_;intro wx hsx;go_still_tail 2,(by kernel_rfl);change wpList _ _ _ _ _ wx.drew;go_wp2_with fail;go_returns;exact ⟨rfl,z3⟩
theorem zj4 (h:Hd) (n:Nat) (l:List Int) (hl:l.length=n) (w0 w:World) (F:HP) (hs:Sat w0 w (pts h.b h.o (l.map (Value.int .u32))*F)) (hn:n≤1000) :
  Calls Tryz.prog 26 #[.slice (h.ad n) n h.cap] w (Ret w0 fun v'=>z5 .u32 v' l*(pts h.b h.o (l.map (Value.int .u32))*F)):=by
 have q:∀ (w:World) (a:Option Addr) (n c:Nat),(binOp .eql 30 (.slice a n c) (.slice none 0 0)).run Tryz.prog w=.ok (.bool a.isNone) w:=fun w a n c=>Lib.run_eql_slice_nil w _ _ a n c 0 0 Tryz.underlying30;obtain ⟨a,b,o,cap⟩:=h
 cases e:Hd.ad ⟨a,b,o,cap⟩ n with
 | none =>
  have hn0:n=0:=by
   by_cases h0:n=0
   ·exact h0
   ·rw [Hd.ad_pos _ (by omega)] at e;cases e
  subst hn0;obtain rfl:=List.eq_nil_of_length_eq_zero hl;clear e
  go_enter Tryz.func26,Tryz.ntmps26
  go_wp2;go_ret;exact ⟨_,rfl,(hs.slice_nil 1).perm (by unfold z5;rfl)⟩
 | some ad =>
  have hnw:∀ a',some ad=some a'→∀ j u,(l.map (Value.int .u32))[j]?=some u→w.cell? (a'.add j)=some u:=by
   intro a' ha j u hj;obtain rfl:=Option.some.inj ha;have hpos:0<n:=by
    have:=(List.getElem?_eq_some_iff.1 hj).1;rw [List.length_map] at this;omega
   rw [Hd.ad_pos _ hpos] at e;obtain rfl:=Option.some.inj e;have:=hs.cell hj;rw [← this]
   cases j<;>simp [Addr.add]
  clear e
  go_enter Tryz.func26,Tryz.ntmps26
  go_wp2_with (at_builtin;refine z00 (by rfl) (.tmp 5) (.tmp 6) (by rfl) zjU (by rfl) (hs.empty_slice 1 25) (some ad) n cap (l.map (Value.int .u32)) (by rfl) (by simp [hl]) (by simp) (fun a' ha' j u hj=>z1i (hnw a' ha' j u hj) _) (by intro u hu;simp at hu;obtain ⟨i,_,rfl⟩:=hu;rfl) (by unfold maxLen;omega) (by omega) ?_);intro v' w' hs' _;go_wp2;go_ret;exact ⟨_,rfl,by simpa [z5,hl] using hs'⟩
abbrev z2N (l:List Nat):List Int:=l.map fun (t:Nat)=>(t:Int)
def zo1:Value→Nat
 | .slice _ n _=>n
 | _=>0
theorem zef {R:Nat→List Nat} (h:z4x R) (l:Nat):(R l).length≤64:=by
 have:=z4N (R l) (List.range 64) (h.nd l) (fun t ht=>List.mem_range.2 (h.rng ht))
 simpa using this
theorem zkW (b o:Nat) (R:Nat→List Nat) (l:Nat) (w0 w:World) (F:HP) (hs:Sat w0 w (rdP b o R*F)) (hl:l<32) :
  Calls Tryz.prog 55 #[.pointer (some ⟨b,o,none⟩),.int .i64 l] w (Ret w0 fun v'=>z5 .i64 v' (z2N (R l))*(rdP b o R*F)):=by
 obtain ⟨⟨n,fr,bk,ah,af,lv,cnt⟩,h,hs⟩:=z3S hs;have H:=hid h;have hb:=h.bit hl;have htop:=h.top;have hlen:=zef h.ok l;haveI:Lt l fr.length:=⟨by rw [h.lfr];exact hl⟩;have hs2:Sat w0 w (pts b o [.int .u32 n]*(pts b (o+1) (fr.map (Value.int .i8))*(pts b (o+33) (bk.map (Value.int .i8))*(pts b (o+65) (ah.map (Value.int .i8))*(pts b (o+129) (af.map (Value.int .i8))*(pts b (o+193) (lv.map (Value.int .i8))*(pts b (o+257) [.int .i64 cnt]*F))))))):=hs.perm (by unfold raP;ac_rfl);clear hs;have d1:decide (l<32)=true:=decide_eq_true hl;have i1:(l:Int)<32:=by omega
 have hIs:=hid (fun (w:World)=>z4s 0 l true (decide_eq_true ⟨by omega,by omega,by omega,by omega⟩) w)
 by_cases e:R l=[]
 ·have b1:=zcA htop (hb.trans (decide_eq_false (Classical.not_not.2 e)));have E:=hid e;clear h hb e
  go_enter Tryz.func55,Tryz.ntmps55
  go_wp2_with fail;refine (hIs.out _).mono ?_;rintro en w1 ⟨rfl,rfl⟩;go_wp2_with fail;go_ret;refine ⟨_,rfl,?_⟩;rw [E.out];have hz:=z2S (n:=n) (cnt:=cnt) hs2 H.out;exact hz.perm (by show _=z5 .i64 (.slice none 0 0) []*_;rw [z1r,zm])
 ·have b1:=zcC htop (hb.trans (decide_eq_true e));have hfr:=hid (h.hfr e);have haf0:∀ (u:List Nat) (t:Nat) (v:List Nat),R l=u++t::v→ag af t=fst v:=fun u t v hR=>by
   have h1:=h.haf (show t∈R l by rw [hR];simp);have h2:t ∉ u:=fun hm=>by have:=h.nd l;rw [hR] at this;exact (List.nodup_append.1 this).2.2 t hm t (List.mem_cons_self ..) rfl
   rw [h1,hR,zg6 h2]
  have haf:=hid haf0;clear haf0;have hrg:=hid (fun (u:List Nat) (t:Nat) (v:List Nat) (hR:R l=u++t::v)=>h.rng (show t∈R l by rw [hR];simp));have hlf:af.length=64:=h.laf;have Hlf:=hid hlf;have Hlen:=hid hlen;clear h hb e hlf hlen
  go_enter Tryz.func55,Tryz.ntmps55
  go_wp2_with fail;refine (hIs.out _).mono ?_;rintro en w1 ⟨rfl,rfl⟩;go_wp2_with fail;refine z9 (w0:=w0) ?_;intro w2 hs3;clear hs2
  go_loopw [5,6] (fun ov tv wr=>∃ u v:List Nat, ∃ oa:Option Addr, ∃ oc:Nat, ∃ L:List Int,R l=u++v∧ov=.slice oa L.length oc∧tv=.int .i8 (fst v)∧L=z2N u∧Sat w0 wr (z5 .i64 (.slice oa L.length oc) L*(pts b o [.int .u32 n]*(pts b (o+1) (fr.map (Value.int .i8))*(pts b (o+33) (bk.map (Value.int .i8))*(pts b (o+65) (ah.map (Value.int .i8))*(pts b (o+129) (af.map (Value.int .i8))*(pts b (o+193) (lv.map (Value.int .i8))*(pts b (o+257) [.int .i64 cnt]*(F*any)))))))))) (fun ov _ _=>64-zo1 ov)
  case atStart =>
   refine ⟨[],R l,none,0,[],rfl,rfl,by rw [hfr.out],rfl,?_⟩;refine mpS (P:=pts b o [.int .u32 n]*(pts b (o+1) (fr.map (Value.int .i8))*(pts b (o+33) (bk.map (Value.int .i8))*(pts b (o+65) (ah.map (Value.int .i8))*(pts b (o+129) (af.map (Value.int .i8))*(pts b (o+193) (lv.map (Value.int .i8))*(pts b (o+257) [.int .i64 cnt]*(F*any)))))))) z3 (fun hz=>hz.perm (by show _=z5 .i64 (.slice none 0 0) []*_;rw [z1r,zm]))
  case round =>
   obtain ⟨u,v,oa,oc,L,hR,rfl,rfl,hL,hsr⟩:=hrel;clear hs3;have hl1:L.length≤64:=by have:=Hlen.out;rw [hR,List.length_append] at this;rw [hL,List.length_map];omega
   have HL:=hid hL;clear hL
   cases v with
   | nil =>
    have hf:fst []=-1:=rfl;rw [hf];clear hf;go_wp2_with fail;go_ret;refine ⟨_,rfl,?_⟩;refine mpS (P:=rdP b o R*(z5 .i64 (.slice oa L.length oc) L*F)) (z2S (n:=n) (cnt:=cnt) z3 H.out) (fun hz=>?_);rw [hR,List.append_nil,← HL.out];exact hz.perm (by ac_rfl)
   | cons t v =>
    have hf:fst (t::v)=(t:Int):=rfl;rw [hf];clear hf;have ht:=hrg.out u t v hR;haveI:Lt t af.length:=⟨by rw [Hlf.out];exact ht⟩;have d2:decide (t<64)=true:=decide_eq_true ht;have i2:(t:Int)<64:=by omega
    have hlt:L.length<64:=by have:=Hlen.out;rw [hR,List.length_append,List.length_cons] at this;rw [HL.out,List.length_map];omega
    have hR:=hid hR;go_wp2_with (first | (at_builtin;refine z06 rfl rfl rfl rfl (by omega) ?_;intro ap ac aL aw ahL ah1 ah2 ahs _) | (refine z0l rfl rfl rfl rfl (by omega) (by omega) ?_;intro px pc pL php phL ph1 ph2) | (refine z0B rfl rfl rfl rfl (by omega) (by omega) ?_;intro px pc pL php phL ph1 ph2));go_roundw
    case rel =>
     refine ⟨u++[t],v,ap,ac,aL,by rw [hR.out];simp,rfl,by rw [haf.out u t v hR.out],by rw [ahL,HL.out];simp [z2N],?_⟩;exact z3
    case measure=>simp [zo1];omega
end Go.Proofs.YtgiiidminlhbpaaGreatDoor
namespace Go.Proofs.YtgiiidminlhbpaaGreatDoor
open Go.RowKit Go.Sx
theorem znf:z1m Tryz.prog 30 25 1 4 (.int .u32 0):=⟨by kernel_rfl,by kernel_rfl,rfl⟩
theorem zfX (q:Mq) {k:Nat} (hk:k<q.n):(z4h q).take (k+1)=(z4h q).take k++[q.C.getD ((q.f+k)%64) 0]:=by
 have h:k<(z4h q).length:=by simp [z4h,hk]
 rw [List.take_succ_eq_append_getElem h];simp [z4h]
theorem zi2 (q:Mq):(z4h q).length=q.n:=by simp [z4h]
theorem zhR (b:Nat) (q:Mq) (w0 w:World) (F:HP) (hs:Sat w0 w (mqP b q*F)) (hok:z3Z q) :
  Calls Tryz.prog 60 #[.pointer (some ⟨b,0,none⟩)] w (Ret w0 fun v'=>z5 .u32 v' (z4h q)*(mqP b q*F)):=by
 have hC:=hok.c;have hf:=hok.f;have hn:=hok.n;have hhi:=hok.hi;have hml:=zi2 q;have hnext:=fun k (h:k<q.n)=>zfX q h;generalize hM:z4h q=M at *;clear hok hM;obtain ⟨C,f,n,room,S,R,H⟩:=q;dsimp only at hC hf hn hhi hml hnext;have c1:World.cell? _ ⟨b,65,none⟩=some (.int .i64 n):=(hs.perm (by unfold mqP;ac_rfl:_=pts b 64 [.int .i64 f,.int .i64 n,.int .i64 room]*(pts b 0 (C.map (Value.int .u32))*(zY b 67 S*(zY b 68 R*pts b 69 (H.map (Value.int .u32))))*F))).cell (j:=1) rfl
 go_enter Tryz.func60,Tryz.ntmps60
 go_wp2_with fail
 go_loopw [3,11] (fun lv i wr=>∃ k:Nat,k≤n∧i=.int .i64 k∧Sat w0 wr (z5 .u32 lv (M.take k)*(mqP b ⟨C,f,n,room,S,R,H⟩*F))) (fun _ i _=>n-(intOf i).toNat)
 case atStart=>exact ⟨0,Nat.zero_le _,rfl,hs.slice_nil 1⟩
 case round =>
  obtain ⟨k,hk,rfl,hs3⟩:=hrel;clear hs c1
  by_cases hlt:k<n
  ·have hnx:=hid (hnext k hlt);have hs4:=hs3.perm (by unfold mqP;ac_rfl:_=pts b 64 [.int .i64 f,.int .i64 n,.int .i64 room]*(pts b 0 (C.map (Value.int .u32))*(zY b 67 S*(zY b 68 R*pts b 69 (H.map (Value.int .u32))))*(z5 .u32 u3 (M.take k)*F)));have c0:World.cell? _ ⟨b,64,none⟩=some (.int .i64 f):=hs4.cell (j:=0) rfl;have hx:(f+k)%64<64:=Nat.mod_lt _ (by decide);have c5:=(hs3.perm (by unfold mqP;ac_rfl:_=pts b 0 (C.map (Value.int .u32))*(pts b 64 [.int .i64 f,.int .i64 n,.int .i64 room]*(zY b 67 S*(zY b 68 R*pts b 69 (H.map (Value.int .u32))))*(z5 .u32 u3 (M.take k)*F)))).cell (j:=(f+k)%64) (v:=.int .u32 (C.getD ((f+k)%64) 0)) (by simp [List.getD,hC,hx]);have hrem:Int.tmod (IntKind.i64.wrap ((f:Int)+(k:Int))) 64=(((f+k)%64:Nat):Int):=by
    rw [show IntKind.i64.wrap ((f:Int)+(k:Int))=((f+k:Nat):Int) by rw [IntKind.wrap_i64];omega,zgm]
   have csq:∀ (w':World) (F':HP),Sat w0 w' (mqP b ⟨C,f,n,room,S,R,H⟩*F')→w'.cell? ⟨b,64,none⟩=some (.int .i64 f)∧w'.cell? ⟨b,(f+k)%64,none⟩=some (.int .u32 (C.getD ((f+k)%64) 0)):=by
    intro w' F' h';have h2:=h'.perm (by unfold mqP;ac_rfl:_=pts b 64 [.int .i64 f,.int .i64 n,.int .i64 room]*(pts b 0 (C.map (Value.int .u32))*(zY b 67 S*(zY b 68 R*pts b 69 (H.map (Value.int .u32))))*F'));have h3:=(h'.perm (by unfold mqP;ac_rfl:_=pts b 0 (C.map (Value.int .u32))*(pts b 64 [.int .i64 f,.int .i64 n,.int .i64 room]*(zY b 67 S*(zY b 68 R*pts b 69 (H.map (Value.int .u32))))*F'))).cell (j:=(f+k)%64) (v:=.int .u32 (C.getD ((f+k)%64) 0)) (by simp [List.getD,hC,hx]);rw [Nat.zero_add] at h3;exact ⟨h2.cell (j:=0) rfl,h3⟩
   generalize (f+k)%64=m at *;generalize C.getD m 0=x at *;rw [Nat.zero_add] at c5;have d64:decide (m<64)=true:=by simp [hx]
   have hxI:(m:Int)<64:=by omega
   have hlen:(M.take k).length=k:=by rw [List.length_take,hml];omega
   have hlen:=hid hlen;clear hnext hs4;have hs5:=hs3.drew;have cs:∀ w':World,(∃ F',Sat w0 w' (mqP b ⟨C,f,n,room,S,R,H⟩*F'))→w'.cell? ⟨b,64,none⟩=some (.int .i64 f)∧w'.cell? ⟨b,m,none⟩=some (.int .u32 x):=by
    rintro w' ⟨F',h'⟩;exact csq w' F' h'
   go_wp2_with fail;refine zj (fun w'=>w'.cell? ⟨b,64,none⟩=some (.int .i64 f)∧w'.cell? ⟨b,m,none⟩=some (.int .u32 x)) [(0,true),(1,true),(2,true),(3,true),(4,true),(5,true),(6,true),(7,true),(8,true),(9,true),(10,true),(11,true),(12,true),(13,false),(14,false),(15,true)] (by kernel_rfl) (by kernel_rfl) (fun _ _ _ _ h=>h) ⟨c0,c5⟩ ?_
   iterate 13 (refine zf (fun K hK=>?_);simp only [zqS,zqZ]; (first | (rw [if_pos (by rfl)];apply Exists.intro;refine ⟨fun w hSw=>?_,hK _ ?_⟩; (focus ((try dsimp only at hSw);obtain ⟨hSw,hSw2⟩:=hSw;go_simp;try with_reducible rfl))) | (rw [if_neg (ne_true_of_eq_false (by rfl))];refine hK _ ?_));clear hK K;simp only [Act.put,zqA,zqP,zqQ])
   clear c0 c5 hs3 csq;generalize wr.drew=w1 at *;refine ze (fun K hK=>?_);simp only [zqS,zqZ];rw [if_pos (by rfl)];go_wp2_with fail;refine ⟨cs _ ⟨_,(hs5.alloc _ _).drop.perm (by ac_rfl:_=mqP b ⟨C,f,n,room,S,R,H⟩*(z5 .u32 u3 (M.take k)*F))⟩,?_⟩;refine ze (fun K hK=>?_);simp only [zqS,zqZ];rw [if_pos (by rfl)];refine z3n (.tmp 14) (.tmp 27) (by rfl) znf (by rfl) hs5 (by rfl) (by rfl) (by simp [Value.oneCell']) (by rw [hlen.out];unfold maxLen;omega) (by rw [hlen.out];omega) ?_;intro v' w3 hs9 _;refine hK _ _ ⟨cs _ ⟨_,hs9.perm (by ac_rfl:_=mqP b ⟨C,f,n,room,S,R,H⟩*(zX 1 v' ((M.take k).length+1) ((M.take k).map (Value.int .u32)++[Value.int .u32 x])*F))⟩,?_⟩;clear hK K hs5;simp only [Act.put,zqA,zqP,zqQ]
   iterate 1 (refine zf (fun K hK=>?_);simp only [zqS,zqZ]; (first | (rw [if_pos (by rfl)];apply Exists.intro;refine ⟨fun w hSw=>?_,hK _ ?_⟩; (focus ((try dsimp only at hSw);obtain ⟨hSw,hSw2⟩:=hSw;go_simp;try with_reducible rfl))) | (rw [if_neg (ne_true_of_eq_false (by rfl))];refine hK _ ?_));clear hK K;simp only [Act.put,zqA,zqP,zqQ])
   refine zB ?_;clear cs;go_wp2_with fail;go_roundw
   case rel =>
    refine ⟨k+1,by omega,by go_num,?_⟩;rw [hnx.out];unfold z5;rw [List.length_append,List.map_append];exact hs9
   case measure=>simp [intOf];omega
  ·have hk':M.take k=M:=List.take_of_length_le (by omega);rw [hk'] at hs3;go_wp2_with fail;go_ret;exact ⟨_,rfl,hs3⟩
end Go.Proofs.YtgiiidminlhbpaaGreatDoor
namespace Go.Proofs.YtgiiidminlhbpaaGreatDoor
open Go.RowKit Go.Sx Go.Dl Go.Lk Go.Rq Go.Au
section
variable (b:Nat) (x:Fx) (c:Cf) (K:Kn) (w0 w:World) (F:HP) (hs:Sat w0 w (knP b x c K*F))
include hs
theorem znl (l:Nat) (hl:l<32):Calls Tryz.prog 55 #[.pointer (some ⟨b,260,none⟩),.int .i64 l] w (Ret w0 fun v=>z5 .i64 v (z2N (K.R l))*(knP b x c K*F)) :=
 let ⟨_,h⟩:=zkp b x c K;z69 (h K.R) (h K.R) hs fun hs=>zkW b 260 K.R l w0 w _ hs hl
theorem zkf (s:Nat) (h:s<c.queues.length) (ok:z3Z (K.ml s)):Calls Tryz.prog 60 #[.pointer (some ⟨x.qb s,0,none⟩)] w (Ret w0 fun v=>z5 .u32 v (z4h (K.ml s))*(knP b x c K*F)) :=
 let ⟨_,e⟩:=z1Q (b:=b) (x:=x) (K:=K) h;z69 ((z0I b x c K s).symm.trans (e (K.ml s))) ((z0I b x c K s).symm.trans (e (K.ml s))) hs fun hs=>zhR (x.qb s) _ w0 w _ hs ok
theorem zdU (s:Nat) (h:s<c.queues.length) (ok:z3Z (K.ml s)):Calls Tryz.prog 61 #[.pointer (some ⟨x.qb s,0,none⟩)] w (Ret w0 fun v=>z5 .i64 v (K.ml s).S*(knP b x c K*F)) :=
 let ⟨_,e⟩:=z1Q (b:=b) (x:=x) (K:=K) h;z69 ((z0I b x c K s).symm.trans (e (K.ml s))) ((z0I b x c K s).symm.trans (e (K.ml s))) hs fun hs=>zc2 (x.qb s) _ w0 w _ hs ok
theorem zao (s:Nat) (h:s<c.queues.length) (ok:z3Z (K.ml s)):Calls Tryz.prog 62 #[.pointer (some ⟨x.qb s,0,none⟩)] w (Ret w0 fun v=>z5 .i64 v (K.ml s).R*(knP b x c K*F)) :=
 let ⟨_,e⟩:=z1Q (b:=b) (x:=x) (K:=K) h;z69 ((z0I b x c K s).symm.trans (e (K.ml s))) ((z0I b x c K s).symm.trans (e (K.ml s))) hs fun hs=>z9l (x.qb s) _ w0 w _ hs ok
theorem zd1 (n:Nat) (h:n<c.ls.length) (hl:(K.mems n).length=z1w c n) (hm:z1w c n≤1000):Calls Tryz.prog 26 #[.slice ((x.mv n).ad (z1w c n)) (z1w c n) (x.mv n).cap] w (Ret w0 fun v=>z5 .u32 v (K.mems n)*(knP b x c K*F)):=by
 obtain ⟨R,e⟩:=zje (b:=b) (x:=x) (K:=K) h;have e1:knP b x c K=pts (x.mv n).b (x.mv n).o ((K.mems n).map (Value.int .u32))*(pts x.mm.b (x.mm.o+n) [(x.mv n).v (z1w c n)]*R):=by
  rw [← zdb b x c K n,e];unfold zex;ac_rfl
 exact z69 e1 e1 hs fun hs=>zj4 (x.mv n) (z1w c n) (K.mems n) hl w0 w _ hs hm
theorem zhC (t:Nat) (h:t<c.ts.length) (hl:(K.tm t).length=z1x c t) (hm:z1x c t≤1000):Calls Tryz.prog 26 #[.slice ((x.tv t).ad (z1x c t)) (z1x c t) (x.tv t).cap] w (Ret w0 fun v=>z5 .u32 v (K.tm t)*(knP b x c K*F)):=by
 obtain ⟨R,e⟩:=z0P (b:=b) (x:=x) (K:=K) h;have e1:knP b x c K=pts (x.tv t).b (x.tv t).o ((K.tm t).map (Value.int .u32))*(pts x.ta.b (x.ta.o+t*15) (tsL (K.T t))*(pts x.ta.b (x.ta.o+t*15+5) (cxL (K.T t).at_ (K.T t).rg ((x.tv t).v (z1x c t)))*R)):=by
  rw [← z0c b x c K t,e];unfold zcp;ac_rfl
 exact z69 e1 e1 hs fun hs=>zj4 (x.tv t) (z1x c t) (K.tm t) hl w0 w _ hs hm
end
structure Sn where
 count:Int
 cycle:Int
 run:Int
 isr:Int
 iat:Int
 irg:R8
 imem:List Int
 mems:List (List Int)
 pend:Nat
 mask:Nat
 tasks:List (Ts×List Int)
 ready:List (List Int)
 owners:List Int
 lockers:List (List Int)
 sems:List Int
 takers:List (List Int)
 queues:List (List Int)
 senders:List (List Int)
 receivers:List (List Int)
 dues:List Ck
 reads:Int
 stopped:Bool
def Kn.st (c:Cf) (K:Kn):Sn where
 count:=K.count
 cycle:=K.cycle
 run:=K.run
 isr:=K.ln.active
 iat:=if K.ln.active=255 then 0 else K.iat
 irg:=if K.ln.active=255 then r80 else K.irg
 imem:=if K.ln.active=255 then [] else K.mems K.ln.active.toNat
 mems:=(List.range c.ls.length).map K.mems
 pend:=K.ln.pending
 mask:=K.ln.mask
 tasks:=(List.range c.ts.length).map fun t=>(K.T t,K.tm t)
 ready:=(List.range 32).map fun l=>z2N (K.R l)
 owners:=(List.range c.mutexes.toNat).map fun m=>z1D K.L (m:Nat)
 lockers:=(List.range c.mutexes.toNat).map fun m=>z2j K.L (m:Nat)
 sems:=(List.range c.sems.length).map fun s=>(K.sm s).1
 takers:=(List.range c.sems.length).map fun s=>(K.sm s).2
 queues:=(List.range c.queues.length).map fun q=>z4h (K.ml q)
 senders:=(List.range c.queues.length).map fun q=>(K.ml q).S
 receivers:=(List.range c.queues.length).map fun q=>(K.ml q).R
 dues:=K.S
 reads:=K.reads
 stopped:=K.stopped
abbrev Mv.v (m:Mv):Value:=.slice m.a m.n m.c
def setAll (w:World) (b o:Nat):List Value→World
 | []=>w
 | v::vs=>setAll (w.setCell ⟨b,o,none⟩ v) b (o+1) vs
theorem Sat.setAll {w0:World} {b:Nat}:∀ (vs xs:List Value) {w:World} {o:Nat} {F:HP},vs.length=xs.length→Sat w0 w (pts b o xs*F)→Sat w0 (setAll w b o vs) (pts b o vs*F)
 | [],[],_,_,_,_,hs=>hs
 | v::vs,x::xs,w,o,F,hl,hs=>by
  have h1:=hs.set0 v;rw [z2A] at h1;have h2:=Sat.setAll vs xs (F:=pts b o [v]*F) (by simpa using hl) (h1.perm (by ac_rfl));rw [z2A];exact h2.perm (by ac_rfl)
class z6C (P:HP) (b o:Nat) (xs:outParam (List Value)) (F:outParam HP):Prop where
 eq:P=pts b o xs*F
instance (priority:=2000) z6C.here (b o:Nat) (xs:List Value) (F:HP):z6C (pts b o xs*F) b o xs F:=⟨rfl⟩
instance (priority:=1000) z6C.right (A G F:HP) (b o:Nat) (xs:List Value) [h:z6C G b o xs F]:z6C (A*G) b o xs (A*F):=⟨by rw [h.eq];ac_rfl⟩
class zbm (xs:List Value) (n:Nat):Prop where
 eq:xs.length=n
instance zbm.nil:zbm [] 0:=⟨rfl⟩
instance zbm.cons (x:Value) (xs:List Value) (n:Nat) [h:zbm xs n]:zbm (x::xs) (n+1):=⟨by rw [List.length_cons,h.eq]⟩
theorem z4u {c:Cf} (h:z7T c):z5a c :=
 ⟨by have:=h.nt;omega,by have:=h.nl;omega,by have:=h.ns;omega,by have:=h.nq;omega,by have:=h.nm;omega,fun t ht=>by have:=(h.t t ht).2.2.2.2.2;omega,fun t ht=>by have:=(h.l t ht).2;omega⟩
instance (priority:=1500) Sat.all12 (w0 w:World) (P F:HP) (b:Nat) (xs:List Value) (v0 v1 v2 v3 v4 v5 v6 v7 v8 v9 v10 v11:Value) [h:Sat w0 w P] [p:z6C P b 0 xs F] [l:zbm xs 12] :
  Sat w0 ((((((((((((w.setCell ⟨b,0,none⟩ v0).setCell ⟨b,1,none⟩ v1).setCell ⟨b,2,none⟩ v2).setCell ⟨b,3,none⟩ v3).setCell ⟨b,4,none⟩ v4).setCell ⟨b,5,none⟩ v5).setCell ⟨b,6,none⟩ v6).setCell ⟨b,7,none⟩ v7).setCell ⟨b,8,none⟩ v8).setCell ⟨b,9,none⟩ v9).setCell ⟨b,10,none⟩ v10).setCell ⟨b,11,none⟩ v11) (pts b 0 [v0,v1,v2,v3,v4,v5,v6,v7,v8,v9,v10,v11]*F) :=
 Sat.setAll [v0,v1,v2,v3,v4,v5,v6,v7,v8,v9,v10,v11] xs (by rw [l.eq];rfl) (h.perm p.eq)
theorem zrR {c:Cf} {s:Sc} {w0 w:World} {g b:Nat} {y:Fx} {ta na:Option Addr} {tc nc:Nat} (hs:Sat w0 w (pts g 0 [.pointer (some ⟨b,0,none⟩),.slice na s.ar.length nc,.slice ta s.tape.length tc,.int .i64 0,.int .i64 s.steps]*(z7 (.slice na s.ar.length nc) s.ar*(z5 .u32 (.slice ta s.tape.length tc) s.tape*knP b y c (z34 c))))) :
  Sat w0 w (ex fun g':Nat=>ex fun b:Nat=>ex fun y:Fx=>ex fun ta:Option Addr=>ex fun tc:Nat=>pur (Value.tuple #[.pointer (some ⟨g,0,none⟩),.int .i64 0]=.tuple #[.pointer (some ⟨g',0,none⟩),.int .i64 0])*wdP g' b y c ta tc (zQc c s)):=by
 have h1:Sat w0 w (wdP g b y c ta tc (zQc c s)*emp):=zQe (aa:=na) (ac:=nc) (hs.perm (by rw [zz];rfl));exact (Sat.ex_in g (Sat.ex_in b (Sat.ex_in y (Sat.ex_in ta (Sat.ex_in tc ((Sat.pur_in rfl h1).perm (zb _ _ _).symm)))))).perm (zz _)
theorem zrJ {c:Cf} {s:Sc} {w0 w:World} {F:HP} {v':Value} (hs:Sat w0 w ((ex fun g':Nat=>ex fun b:Nat=>ex fun y:Fx=>ex fun ta:Option Addr=>ex fun tc:Nat=>pur (v'=.tuple #[.pointer (some ⟨g',0,none⟩),.int .i64 0])*wdP g' b y c ta tc (zQc c s))*F)) :
  ∃ g b y ta tc,v'=.tuple #[.pointer (some ⟨g,0,none⟩),.int .i64 0]∧Sat w0 w (wdP g b y c ta tc (zQc c s)*F):=by
 obtain ⟨g,h⟩:=hs.ex_out;obtain ⟨b,h⟩:=h.ex_out;obtain ⟨y,h⟩:=h.ex_out;obtain ⟨ta,h⟩:=h.ex_out;obtain ⟨tc,h⟩:=h.ex_out;obtain ⟨e,h⟩:=(h.perm (zb _ _ _)).pur_out;exact ⟨g,b,y,ta,tc,e,h⟩
theorem zqO (v u:Value) (c:Cf) (s:Sc) (rg:z6B c) (w0:World) (hr:z8I w0 v c) (hq:zQa w0 u s) (hok:(z5g c).err≠0) :
  Calls Tryz.prog 17 #[v,u] w0 (zp w0 (.tuple #[.pointer none,.int .i64 3]) emp):=by
 have hs:=Sat.start w0;have hN:=hid (fun (w:World) (h:Sat w0 w any)=>z92 v c rg w (hr.later h) hok);obtain ⟨ta,la,sa,qa,ma,tc,lc,sc,qc,mc,rfl,_,_,_,_,_⟩:=hr.form;obtain ⟨aa,ac,ta2,tc2,rfl,_,_⟩:=hq;have e1:((z5g c).err != 0)=true:=by simp [hok]
 clear hr hok
 go_enter Tryz.func17,Tryz.ntmps17
 go_wp2_with fail;refine (hN.out _ z3).mono ?_;rintro en w1 ⟨rfl,hs1⟩;have hs2:=Sat.past (w0:=w0) z6 hs1;clear hs hs1;unfold ftV;go_wp2_with fail;go_returns;exact ⟨rfl,z3⟩
theorem zr6 (v u:Value) (c:Cf) (s:Sc) (rg:z6B c) (w0:World) (hr:z8I w0 v c) (hq:zQa w0 u s) (hok:(z5g c).err=0) (he:scE s≠0) :
  Calls Tryz.prog 17 #[v,u] w0 (zp w0 (.tuple #[.pointer none,.int .i64 (scE s)]) emp):=by
 have hs:=Sat.start w0;have hN:=hid (fun (w:World) (h:Sat w0 w any)=>zhA v c rg (z4u (z4E rg hok)) w (hr.later h) hok);have hC:=hid (fun (w:World) (h:Sat w0 w any)=>zr7 u s w (hq.later h));obtain ⟨ta,la,sa,qa,ma,tc,lc,sc,qc,mc,rfl,_,_,_,_,_⟩:=hr.form;obtain ⟨aa,ac,ta2,tc2,rfl,_,_⟩:=hq;have e1:(scE s != 0)=true:=by simp [he]
 clear hr hok he;generalize scE s=z at *
 go_enter Tryz.func17,Tryz.ntmps17
 go_wp2_with fail;refine (hN.out _ z3).mono ?_;rintro en w1 ⟨v1,rfl,hp1⟩;obtain ⟨b,hp2⟩:=(hp1.perm (zz _).symm).ex_out;obtain ⟨y,hp3⟩:=hp2.ex_out;obtain ⟨e,hp4⟩:=(hp3.perm (zb _ _ _)).pur_out;subst e;have hs5:=Sat.over (w0:=w0) z6 hp4;clear hs hp1 hp2 hp3 hp4;unfold ftV;go_wp2_with fail;refine (hC.out _ z3).mono ?_;rintro en w2 ⟨rfl,hp⟩;have hs6:=Sat.past (w0:=w0) z6 hp;clear hp hs5;go_wp2_with fail;go_returns;exact ⟨rfl,z3⟩
theorem zsd (v u:Value) (c:Cf) (s:Sc) (rg:z6B c) (w0:World) (hr:z8I w0 v c) (hq:zQa w0 u s) (hok:(z5g c).err=0) (he:scE s=0) :
  Calls Tryz.prog 17 #[v,u] w0 (Ret w0 fun v'=>ex fun g:Nat=>ex fun b:Nat=>ex fun y:Fx=>ex fun ta:Option Addr=>ex fun tc:Nat=>pur (v'=.tuple #[.pointer (some ⟨g,0,none⟩),.int .i64 0])*wdP g b y c ta tc (zQc c s)):=by
 have hs:=Sat.start w0;have hN:=hid (fun (w:World) (h:Sat w0 w any)=>zhA v c rg (z4u (z4E rg hok)) w (hr.later h) hok);have hC:=hid (fun (w:World) (h:Sat w0 w any)=>zr7 u s w (hq.later h));obtain ⟨ta,la,sa,qa,ma,tc,lc,sc,qc,mc,rfl,_,_,_,_,_⟩:=hr.form;obtain ⟨aa,ac,ta2,tc2,rfl,h1,h2⟩:=hq;obtain ⟨_,_,yz3,yz4,_⟩:=zqE he;have hA:=hid (fun (w:World) (P:HP) (h:Sat w0 w P)=>zrE (.slice aa s.ar.length ac) s.ar w0 w P h (h1.later h) (by omega));have hT:=hid (fun (w:World) (P:HP) (h:Sat w0 w P)=>zrF (.slice ta2 s.tape.length tc2) s.tape w0 w P h (h2.later h) (by omega));rw [he] at hC;clear hr hok he h1 h2
 go_enter Tryz.func17,Tryz.ntmps17
 go_wp2_with fail;refine (hN.out _ z3).mono ?_;rintro en w1 ⟨v1,rfl,hp1⟩;obtain ⟨b,hp2⟩:=(hp1.perm (zz _).symm).ex_out;obtain ⟨y,hp3⟩:=hp2.ex_out;obtain ⟨e,hp4⟩:=(hp3.perm (zb _ _ _)).pur_out;subst e;have hs5:=Sat.over (w0:=w0) z6 hp4;clear hs hp1 hp2 hp3 hp4;unfold ftV;go_wp2_with fail;refine (hC.out _ z3).mono ?_;rintro en w2 ⟨rfl,hp⟩;have hs6:=Sat.past (w0:=w0) z6 hp;clear hp hs5;go_wp2_with fail;refine z9 (w0:=w0) ?_;intro w3 hs7;clear hs6;refine zj (fun w'=>Sat w0 w' (pts (w0.heap.size+1) 0 [.slice aa s.ar.length ac,.slice ta2 s.tape.length tc2,.int .i64 s.steps]*any)) [(0,true),(1,true),(2,true),(4,true),(5,true),(7,true),(8,true),(3,false),(6,false),(9,true),(10,false),(11,true),(12,true)] (by kernel_rfl) (by kernel_rfl) (fun _ _ _ _ h=>h) zq ?_
 iterate 7 (first | refine zsR ?_ | refine zsQ ?_)
 refine z29 rfl (by rfl) (fun K hK=>?_);go_wp2_with fail;refine (hA.out _ _ z6).mono ?_;rintro en w4 ⟨v4,rfl,hs8⟩;obtain ⟨na,nc,rfl⟩:=hs8.slice_form;clear hs7;go_wp2_with fail;refine ⟨zq,?_⟩;refine z29 rfl (by rfl) (fun K hK=>?_);go_wp2_with fail;refine (hT.out _ _ z6).mono ?_;rintro en w5 ⟨v5,rfl,hs9⟩;obtain ⟨ma2,mc2,rfl⟩:=hs9.slice_form;clear hs8;go_wp2_with fail;refine ⟨zq,?_⟩
 iterate 1 (first | refine zsR ?_ | refine zsQ ?_)
 refine z29 rfl (by rfl) (fun K hK=>?_);go_wp2_with fail;refine ⟨zq,?_⟩
 iterate 2 (first | refine zsR ?_ | refine zsQ ?_)
 refine zB ?_;go_wp2_with fail;go_returns;refine ⟨_,rfl,zrR (b:=b) (y:=y) (ta:=ma2) (tc:=mc2) (na:=na) (nc:=nc) ?_⟩;exact z3
end Go.Proofs.YtgiiidminlhbpaaGreatDoor
namespace Go.Proofs.YtgiiidminlhbpaaGreatDoor
open Go.RowKit Go.Sx
abbrev zsP:List Value:=[.int .u64 0,.int .u64 0,.int .i64 0,.int .i64 0,.int .i64 0,.int .u32 0,.int .u32 0,.int .u32 0,.int .u32 0,.int .u32 0,.int .u32 0,.int .u32 0,.int .u32 0,.slice none 0 0,.slice none 0 0,.int .u32 0,.int .u32 0,.slice none 0 0,.slice none 0 0,.slice none 0 0,.slice none 0 0,.slice none 0 0,.slice none 0 0,.slice none 0 0,.slice none 0 0,.slice none 0 0,.slice none 0 0,.int .u64 0,.bool false]
theorem z4C {P:Program} {f:FuncId} {args:Array Value} {Q:Ending→World→Prop} {w0 w:World} {R:HP} [h:Sat w0 w R] (k:∀ wx,Sat w0 wx R→Calls P f args wx Q):Calls P f args w Q:=k w h
end Go.Proofs.YtgiiidminlhbpaaGreatDoor
namespace Go.Proofs.YtgiiidminlhbpaaGreatDoor
open Go.RowKit Go.Sx Go.Dl Go.Lk Go.Rq Go.Au
def wdE (c:Cf) (s:Sc):Int:=if (z5g c).err≠0 then 3 else scE s
theorem zs1 {c:Cf} {s:Sc} (h:wdE c s=0):(z5g c).err=0∧scE s=0:=by
 unfold wdE at h;split at h
 ·cases h
 ·rename_i e;exact ⟨Classical.not_not.1 e,h⟩
theorem zrn (v u:Value) (c:Cf) (s:Sc) (rg:z6B c) (w0:World) (hr:z8I w0 v c) (hq:zQa w0 u s) (he:wdE c s≠0) :
  Calls Tryz.prog 17 #[v,u] w0 (zp w0 (.tuple #[.pointer none,.int .i64 (wdE c s)]) emp):=by
 unfold wdE at he ⊢
 split at he
 ·rename_i h;rw [if_pos h];exact zqO v u c s rg w0 hr hq h
 ·rename_i h;rw [if_neg h];exact zr6 v u c s rg w0 hr hq (Classical.not_not.1 h) he
theorem zs3 (v u:Value) (c:Cf) (s:Sc) (rg:z6B c) (w0:World) (hr:z8I w0 v c) (hq:zQa w0 u s) (he:wdE c s≠0) :
  Calls Tryz.prog 7 #[v,u] w0 (zp w0 (.tuple #[.slice none 0 0,.agg zsP.toArray,.int .i64 (wdE c s)]) any):=by
 have hs:=Sat.start w0;have hN:=hid (fun (w:World) (h:Sat w0 w any)=>zrn v u c s rg w (hr.later h) (hq.later h) he);obtain ⟨ta,la,sa,qa,ma,tc,lc,sc,qc,mc,rfl,_,_,_,_,_⟩:=hr.form;obtain ⟨aa,ac,ta2,tc2,rfl,_,_⟩:=hq;have e1:(wdE c s != 0)=true:=by simp [he]
 clear hr he;generalize wdE c s=z at *
 go_enter Tryz.func7,Tryz.ntmps7
 go_wp2_with fail;refine (hN.out _ z3).mono ?_;rintro en w1 ⟨rfl,hp⟩;have hs2:=Sat.past (w0:=w0) z6 hp;clear hs hp;go_wp2_with (first | (refine z09 (w0:=w0) (cells:=zsP) (old:=zsP) rfl rfl rfl rfl Go.Sx.own rfl (by kernel_rfl) rfl ?_;intro w5 hs5));refine bodyPost_ret (zqv Tryz.results7 rfl hs5 Tryz.underlying45 rfl (by kernel_rfl)) rfl ?_;exact ⟨rfl,z3⟩
end Go.Proofs.YtgiiidminlhbpaaGreatDoor
namespace Go.Sx
open Go.RowKit
section
variable {P:Program} {l:List Oper} {Q:Exit→Act→World→Prop} {S:World→Prop} {j0 i n:Nat} {rest:List (Nat×Nat)} {a:Act} {w w' w0:World} {o:Oper}
theorem z9o (ho:l[i]?=some o) (hg:o.guard=none) (h:o.wp P a w (fun a' w'=>S w'∧z0o P l.toArray Q S j0 rest a' w') Q):z0o P l.toArray Q S j0 ((i,2)::rest) a w:=by
 refine z0L fun K hK=>?_;rw [ho];show if Region.wanted o (yielded l.toArray a.tmps)=true then _ else _;rw [if_pos (show Region.wanted o (yielded l.toArray a.tmps)=true by simp [Region.wanted,hg])];exact Oper.wp_mono (fun a w h=>hK a w h) h
theorem zib (ho:l[i]?=some o) (hg:o.guard=none) (h:o.wp P a w (fun a' w'=>z0o P l.toArray Q S j0 rest a' w') Q):z0o P l.toArray Q S j0 ((i,n+3)::rest) a w:=by
 refine z14 fun K hK=>?_;rw [ho];show if Region.wanted o (yielded l.toArray a.tmps)=true then _ else _;rw [if_pos (show Region.wanted o (yielded l.toArray a.tmps)=true by simp [Region.wanted,hg])];exact Oper.wp_mono (fun a w h=>hK a w h) h
theorem z13 {R:Ending→World→Prop} {f:FuncId} {vals:Array Value} (ho:l[i]?=some o) (hg:o.guard=none) (hx:(execOp a.eval o).run P w=.ok (.enter f vals) w) (hc:Calls P f vals w R)
  (hk:∀ e w',R e w'→∃ v,e=.returned v∧S w'∧z0o P l.toArray Q S j0 rest (a.put o.dst v) w'):z0o P l.toArray Q S j0 ((i,2)::rest) a w:=by
 refine z9o ho hg ?_;unfold Oper.wp;rw [hx,Oper.upon_enter];refine hc.mono ?_;intro e w' hr;obtain ⟨v,rfl,h⟩:=hk e w' hr;exact h
theorem z24 {R:HP} [hs:Sat w0 w R] (vs:List Value) (t:TypeId) (m:Nat) (ho:l[i]?=some o) (hg:o.guard=none)
  (hx:(execOp a.eval o).run P w=.ok (.value (.slice (some ⟨w.heap.size,0,none⟩) m m)) (w.alloc (.cells vs.toArray t)))
  (hk:∀ b w',Sat w0 w' (pts b 0 vs*R)→S w'∧z0o P l.toArray Q S j0 rest (a.put o.dst (.slice (some ⟨b,0,none⟩) m m)) w'):z0o P l.toArray Q S j0 ((i,2)::rest) a w:=by
 refine z9o ho hg ?_;unfold Oper.wp;rw [hx];exact hk _ _ (hs.alloc vs.toArray t)
theorem z3d {α:Type} {sz:Nat} {E:Enc α sz} {t e bytes:Nat} {z:Value} {l1 l2:List α} {s x:Operand} {sa:Option Addr} {sn sc m b:Nat} {F:HP}
  (ho:l[i]?=some o) (hg:o.guard=none) (hop:o.op=.call { callee:=.builtin .append,args:=#[s,x],argTypes:=#[t,t] }) [ET:z63 P t α sz E e bytes z]
  (hv:a.eval s=.slice sa sn sc) (hx:a.eval x=.slice (some ⟨b,0,none⟩) m m) (hs:Sat w0 w (z7 (.slice sa sn sc) l1*(pts b 0 (cellsOf l2)*F))) (hm:m=l2.length) (h63:sn+m≤1000000000)
  (hk:∀ a' cap' L w',Hid (L=l1++l2)→Sat w0 w' (z7 (.slice a' L.length cap') L*(pts b 0 (cellsOf l2)*F))→S w'∧z0o P l.toArray Q S j0 rest (a.put o.dst (.slice a' L.length cap')) w'):z0o P l.toArray Q S j0 ((i,2)::rest) a w:=by
 subst hm;refine z9o ho hg ?_;have h2:=hs.perm (by ac_rfl:_=pts b 0 (cellsOf l2)*(z7 (.slice sa sn sc) l1*F));haveI:RdC w E (.slice (some ⟨b,0,none⟩) l2.length l2.length) l2:=⟨⟨_,l2.length,b,0,rfl,Nat.le_refl _,by unfold maxLen;omega,fun _=>rfl,fun j u hj=>h2.cell hj⟩⟩;haveI:=hs;refine z2J hop hv hx h63 ?_;intro a' cap' L w' hL _ _ hs' _;exact hk a' cap' L w' hL hs'
theorem zaN {t e bytes:Nat} {z:Value} {κ:IntKind} {l1 l2:List Int} {s x:Operand} {sa:Option Addr} {sn sc m b:Nat} {F:HP}
  (ho:l[i]?=some o) (hg:o.guard=none) (hop:o.op=.call { callee:=.builtin .append,args:=#[s,x],argTypes:=#[t,t] }) [ET:zjz P t κ e bytes z]
  (hv:a.eval s=.slice sa sn sc) (hx:a.eval x=.slice (some ⟨b,0,none⟩) m m) (hs:Sat w0 w (z5 κ (.slice sa sn sc) l1*(pts b 0 (l2.map (Value.int κ))*F))) (hm:m=l2.length) (h63:sn+m≤1000000000)
  (hk:∀ a' cap' L w',Hid (L=l1++l2)→Sat w0 w' (z5 κ (.slice a' L.length cap') L*(pts b 0 (l2.map (Value.int κ))*F))→S w'∧z0o P l.toArray Q S j0 rest (a.put o.dst (.slice a' L.length cap')) w'):z0o P l.toArray Q S j0 ((i,2)::rest) a w:=by
 subst hm;refine z9o ho hg ?_;have h2:=hs.perm (by ac_rfl:_=pts b 0 (l2.map (Value.int κ))*(z5 κ (.slice sa sn sc) l1*F));haveI:Rd w κ (.slice (some ⟨b,0,none⟩) l2.length l2.length) l2:=⟨⟨_,l2.length,b,0,rfl,Nat.le_refl _,by unfold maxLen;omega,fun _=>rfl,fun j hj=>by
  have:=h2.cell (j:=j) (v:=.int κ (l2.getD j 0)) (by simp [List.getD,hj]);exact this⟩⟩
 haveI:=hs;refine z4k hop hv hx h63 ?_;intro a' cap' L w' hL _ _ hs' _;exact hk a' cap' L w' hL hs'
theorem z1I {ad:Addr} {v:Value} (ho:l[i]?=some o) (hg:o.guard=none) (hx:(execOp a.eval o).run P w=.ok .skip (w.setCell ad v))
  (hk:z0o P l.toArray Q S j0 rest (a.put o.dst undef) (w.setCell ad v)):z0o P l.toArray Q S j0 ((i,n+3)::rest) a w:=by
 refine zib ho hg ?_;unfold Oper.wp;rw [hx];exact hk
theorem zcx {α:Type} {sz:Nat} [E:Enc α sz] {t e bytes:Nat} {z:Value} {l1 l2:List α} {s x:Operand} {sa:Option Addr} {sn sc m b:Nat} {F:HP} {ops:Array Oper} {rst:List Oper}
  (hg:o.guard=none) (hop:o.op=.call { callee:=.builtin .append,args:=#[s,x],argTypes:=#[t,t] }) (ET:z1m P t e sz bytes z) (hbt:bytes≤1000)
  (hv:a.eval s=.slice sa sn sc) (hx:a.eval x=.slice (some ⟨b,0,none⟩) m m) (hs:Sat w0 w (z7 (.slice sa sn sc) l1*(pts b 0 (cellsOf l2)*F))) (hm:m=l2.length) (h63:sn+m≤1000000)
  (hk:∀ a' cap' L w',Hid (L=l1++l2)→Sat w0 w' (z7 (.slice a' L.length cap') L*(pts b 0 (cellsOf l2)*F))→wpList P ops Q rst (a.put o.dst (.slice a' L.length cap')) w'):wpList P ops Q (o::rst) a w:=by
 subst hm;have h2:=hs.perm (by ac_rfl:_=pts b 0 (cellsOf l2)*(z7 (.slice sa sn sc) l1*F));have hsl:sn=l1.length:=hs.rdR.caps.1;have hbb:(l1.length+l2.length)*bytes≤140737488355328:=Nat.le_trans (Nat.mul_le_mul (show l1.length+l2.length≤1000000 by omega) hbt) (by decide);refine z00 hg s x hop ET hv hs (some ⟨b,0,none⟩) l2.length l2.length (cellsOf l2) hx (zJ l2) (fun h=>by cases h) (fun ad hd j u hj=>?_) (z1f l2) (by unfold maxLen;omega) hbb ?_
 ·cases hd
  rw [Addr.add_lit];exact h2.cell hj
 ·intro v' w' hs' _;have hs2:Sat w0 w' (z7 v' (l1++l2)*(pts b 0 (cellsOf l2)*F)):=by
   unfold z7;rw [List.length_append,z0g];exact hs'
  obtain ⟨a',cap',rfl⟩:=hs2.slice_form;exact hk a' cap' _ w' rfl hs2
end
end Go.Sx
