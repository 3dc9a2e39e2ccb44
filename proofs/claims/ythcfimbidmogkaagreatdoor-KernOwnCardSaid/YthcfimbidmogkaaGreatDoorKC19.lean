/-
  Parts of the proof: KernNv KernNu KernNw Great Awake Open CfOpen LStops SameD.
-/
import Derived.Test.YthcfimbidmogkaaGreatDoorRows
import Derived.ProofKit
import Derived.OpenShut
import Derived.ShutString
import Derived.ChangeOld
import Derived.Below
import Derived.Deep.Slices
import Derived.Test.YthcfimbidmogkaaGreatDoorKC0
import Derived.Test.YthcfimbidmogkaaGreatDoorKC7
import Derived.Test.YthcfimbidmogkaaGreatDoorKC10
import Derived.Test.YthcfimbidmogkaaGreatDoorKC11
import Derived.Test.YthcfimbidmogkaaGreatDoorKC13
import Derived.Test.YthcfimbidmogkaaGreatDoorKC14
import Derived.Test.YthcfimbidmogkaaGreatDoorKC17
import Derived.Test.YthcfimbidmogkaaGreatDoorKC18
set_option linter.unusedVariables false
set_option linter.unusedSimpArgs false
set_option maxHeartbeats 32000000
set_option maxRecDepth 100000
namespace Go.Proofs.YthcfimbidmogkaaGreatDoor
open Go.RowKit Go.Sx Go.Dl Go.Lk Go.Rq Go.Au
instance (priority:=1200) Sat.noughts (w0 w:World) (P:HP) (M n:Nat) (t:TypeId) [h:Sat w0 w P] [s:z89 w n]:Sat w0 (w.alloc (.cells (Array.replicate M (Value.int .u32 0)) t)) (pts n 0 ((List.replicate M (0:Int)).map (Value.int .u32))*P) :=
 s.eq ▸ (h.alloc (Array.replicate M (Value.int .u32 0)) t).perm (by rw [Array.toList_replicate,List.map_replicate])
theorem znv (n m:Nat) (w0 w:World) (F:HP) (hs:Sat w0 w F) (hn:n≤16) (hm:m<2^n) :
  Calls Tryz.prog 41 #[.int .i64 n,.int .u32 m] w (zp w0 (.tuple #[.pointer (some ⟨w.heap.size,0,none⟩),.int .i64 0]) (lnP w.heap.size ⟨2^n-1,0,m,255⟩*F)):=by
 have d1:decide ((n:Int)<0)=false:=by simp
 have d2:decide ((16:Int)<n)=false:=by simp;omega
 have d3:decide (16<n)=false:=by simp;omega
 have e4:((m:Int) / 2^n != 0)=false:=by
  have:(m:Int) / 2^n=0:=Int.ediv_eq_zero_of_lt (Int.natCast_nonneg _) (by exact_mod_cast hm);simp [this]
 have e5:((2:Int)^n-1)%4294967296=((2^n-1:Nat):Int):=by
  have h1:2^n≤2^16:=Nat.pow_le_pow_right (by decide) hn;have h2:1≤2^n:=Nat.one_le_two_pow;have h3:((2:Int)^n)=((2^n:Nat):Int):=by push_cast;rfl
  rw [h3];omega
 go_enter Tryz.func41,Tryz.ntmps41
 go_wp2_with fail;go_ret2;exact ⟨rfl,hs.alloc #[.int .u32 ((2^n-1:Nat):Int),.int .u32 0,.int .u32 m,.int .i64 255] _⟩
def mrK (c:Cf) (hd:Nat→Hd) (k:Nat):List Mv:=(List.range k).map fun t=>⟨(hd t).ad (z1w c t),z1w c t,(hd t).cap⟩
theorem zc3 (c:Cf) (hd:Nat→Hd) (k:Nat):(mrK c hd k).length=k:=by simp [mrK]
theorem zi1 (c:Cf) (hd:Nat→Hd) (k:Nat) (h:Hd):mrK c (upd hd k h) (k+1)=mrK c hd k++[⟨h.ad (z1w c k),z1w c k,h.cap⟩]:=by
 unfold mrK;rw [List.range_succ,List.map_append]
 congr 1
 ·refine List.map_congr_left fun t ht=>?_;have:=List.mem_range.1 ht;rw [zL _ _ (by omega)]
 ·simp
def prK (sb:Nat→Nat) (k:Nat):List Pv:=(List.range k).map fun t=>⟨sb t⟩
theorem z5z (sb:Nat→Nat) (k:Nat):(prK sb k).length=k:=by simp [prK]
theorem zdg (sb:Nat→Nat) (k b:Nat):prK (upd sb k b) (k+1)=prK sb k++[⟨b⟩]:=by
 unfold prK;rw [List.range_succ,List.map_append]
 congr 1
 ·refine List.map_congr_left fun t ht=>?_;have:=List.mem_range.1 ht;rw [zL _ _ (by omega)]
 ·simp
theorem z9R {f:Nat→Nat→HP} {hd:Nat→Nat} {k:Nat} {h:Nat}:z0F (fun t=>f t (upd hd k h t)) (k+1)=z0F (fun t=>f t (hd t)) k*f k h:=by
 rw [z0G,zK]
 congr 1
 exact zS fun t ht=>by rw [zL _ _ (by omega)]
theorem z46 {α:Type} (f:Nat→α) (d:α) {n t:Nat} (h:t<n):((List.range n).map f).getD t d=f t:=by
 simp [List.getD,h]
section
variable (x:Fx) (c:Cf)
theorem zkF:pts x.mm.b x.mm.o (cellsOf (mrK c x.mv c.ls.length))*z0F (fun t=>pts (x.mv t).b (x.mv t).o ((List.replicate (z1w c t) (0:Int)).map (Value.int .u32))) c.ls.length=zfR x c (z34 c).mems:=by
 rw [z5c,zc3,z36];refine zS fun t ht=>?_;have e:(mrK c x.mv c.ls.length).getD t (Enc.dft:Mv)=⟨(x.mv t).ad (z1w c t),z1w c t,(x.mv t).cap⟩:=z46 _ _ ht;rw [e,Nat.mul_one];rfl
theorem zl4:pts x.sa.b x.sa.o (cellsOf (prK x.sb c.sems.length))*z0F (fun t=>z3f (x.sb t) (lg c.sems t) []) c.sems.length=ziv x c (z34 c).sm:=by
 rw [z5c,z5z,z36];refine zS fun t ht=>?_;have e:(prK x.sb c.sems.length).getD t (Enc.dft:Pv)=⟨x.sb t⟩:=z46 _ _ ht;rw [e,Nat.mul_one];rfl
theorem zhV:pts x.qa.b x.qa.o (cellsOf (prK x.qb c.queues.length))*z0F (fun t=>mqP (x.qb t) (zjm (lg c.queues t))) c.queues.length=zda x c (z34 c).ml:=by
 rw [z5c,z5z,z36];refine zS fun t ht=>?_;have e:(prK x.qb c.queues.length).getD t (Enc.dft:Pv)=⟨x.qb t⟩:=z46 _ _ ht;rw [e,Nat.mul_one];rfl
theorem ziF:pts x.ta.b x.ta.o (cellsOf (trK c x.tv c.ts.length))*z0F (fun t=>pts (x.tv t).b (x.tv t).o ((List.replicate (z1x c t) (0:Int)).map (Value.int .u32))) c.ts.length=zbd x c (fun t=>((z34 c).T t,(z34 c).tm t)):=by
 rw [z5c,zcr,z36];refine zS fun t ht=>?_;have e:(trK c x.tv c.ts.length).getD t (Enc.dft:Tr)=⟨zaJ c t,(x.tv t).ad (z1x c t),z1x c t,(x.tv t).cap⟩:=z46 _ _ ht;rw [e];show pts x.ta.b (x.ta.o+t*15) (tsL (zaJ c t)++cxL (zaJ c t).at_ (zaJ c t).rg _)*_=_;rw [zd,zb]
 rfl
end
theorem Sat.snoc {α:Type} {sz:Nat} [E:Enc α sz] {w0 w:World} {F:HP} {v:Value} {l:List α} {x:α} (hs:Sat w0 w (zX sz v (l.length+1) (cellsOf l++E.enc x)*F)):Sat w0 w (z7 v (l++[x])*F) :=
 hs.perm (by unfold z7;rw [List.length_append,z0g,zy,z1e,List.append_nil];rfl)
instance (b:Nat):zgX zjW [.pointer (some ⟨b,0,none⟩)] [⟨b⟩]:=⟨rfl⟩
theorem zhS (u:Int) (w0 w:World) (F:HP) (hs:Sat w0 w F) (h:1≤u∧u≤64) :
  Calls Tryz.prog 40 #[.int .i64 u] w (zp w0 (.tuple #[.pointer (some ⟨w.heap.size,0,none⟩),.int .i64 0]) (mqP w.heap.size (zjm u)*F)) :=
 zc1 u.toNat u (by omega) w0 w F hs h
theorem zmk (v:Value) (l:List Int) (m:Int) (w0 w:World) (F:HP) (hs:Sat w0 w (z5 .i64 v l*F)) (hl:l.length≤64) (hM:0≤m∧m≤32) (hv:ziX l) :
  Calls Tryz.prog 38 #[v,.int .i64 m] w (Ret w0 fun v'=>ex fun b:Nat=>pur (v'=.tuple #[.pointer (some ⟨b,0,none⟩),.int .i64 0])*(lkP b (z5x l m.toNat)*(z5 .i64 v l*F))):=by
 obtain ⟨M,rfl⟩:=Int.eq_ofNat_of_zero_le hM.1;refine (ze3 v l M w0 w F hs hl (by omega)).mono ?_;rintro en w' ⟨hy, -⟩;obtain ⟨b,rfl,h⟩:=hy hv;exact ⟨_,rfl,Sat.perm (Sat.ex_in (F:=emp) b (Sat.perm (Sat.pur_in rfl h) (zz _).symm)) (zz _)⟩
theorem zno {w0 w:World} (kb nb lb:Nat) (x:Cx0) (c:Cf) (hT hM:Nat→Hd) (sb qb:Nat→Nat) (ml ta1 sl ql:Option Addr) (mc0 tc1 sc0 qc0:Nat)
  (hs:Sat w0 w (pts kb 541 [.slice ml (mrK c hM c.ls.length).length mc0,.slice ta1 (trK c hT c.ts.length).length tc1,.pointer (some ⟨lb,0,none⟩),.slice sl (prK sb c.sems.length).length sc0,.slice ql (prK qb c.queues.length).length qc0,.pointer (some ⟨nb,0,none⟩),.int .u64 0,.bool false]*(z7 (.slice ml (mrK c hM c.ls.length).length mc0) (mrK c hM c.ls.length)*(z7 (.slice ta1 (trK c hT c.ts.length).length tc1) (trK c hT c.ts.length)*(z7 (.slice sl (prK sb c.sems.length).length sc0) (prK sb c.sems.length)*(z7 (.slice ql (prK qb c.queues.length).length qc0) (prK qb c.queues.length)*(z0F (fun t=>pts (hM t).b (hM t).o ((List.replicate (z1w c t) (0:Int)).map (Value.int .u32))) c.ls.length*(z0F (fun t=>pts (hT t).b (hT t).o ((List.replicate (z1x c t) (0:Int)).map (Value.int .u32))) c.ts.length*(z0F (fun t=>z3f (sb t) (lg c.sems t) []) c.sems.length*(z0F (fun t=>mqP (qb t) (zjm (lg c.queues t))) c.queues.length*(lkP lb (z5x (lvK c c.ts.length) c.mutexes.toNat)*(lnP nb ⟨2^c.ls.length-1,0,c.mask,255⟩*(z21 kb 2 (z0p c c.ts.length)*(pts kb 0 [.int .u64 c.count,.int .u64 c.cycle]*(pts kb 259 [.int .i64 c.table]*(rdP kb 260 (fun _=>[])*(pts kb 518 (cfL x c)*(pts kb 530 [.int .i64 255]*(pts kb 531 (cxL 0 r80 (.slice none 0 0))*(pts kb 549 [.slice none 0 0]*(cfH x c))))))))))))))))))))):Sat w0 w (ex fun y:Fx=>knP kb y c (z34 c)):=by
 obtain ⟨hm,em, -,hs⟩:=z2T (hs.pull (Q:=z7 (.slice ml (mrK c hM c.ls.length).length mc0) (mrK c hM c.ls.length)));obtain ⟨ht,et, -,hs⟩:=z2T (hs.pull (Q:=z7 (.slice ta1 (trK c hT c.ts.length).length tc1) (trK c hT c.ts.length)));obtain ⟨hS,eS, -,hs⟩:=z2T (hs.pull (Q:=z7 (.slice sl (prK sb c.sems.length).length sc0) (prK sb c.sems.length)));obtain ⟨hQ,eQ, -,hs⟩:=z2T (hs.pull (Q:=z7 (.slice ql (prK qb c.queues.length).length qc0) (prK qb c.queues.length)));rw [em,et,eS,eQ,zc3,zcr,z5z,z5z] at hs;obtain ⟨y,hy⟩:∃ y:Fx,y=⟨x,hm,hM,ht,hT,lb,hS,sb,hQ,qb,nb⟩:=⟨_,rfl⟩;have e1:=zkF y c;have e2:=ziF y c;have e3:=zl4 y c;have e4:=zhV y c;have h1:=Sat.ex_in (f:=fun v:Sh=>pts kb 531 (cxL 0 r80 v.v)) ⟨none,0,0⟩ (hs.pull (Q:=pts kb 531 (cxL 0 r80 (.slice none 0 0))));have h2:=z6A (v:=.slice none 0 0) (l:=[]) ((h1.pull (Q:=pts kb 549 [.slice none 0 0])).perm (by show _=_*(z7 (α:=Ev) (.slice none 0 0) []*_);rw [z03,zm]));refine Sat.perm (Sat.ex_in (F:=emp) y ?_) (zz _);refine h2.perm ?_;rw [zz];unfold knP;dsimp only [z34] at e1 e2 e3 e4 ⊢;rw [show zgU c=lvK c c.ts.length from rfl];rw [← e1,← e2,← e3,← e4,hy];dsimp only [kcL]
 ac_rfl
theorem zhA (v:Value) (c:Cf) (rg:z6B c) (sm:z5a c) (w0:World) (hr:z8I w0 v c) (hok:(z5g c).err=0) :
  Calls Tryz.prog 13 #[v] w0 (Ret w0 fun v'=>ex fun b:Nat=>ex fun y:Fx=>pur (v'=.tuple #[.pointer (some ⟨b,0,none⟩),ftV ft0])*knP b y c (z34 c)):=by
 have hs:=Sat.start w0;have ok:=z4E rg hok;have hnt:=ok.nt;have hnl:=ok.nl;have hns:=ok.ns;have hnq:=ok.nq;have hTm:=hid (fun t ht=>(ok.t t ht).2.2.2.2.1);have hLm:=hid (fun t ht=>(ok.l t ht).1);have OK:=hid ok;clear ok;have hA:=hid (fun (w:World) (h:Sat w0 w any)=>z9W v c rg w (hr.later h));have hB:=hid (fun (w:World) (h:Sat w0 w any)=>zcG v c sm w (hr.later h));obtain ⟨ta,la,sa,qa,ma,tc,lc,sc,qc,mc,rfl,h1,h2,h3,h4,h5⟩:=hr.form;clear hr h1 h2 h3 h4 h5
 go_enter Tryz.func13,Tryz.ntmps13
 go_wp2_with fail;refine (hA.out _ z3).mono ?_;rintro en w1 ⟨rfl,hs1⟩;have hs2:=Sat.past (w0:=w0) z6 hs1;clear hs1 hs;unfold ftV;go_wp2_with fail;refine (hB.out _ z3).mono ?_;rintro en w3 ⟨v3,rfl,hs3⟩;obtain ⟨x,hs4⟩:=(hs3.perm (zz _).symm).ex_out;obtain ⟨⟨e3,hcap⟩,hs5⟩:=(hs4.perm (zb _ _ _)).pur_out;clear hs3 hs4;have hs6:=Sat.over (w0:=w0) z6 hs5;clear hs5 hs2;have e4:v3=.agg #[.slice (x.ct.ad c.ts.length) c.ts.length x.ct.cap,.slice (x.cl.ad c.ls.length) c.ls.length x.cl.cap,.int .i64 c.mutexes,.slice (x.cs.ad c.sems.length) c.sems.length x.cs.cap,.slice (x.cq.ad c.queues.length) c.queues.length x.cq.cap,.slice (x.cm.ad c.timers.length) c.timers.length x.cm.cap,.int .i64 c.table,.int .u32 c.mask,.int .u32 c.filter,.int .i64 c.charge,.int .u64 c.cycle,.int .u64 c.count]:=e3;clear e3;obtain ⟨at0,hA0⟩:∃ a,x.ct.ad c.ts.length=a:=⟨_,rfl⟩;obtain ⟨al0,hL0⟩:∃ a,x.cl.ad c.ls.length=a:=⟨_,rfl⟩;obtain ⟨as0,hS0⟩:∃ a,x.cs.ad c.sems.length=a:=⟨_,rfl⟩;obtain ⟨aq0,hQ0⟩:∃ a,x.cq.ad c.queues.length=a:=⟨_,rfl⟩;rw [hA0,hL0,hS0,hQ0] at e4;have HA0:=hid hA0;have HL0:=hid hL0;have HS0:=hid hS0;have HQ0:=hid hQ0;have HC:=hid hcap;clear hA0 hL0 hS0 hQ0 hcap;subst e4;have hs7:Sat w0 w3 (pts w0.heap.size 0 [.slice ta c.ts.length tc,.slice la c.ls.length lc,.int .i64 c.mutexes,.slice sa c.sems.length sc,.slice qa c.queues.length qc,.slice ma c.timers.length mc,.int .i64 c.table,.int .u32 c.mask,.int .u32 c.filter,.int .i64 c.charge,.int .u64 c.cycle,.int .u64 c.count]*(pts (w0.heap.size+1) 0 [.int .i64 0,.int .i64 0,.int .i64 0,.int .i64 0]*cfH x c)):=z3;clear hs6
 go_simp
 iterate 9 (first | go_values | go_skip | go_guarded | go_step | go_upon | go_back | go_simp)
 refine zev (w0:=w0) ?_;intro w4 hs8;clear hs7
 iterate 30 (first | go_values | go_skip | go_guarded | go_step | go_upon | go_back | go_simp)
 refine z9 (w0:=w0) ?_;intro w5 hs9;clear hs8;generalize w4.heap.size=kb at *;generalize Value.agg (Array.setIfInBounds _ 1 _)=vK;go_wp2_with fail;refine z9 (w0:=w0) ?_;intro w6 hsw;clear hs9
 go_loopw [6,44] (fun lvv i wr=>∃ k:Nat, ∃ lva:Option Addr, ∃ lvc:Nat, ∃ ta1:Option Addr, ∃ tc1:Nat, ∃ hT:Nat→Hd, ∃ lv:List Int, ∃ tr:List Tr,k≤c.ts.length∧lvv=.slice lva lv.length lvc∧i=.int .i64 k∧(lv=lvK c k∧tr=trK c hT k∧∀ t,t<k→z1x c t≤(hT t).cap∧(hT t).cap≤maxLen)∧Sat w0 wr (pts kb 541 [.slice none 0 0,.slice ta1 tr.length tc1,.pointer none,.slice none 0 0,.slice none 0 0,.pointer none,.int .u64 0,.bool false]*(z21 kb 2 (z0p c k)*(z5 .i64 (.slice lva lv.length lvc) lv*(z7 (.slice ta1 tr.length tc1) tr*(z0F (fun t=>pts (hT t).b (hT t).o ((List.replicate (z1x c t) (0:Int)).map (Value.int .u32))) k*(pts kb 0 [.int .u64 c.count,.int .u64 c.cycle]*(pts kb 259 [.int .i64 c.table]*(rdP kb 260 (fun _=>[])*(pts kb 518 [.slice at0 c.ts.length x.ct.cap,.slice al0 c.ls.length x.cl.cap,.int .i64 c.mutexes,.slice as0 c.sems.length x.cs.cap,.slice aq0 c.queues.length x.cq.cap,.slice (x.cm.ad c.timers.length) c.timers.length x.cm.cap,.int .i64 c.table,.int .u32 c.mask,.int .u32 c.filter,.int .i64 c.charge,.int .u64 c.cycle,.int .u64 c.count]*(pts kb 530 [.int .i64 255]*(pts kb 531 (cxL 0 r80 (.slice none 0 0))*(pts kb 549 [.slice none 0 0]*(pts w0.heap.size 0 [.slice at0 c.ts.length x.ct.cap,.slice al0 c.ls.length x.cl.cap,.int .i64 c.mutexes,.slice as0 c.sems.length x.cs.cap,.slice aq0 c.queues.length x.cq.cap,.slice (x.cm.ad c.timers.length) c.timers.length x.cm.cap,.int .i64 c.table,.int .u32 c.mask,.int .u32 c.filter,.int .i64 c.charge,.int .u64 c.cycle,.int .u64 c.count]*(pts (w0.heap.size+1) 0 [.int .i64 0,.int .i64 0,.int .i64 0,.int .i64 0]*(cfH x c*(any))))))))))))))))) (fun _ i _=>c.ts.length-(intOf i).toNat)
 case atStart =>
  refine ⟨0,none,0,none,0,fun _=>⟨none,0,0,0⟩,[],[],Nat.zero_le _,rfl,rfl,⟨rfl,rfl,fun t ht=>absurd ht (by omega)⟩,?_⟩;refine mpS (P:=pts kb 541 [.slice none 0 0,.slice none 0 0,.pointer none,.slice none 0 0,.slice none 0 0,.pointer none,.int .u64 0,.bool false]*(z21 kb 2 []*(pts kb 0 [.int .u64 c.count,.int .u64 c.cycle]*(pts kb 259 [.int .i64 c.table]*(rdP kb 260 (fun _=>[])*(pts kb 518 [.slice at0 c.ts.length x.ct.cap,.slice al0 c.ls.length x.cl.cap,.int .i64 c.mutexes,.slice as0 c.sems.length x.cs.cap,.slice aq0 c.queues.length x.cq.cap,.slice (x.cm.ad c.timers.length) c.timers.length x.cm.cap,.int .i64 c.table,.int .u32 c.mask,.int .u32 c.filter,.int .i64 c.charge,.int .u64 c.cycle,.int .u64 c.count]*(pts kb 530 [.int .i64 255]*(pts kb 531 (cxL 0 r80 (.slice none 0 0))*(pts kb 549 [.slice none 0 0]*(pts w0.heap.size 0 [.slice at0 c.ts.length x.ct.cap,.slice al0 c.ls.length x.cl.cap,.int .i64 c.mutexes,.slice as0 c.sems.length x.cs.cap,.slice aq0 c.queues.length x.cq.cap,.slice (x.cm.ad c.timers.length) c.timers.length x.cm.cap,.int .i64 c.table,.int .u32 c.mask,.int .u32 c.filter,.int .i64 c.charge,.int .u64 c.cycle,.int .u64 c.count]*(pts (w0.heap.size+1) 0 [.int .i64 0,.int .i64 0,.int .i64 0,.int .i64 0]*(cfH x c*(any))))))))))))) z3 (fun hz=>hz.perm (by show _=_*(_*(z5 .i64 (.slice none 0 0) []*(z7 (α:=Tr) (.slice none 0 0) []*(emp*_))));rw [z1r,z03,zm,zm,zm];rfl))
 case round =>
  obtain ⟨k,lva,lvc,ta1,tc1,hT,lv,tr,hk,rfl,rfl,hI,hsr⟩:=hrel;clear hsw;have Hl1:lv.length=k:=by rw [hI.1];exact zkD c k
  have Hl2:tr.length=k:=by rw [hI.2.1];exact zcr c hT k
  have hl1:lv.length≤64:=by omega
  have hl2:tr.length≤64:=by omega
  have HI:=hid hI;clear hI Hl1 Hl2
  by_cases hlt:k<c.ts.length
  ·have d3:decide (k<c.ts.length)=true:=decide_eq_true hlt;have i3:(k:Int)<(c.ts.length:Int):=by omega
   obtain rfl:at0=some ⟨x.ct.b,x.ct.o,none⟩:=HA0.out.symm.trans (x.ct.ad_pos (by omega));haveI:Lt k c.ts.length:=⟨hlt⟩;have hmem:(tcg c k).mem=((z1x c k:Nat):Int):=by have:=hTm.out k hlt;unfold z1x;omega
   have hm256:z1x c k≤256:=by have:=hTm.out k hlt;unfold z1x;omega
   have hmk:=hid (zfQ (z1x c k) hm256);go_wp2_with (first | (at_builtin;refine z06 rfl rfl rfl rfl (by omega) ?_;intro ap ac aL aw ahL ah1 ah2 ahs _) | (refine z0l rfl rfl rfl rfl (by omega) (by omega) ?_;intro px pc pL php phL ph1 ph2) | (refine z0B rfl rfl rfl rfl (by omega) (by omega) ?_;intro px pc pL php phL ph1 ph2));refine z9 (w0:=w0) ?_;intro wy hsy;clear hsr;generalize wr.heap.size=tb at *;refine zv (fun w'=>w'.cell? ⟨kb,542,none⟩=some (.slice ta1 tr.length tc1)∧w'.cell? ⟨tb,0,none⟩=some (.int .i64 (tcg c k).lev)∧w'.cell? ⟨tb,4,none⟩=some (.int .i64 (z1x c k))) 16 [(0,0),(1,0),(2,0),(3,0),(4,1),(5,0),(6,1),(7,0),(8,1),(9,2),(10,0),(11,0),(12,2),(13,2),(14,0),(15,0),(16,3)] (by kernel_rfl) (by kernel_rfl) (fun _ _ _ _ h=>h) ⟨z4,z4,z4⟩ ?_
   iterate 9 ((first | ((first | refine zpE rfl (by rfl) ?_ | refine zpG rfl (by rfl) ?_);apply Exists.intro;refine ⟨fun w hSw=>?_,?_⟩;focus ((try dsimp only at hSw);go_simp;try with_reducible rfl)) | refine zpD rfl (by rfl) ?_ | refine zpF rfl (by rfl) ?_);simp only [Act.put,zqA,zqP,zqQ])
   have hmk:=hmk.out;refine zpR rfl (by rfl) (fun K hK=>?_);go_wp2_with fail;refine ⟨⟨z4,z4,z4⟩,?_⟩;refine z4Q (w0:=w0) ?_;intro wz hsz;clear hsy;generalize wy.heap.size=mb at *
   iterate 2 ((first | ((first | refine zpE rfl (by rfl) ?_ | refine zpG rfl (by rfl) ?_);apply Exists.intro;refine ⟨fun w hSw=>?_,?_⟩;focus ((try dsimp only at hSw);go_simp;try with_reducible rfl)) | refine zpD rfl (by rfl) ?_ | refine zpF rfl (by rfl) ?_);simp only [Act.put,zqA,zqP,zqQ])
   refine zpR rfl (by rfl) (fun K hK=>?_);go_wp2_with fail;refine ⟨⟨z4,z4,z4⟩,?_⟩;refine z4Q (w0:=w0) ?_;intro w10 hs10;clear hsz;generalize wz.heap.size=nb at *;refine zpR rfl (by rfl) (fun K hK=>?_);refine z0E (.tmp 58) (.tmp 66) rfl zj7 rfl (own:Sat w0 w10 (z7 (.slice ta1 tr.length tc1) tr*_)) (some ⟨nb,0,none⟩) 1 1 (zjX.enc ⟨zaJ c k,some ⟨mb,0,none⟩,z1x c k,z1x c k⟩) rfl rfl (by simp) (fun a ha j u hj=>?_) (zjX.one _) (by unfold maxLen;omega) (by omega) ?_
   ·obtain rfl:=Option.some.inj ha;have:=hs10.cell hj;rw [Nat.zero_add] at this;rw [← this];cases j<;>simp [Addr.add]
   intro v11 w11 hs11 _;have hs12:=Sat.snoc hs11;clear hs10 hs11;obtain ⟨tr2,htr2⟩:∃ l,l=tr++[⟨zaJ c k,some ⟨mb,0,none⟩,z1x c k,z1x c k⟩]:=⟨_,rfl⟩;have hl3:tr2.length≤65:=by rw [htr2,List.length_append];simp;omega
   rw [← htr2] at hs12;obtain ⟨ta2,tc2,rfl⟩:=hs12.recs_form;have Htr2:=hid htr2;clear htr2;refine hK _ _ ⟨⟨z4,z4,z4⟩,?_⟩;clear hK K;simp only [Act.put,zqA,zqP,zqQ]
   iterate 2 ((first | ((first | refine zpE rfl (by rfl) ?_ | refine zpG rfl (by rfl) ?_);apply Exists.intro;refine ⟨fun w hSw=>?_,?_⟩;focus ((try dsimp only at hSw);go_simp;try with_reducible rfl)) | refine zpD rfl (by rfl) ?_ | refine zpF rfl (by rfl) ?_);simp only [Act.put,zqA,zqP,zqQ])
   refine z14 (fun K hK=>?_);simp only [zqS,zqZ];rw [if_pos (by rfl)];go_wp2_with fail;refine z0a ?_;go_wp2_with fail;refine z9 (w0:=w0) ?_;intro wx hsx;go_still_tail 7,(by kernel_rfl);change wpList _ _ _ _ _ wx.drew;go_wp2_with fail;refine (zj5 kb 2 (z0p c k) _ _ w0 _ _ own (z5e c k)).mono ?_;rintro en w14 ⟨rfl,hs14⟩;clear hs12 hsx;go_wp2_with fail;go_roundw
   case rel =>
    have hI:=HI.out;have e2:(⟨some ⟨mb,0,none⟩,mb,0,z1x c k⟩:Hd).ad (z1x c k)=some ⟨mb,0,none⟩:=by unfold Hd.ad;split<;>rfl
    refine ⟨k+1,ap,ac,ta2,tc2,upd hT k ⟨some ⟨mb,0,none⟩,mb,0,z1x c k⟩,aL,tr2,by omega,rfl,by go_num,⟨?_,?_,fun t ht=>?_⟩,?_⟩
    ·rw [ahL,hI.1,zhM]
    ·rw [Htr2.out,hI.2.1,ziO,e2]
    ·by_cases e:t=k
     ·rw [e,zK];exact ⟨Nat.le_refl _,by unfold maxLen;show z1x c k≤_;omega⟩
     ·rw [zL _ _ e];exact hI.2.2 t (by omega)
    ·rw [z6h (f:=fun t h=>pts h.b h.o ((List.replicate (z1x c t) (0:Int)).map (Value.int .u32))),z9V];exact Sat.perm (show Sat w0 _ (pts kb 541 [.slice none 0 0,.slice ta2 tr2.length tc2,.pointer none,.slice none 0 0,.slice none 0 0,.pointer none,.int .u64 0,.bool false]*(z21 kb 2 (z5B (z0p c k) (k:Int) (tcg c k).off)*(z5 .i64 (.slice ap aL.length ac) aL*(z7 (.slice ta2 tr2.length tc2) tr2*(z0F (fun t=>pts (hT t).b (hT t).o ((List.replicate (z1x c t) (0:Int)).map (Value.int .u32))) k*(pts mb 0 ((List.replicate (z1x c k) (0:Int)).map (Value.int .u32))*(pts kb 0 [.int .u64 c.count,.int .u64 c.cycle]*(pts kb 259 [.int .i64 c.table]*(rdP kb 260 (fun _=>[])*(pts kb 518 [.slice (some ⟨x.ct.b,x.ct.o,none⟩) c.ts.length x.ct.cap,.slice al0 c.ls.length x.cl.cap,.int .i64 c.mutexes,.slice as0 c.sems.length x.cs.cap,.slice aq0 c.queues.length x.cq.cap,.slice (x.cm.ad c.timers.length) c.timers.length x.cm.cap,.int .i64 c.table,.int .u32 c.mask,.int .u32 c.filter,.int .i64 c.charge,.int .u64 c.cycle,.int .u64 c.count]*(pts kb 530 [.int .i64 255]*(pts kb 531 (cxL 0 r80 (.slice none 0 0))*(pts kb 549 [.slice none 0 0]*(pts w0.heap.size 0 [.slice (some ⟨x.ct.b,x.ct.o,none⟩) c.ts.length x.ct.cap,.slice al0 c.ls.length x.cl.cap,.int .i64 c.mutexes,.slice as0 c.sems.length x.cs.cap,.slice aq0 c.queues.length x.cq.cap,.slice (x.cm.ad c.timers.length) c.timers.length x.cm.cap,.int .i64 c.table,.int .u32 c.mask,.int .u32 c.filter,.int .i64 c.charge,.int .u64 c.cycle,.int .u64 c.count]*(pts (w0.heap.size+1) 0 [.int .i64 0,.int .i64 0,.int .i64 0,.int .i64 0]*(cfH x c*(any))))))))))))))))) from z3) (by ac_rfl)
   case measure=>simp [intOf];omega
  ·have hkn:k=c.ts.length:=by omega
   subst hkn;have d3:decide (c.ts.length<c.ts.length)=false:=by simp
   clear hlt hk;go_wp2_with fail;refine z9 (w0:=w0) ?_;intro w16 hs16;clear hsr
   go_loopw [82] (fun i wr=>∃ k:Nat, ∃ ml:Option Addr, ∃ mc0:Nat, ∃ hM:Nat→Hd, ∃ mr:List Mv,k≤c.ls.length∧i=.int .i64 k∧(mr=mrK c hM k∧∀ t,t<k→z1w c t≤(hM t).cap∧(hM t).cap≤maxLen)∧Sat w0 wr (pts kb 541 [.slice ml mr.length mc0,.slice ta1 tr.length tc1,.pointer none,.slice none 0 0,.slice none 0 0,.pointer none,.int .u64 0,.bool false]*(z7 (.slice ml mr.length mc0) mr*(z0F (fun t=>pts (hM t).b (hM t).o ((List.replicate (z1w c t) (0:Int)).map (Value.int .u32))) k*(z21 kb 2 (z0p c c.ts.length)*(z5 .i64 (.slice lva lv.length lvc) lv*(z7 (.slice ta1 tr.length tc1) tr*(z0F (fun t=>pts (hT t).b (hT t).o ((List.replicate (z1x c t) (0:Int)).map (Value.int .u32))) c.ts.length*(pts kb 0 [.int .u64 c.count,.int .u64 c.cycle]*(pts kb 259 [.int .i64 c.table]*(rdP kb 260 (fun _=>[])*(pts kb 518 [.slice at0 c.ts.length x.ct.cap,.slice al0 c.ls.length x.cl.cap,.int .i64 c.mutexes,.slice as0 c.sems.length x.cs.cap,.slice aq0 c.queues.length x.cq.cap,.slice (x.cm.ad c.timers.length) c.timers.length x.cm.cap,.int .i64 c.table,.int .u32 c.mask,.int .u32 c.filter,.int .i64 c.charge,.int .u64 c.cycle,.int .u64 c.count]*(pts kb 530 [.int .i64 255]*(pts kb 531 (cxL 0 r80 (.slice none 0 0))*(pts kb 549 [.slice none 0 0]*(pts w0.heap.size 0 [.slice at0 c.ts.length x.ct.cap,.slice al0 c.ls.length x.cl.cap,.int .i64 c.mutexes,.slice as0 c.sems.length x.cs.cap,.slice aq0 c.queues.length x.cq.cap,.slice (x.cm.ad c.timers.length) c.timers.length x.cm.cap,.int .i64 c.table,.int .u32 c.mask,.int .u32 c.filter,.int .i64 c.charge,.int .u64 c.cycle,.int .u64 c.count]*(pts (w0.heap.size+1) 0 [.int .i64 0,.int .i64 0,.int .i64 0,.int .i64 0]*(cfH x c*(any))))))))))))))))))) (fun i _=>c.ls.length-(intOf i).toNat)
   case atStart =>
    refine ⟨0,none,0,fun _=>⟨none,0,0,0⟩,[],Nat.zero_le _,rfl,⟨rfl,fun t ht=>absurd ht (by omega)⟩,?_⟩;refine mpS (P:=pts kb 541 [.slice none 0 0,.slice ta1 tr.length tc1,.pointer none,.slice none 0 0,.slice none 0 0,.pointer none,.int .u64 0,.bool false]*(z21 kb 2 (z0p c c.ts.length)*(z5 .i64 (.slice lva lv.length lvc) lv*(z7 (.slice ta1 tr.length tc1) tr*(z0F (fun t=>pts (hT t).b (hT t).o ((List.replicate (z1x c t) (0:Int)).map (Value.int .u32))) c.ts.length*(pts kb 0 [.int .u64 c.count,.int .u64 c.cycle]*(pts kb 259 [.int .i64 c.table]*(rdP kb 260 (fun _=>[])*(pts kb 518 [.slice at0 c.ts.length x.ct.cap,.slice al0 c.ls.length x.cl.cap,.int .i64 c.mutexes,.slice as0 c.sems.length x.cs.cap,.slice aq0 c.queues.length x.cq.cap,.slice (x.cm.ad c.timers.length) c.timers.length x.cm.cap,.int .i64 c.table,.int .u32 c.mask,.int .u32 c.filter,.int .i64 c.charge,.int .u64 c.cycle,.int .u64 c.count]*(pts kb 530 [.int .i64 255]*(pts kb 531 (cxL 0 r80 (.slice none 0 0))*(pts kb 549 [.slice none 0 0]*(pts w0.heap.size 0 [.slice at0 c.ts.length x.ct.cap,.slice al0 c.ls.length x.cl.cap,.int .i64 c.mutexes,.slice as0 c.sems.length x.cs.cap,.slice aq0 c.queues.length x.cq.cap,.slice (x.cm.ad c.timers.length) c.timers.length x.cm.cap,.int .i64 c.table,.int .u32 c.mask,.int .u32 c.filter,.int .i64 c.charge,.int .u64 c.cycle,.int .u64 c.count]*(pts (w0.heap.size+1) 0 [.int .i64 0,.int .i64 0,.int .i64 0,.int .i64 0]*(cfH x c*(any)))))))))))))))) z3 (fun hz=>hz.perm (by show _=_*(z7 (α:=Mv) (.slice none 0 0) []*(emp*_));rw [z03,zm,zm];rfl))
   case round =>
    obtain ⟨k,ml,mc0,hM,mr,hk,rfl,hJ,hsr⟩:=hrel;clear hs16;have hl4:mr.length≤16:=by rw [hJ.1,zc3];omega
    have HJ:=hid hJ;clear hJ
    by_cases hlt:k<c.ls.length
    ·have d4:decide (k<c.ls.length)=true:=decide_eq_true hlt;have i4:(k:Int)<(c.ls.length:Int):=by omega
     obtain rfl:al0=some ⟨x.cl.b,x.cl.o,none⟩:=HL0.out.symm.trans (x.cl.ad_pos (by omega));haveI:Lt k c.ls.length:=⟨hlt⟩;have hmem:(lcg c k).mem=((z1w c k:Nat):Int):=by have:=hLm.out k hlt;unfold z1w;omega
     have hm256:z1w c k≤256:=by have:=hLm.out k hlt;unfold z1w;omega
     have hmk:=hid (zfQ (z1w c k) hm256);go_wp2_with fail;refine z9 (w0:=w0) ?_;intro wy hsy;clear hsr;generalize wr.heap.size=tb at *;refine zv (fun w'=>w'.cell? ⟨kb,541,none⟩=some (.slice ml mr.length mc0)∧w'.cell? ⟨tb,0,none⟩=some (.int .i64 (z1w c k))) 12 [(0,0),(1,0),(2,0),(3,0),(4,1),(5,0),(6,1),(7,2),(8,2),(9,2),(10,0),(11,0),(12,3)] (by kernel_rfl) (by kernel_rfl) (fun _ _ _ _ h=>h) ⟨z4,z4⟩ ?_
     iterate 7 ((first | ((first | refine zpE rfl (by rfl) ?_ | refine zpG rfl (by rfl) ?_);apply Exists.intro;refine ⟨fun w hSw=>?_,?_⟩;focus ((try dsimp only at hSw);go_simp;try with_reducible rfl)) | refine zpD rfl (by rfl) ?_ | refine zpF rfl (by rfl) ?_);simp only [Act.put,zqA,zqP,zqQ])
     have hmk:=hmk.out;refine zpR rfl (by rfl) (fun K hK=>?_);go_wp2_with fail;refine ⟨⟨z4,z4⟩,?_⟩;refine z4Q (w0:=w0) ?_;intro wz hsz;clear hsy;generalize wy.heap.size=mb at *;refine zpR rfl (by rfl) (fun K hK=>?_);go_wp2_with fail;refine ⟨⟨z4,z4⟩,?_⟩;refine z4Q (w0:=w0) ?_;intro w10 hs10;clear hsz;generalize wz.heap.size=nb at *;refine zpR rfl (by rfl) (fun K hK=>?_);refine z0E (.tmp 90) (.tmp 94) rfl zj6 rfl (own:Sat w0 w10 (z7 (.slice ml mr.length mc0) mr*_)) (some ⟨nb,0,none⟩) 1 1 (z6P.enc ⟨some ⟨mb,0,none⟩,z1w c k,z1w c k⟩) rfl rfl (by simp) (fun a ha j u hj=>?_) (z6P.one _) (by unfold maxLen;omega) (by omega) ?_
     ·obtain rfl:=Option.some.inj ha;have:=hs10.cell hj;rw [Nat.zero_add] at this;rw [← this];cases j<;>simp [Addr.add]
     intro v11 w11 hs11 _;have hs12:=Sat.snoc hs11;clear hs10 hs11;obtain ⟨mr2,hmr2⟩:∃ l,l=mr++[⟨some ⟨mb,0,none⟩,z1w c k,z1w c k⟩]:=⟨_,rfl⟩;have hl5:mr2.length≤17:=by rw [hmr2,List.length_append];simp;omega
     rw [← hmr2] at hs12;obtain ⟨ml2,mc2,rfl⟩:=hs12.recs_form;have Hmr2:=hid hmr2;clear hmr2;refine hK _ _ ⟨⟨z4,z4⟩,?_⟩;clear hK K;simp only [Act.put,zqA,zqP,zqQ]
     iterate 2 ((first | ((first | refine zpE rfl (by rfl) ?_ | refine zpG rfl (by rfl) ?_);apply Exists.intro;refine ⟨fun w hSw=>?_,?_⟩;focus ((try dsimp only at hSw);go_simp;try with_reducible rfl)) | refine zpD rfl (by rfl) ?_ | refine zpF rfl (by rfl) ?_);simp only [Act.put,zqA,zqP,zqQ])
     refine z14 (fun K hK=>?_);simp only [zqS,zqZ];rw [if_pos (by rfl)];go_wp2_with fail;refine z0a ?_;go_wp2_with fail;go_roundw
     case rel =>
      have hJ:=HJ.out;have e2:(⟨some ⟨mb,0,none⟩,mb,0,z1w c k⟩:Hd).ad (z1w c k)=some ⟨mb,0,none⟩:=by unfold Hd.ad;split<;>rfl
      refine ⟨k+1,ml2,mc2,upd hM k ⟨some ⟨mb,0,none⟩,mb,0,z1w c k⟩,mr2,by omega,by go_num,⟨?_,fun t ht=>?_⟩,?_⟩
      ·rw [Hmr2.out,hJ.1,zi1,e2]
      ·by_cases e:t=k
       ·rw [e,zK];exact ⟨Nat.le_refl _,by unfold maxLen;show z1w c k≤_;omega⟩
       ·rw [zL _ _ e];exact hJ.2 t (by omega)
      ·rw [z6h (f:=fun t h=>pts h.b h.o ((List.replicate (z1w c t) (0:Int)).map (Value.int .u32)))];exact Sat.perm (show Sat w0 _ (pts kb 541 [.slice ml2 mr2.length mc2,.slice ta1 tr.length tc1,.pointer none,.slice none 0 0,.slice none 0 0,.pointer none,.int .u64 0,.bool false]*(z7 (.slice ml2 mr2.length mc2) mr2*(z0F (fun t=>pts (hM t).b (hM t).o ((List.replicate (z1w c t) (0:Int)).map (Value.int .u32))) k*(pts mb 0 ((List.replicate (z1w c k) (0:Int)).map (Value.int .u32))*(z21 kb 2 (z0p c c.ts.length)*(z5 .i64 (.slice lva lv.length lvc) lv*(z7 (.slice ta1 tr.length tc1) tr*(z0F (fun t=>pts (hT t).b (hT t).o ((List.replicate (z1x c t) (0:Int)).map (Value.int .u32))) c.ts.length*(pts kb 0 [.int .u64 c.count,.int .u64 c.cycle]*(pts kb 259 [.int .i64 c.table]*(rdP kb 260 (fun _=>[])*(pts kb 518 [.slice at0 c.ts.length x.ct.cap,.slice (some ⟨x.cl.b,x.cl.o,none⟩) c.ls.length x.cl.cap,.int .i64 c.mutexes,.slice as0 c.sems.length x.cs.cap,.slice aq0 c.queues.length x.cq.cap,.slice (x.cm.ad c.timers.length) c.timers.length x.cm.cap,.int .i64 c.table,.int .u32 c.mask,.int .u32 c.filter,.int .i64 c.charge,.int .u64 c.cycle,.int .u64 c.count]*(pts kb 530 [.int .i64 255]*(pts kb 531 (cxL 0 r80 (.slice none 0 0))*(pts kb 549 [.slice none 0 0]*(pts w0.heap.size 0 [.slice at0 c.ts.length x.ct.cap,.slice (some ⟨x.cl.b,x.cl.o,none⟩) c.ls.length x.cl.cap,.int .i64 c.mutexes,.slice as0 c.sems.length x.cs.cap,.slice aq0 c.queues.length x.cq.cap,.slice (x.cm.ad c.timers.length) c.timers.length x.cm.cap,.int .i64 c.table,.int .u32 c.mask,.int .u32 c.filter,.int .i64 c.charge,.int .u64 c.cycle,.int .u64 c.count]*(pts (w0.heap.size+1) 0 [.int .i64 0,.int .i64 0,.int .i64 0,.int .i64 0]*(cfH x c*(any))))))))))))))))))) from z3) (by ac_rfl)
     case measure=>simp [intOf];omega
    ·have hkn:k=c.ls.length:=by omega
     subst hkn;have d4:decide (c.ls.length<c.ls.length)=false:=by simp
     clear hlt hk;go_wp2_with fail;refine (zmk _ lv c.mutexes w0 _ _ own hl1 OK.out.mu (by rw [HI.out.1];exact (fun x hx=>by obtain ⟨t,ht,rfl⟩:=List.mem_map.1 hx;exact (OK.out.t t (List.mem_range.1 ht)).1))).mono ?_;rintro en w20 ⟨v20,rfl,hs20⟩;obtain ⟨lb,hs21⟩:=(hs20.perm (zz _).symm).ex_out;obtain ⟨e20,hs22⟩:=(hs21.perm (zb _ _ _)).pur_out;subst e20;have hs23:=hs22.perm (zz _);clear hs20 hs21 hs22 hsr;go_wp2_with fail;refine z9 (w0:=w0) ?_;intro w24 hs24;clear hs23
     go_loopw [112] (fun i wr=>∃ k:Nat, ∃ sl:Option Addr, ∃ sc0:Nat, ∃ sb:Nat→Nat, ∃ sr:List Pv,k≤c.sems.length∧i=.int .i64 k∧sr=prK sb k∧Sat w0 wr (pts kb 541 [.slice ml mr.length mc0,.slice ta1 tr.length tc1,.pointer (some ⟨lb,0,none⟩),.slice sl sr.length sc0,.slice none 0 0,.pointer none,.int .u64 0,.bool false]*(z7 (.slice sl sr.length sc0) sr*(z0F (fun t=>z3f (sb t) (lg c.sems t) []) k*(lkP lb (z5x lv c.mutexes.toNat)*(z7 (.slice ml mr.length mc0) mr*(z0F (fun t=>pts (hM t).b (hM t).o ((List.replicate (z1w c t) (0:Int)).map (Value.int .u32))) c.ls.length*(z21 kb 2 (z0p c c.ts.length)*(z5 .i64 (.slice lva lv.length lvc) lv*(z7 (.slice ta1 tr.length tc1) tr*(z0F (fun t=>pts (hT t).b (hT t).o ((List.replicate (z1x c t) (0:Int)).map (Value.int .u32))) c.ts.length*(pts kb 0 [.int .u64 c.count,.int .u64 c.cycle]*(pts kb 259 [.int .i64 c.table]*(rdP kb 260 (fun _=>[])*(pts kb 518 [.slice at0 c.ts.length x.ct.cap,.slice al0 c.ls.length x.cl.cap,.int .i64 c.mutexes,.slice as0 c.sems.length x.cs.cap,.slice aq0 c.queues.length x.cq.cap,.slice (x.cm.ad c.timers.length) c.timers.length x.cm.cap,.int .i64 c.table,.int .u32 c.mask,.int .u32 c.filter,.int .i64 c.charge,.int .u64 c.cycle,.int .u64 c.count]*(pts kb 530 [.int .i64 255]*(pts kb 531 (cxL 0 r80 (.slice none 0 0))*(pts kb 549 [.slice none 0 0]*(pts w0.heap.size 0 [.slice at0 c.ts.length x.ct.cap,.slice al0 c.ls.length x.cl.cap,.int .i64 c.mutexes,.slice as0 c.sems.length x.cs.cap,.slice aq0 c.queues.length x.cq.cap,.slice (x.cm.ad c.timers.length) c.timers.length x.cm.cap,.int .i64 c.table,.int .u32 c.mask,.int .u32 c.filter,.int .i64 c.charge,.int .u64 c.cycle,.int .u64 c.count]*(pts (w0.heap.size+1) 0 [.int .i64 0,.int .i64 0,.int .i64 0,.int .i64 0]*(cfH x c*(any)))))))))))))))))))))) (fun i _=>c.sems.length-(intOf i).toNat)
     case atStart =>
      refine ⟨0,none,0,fun _=>0,[],Nat.zero_le _,rfl,rfl,?_⟩;refine mpS (P:=pts kb 541 [.slice ml mr.length mc0,.slice ta1 tr.length tc1,.pointer (some ⟨lb,0,none⟩),.slice none 0 0,.slice none 0 0,.pointer none,.int .u64 0,.bool false]*(lkP lb (z5x lv c.mutexes.toNat)*(z7 (.slice ml mr.length mc0) mr*(z0F (fun t=>pts (hM t).b (hM t).o ((List.replicate (z1w c t) (0:Int)).map (Value.int .u32))) c.ls.length*(z21 kb 2 (z0p c c.ts.length)*(z5 .i64 (.slice lva lv.length lvc) lv*(z7 (.slice ta1 tr.length tc1) tr*(z0F (fun t=>pts (hT t).b (hT t).o ((List.replicate (z1x c t) (0:Int)).map (Value.int .u32))) c.ts.length*(pts kb 0 [.int .u64 c.count,.int .u64 c.cycle]*(pts kb 259 [.int .i64 c.table]*(rdP kb 260 (fun _=>[])*(pts kb 518 [.slice at0 c.ts.length x.ct.cap,.slice al0 c.ls.length x.cl.cap,.int .i64 c.mutexes,.slice as0 c.sems.length x.cs.cap,.slice aq0 c.queues.length x.cq.cap,.slice (x.cm.ad c.timers.length) c.timers.length x.cm.cap,.int .i64 c.table,.int .u32 c.mask,.int .u32 c.filter,.int .i64 c.charge,.int .u64 c.cycle,.int .u64 c.count]*(pts kb 530 [.int .i64 255]*(pts kb 531 (cxL 0 r80 (.slice none 0 0))*(pts kb 549 [.slice none 0 0]*(pts w0.heap.size 0 [.slice at0 c.ts.length x.ct.cap,.slice al0 c.ls.length x.cl.cap,.int .i64 c.mutexes,.slice as0 c.sems.length x.cs.cap,.slice aq0 c.queues.length x.cq.cap,.slice (x.cm.ad c.timers.length) c.timers.length x.cm.cap,.int .i64 c.table,.int .u32 c.mask,.int .u32 c.filter,.int .i64 c.charge,.int .u64 c.cycle,.int .u64 c.count]*(pts (w0.heap.size+1) 0 [.int .i64 0,.int .i64 0,.int .i64 0,.int .i64 0]*(cfH x c*(any))))))))))))))))))) z3 (fun hz=>hz.perm (by show _=_*(z7 (α:=Pv) (.slice none 0 0) []*(emp*_));rw [z03,zm,zm];rfl))
     case round =>
      obtain ⟨k,sl,sc0,sb,sr,hk,rfl,hJ,hsr⟩:=hrel;clear hs24;have hl_sr:sr.length≤32:=by have:=OK.out.ns;rw [hJ,z5z];omega
      have HJ_sr:=hid hJ;clear hJ
      by_cases hlt:k<c.sems.length
      ·have d_sr:decide (k<c.sems.length)=true:=decide_eq_true hlt;have i_sr:(k:Int)<(c.sems.length:Int):=by omega
       obtain rfl:as0=some ⟨x.cs.b,x.cs.o,none⟩:=HS0.out.symm.trans (x.cs.ad_pos (by omega));haveI:Lt k c.sems.length:=⟨hlt⟩;go_wp2_with fail;refine (zen (lg c.sems k) w0 _ _ z6 (OK.out.sems _ (ze1 hlt))).mono ?_;rintro en w26 ⟨rfl,hs26⟩;clear hsr;generalize wr.heap.size=pb at *;go_wp2_with (first | (at_builtin;refine zA rfl rfl rfl rfl (by omega) ?_;intro ap ac aL aw ahL ah1 ah2 ahs _) | (refine z07 rfl rfl rfl rfl (by omega) (by omega) ?_;intro px pc pL php phL ph1 ph2) | (refine z0r rfl rfl rfl rfl (by omega) (by omega) ?_;intro px pc pL php phL ph1 ph2));go_roundw
       case rel =>
        refine ⟨k+1,ap,ac,upd sb k pb,aL,by omega,by go_num,?_,?_⟩
        ·rw [ahL,HJ_sr.out,zdg]
        ·rw [z9R (f:=fun t b=>z3f b (lg c.sems t) [])];exact Sat.perm (show Sat w0 _ (pts kb 541 [.slice ml mr.length mc0,.slice ta1 tr.length tc1,.pointer (some ⟨lb,0,none⟩),.slice ap aL.length ac,.slice none 0 0,.pointer none,.int .u64 0,.bool false]*(z7 (.slice ap aL.length ac) aL*(z0F (fun t=>z3f (sb t) (lg c.sems t) []) k*(z3f pb (lg c.sems k) []*(lkP lb (z5x lv c.mutexes.toNat)*(z7 (.slice ml mr.length mc0) mr*(z0F (fun t=>pts (hM t).b (hM t).o ((List.replicate (z1w c t) (0:Int)).map (Value.int .u32))) c.ls.length*(z21 kb 2 (z0p c c.ts.length)*(z5 .i64 (.slice lva lv.length lvc) lv*(z7 (.slice ta1 tr.length tc1) tr*(z0F (fun t=>pts (hT t).b (hT t).o ((List.replicate (z1x c t) (0:Int)).map (Value.int .u32))) c.ts.length*(pts kb 0 [.int .u64 c.count,.int .u64 c.cycle]*(pts kb 259 [.int .i64 c.table]*(rdP kb 260 (fun _=>[])*(pts kb 518 [.slice at0 c.ts.length x.ct.cap,.slice al0 c.ls.length x.cl.cap,.int .i64 c.mutexes,.slice (some ⟨x.cs.b,x.cs.o,none⟩) c.sems.length x.cs.cap,.slice aq0 c.queues.length x.cq.cap,.slice (x.cm.ad c.timers.length) c.timers.length x.cm.cap,.int .i64 c.table,.int .u32 c.mask,.int .u32 c.filter,.int .i64 c.charge,.int .u64 c.cycle,.int .u64 c.count]*(pts kb 530 [.int .i64 255]*(pts kb 531 (cxL 0 r80 (.slice none 0 0))*(pts kb 549 [.slice none 0 0]*(pts w0.heap.size 0 [.slice at0 c.ts.length x.ct.cap,.slice al0 c.ls.length x.cl.cap,.int .i64 c.mutexes,.slice (some ⟨x.cs.b,x.cs.o,none⟩) c.sems.length x.cs.cap,.slice aq0 c.queues.length x.cq.cap,.slice (x.cm.ad c.timers.length) c.timers.length x.cm.cap,.int .i64 c.table,.int .u32 c.mask,.int .u32 c.filter,.int .i64 c.charge,.int .u64 c.cycle,.int .u64 c.count]*(pts (w0.heap.size+1) 0 [.int .i64 0,.int .i64 0,.int .i64 0,.int .i64 0]*(cfH x c*(any)))))))))))))))))))))) from z3) (by ac_rfl)
       case measure=>simp [intOf];omega
      ·have hkn:k=c.sems.length:=by omega
       subst hkn;have d_sr:decide (c.sems.length<c.sems.length)=false:=by simp
       clear hlt hk;go_wp2_with fail;refine z9 (w0:=w0) ?_;intro w30 hs30;clear hsr
       go_loopw [135] (fun i wr=>∃ k:Nat, ∃ ql:Option Addr, ∃ qc0:Nat, ∃ qb:Nat→Nat, ∃ qr:List Pv,k≤c.queues.length∧i=.int .i64 k∧qr=prK qb k∧Sat w0 wr (pts kb 541 [.slice ml mr.length mc0,.slice ta1 tr.length tc1,.pointer (some ⟨lb,0,none⟩),.slice sl sr.length sc0,.slice ql qr.length qc0,.pointer none,.int .u64 0,.bool false]*(z7 (.slice ql qr.length qc0) qr*(z0F (fun t=>mqP (qb t) (zjm (lg c.queues t))) k*(z7 (.slice sl sr.length sc0) sr*(z0F (fun t=>z3f (sb t) (lg c.sems t) []) c.sems.length*(lkP lb (z5x lv c.mutexes.toNat)*(z7 (.slice ml mr.length mc0) mr*(z0F (fun t=>pts (hM t).b (hM t).o ((List.replicate (z1w c t) (0:Int)).map (Value.int .u32))) c.ls.length*(z21 kb 2 (z0p c c.ts.length)*(z5 .i64 (.slice lva lv.length lvc) lv*(z7 (.slice ta1 tr.length tc1) tr*(z0F (fun t=>pts (hT t).b (hT t).o ((List.replicate (z1x c t) (0:Int)).map (Value.int .u32))) c.ts.length*(pts kb 0 [.int .u64 c.count,.int .u64 c.cycle]*(pts kb 259 [.int .i64 c.table]*(rdP kb 260 (fun _=>[])*(pts kb 518 [.slice at0 c.ts.length x.ct.cap,.slice al0 c.ls.length x.cl.cap,.int .i64 c.mutexes,.slice as0 c.sems.length x.cs.cap,.slice aq0 c.queues.length x.cq.cap,.slice (x.cm.ad c.timers.length) c.timers.length x.cm.cap,.int .i64 c.table,.int .u32 c.mask,.int .u32 c.filter,.int .i64 c.charge,.int .u64 c.cycle,.int .u64 c.count]*(pts kb 530 [.int .i64 255]*(pts kb 531 (cxL 0 r80 (.slice none 0 0))*(pts kb 549 [.slice none 0 0]*(pts w0.heap.size 0 [.slice at0 c.ts.length x.ct.cap,.slice al0 c.ls.length x.cl.cap,.int .i64 c.mutexes,.slice as0 c.sems.length x.cs.cap,.slice aq0 c.queues.length x.cq.cap,.slice (x.cm.ad c.timers.length) c.timers.length x.cm.cap,.int .i64 c.table,.int .u32 c.mask,.int .u32 c.filter,.int .i64 c.charge,.int .u64 c.cycle,.int .u64 c.count]*(pts (w0.heap.size+1) 0 [.int .i64 0,.int .i64 0,.int .i64 0,.int .i64 0]*(cfH x c*(any)))))))))))))))))))))))) (fun i _=>c.queues.length-(intOf i).toNat)
       case atStart =>
        refine ⟨0,none,0,fun _=>0,[],Nat.zero_le _,rfl,rfl,?_⟩;refine mpS (P:=pts kb 541 [.slice ml mr.length mc0,.slice ta1 tr.length tc1,.pointer (some ⟨lb,0,none⟩),.slice sl sr.length sc0,.slice none 0 0,.pointer none,.int .u64 0,.bool false]*(z7 (.slice sl sr.length sc0) sr*(z0F (fun t=>z3f (sb t) (lg c.sems t) []) c.sems.length*(lkP lb (z5x lv c.mutexes.toNat)*(z7 (.slice ml mr.length mc0) mr*(z0F (fun t=>pts (hM t).b (hM t).o ((List.replicate (z1w c t) (0:Int)).map (Value.int .u32))) c.ls.length*(z21 kb 2 (z0p c c.ts.length)*(z5 .i64 (.slice lva lv.length lvc) lv*(z7 (.slice ta1 tr.length tc1) tr*(z0F (fun t=>pts (hT t).b (hT t).o ((List.replicate (z1x c t) (0:Int)).map (Value.int .u32))) c.ts.length*(pts kb 0 [.int .u64 c.count,.int .u64 c.cycle]*(pts kb 259 [.int .i64 c.table]*(rdP kb 260 (fun _=>[])*(pts kb 518 [.slice at0 c.ts.length x.ct.cap,.slice al0 c.ls.length x.cl.cap,.int .i64 c.mutexes,.slice as0 c.sems.length x.cs.cap,.slice aq0 c.queues.length x.cq.cap,.slice (x.cm.ad c.timers.length) c.timers.length x.cm.cap,.int .i64 c.table,.int .u32 c.mask,.int .u32 c.filter,.int .i64 c.charge,.int .u64 c.cycle,.int .u64 c.count]*(pts kb 530 [.int .i64 255]*(pts kb 531 (cxL 0 r80 (.slice none 0 0))*(pts kb 549 [.slice none 0 0]*(pts w0.heap.size 0 [.slice at0 c.ts.length x.ct.cap,.slice al0 c.ls.length x.cl.cap,.int .i64 c.mutexes,.slice as0 c.sems.length x.cs.cap,.slice aq0 c.queues.length x.cq.cap,.slice (x.cm.ad c.timers.length) c.timers.length x.cm.cap,.int .i64 c.table,.int .u32 c.mask,.int .u32 c.filter,.int .i64 c.charge,.int .u64 c.cycle,.int .u64 c.count]*(pts (w0.heap.size+1) 0 [.int .i64 0,.int .i64 0,.int .i64 0,.int .i64 0]*(cfH x c*(any))))))))))))))))))))) z3 (fun hz=>hz.perm (by show _=_*(z7 (α:=Pv) (.slice none 0 0) []*(emp*_));rw [z03,zm,zm];rfl))
       case round =>
        obtain ⟨k,ql,qc0,qb,qr,hk,rfl,hJ,hsr⟩:=hrel;clear hs30;have hl_qr:qr.length≤32:=by have:=OK.out.nq;rw [hJ,z5z];omega
        have HJ_qr:=hid hJ;clear hJ
        by_cases hlt:k<c.queues.length
        ·have d_qr:decide (k<c.queues.length)=true:=decide_eq_true hlt;have i_qr:(k:Int)<(c.queues.length:Int):=by omega
         obtain rfl:aq0=some ⟨x.cq.b,x.cq.o,none⟩:=HQ0.out.symm.trans (x.cq.ad_pos (by omega));haveI:Lt k c.queues.length:=⟨hlt⟩;go_wp2_with fail;have hqk:=OK.out.queues _ (ze1 hlt);refine (zhS (lg c.queues k) w0 _ _ z6 hqk).mono ?_;rintro en w26 ⟨rfl,hs26⟩;clear hsr;generalize wr.heap.size=pb at *;go_wp2_with (first | (at_builtin;refine zA rfl rfl rfl rfl (by omega) ?_;intro ap ac aL aw ahL ah1 ah2 ahs _) | (refine z07 rfl rfl rfl rfl (by omega) (by omega) ?_;intro px pc pL php phL ph1 ph2) | (refine z0r rfl rfl rfl rfl (by omega) (by omega) ?_;intro px pc pL php phL ph1 ph2));go_roundw
         case rel =>
          refine ⟨k+1,ap,ac,upd qb k pb,aL,by omega,by go_num,?_,?_⟩
          ·rw [ahL,HJ_qr.out,zdg]
          ·rw [z9R (f:=fun t b=>mqP b (zjm (lg c.queues t)))];exact Sat.perm (show Sat w0 _ (pts kb 541 [.slice ml mr.length mc0,.slice ta1 tr.length tc1,.pointer (some ⟨lb,0,none⟩),.slice sl sr.length sc0,.slice ap aL.length ac,.pointer none,.int .u64 0,.bool false]*(z7 (.slice ap aL.length ac) aL*(z0F (fun t=>mqP (qb t) (zjm (lg c.queues t))) k*(mqP pb (zjm (lg c.queues k))*(z7 (.slice sl sr.length sc0) sr*(z0F (fun t=>z3f (sb t) (lg c.sems t) []) c.sems.length*(lkP lb (z5x lv c.mutexes.toNat)*(z7 (.slice ml mr.length mc0) mr*(z0F (fun t=>pts (hM t).b (hM t).o ((List.replicate (z1w c t) (0:Int)).map (Value.int .u32))) c.ls.length*(z21 kb 2 (z0p c c.ts.length)*(z5 .i64 (.slice lva lv.length lvc) lv*(z7 (.slice ta1 tr.length tc1) tr*(z0F (fun t=>pts (hT t).b (hT t).o ((List.replicate (z1x c t) (0:Int)).map (Value.int .u32))) c.ts.length*(pts kb 0 [.int .u64 c.count,.int .u64 c.cycle]*(pts kb 259 [.int .i64 c.table]*(rdP kb 260 (fun _=>[])*(pts kb 518 [.slice at0 c.ts.length x.ct.cap,.slice al0 c.ls.length x.cl.cap,.int .i64 c.mutexes,.slice as0 c.sems.length x.cs.cap,.slice (some ⟨x.cq.b,x.cq.o,none⟩) c.queues.length x.cq.cap,.slice (x.cm.ad c.timers.length) c.timers.length x.cm.cap,.int .i64 c.table,.int .u32 c.mask,.int .u32 c.filter,.int .i64 c.charge,.int .u64 c.cycle,.int .u64 c.count]*(pts kb 530 [.int .i64 255]*(pts kb 531 (cxL 0 r80 (.slice none 0 0))*(pts kb 549 [.slice none 0 0]*(pts w0.heap.size 0 [.slice at0 c.ts.length x.ct.cap,.slice al0 c.ls.length x.cl.cap,.int .i64 c.mutexes,.slice as0 c.sems.length x.cs.cap,.slice (some ⟨x.cq.b,x.cq.o,none⟩) c.queues.length x.cq.cap,.slice (x.cm.ad c.timers.length) c.timers.length x.cm.cap,.int .i64 c.table,.int .u32 c.mask,.int .u32 c.filter,.int .i64 c.charge,.int .u64 c.cycle,.int .u64 c.count]*(pts (w0.heap.size+1) 0 [.int .i64 0,.int .i64 0,.int .i64 0,.int .i64 0]*(cfH x c*(any)))))))))))))))))))))))) from z3) (by ac_rfl)
         case measure=>simp [intOf];omega
        ·have hkn:k=c.queues.length:=by omega
         subst hkn;have d_qr:decide (c.queues.length<c.queues.length)=false:=by simp
         clear hlt hk;go_wp2_with fail;refine (znv c.ls.length c.mask w0 _ _ z6 hnl OK.out.mask).mono ?_;rintro en w34 ⟨rfl,hs34⟩;clear hsr;generalize wr.heap.size=nb at *;go_wp2_with fail;go_returns;refine ⟨_,rfl,?_⟩;obtain rfl:=HA0.out;obtain rfl:=HL0.out;obtain rfl:=HS0.out;obtain rfl:=HQ0.out;obtain rfl:=HI.out.2.1;obtain rfl:=HI.out.1;obtain rfl:=HJ.out.1;obtain rfl:=HJ_sr.out;obtain rfl:=HJ_qr.out;refine Sat.perm (Sat.ex_in (F:=emp) kb ?_) (zz _);refine mpS (P:=ex fun y:Fx=>knP kb y c (z34 c)) (zno kb nb lb x c hT hM sb qb ml ta1 sl ql mc0 tc1 sc0 qc0 z3) (fun hz=>?_);obtain ⟨y,hy⟩:=(hz.perm (zz _).symm).ex_out;refine Sat.ex_in (F:=emp) y ?_;exact Sat.perm (Sat.pur_in rfl (F:=knP kb y c (z34 c)) (hy.perm (zz _))) (zz _).symm
structure zez (c:Cf):Prop where
 t:c.ts.length≤70
 l:c.ls.length≤20
 s:c.sems.length≤40
 q:c.queues.length≤40
 m:c.timers.length≤40
 tc:∀ t,t<c.ts.length→(tcg c t).code.length≤300
 lc:∀ t,t<c.ls.length→(lcg c t).code.length≤300
def znV (w0:World) (P:HP) (Q:Prop) (e:Ending) (w':World):Prop:=∃ z:Bool,e=.returned (.bool z)∧Sat w0 w' P∧(z=false→Q)
theorem zik (v:Value) (c:Cf) (w0:World) (hr:z8I w0 v c) :
  Calls Tryz.prog 35 #[v] w0 (znV w0 emp (zez c)):=by
 have hs:=Sat.start w0;obtain ⟨tv,lv,sv,qv,mv,rfl,⟨T,hT,hTn,hTi⟩,⟨L,hL,hLn,hLi⟩,hS,hQ,hM⟩:=hr.out;clear hr;obtain ⟨sa,scap,_,_,rfl,_⟩:=hS;obtain ⟨qa,qcap,_,_,rfl,_⟩:=hQ;obtain ⟨ma,mcap,_,_,rfl,_⟩:=hM;obtain ⟨ta,tcap,tg,tto,rfl,_,_,hta,htc⟩:=hT;obtain ⟨la,lcap,lg',lo,rfl,_,_,hla,hlc⟩:=hL;rw [hTn,hLn];have Hta:=hid hta;have Htc:=hid htc;have Hla:=hid hla;have Hlc:=hid hlc;have HTn:=hid hTn;have HLn:=hid hLn;have HTi:=hid hTi;have HLi:=hid hLi;clear hta htc hla hlc hTn hLn hTi hLi
 by_cases g1:70<c.ts.length
 ·have d1:decide (70<c.ts.length)=true:=decide_eq_true g1;have d2:decide ((70:Int)<(c.ts.length:Int))=true:=by simp;omega
  clear g1
  go_enter Tryz.func35,Tryz.ntmps35
  go_wp2_with fail;go_ret;exact ⟨true,rfl,z3,fun h=>by cases h⟩
 have d1:decide (70<c.ts.length)=false:=decide_eq_false g1;have e1:decide ((70:Int)<(c.ts.length:Int))=false:=by simp;omega
 by_cases g2:20<c.ls.length
 ·have d2:decide (20<c.ls.length)=true:=decide_eq_true g2;have e2:decide ((20:Int)<(c.ls.length:Int))=true:=by simp;omega
  go_enter Tryz.func35,Tryz.ntmps35
  go_wp2_with fail;go_ret;exact ⟨true,rfl,z3,fun h=>by cases h⟩
 have d2:decide (20<c.ls.length)=false:=decide_eq_false g2;have e2:decide ((20:Int)<(c.ls.length:Int))=false:=by simp;omega
 by_cases g3:40<c.sems.length
 ·have d3:decide (40<c.sems.length)=true:=decide_eq_true g3;have e3:decide ((40:Int)<(c.sems.length:Int))=true:=by simp;omega
  go_enter Tryz.func35,Tryz.ntmps35
  go_wp2_with fail;go_ret;exact ⟨true,rfl,z3,fun h=>by cases h⟩
 have d3:decide (40<c.sems.length)=false:=decide_eq_false g3;have e3:decide ((40:Int)<(c.sems.length:Int))=false:=by simp;omega
 by_cases g4:40<c.queues.length
 ·have d4:decide (40<c.queues.length)=true:=decide_eq_true g4;have e4:decide ((40:Int)<(c.queues.length:Int))=true:=by simp;omega
  go_enter Tryz.func35,Tryz.ntmps35
  go_wp2_with fail;go_ret;exact ⟨true,rfl,z3,fun h=>by cases h⟩
 have d4:decide (40<c.queues.length)=false:=decide_eq_false g4;have e4:decide ((40:Int)<(c.queues.length:Int))=false:=by simp;omega
 by_cases g5:40<c.timers.length
 ·have d5:decide (40<c.timers.length)=true:=decide_eq_true g5;have e5:decide ((40:Int)<(c.timers.length:Int))=true:=by simp;omega
  go_enter Tryz.func35,Tryz.ntmps35
  go_wp2_with fail;go_ret;exact ⟨true,rfl,z3,fun h=>by cases h⟩
 have d5:decide (40<c.timers.length)=false:=decide_eq_false g5;have e5:decide ((40:Int)<(c.timers.length:Int))=false:=by simp;omega
 go_enter Tryz.func35,Tryz.ntmps35
 go_wp2_with fail;refine z9 (w0:=w0) ?_;intro ww hsw;clear hs
 go_loopw [3,4] (fun nv i wr=>∃ k n:Nat,k≤c.ts.length∧n≤300*k∧nv=.int .i64 n∧i=.int .i64 k∧(∀ j,j<k→(tcg c j).code.length≤300)∧Sat w0 wr (pts w0.heap.size 0 [.slice ta c.ts.length tcap,.slice la c.ls.length lcap,.int .i64 c.mutexes,.slice sa c.sems.length scap,.slice qa c.queues.length qcap,.slice ma c.timers.length mcap,.int .i64 c.table,.int .u32 c.mask,.int .u32 c.filter,.int .i64 c.charge,.int .u64 c.cycle,.int .u64 c.count]*any)) (fun _ i _=>c.ts.length-(intOf i).toNat)
 case atStart=>exact ⟨0,0,Nat.zero_le _,Nat.zero_le _,rfl,rfl,fun j hj=>absurd hj (by omega),z3⟩
 case round =>
  obtain ⟨k,n,hk,hn,rfl,rfl,hb,hsr⟩:=hrel;clear hsw;have Hb:=hid hb;clear hb
  by_cases hlt:k<c.ts.length
  ·have f3:decide (k<c.ts.length)=true:=decide_eq_true hlt;have i3:(k:Int)<(c.ts.length:Int):=by omega
   have hTl:=HTn.out;obtain rfl:=Hta.out (by intro h;simp [h] at hTl;omega);have hit:=HTi.out k hlt;obtain ⟨u,hu⟩:∃ u,u=T.getD k tv0:=⟨_,rfl⟩;have oc:∀ c' y,c'<6→(z8Q.enc u)[c']?=some y→w0.cell? ⟨tg,tto+k*6+c',none⟩=some y:=fun c' y hc6 he=>z2i Htc.out (by omega) hc6 (by show (z8Q.enc (T.getD k tv0))[c']?=some y;rw [← hu];exact he);rw [← hu] at hit;have hcl:u.cn=(tcg c k).code.length:=hit.code.caps.1;haveI o5:Old w0 tg (tto+k*6+5) (.slice u.ca u.cn u.cc):=⟨oc 5 _ (by decide) rfl⟩;clear oc hu hTl hit
   by_cases hz0:300<u.cn
   ·have f4:decide (300<u.cn)=true:=decide_eq_true hz0;have i4:decide ((300:Int)<(u.cn:Int))=true:=by simp;omega
    clear hcl;go_wp2_with fail;go_ret;exact ⟨true,rfl,z3,fun h=>by cases h⟩
   ·have f4:decide (300<u.cn)=false:=decide_eq_false hz0;have i4:decide ((300:Int)<(u.cn:Int))=false:=by simp;omega
    have hb2:Hid (∀ j,j<k+1→(tcg c j).code.length≤300):=hid fun j hj=>by
     rcases Nat.lt_or_ge j k with h | h
     ·exact Hb.out j h
     ·obtain rfl:j=k:=by omega
      omega
    clear hcl;go_wp2_with fail;go_roundw
    case rel=>exact ⟨k+1,n+u.cn,by omega,by omega,by go_num,by go_num,hb2.out,z3⟩
    case measure=>simp [intOf];omega
  ·have hkl:k=c.ts.length:=by omega
   subst hkl;have f3:decide (c.ts.length<c.ts.length)=false:=by simp
   clear hlt hk;go_wp2_with fail;refine z9 (w0:=w0) ?_;intro w3 hs3;clear hsr
   go_loopw [3,5] (fun nv i wr=>∃ k n:Nat,k≤c.ls.length∧n≤300*70+300*k∧nv=.int .i64 n∧i=.int .i64 k∧(∀ j,j<k→(lcg c j).code.length≤300)∧Sat w0 wr (pts w0.heap.size 0 [.slice ta c.ts.length tcap,.slice la c.ls.length lcap,.int .i64 c.mutexes,.slice sa c.sems.length scap,.slice qa c.queues.length qcap,.slice ma c.timers.length mcap,.int .i64 c.table,.int .u32 c.mask,.int .u32 c.filter,.int .i64 c.charge,.int .u64 c.cycle,.int .u64 c.count]*any)) (fun _ i _=>c.ls.length-(intOf i).toNat)
   case atStart=>exact ⟨0,n,Nat.zero_le _,by omega,rfl,rfl,fun j hj=>absurd hj (by omega),z3⟩
   case round =>
    obtain ⟨k,n,hk,hn,rfl,rfl,hb,hsr⟩:=hrel;clear hs3;have Hb2:=hid hb;clear hb
    by_cases hlt:k<c.ls.length
    ·have f3:decide (k<c.ls.length)=true:=decide_eq_true hlt;have i3:(k:Int)<(c.ls.length:Int):=by omega
     have hLl:=HLn.out;obtain rfl:=Hla.out (by intro h;simp [h] at hLl;omega);have hit:=HLi.out k hlt;obtain ⟨u,hu⟩:∃ u,u=L.getD k lv0:=⟨_,rfl⟩;have oc:∀ c' y,c'<2→(z8P.enc u)[c']?=some y→w0.cell? ⟨lg',lo+k*2+c',none⟩=some y:=fun c' y hc6 he=>z2i Hlc.out (by omega) hc6 (by show (z8P.enc (L.getD k lv0))[c']?=some y;rw [← hu];exact he);rw [← hu] at hit;have hcl:u.cn=(lcg c k).code.length:=hit.code.caps.1;haveI o5:Old w0 lg' (lo+k*2+1) (.slice u.ca u.cn u.cc):=⟨oc 1 _ (by decide) rfl⟩;clear oc hu hLl hit
     by_cases hz0:300<u.cn
     ·have f4:decide (300<u.cn)=true:=decide_eq_true hz0;have i4:decide ((300:Int)<(u.cn:Int))=true:=by simp;omega
      clear hcl;go_wp2_with fail;go_ret;exact ⟨true,rfl,z3,fun h=>by cases h⟩
     ·have f4:decide (300<u.cn)=false:=decide_eq_false hz0;have i4:decide ((300:Int)<(u.cn:Int))=false:=by simp;omega
      have hb2:Hid (∀ j,j<k+1→(lcg c j).code.length≤300):=hid fun j hj=>by
       rcases Nat.lt_or_ge j k with h | h
       ·exact Hb2.out j h
       ·obtain rfl:j=k:=by omega
        omega
      clear hcl;go_wp2_with fail;go_roundw
      case rel=>exact ⟨k+1,n+u.cn,by omega,by omega,by go_num,by go_num,hb2.out,z3⟩
      case measure=>simp [intOf];omega
    ·have hkl:k=c.ls.length:=by omega
     subst hkl;have f3:decide (c.ls.length<c.ls.length)=false:=by simp
     clear hlt hk;go_wp2_with fail;go_ret;exact ⟨_,rfl,z3,fun _=>⟨by omega,by omega,by omega,by omega,by omega,Hb.out,Hb2.out⟩⟩
theorem z9a (v:Value) (c:Cf) (n:Int) (w0:World) (hr:z8I w0 v c) :
  Calls Tryz.prog 12 #[v,.int .i64 n] w0 (znV w0 emp (zez c∧n≤200)):=by
 have hs:=Sat.start w0;have hA:=hid (fun (w:World) (h:Sat w0 w any)=>zik v c w (hr.later h));obtain ⟨tv,lv,sv,qv,mv,rfl,⟨T,hT,hTn,hTi⟩,⟨L,hL,hLn,hLi⟩,hS,hQ,hM⟩:=hr.out;clear hr;obtain ⟨sa,scap,_,_,rfl,_⟩:=hS;obtain ⟨qa,qcap,_,_,rfl,_⟩:=hQ;obtain ⟨ma,mcap,_,_,rfl,_⟩:=hM;obtain ⟨ta,tcap,tg,tto,rfl,_,_,hta,htc⟩:=hT;obtain ⟨la,lcap,lg',lo,rfl,_,_,hla,hlc⟩:=hL;rw [hTn,hLn] at hA;rw [hTn,hLn];have Hta:=hid hta;have Htc:=hid htc;have Hla:=hid hla;have Hlc:=hid hlc;have HTn:=hid hTn;have HLn:=hid hLn;have HTi:=hid hTi;have HLi:=hid hLi;clear hta htc hla hlc hTn hLn hTi hLi
 go_enter Tryz.func12,Tryz.ntmps12
 go_wp2_with fail;refine (hA.out _ z3).mono ?_;rintro en w1 ⟨z,rfl,hs1,hz⟩;have hs2:=Sat.past (w0:=w0) z6 hs1;have Hz:=hid hz;clear hs1 hs hz hA
 cases z
 case true =>
  go_wp2_with fail;go_ret;exact ⟨true,rfl,z3,fun h=>by cases h⟩
 case false =>
  have hp:=Hz.out rfl;have g1:=hp.t;have g2:=hp.l;have Hp:=hid hp;clear hp Hz;go_wp2_with fail;refine z9 (w0:=w0) ?_;intro ww hsw;clear hs2
  go_loopw [5,15] (fun nv i wr=>∃ k m:Nat,k≤c.ts.length∧m≤1000*k∧nv=.int .i64 m∧i=.int .i64 k∧Sat w0 wr (pts w0.heap.size 0 [.slice ta c.ts.length tcap,.slice la c.ls.length lcap,.int .i64 c.mutexes,.slice sa c.sems.length scap,.slice qa c.queues.length qcap,.slice ma c.timers.length mcap,.int .i64 c.table,.int .u32 c.mask,.int .u32 c.filter,.int .i64 c.charge,.int .u64 c.cycle,.int .u64 c.count]*any)) (fun _ i _=>c.ts.length-(intOf i).toNat)
  case atStart=>exact ⟨0,0,Nat.zero_le _,Nat.zero_le _,rfl,rfl,z3⟩
  case round =>
   obtain ⟨k,m,hk,hm,rfl,rfl,hsr⟩:=hrel;clear hsw
   by_cases hlt:k<c.ts.length
   ·have f3:decide (k<c.ts.length)=true:=decide_eq_true hlt;have i3:(k:Int)<(c.ts.length:Int):=by omega
    have hTl:=HTn.out;obtain rfl:=Hta.out (by intro h;simp [h] at hTl;omega);obtain ⟨u,hu⟩:∃ u,u=T.getD k tv0:=⟨_,rfl⟩;have oc:∀ c' y,c'<6→(z8Q.enc u)[c']?=some y→w0.cell? ⟨tg,tto+k*6+c',none⟩=some y:=fun c' y hc6 he=>z2i Htc.out (by omega) hc6 (by show (z8Q.enc (T.getD k tv0))[c']?=some y;rw [← hu];exact he);haveI o0:Old w0 tg (tto+k*6) (.int .i64 u.lev):=⟨oc 0 _ (by decide) rfl⟩;haveI o1:Old w0 tg (tto+k*6+1) (.int .i64 u.off):=⟨oc 1 _ (by decide) rfl⟩;haveI o2:Old w0 tg (tto+k*6+2) (.int .i64 u.per):=⟨oc 2 _ (by decide) rfl⟩;haveI o3:Old w0 tg (tto+k*6+3) (.int .i64 u.dl):=⟨oc 3 _ (by decide) rfl⟩;haveI o4:Old w0 tg (tto+k*6+4) (.int .i64 u.mem):=⟨oc 4 _ (by decide) rfl⟩;haveI o5:Old w0 tg (tto+k*6+5) (.slice u.ca u.cn u.cc):=⟨oc 5 _ (by decide) rfl⟩;clear oc hu hTl;have hq:∀ x:Int,0≤(if 1000<(if x<0 then 0 else x) then 1000 else if x<0 then 0 else x)∧(if 1000<(if x<0 then 0 else x) then 1000 else if x<0 then 0 else x)≤1000:=fun x=>by split<;>split<;>omega
    have Hq:=hid (hq u.mem);clear hq;go_wp2_with fail;have Hq:=Hq.out;generalize (if 1000<(if u.mem<0 then 0 else u.mem) then (1000:Int) else if u.mem<0 then 0 else u.mem)=q at *;obtain ⟨q,rfl⟩:=Int.eq_ofNat_of_zero_le Hq.1;refine ⟨⟨k+1,m+q,by omega,by omega,by go_num,by go_num,z3⟩,?_⟩;simp [intOf];omega
   ·have hkl:k=c.ts.length:=by omega
    subst hkl;have f3:decide (c.ts.length<c.ts.length)=false:=by simp
    clear hlt hk;go_wp2_with fail;refine z9 (w0:=w0) ?_;intro w3 hs3;clear hsr
    go_loopw [5,29] (fun nv i wr=>∃ k m:Nat,k≤c.ls.length∧m≤70000+1000*k∧nv=.int .i64 m∧i=.int .i64 k∧Sat w0 wr (pts w0.heap.size 0 [.slice ta c.ts.length tcap,.slice la c.ls.length lcap,.int .i64 c.mutexes,.slice sa c.sems.length scap,.slice qa c.queues.length qcap,.slice ma c.timers.length mcap,.int .i64 c.table,.int .u32 c.mask,.int .u32 c.filter,.int .i64 c.charge,.int .u64 c.cycle,.int .u64 c.count]*any)) (fun _ i _=>c.ls.length-(intOf i).toNat)
    case atStart=>exact ⟨0,m,Nat.zero_le _,by omega,rfl,rfl,z3⟩
    case round =>
     obtain ⟨k,m,hk,hm,rfl,rfl,hsr⟩:=hrel;clear hs3
     by_cases hlt:k<c.ls.length
     ·have f3:decide (k<c.ls.length)=true:=decide_eq_true hlt;have i3:(k:Int)<(c.ls.length:Int):=by omega
      have hLl:=HLn.out;obtain rfl:=Hla.out (by intro h;simp [h] at hLl;omega);obtain ⟨u,hu⟩:∃ u,u=L.getD k lv0:=⟨_,rfl⟩;have oc:∀ c' y,c'<2→(z8P.enc u)[c']?=some y→w0.cell? ⟨lg',lo+k*2+c',none⟩=some y:=fun c' y hc6 he=>z2i Hlc.out (by omega) hc6 (by show (z8P.enc (L.getD k lv0))[c']?=some y;rw [← hu];exact he);haveI o0:Old w0 lg' (lo+k*2) (.int .i64 u.mem):=⟨oc 0 _ (by decide) rfl⟩;haveI o1:Old w0 lg' (lo+k*2+1) (.slice u.ca u.cn u.cc):=⟨oc 1 _ (by decide) rfl⟩;clear oc hu hLl;have hq:∀ x:Int,0≤(if 1000<(if x<0 then 0 else x) then 1000 else if x<0 then 0 else x)∧(if 1000<(if x<0 then 0 else x) then 1000 else if x<0 then 0 else x)≤1000:=fun x=>by split<;>split<;>omega
      have Hq:=hid (hq u.mem);clear hq;go_wp2_with fail;have Hq:=Hq.out;generalize (if 1000<(if u.mem<0 then 0 else u.mem) then (1000:Int) else if u.mem<0 then 0 else u.mem)=q at *;obtain ⟨q,rfl⟩:=Int.eq_ofNat_of_zero_le Hq.1;refine ⟨⟨k+1,m+q,by omega,by omega,by go_num,by go_num,z3⟩,?_⟩;simp [intOf];omega
     ·have hkl:k=c.ls.length:=by omega
      subst hkl;have f3:decide (c.ls.length<c.ls.length)=false:=by simp
      clear hlt hk
      by_cases hn:200<n
      ·have f4:decide (200<n)=true:=decide_eq_true hn;go_wp2_with fail;go_ret;exact ⟨true,rfl,z3,fun h=>by cases h⟩
      ·have f4:decide (200<n)=false:=decide_eq_false hn;go_wp2_with fail;go_ret
       first | exact ⟨_,rfl,z3,fun _=>Hp.out⟩ | exact ⟨_,rfl,z3,fun _=>⟨Hp.out,by omega⟩⟩
theorem z4C {P:Program} {f:FuncId} {args:Array Value} {Q:Ending→World→Prop} {w0 w:World} {R:HP} [h:Sat w0 w R] (k:∀ wx,Sat w0 wx R→Calls P f args wx Q):Calls P f args w Q:=k w h
theorem znW:z6B aCf:=by
 refine ⟨fun t ht i hi=>?_,fun t ht=>absurd ht (by simp [aCf]),by decide,by decide,by decide,by decide⟩;obtain rfl:t=0:=by have:t<1:=ht;omega
 have hi:i∈[(⟨31,0,0,0,0,0⟩:Ins),⟨37,0,0,0,0,0⟩]:=hi;simp only [List.mem_cons,List.mem_nil_iff,or_false] at hi
 rcases hi with rfl | rfl<;>exact ⟨by decide,by decide⟩
theorem aSm:z5a aCf:=by
 refine ⟨by decide,by decide,by decide,by decide,by decide,fun t ht=>?_,fun t ht=>absurd ht (by simp [aCf])⟩;obtain rfl:t=0:=by have:t<1:=ht;omega
 decide
theorem aOk:z7T aCf:=z4E znW zj1
theorem aI0:Inv aCf (z34 aCf):=z8W aOk
theorem zgo:zG 0:=⟨by decide,by decide⟩
theorem aI1:Inv aCf aK1:=z23 aI0 0 zgo
theorem aI2:Inv aCf aK2:=z23 aI1 0 zgo
theorem aI3:Inv aCf aK3:=z23 aI2 0 zgo
theorem aRd {w0 w:World} {F:HP} {cb tb:Nat} (hs:Sat w0 w (pts tb 0 [.int .i64 0,.int .i64 1,.int .i64 0,.int .i64 0,.int .i64 0,.slice (some ⟨cb,0,none⟩) 2 2]*(pts cb 0 [.int .i64 31,.int .i64 0,.int .i64 0,.int .i64 0,.int .i64 0,.int .u32 0,.int .i64 37,.int .i64 0,.int .i64 0,.int .i64 0,.int .i64 0,.int .u32 0]*F))) :
  z8I w (.agg #[.slice (some ⟨tb,0,none⟩) 1 1,.slice none 0 0,.int .i64 1,.slice none 0 0,.slice none 0 0,.slice none 0 0,.int .i64 0,.int .u32 0,.int .u32 4294967295,.int .i64 0,.int .u64 0,.int .u64 0]) aCf:=by
 have nil:RdN .i64 w (.slice none 0 0) []:=⟨none,0,0,0,rfl,Nat.le_refl _,Nat.zero_le _,fun h=>absurd rfl h,fun j hj=>absurd hj (Nat.not_lt_zero _)⟩;refine ⟨_,_,_,_,_,rfl,⟨[⟨0,1,0,0,0,some ⟨cb,0,none⟩,2,2⟩],?_,rfl,fun t ht=>?_⟩,⟨[],z5D w,rfl,fun t ht=>absurd ht (by simp [aCf])⟩,nil,nil,nil⟩
 ·exact ⟨some ⟨tb,0,none⟩,1,tb,0,rfl,Nat.le_refl 1,(by unfold maxLen;omega),fun _=>rfl,fun j u hj=>hs.cell hj⟩
 ·obtain rfl:t=0:=by have:t<1:=ht;omega
  refine ⟨rfl,rfl,rfl,rfl,rfl,?_⟩;have hs2:=(hs.perm (by ac_rfl:_=pts cb 0 [.int .i64 31,.int .i64 0,.int .i64 0,.int .i64 0,.int .i64 0,.int .u32 0,.int .i64 37,.int .i64 0,.int .i64 0,.int .i64 0,.int .i64 0,.int .u32 0]*(pts tb 0 [.int .i64 0,.int .i64 1,.int .i64 0,.int .i64 0,.int .i64 0,.slice (some ⟨cb,0,none⟩) 2 2]*F)));exact ⟨some ⟨cb,0,none⟩,2,cb,0,rfl,Nat.le_refl 2,(by unfold maxLen;omega),fun _=>rfl,fun j u hj=>hs2.cell hj⟩
@[go_sem] theorem zlN (x0 x1 x2 x3 x4 x5 x6 x7 x8 x9 x10 x11 x12 x13 x14 x15 x16 x17 x18 x19 x20 x21 x22 x23 x24 x25 x26 x27 x28:Value) (w:World):Sem.run Tryz.prog (Instr.field 51 (.agg #[x0,x1,x2,x3,x4,x5,x6,x7,x8,x9,x10,x11,x12,x13,x14,x15,x16,x17,x18,x19,x20,x21,x22,x23,x24,x25,x26,x27,x28]) 8) w=.ok x17 w:=by kernel_rfl
theorem z6t (w0:World) (hT:Tab w0):Calls Tryz.prog 11 #[] w0 (zp w0 (.bool true) emp):=by
 have hs:=Sat.start w0;have HT:=hid hT;clear hT
 go_enter Tryz.func11,Tryz.ntmps11
 go_wp2_with fail;refine z4C (w0:=w0) ?_;intro wa hsa;clear hs;generalize w0.heap.size=nb at *;refine (zhA _ aCf znW aSm wa (aRd (w0:=w0) (cb:=nb) (tb:=nb+1) (F:=any) z3) zj1).mono ?_;rintro en w1 ⟨v1,rfl,hs1⟩;obtain ⟨b,hs2⟩:=(hs1.perm (zz _).symm).ex_out;obtain ⟨y,hs3⟩:=hs2.ex_out;obtain ⟨e,hs4⟩:=(hs3.perm (zb _ _ _)).pur_out;subst e;have hs5:=Sat.over hsa hs4;clear hs1 hs2 hs3 hs4 hsa;have hs6:Sat w0 w1 (knP b y aCf (z34 aCf)*any):=z3;clear hs5;unfold ftV;go_wp2_with fail;refine (z8n b y aCf (z34 aCf) aI0 rfl 0 (by decide) 0 zgo w0 _ HT.out _ own).mono ?_;rintro en w2 ⟨v2,rfl,hs7⟩;rw [aE1] at hs7;obtain ⟨h1,rfl,_,hs8⟩:=z2T hs7;have hs9:Sat w0 w2 (pts h1.b h1.o [.int .i64 6,.int .u64 0,.int .u64 1,.int .u32 0,.int .u32 0,.int .u32 1,.int .i64 5,.int .u64 0,.int .u64 1,.int .u32 0,.int .u32 255,.int .u32 0,.int .i64 12,.int .u64 22,.int .u64 1,.int .u32 0,.int .u32 0,.int .u32 0]*(knP b y aCf aK1*any)):=by
  refine (show Sat w0 w2 (pts h1.b h1.o [.int .i64 6,.int .u64 0,.int .u64 1,.int .u32 0,.int .u32 0,.int .u32 1,.int .i64 5,.int .u64 0,.int .u64 1,.int .u32 0,.int .u32 255,.int .u32 0,.int .i64 12,.int .u64 22,.int .u64 1,.int .u32 0,.int .u32 0,.int .u32 0]*(knP b y aCf aK1*_)) from hs8).frm
 clear hs6 hs7 hs8;have a1:h1.ad 3=some ⟨h1.b,h1.o,none⟩:=h1.ad_pos (by decide);have e1:([⟨6,0,1,0,0,1⟩,⟨5,0,1,0,255,0⟩,⟨12,22,1,0,0,0⟩]:List Ev).length=3:=rfl;rw [e1,Hd.v_eq,a1];clear a1 e1;go_wp2_with fail;refine (z8n b y aCf aK1 aI1 rfl 0 (by decide) 0 zgo w0 _ HT.out _ own).mono ?_;rintro en w3 ⟨v3,rfl,hs10⟩;rw [aE2] at hs10;obtain ⟨h2,rfl,_,hs11⟩:=z2T hs10;have hs12:Sat w0 w3 (pts h2.b h2.o [.int .i64 22,.int .u64 34,.int .u64 2,.int .u32 0,.int .u32 0,.int .u32 0,.int .i64 13,.int .u64 34,.int .u64 2,.int .u32 0,.int .u32 0,.int .u32 0]*(pts h1.b h1.o [.int .i64 6,.int .u64 0,.int .u64 1,.int .u32 0,.int .u32 0,.int .u32 1,.int .i64 5,.int .u64 0,.int .u64 1,.int .u32 0,.int .u32 255,.int .u32 0,.int .i64 12,.int .u64 22,.int .u64 1,.int .u32 0,.int .u32 0,.int .u32 0]*(knP b y aCf aK2*any))):=by
  have h:Sat w0 w3 (pts h2.b h2.o [.int .i64 22,.int .u64 34,.int .u64 2,.int .u32 0,.int .u32 0,.int .u32 0,.int .i64 13,.int .u64 34,.int .u64 2,.int .u32 0,.int .u32 0,.int .u32 0]*(knP b y aCf aK2*_)):=hs11;exact z3 (hs:=h)
 clear hs9 hs10 hs11;have a2:h2.ad 2=some ⟨h2.b,h2.o,none⟩:=h2.ad_pos (by decide);have e2:([⟨22,34,2,0,0,0⟩,⟨13,34,2,0,0,0⟩]:List Ev).length=2:=rfl;rw [e2,Hd.v_eq,a2];clear a2 e2;go_wp2_with fail;refine (z8n b y aCf aK2 aI2 rfl 0 (by decide) 0 zgo w0 _ HT.out _ own).mono ?_;rintro en w4 ⟨v4,rfl,hs13⟩;rw [aE3] at hs13;obtain ⟨h3,rfl,_,hs14⟩:=z2T hs13;have hs15:Sat w0 w4 (pts h3.b h3.o [.int .i64 5,.int .u64 34,.int .u64 3,.int .u32 255,.int .u32 0,.int .u32 0]*(pts h2.b h2.o [.int .i64 22,.int .u64 34,.int .u64 2,.int .u32 0,.int .u32 0,.int .u32 0,.int .i64 13,.int .u64 34,.int .u64 2,.int .u32 0,.int .u32 0,.int .u32 0]*(pts h1.b h1.o [.int .i64 6,.int .u64 0,.int .u64 1,.int .u32 0,.int .u32 0,.int .u32 1,.int .i64 5,.int .u64 0,.int .u64 1,.int .u32 0,.int .u32 255,.int .u32 0,.int .i64 12,.int .u64 22,.int .u64 1,.int .u32 0,.int .u32 0,.int .u32 0]*(knP b y aCf aK3*any)))):=by
  have h:Sat w0 w4 (pts h3.b h3.o [.int .i64 5,.int .u64 34,.int .u64 3,.int .u32 255,.int .u32 0,.int .u32 0]*(knP b y aCf aK3*_)):=hs14;exact z3 (hs:=h)
 clear hs12 hs13 hs14;have a3:h3.ad 1=some ⟨h3.b,h3.o,none⟩:=h3.ad_pos (by decide);have e3:([⟨5,34,3,255,0,0⟩]:List Ev).length=1:=rfl;rw [e3,Hd.v_eq,a3];clear a3 e3;go_wp2_with fail;refine (zbP b y aCf aK3 aI3 w0 w4 _ own).mono ?_;rintro en w5 ⟨v5,rfl,hs16⟩;obtain ⟨sv,rfl,hs17⟩:=z9H hs16;clear hs15 hs16;obtain ⟨him,hmm,htt,hrr,hoo,hll,hss,hkk,hqq,hsd,hrc,hdd⟩:=sv;unfold stH at hs17;dsimp only at hs17;simp only [stL,stA,stC,cxL,R8.cells,List.cons_append,List.nil_append];have hs18:Sat w0 w5 (tkP htt (aK3.st aCf).tasks*any):=zq;obtain ⟨ts,hs19⟩:=hs18.ex_out;obtain ⟨e1,hs20⟩:=(hs19.perm (by ac_rfl:_=pur (ts.map Tr.s=(aK3.st aCf).tasks.map Prod.fst)*(z7 htt ts*(z9O ts (fun i=>((aK3.st aCf).tasks.getD i (ts0,[])).2) (aK3.st aCf).tasks.length*any)))).pur_out;have e2:(aK3.st aCf).tasks.map Prod.fst=[aK3.T 0]:=rfl;rw [e2] at e1;obtain ⟨r,hr⟩:∃ r,ts=[r]:=by
  match ts,e1 with
  | [r],_=>exact ⟨r,rfl⟩
  | [],e=>simp at e
  | _::_::_,e=>simp at e
 subst hr;have e3:r.s=aK3.T 0:=by simpa using e1
 have e4:r.s.st=7:=by rw [e3];exact aT3
 obtain ⟨h4,rfl,_,hs21⟩:=z2T hs20;have a4:h4.ad 1=some ⟨h4.b,h4.o,none⟩:=h4.ad_pos (by decide);have hs22:Sat w0 w5 (pts h4.b h4.o [.int .i64 r.s.st,.int .i64 r.s.lev,.int .i64 r.s.on,.int .i64 r.s.late,.int .u32 r.s.job,.int .i64 r.s.at_,.int .u32 r.s.rg.r0,.int .u32 r.s.rg.r1,.int .u32 r.s.rg.r2,.int .u32 r.s.rg.r3,.int .u32 r.s.rg.r4,.int .u32 r.s.rg.r5,.int .u32 r.s.rg.r6,.int .u32 r.s.rg.r7,.slice r.a r.n r.c]*any):=by
  refine (show Sat w0 w5 (pts h4.b h4.o [.int .i64 r.s.st,.int .i64 r.s.lev,.int .i64 r.s.on,.int .i64 r.s.late,.int .u32 r.s.job,.int .i64 r.s.at_,.int .u32 r.s.rg.r0,.int .u32 r.s.rg.r1,.int .u32 r.s.rg.r2,.int .u32 r.s.rg.r3,.int .u32 r.s.rg.r4,.int .u32 r.s.rg.r5,.int .u32 r.s.rg.r6,.int .u32 r.s.rg.r7,.slice r.a r.n r.c]*_) from hs21).toAny
 rw [e4] at hs22;clear hs17 hs18 hs19 hs20 hs21 e1 e2 e3 e4;have e5:([r]:List Tr).length=1:=rfl;rw [e5,Hd.v_eq,a4];clear a4 e5;go_wp2_with fail;go_ret;exact ⟨rfl,z3⟩
end Go.Proofs.YthcfimbidmogkaaGreatDoor
namespace Go.Proofs.YthcfimbidmogkaaGreatDoor
open Go.RowKit Go.Sx Go.ChangeShapes Go.WideShapes Go.ChangeAt
open Go.ChangeMaps (open_string shut_string)
theorem own:ownKnob Tryz.prog.godebug=none:=by kernel_rfl
theorem z7f:laidOutB Tryz.prog=true:=by kernel_rfl
theorem z6F {w:World} {a:Addr} {u:Value} (h:w.cell? (a.add 0)=some u):∃ b off,a=⟨b,off,none⟩:=by
 have h:w.cell? a=some u:=by simpa [Addr.add] using h
 obtain ⟨b,off,s⟩:=a
 cases s with
 | none=>exact ⟨b,off,rfl⟩
 | some s =>
  unfold World.cell? at h
  split at h
  ·simp at h
  ·cases h
theorem z7t {κ:IntKind} {w:World} {a:Addr} {len cap:Nat} {zs:List Int} (hl:len≤cap) (hm:cap≤maxLen) (hz:zs.length=cap) (hc:∀ i,i<zs.length→w.cell? (a.add i)=some (.int κ (zs.getD i 0))) :
  RdN κ w (.slice (some a) len cap) (zs.take len):=by
 have hlen:(zs.take len).length=len:=by simp;omega
 by_cases h0:len=0
 ·subst h0;exact ⟨some a,cap,0,0,by simp,by simp,hm,fun h=>absurd (by simp) h,fun j hj=>absurd hj (by simp)⟩
 ·obtain ⟨b,off,rfl⟩:=z6F (hc 0 (by omega));refine ⟨_,cap,b,off,by rw [hlen],by omega,hm,fun _=>rfl,fun j hj=>?_⟩;have:=hc j (by omega);rw [Addr.add_lit] at this;rw [this]
  congr 2
  rw [hlen] at hj;simp [List.getD,hj]
section
variable {H:Type} {enc:TypeId×Value→H} {P:Program} {W:World} {base:Nat}
theorem zbi {e:TypeId} {fs:Array Field} {κs:List IntKind} {fuel:Nat} {cs:List Value} {x:DataW H×List MemPlace} {spare:Nat→Bool} {held:Bool} (he:P.underlying e=some (.struct fs))
  (hfs:∀ c κ,κs[c]?=some κ→∃ g:Field,fs[c]?=some g∧g.offset=c∧P.underlying g.type=some (.int κ)∧P.cellsOf g.type=1) (ce:P.cellsOf e=κs.length)
  (h:DataW.trod enc P W base spare held fuel e cs=some x):∃ f:Nat→Int, ∀ c κ,κs[c]?=some κ→cs[c]?=some (.int κ (f c))∧(Lit.int κ (f c)).wf=true:=by
 obtain ⟨xs,n,_,_,hlen,hxl,hf⟩:=DataW.trod_struct he h;have each:∀ c,c<κs.length→∃ m:Int, ∀ κ,κs[c]?=some κ→cs[c]?=some (.int κ m)∧(Lit.int κ m).wf=true:=fun c hc=>by
  have hk:=List.getElem?_eq_getElem hc;obtain ⟨g,h1,h2,h3,h4⟩:=hfs c _ hk;have h5:=hf c g h1;rw [h2,h4] at h5;have hcl:c<cs.length:=by omega
  have h6:(cs.drop c).take 1=[cs[c]]:=by rw [List.drop_eq_getElem_cons hcl];rfl
  have hxc:c<xs.length:=by
   have:=(Array.getElem?_eq_some_iff.1 h1).1;omega
  rw [h6,List.getElem?_eq_getElem hxc] at h5;obtain ⟨m,e1,_,e3⟩:=DataW.trod_int h3 h5;refine ⟨m,fun κ hκ=>?_⟩;rw [hk] at hκ
  cases hκ
  simp only [List.cons.injEq,and_true] at e1;exact ⟨by rw [List.getElem?_eq_getElem hcl,e1],e3⟩
 obtain ⟨f,hf'⟩:=Go.Deep.choose_lt each;exact ⟨f,fun c κ hκ=>hf' c (List.getElem?_eq_some_iff.1 hκ).1 κ hκ⟩
theorem z4i {t e:TypeId} {fs:Array Field} {κs:List IntKind} {v:Value} {d:DataW H} {p:List MemPlace} (ht:P.underlying t=some (.slice e)) (he:P.underlying e=some (.struct fs))
  (hfs:∀ c κ,κs[c]?=some κ→∃ g:Field,fs[c]?=some g∧g.offset=c∧P.underlying g.type=some (.int κ)∧P.cellsOf g.type=1) (ce:P.cellsOf e=κs.length) (hpos:0<κs.length)
  (hok:Value.okWide P W .any base t v) (h:DataW.Trod enc P W 0 (fun _=>true) true t v d p) :
  ∃ n f,RdK κs W v n f∧n≤maxLen:=by
 obtain ⟨a,len,cap,rfl⟩:=okWide_slice ht hok;obtain ⟨fuel,hf⟩:=h
 rcases Go.Deep.open_slice ht hf with ⟨hcs,_⟩ | ⟨x,l,c,m,n,D,Pl,hcs,_,hl,hm,hmm,_,hx⟩
 ·simp [Value.cells] at hcs;obtain ⟨rfl,rfl,rfl⟩:=hcs;exact ⟨0,fun _ _=>0,⟨none,0,0,0,rfl,Nat.le_refl _,Nat.zero_le _,fun h=>absurd h (Nat.lt_irrefl _),fun i c κ hi=>absurd hi (Nat.not_lt_zero _)⟩,Nat.zero_le _⟩
 ·simp [Value.cells] at hcs;obtain ⟨rfl,rfl,rfl⟩:=hcs;simp at hmm;subst hmm;have each:∀ i,i<m→∃ f:Nat→Int, ∀ c κ,κs[c]?=some κ→W.cell? (x.add (i*κs.length+c))=some (.int κ (f c))∧(Lit.int κ (f c)).wf=true:=fun i hi=>by
   obtain ⟨cs',h1,h2⟩:=hx i hi;obtain ⟨_,hlen,hcell⟩:=World.cells?_some h1;obtain ⟨f,hf⟩:=zbi he hfs ce h2;refine ⟨f,fun c κ hκ=>⟨?_,(hf c κ hκ).2⟩⟩;have hc:=hcell c (by rw [ce];exact (List.getElem?_eq_some_iff.1 hκ).1);rw [Go.Deep.add_add,ce] at hc;rw [hc];exact (hf c κ hκ).1
  obtain ⟨f,hf⟩:=Go.Deep.choose_lt (α:=Nat→Int) (p:=fun i f=>∀ c κ,κs[c]?=some κ→W.cell? (x.add (i*κs.length+c))=some (.int κ (f c))∧(Lit.int κ (f c)).wf=true) each;refine ⟨len,f,?_,by omega⟩
  by_cases h0:0<len
  ·obtain ⟨b,off,rfl⟩:=z6F (by simpa using (hf 0 (by omega) 0 _ (List.getElem?_eq_getElem hpos)).1);refine ⟨_,m,b,off,rfl,by omega,hm,fun _=>rfl,fun i c κ hi hκ=>?_⟩;have:=hf i (by omega) c κ hκ;rw [Addr.add_lit] at this;exact this
  ·exact ⟨_,m,0,0,rfl,by omega,hm,fun h=>absurd h h0,fun i c κ hi=>absurd hi (by omega)⟩
theorem z2p {t:TypeId} {v:Value} {d:DataW H} {p:List MemPlace} (h:DataW.Trod enc P W 0 (fun _=>true) true t v d p):∀ x∈p,x.block<W.heap.size:=by
 obtain ⟨m,hm⟩:=h;exact DataW.trod_lt m _ _ _ hm
end
end Go.Proofs.YthcfimbidmogkaaGreatDoor
namespace Go.Proofs.YthcfimbidmogkaaGreatDoor
open Go.RowKit Go.Sx Go.Dl Go.Lk Go.Rq Go.Au Go.ChangeShapes Go.WideShapes Go.ChangeAt
set_option linter.constructorNameAsVariable false
theorem zbk {n:Int} (h:(Lit.int .u32 n).wf=true):zG n:=by
 have h1:(decide ((0:Int)≤n) && decide (n≤4294967295))=true:=h;simp only [Bool.and_eq_true,decide_eq_true_eq] at h1;exact ⟨by omega,by omega⟩
theorem ziS {n:Int} (h:(Lit.int .u64 n).wf=true):0≤n∧n<18446744073709551616:=by
 have h1:(decide ((0:Int)≤n) && decide (n≤18446744073709551615))=true:=h;simp only [Bool.and_eq_true,decide_eq_true_eq] at h1;omega
section
variable {H:Type} {enc:TypeId×Value→H} {P:Program} {W:World}
theorem z3X {t:TypeId} {fs:Array Field} {fuel:Nat} {cs:List Value} {x:DataW H×List MemPlace} (ht:P.underlying t=some (.struct fs)) (h:DataW.trod enc P W 0 (fun _=>true) true fuel t cs=some x) :
  cs.length=P.cellsOf t∧∀ (i:Nat) (f:Field),fs[i]?=some f→∃ n y,DataW.trod enc P W 0 (fun _=>true) true n f.type ((cs.drop f.offset).take (P.cellsOf f.type))=some y:=by
 obtain ⟨xs,n,_,_,hl,hx,hf⟩:=DataW.trod_struct ht h;refine ⟨hl,fun i f e=>⟨n,xs[i]'(by have:=(Array.getElem?_eq_some_iff.1 e).1;omega),?_⟩⟩;rw [hf i f e,List.getElem?_eq_getElem]
theorem znK {cs:List Value} {o:Nat} (h:o<cs.length):(cs.drop o).take 1=[cs[o]]:=by
 rw [List.drop_eq_getElem_cons h];rfl
theorem z3A {t:TypeId} {fs:Array Field} {fuel:Nat} {cs:List Value} {x:DataW H×List MemPlace} (ht:P.underlying t=some (.struct fs)) (h:DataW.trod enc P W 0 (fun _=>true) true fuel t cs=some x)
  {T:TypeId} {i o:Nat} (ho:o<P.cellsOf t) (hg:∃ g:Field,fs[i]?=some g∧g.offset=o∧g.type=T∧P.cellsOf T=1):∃ v n y,cs[o]?=some v∧DataW.trod enc P W 0 (fun _=>true) true n T [v]=some y:=by
 obtain ⟨hl,hf⟩:=z3X ht h;obtain ⟨g,h1,rfl,rfl,h4⟩:=hg;obtain ⟨n,y,h5⟩:=hf i g h1;have hlt:g.offset<cs.length:=by omega
 rw [h4,znK hlt] at h5;exact ⟨_,n,y,List.getElem?_eq_getElem hlt,h5⟩
theorem z0C {t:TypeId} {fs:Array Field} {fuel:Nat} {cs:List Value} {x:DataW H×List MemPlace} (ht:P.underlying t=some (.struct fs)) (h:DataW.trod enc P W 0 (fun _=>true) true fuel t cs=some x)
  {T:TypeId} {κ:IntKind} {i o:Nat} (ho:o<P.cellsOf t) (hT:P.underlying T=some (.int κ)) (hg:∃ g:Field,fs[i]?=some g∧g.offset=o∧g.type=T∧P.cellsOf T=1):∃ m:Int,cs[o]?=some (.int κ m)∧(Lit.int κ m).wf=true:=by
 obtain ⟨v,n,y,h1,h2⟩:=z3A ht h ho hg;obtain ⟨m,e,_,hw⟩:=DataW.trod_int hT h2;simp only [List.cons.injEq,and_true] at e;exact ⟨m,by rw [h1,e],hw⟩
theorem z7Q {t e:TypeId} {κ:IntKind} {n:Nat} {cs:List Value} {x:DataW H×List MemPlace} (ht:P.underlying t=some (.slice e)) (he:P.underlying e=some (.int κ)) (hc:P.cellsOf e=1)
  (h:DataW.trod enc P W 0 (fun _=>true) true n t cs=some x):∃ v l,cs=[v]∧RdN κ W v l∧∀ n∈l,(Lit.int κ n).wf=true:=by
 rcases open_ints ht he hc h with ⟨hcs,_⟩ | ⟨x,l,c,zs,hcs,_,hl,hm,hz,_,hcell,hwz⟩
 ·exact ⟨_,[],hcs,⟨none,0,0,0,rfl,Nat.le_refl _,Nat.zero_le _,fun h=>absurd rfl h,fun j hj=>absurd hj (Nat.not_lt_zero _)⟩,fun n hn=>(by cases hn)⟩
 ·exact ⟨_,_,hcs,z7t hl hm (by simpa using hz) hcell,fun n hn=>hwz n (List.mem_of_mem_take hn)⟩
theorem z7R {α:Type} {sz:Nat} [E:Enc α sz] {t e:TypeId} {fuel:Nat} {cs:List Value} {x:DataW H×List MemPlace} (ht:P.underlying t=some (.slice e)) (ce:P.cellsOf e=sz) {G:α→Prop}
  (he:∀ n cs x,DataW.trod enc P W 0 (fun _=>true) true n e cs=some x→∃ a:α,cs=E.enc a∧G a)
  (h:DataW.trod enc P W 0 (fun _=>true) true fuel t cs=some x):∃ v l,cs=[v]∧RdR W v l∧∀ a∈l,G a:=by
 rcases Go.Deep.open_slice ht h with ⟨hcs,_⟩ | ⟨a,len,cap,m,n,D,Pl,hcs,_,hl,hm,hmm,_,hx⟩
 ·exact ⟨_,[],hcs,z5D W,fun a h=>by cases h⟩
 ·simp at hmm;subst hmm;have each:∀ i,i<m→∃ y:α,G y∧∀ c u,(E.enc y)[c]?=some u→W.cell? (a.add (i*sz+c))=some u:=fun i hi=>by
   obtain ⟨cs',h1,h2⟩:=hx i hi;obtain ⟨_,hlen,hcell⟩:=World.cells?_some h1;obtain ⟨y,rfl,hG⟩:=he _ _ _ h2;refine ⟨y,hG,fun c u hu=>?_⟩;have hc:=hcell c (by rw [ce,← E.len y];exact (List.getElem?_eq_some_iff.1 hu).1);rw [Go.Deep.add_add,ce] at hc;rw [hc];exact hu
  haveI:Inhabited α:=⟨E.dft⟩;obtain ⟨f,hf⟩:=Go.Deep.choose_lt each;have hsz:=E.pos;refine ⟨_,(List.range len).map f,hcs,?_,fun y hy=>?_⟩
  ·by_cases h0:0<len
   ·have hpos:0<(E.enc (f 0)).length:=by rw [E.len];exact hsz
    obtain ⟨b,off,rfl⟩:=z6F (by simpa using (hf 0 (by omega)).2 0 _ (List.getElem?_eq_getElem hpos));refine ⟨_,m,b,off,by simp,by simpa using hl,hm,fun _=>rfl,fun j u hj=>?_⟩;have hjl:=(List.getElem?_eq_some_iff.1 hj).1;rw [zJ,List.length_map,List.length_range] at hjl;have e1:j=j / sz*sz+j%sz:=by rw [Nat.mul_comm];exact (Nat.div_add_mod j sz).symm
    have hk:j / sz<len:=(Nat.div_lt_iff_lt_mul hsz).2 hjl;have hc:j%sz<sz:=Nat.mod_lt _ hsz;rw [e1] at hj;rw [z0Y (by simpa using hk) hc] at hj;have hg:((List.range len).map f).getD (j / sz) E.dft=f (j / sz):=by simp [List.getD,hk]
    rw [hg] at hj;have:=(hf (j / sz) (by omega)).2 _ u hj;rw [← e1,Addr.add_lit] at this;exact this
   ·have:len=0:=by omega
    subst this;exact ⟨some a,m,0,0,rfl,by simp,hm,fun h=>absurd (by simp) h,fun j u hj=>by simp [cellsOf] at hj⟩
  ·rw [List.mem_map] at hy;obtain ⟨i,hi,rfl⟩:=hy;exact (hf i (by have:=List.mem_range.1 hi;omega)).1
end
section
variable {H:Type} {enc:TypeId×Value→H} {W:World}
theorem cs6 {cs:List Value} {a b c d e f:Value} (hl:cs.length=6) (h0:cs[0]?=some a) (h1:cs[1]?=some b) (h2:cs[2]?=some c) (h3:cs[3]?=some d) (h4:cs[4]?=some e) (h5:cs[5]?=some f):cs=[a,b,c,d,e,f]:=by
 match cs,hl with
 | [_,_,_,_,_,_],_=>simp_all
theorem cs2 {cs:List Value} {a b:Value} (hl:cs.length=2) (h0:cs[0]?=some a) (h1:cs[1]?=some b):cs=[a,b]:=by
 match cs,hl with
 | [_,_],_=>simp_all
theorem zo5 {cs:List Value} {a b c d e f g h i j k l:Value} (hl:cs.length=12) (h0:cs[0]?=some a) (h1:cs[1]?=some b) (h2:cs[2]?=some c) (h3:cs[3]?=some d) (h4:cs[4]?=some e) (h5:cs[5]?=some f)
  (h6:cs[6]?=some g) (h7:cs[7]?=some h) (h8:cs[8]?=some i) (h9:cs[9]?=some j) (h10:cs[10]?=some k) (h11:cs[11]?=some l):cs=[a,b,c,d,e,f,g,h,i,j,k,l]:=by
 match cs,hl with
 | [_,_,_,_,_,_,_,_,_,_,_,_],_=>simp_all
abbrev Trd (enc:TypeId×Value→H) (W:World) (n:Nat) (t:TypeId) (cs:List Value) (x:DataW H×List MemPlace):Prop:=DataW.trod enc Tryz.prog W 0 (fun _=>true) true n t cs=some x
theorem ziQ (n:Nat) (cs:List Value) (x:DataW H×List MemPlace) (h:Trd enc W n 68 cs x):∃ i:Ins,cs=za3.enc i∧zG i.k:=by
 have hu:=Tryz.underlying68;have hs:Tryz.prog.cellsOf 68=6:=by kernel_rfl
 have hi:Tryz.prog.underlying 3=some (.int .i64):=Tryz.underlying3;have hk:Tryz.prog.underlying 25=some (.int .u32):=Tryz.underlying25;have ci:Tryz.prog.cellsOf 3=1:=by kernel_rfl
 have ck:Tryz.prog.cellsOf 25=1:=by kernel_rfl
 obtain ⟨m0,a0,_⟩:=z0C hu h (i:=0) (o:=0) (by rw [hs];decide) hi ⟨_,rfl,rfl,rfl,ci⟩;obtain ⟨m1,a1,_⟩:=z0C hu h (i:=1) (o:=1) (by rw [hs];decide) hi ⟨_,rfl,rfl,rfl,ci⟩;obtain ⟨m2,a2,_⟩:=z0C hu h (i:=2) (o:=2) (by rw [hs];decide) hi ⟨_,rfl,rfl,rfl,ci⟩;obtain ⟨m3,a3,_⟩:=z0C hu h (i:=3) (o:=3) (by rw [hs];decide) hi ⟨_,rfl,rfl,rfl,ci⟩;obtain ⟨m4,a4,_⟩:=z0C hu h (i:=4) (o:=4) (by rw [hs];decide) hi ⟨_,rfl,rfl,rfl,ci⟩;obtain ⟨m5,a5,w5⟩:=z0C hu h (i:=5) (o:=5) (by rw [hs];decide) hk ⟨_,rfl,rfl,rfl,ck⟩;exact ⟨⟨m0,m1,m2,m3,m4,m5⟩,cs6 ((z3X hu h).1.trans hs) a0 a1 a2 a3 a4 a5,zbk w5⟩
theorem zbh {n:Nat} {v:Value} {x:DataW H×List MemPlace} (h:Trd enc W n 64 [v] x):∃ l:List Ins,RdR W v l∧∀ i∈l,zG i.k:=by
 obtain ⟨v',l,e,hr,hG⟩:=z7R (E:=za3) Tryz.underlying64 (by kernel_rfl) ziQ h;simp only [List.cons.injEq,and_true] at e;subst e;exact ⟨l,hr,hG⟩
theorem zdj {α:Type} {sz:Nat} [E:Enc α sz] {w:World} {v:Value} {l:List α} (h:RdR w v l):∃ a n c,v=.slice a n c:=by
 obtain ⟨a,cap,b,off,e,_⟩:=h;exact ⟨_,_,_,e⟩
theorem zgK (n:Nat) (cs:List Value) (x:DataW H×List MemPlace) (h:Trd enc W n 66 cs x):∃ t:Tv,cs=z8Q.enc t∧∃ l:List Ins,RdR W t.cv l∧∀ i∈l,zG i.k:=by
 have hu:=Tryz.underlying66;have hs:Tryz.prog.cellsOf 66=6:=by kernel_rfl
 have hi:Tryz.prog.underlying 3=some (.int .i64):=Tryz.underlying3;have ci:Tryz.prog.cellsOf 3=1:=by kernel_rfl
 have ck:Tryz.prog.cellsOf 64=1:=by kernel_rfl
 obtain ⟨m0,a0,_⟩:=z0C hu h (i:=0) (o:=0) (by rw [hs];decide) hi ⟨_,rfl,rfl,rfl,ci⟩;obtain ⟨m1,a1,_⟩:=z0C hu h (i:=1) (o:=1) (by rw [hs];decide) hi ⟨_,rfl,rfl,rfl,ci⟩;obtain ⟨m2,a2,_⟩:=z0C hu h (i:=2) (o:=2) (by rw [hs];decide) hi ⟨_,rfl,rfl,rfl,ci⟩;obtain ⟨m3,a3,_⟩:=z0C hu h (i:=3) (o:=3) (by rw [hs];decide) hi ⟨_,rfl,rfl,rfl,ci⟩;obtain ⟨m4,a4,_⟩:=z0C hu h (i:=4) (o:=4) (by rw [hs];decide) hi ⟨_,rfl,rfl,rfl,ci⟩;obtain ⟨v,n',y,a5,h5⟩:=z3A hu h (i:=5) (o:=5) (by rw [hs];decide) ⟨_,rfl,rfl,rfl,ck⟩;obtain ⟨l,hr,hk⟩:=zbh h5;obtain ⟨ca,cn,cc,rfl⟩:=zdj hr;exact ⟨⟨m0,m1,m2,m3,m4,ca,cn,cc⟩,cs6 ((z3X hu h).1.trans hs) a0 a1 a2 a3 a4 a5,l,hr,hk⟩
theorem zgJ (n:Nat) (cs:List Value) (x:DataW H×List MemPlace) (h:Trd enc W n 96 cs x):∃ t:Lv,cs=z8P.enc t∧∃ l:List Ins,RdR W t.cv l∧∀ i∈l,zG i.k:=by
 have hu:=Tryz.underlying96;have hs:Tryz.prog.cellsOf 96=2:=by kernel_rfl
 have hi:Tryz.prog.underlying 3=some (.int .i64):=Tryz.underlying3;have ci:Tryz.prog.cellsOf 3=1:=by kernel_rfl
 have ck:Tryz.prog.cellsOf 64=1:=by kernel_rfl
 obtain ⟨m0,a0,_⟩:=z0C hu h (i:=0) (o:=0) (by rw [hs];decide) hi ⟨_,rfl,rfl,rfl,ci⟩;obtain ⟨v,n',y,a5,h5⟩:=z3A hu h (i:=1) (o:=1) (by rw [hs];decide) ⟨_,rfl,rfl,rfl,ck⟩;obtain ⟨l,hr,hk⟩:=zbh h5;obtain ⟨ca,cn,cc,rfl⟩:=zdj hr;exact ⟨⟨m0,ca,cn,cc⟩,cs2 ((z3X hu h).1.trans hs) a0 a5,l,hr,hk⟩
theorem zhX {l:List Tv} (h:∀ t∈l, ∃ k:List Ins,RdR W t.cv k∧∀ i∈k,zG i.k):∃ ts:List Tc,l.length=ts.length∧∀ t,t<ts.length→IsT W (l.getD t tv0) (ts.getD t tc0)∧∀ i∈(ts.getD t tc0).code,zG i.k:=by
 induction l with
 | nil=>exact ⟨[],rfl,fun t ht=>absurd ht (by simp)⟩
 | cons a l ih =>
  obtain ⟨ts,e,hi⟩:=ih fun t ht=>h t (List.mem_cons_of_mem _ ht);obtain ⟨k,hr,hk⟩:=h a (List.mem_cons_self ..);refine ⟨⟨a.lev,a.off,a.per,a.dl,a.mem,k⟩::ts,by simp [e],fun t ht=>?_⟩
  cases t with
  | zero=>exact ⟨⟨rfl,rfl,rfl,rfl,rfl,hr⟩,hk⟩
  | succ t =>
   have:=hi t (by simpa using ht)
   simpa [List.getD] using this
theorem zhW {l:List Lv} (h:∀ t∈l, ∃ k:List Ins,RdR W t.cv k∧∀ i∈k,zG i.k):∃ ts:List Lc,l.length=ts.length∧∀ t,t<ts.length→IsL W (l.getD t lv0) (ts.getD t lc0)∧∀ i∈(ts.getD t lc0).code,zG i.k:=by
 induction l with
 | nil=>exact ⟨[],rfl,fun t ht=>absurd ht (by simp)⟩
 | cons a l ih =>
  obtain ⟨ts,e,hi⟩:=ih fun t ht=>h t (List.mem_cons_of_mem _ ht);obtain ⟨k,hr,hk⟩:=h a (List.mem_cons_self ..);refine ⟨⟨a.mem,k⟩::ts,by simp [e],fun t ht=>?_⟩
  cases t with
  | zero=>exact ⟨⟨rfl,hr⟩,hk⟩
  | succ t =>
   have:=hi t (by simpa using ht)
   simpa [List.getD] using this
theorem z4q {base:Nat} {v:Value} {d:DataW H} {p:List MemPlace} (hok:Value.okWide Tryz.prog W .any base 28 v) (h:DataW.Trod enc Tryz.prog W 0 (fun _=>true) true 28 v d p) :
  ∃ c:Cf,z8I W v c∧z6B c:=by
 have hu:=Tryz.underlying28;have hs:Tryz.prog.cellsOf 28=12:=by kernel_rfl
 have hi:Tryz.prog.underlying 3=some (.int .i64):=Tryz.underlying3;have hk:Tryz.prog.underlying 25=some (.int .u32):=Tryz.underlying25;have hq:Tryz.prog.underlying 26=some (.int .u64):=Tryz.underlying26;have ci:Tryz.prog.cellsOf 3=1:=by kernel_rfl
 have ck:Tryz.prog.cellsOf 25=1:=by kernel_rfl
 have cq:Tryz.prog.cellsOf 26=1:=by kernel_rfl
 have cn:Tryz.prog.cellsOf 24=1:=by kernel_rfl
 have ct:Tryz.prog.cellsOf 22=1:=by kernel_rfl
 have cl:Tryz.prog.cellsOf 23=1:=by kernel_rfl
 obtain ⟨cs,rfl,hsz⟩:=okWide_struct hu hok;obtain ⟨fuel,h⟩:=h;have h:DataW.trod enc Tryz.prog W 0 (fun _=>true) true fuel 28 cs.toList=some (d,p):=h;obtain ⟨v0,n0,y0,a0,h0⟩:=z3A hu h (i:=0) (o:=0) (by rw [hs];decide) ⟨_,rfl,rfl,rfl,ct⟩;obtain ⟨v1,n1,y1,a1,h1⟩:=z3A hu h (i:=1) (o:=1) (by rw [hs];decide) ⟨_,rfl,rfl,rfl,cl⟩;obtain ⟨m2,a2,_⟩:=z0C hu h (i:=2) (o:=2) (by rw [hs];decide) hi ⟨_,rfl,rfl,rfl,ci⟩;obtain ⟨v3,n3,y3,a3,h3⟩:=z3A hu h (i:=3) (o:=3) (by rw [hs];decide) ⟨_,rfl,rfl,rfl,cn⟩;obtain ⟨v4,n4,y4,a4,h4⟩:=z3A hu h (i:=4) (o:=4) (by rw [hs];decide) ⟨_,rfl,rfl,rfl,cn⟩;obtain ⟨v5,n5,y5,a5,h5⟩:=z3A hu h (i:=5) (o:=5) (by rw [hs];decide) ⟨_,rfl,rfl,rfl,cn⟩;obtain ⟨m6,a6,_⟩:=z0C hu h (i:=6) (o:=6) (by rw [hs];decide) hi ⟨_,rfl,rfl,rfl,ci⟩;obtain ⟨m7,a7,w7⟩:=z0C hu h (i:=7) (o:=7) (by rw [hs];decide) hk ⟨_,rfl,rfl,rfl,ck⟩;obtain ⟨m8,a8,w8⟩:=z0C hu h (i:=8) (o:=8) (by rw [hs];decide) hk ⟨_,rfl,rfl,rfl,ck⟩;obtain ⟨m9,a9,_⟩:=z0C hu h (i:=9) (o:=9) (by rw [hs];decide) hi ⟨_,rfl,rfl,rfl,ci⟩;obtain ⟨m10,a10,w10⟩:=z0C hu h (i:=10) (o:=10) (by rw [hs];decide) hq ⟨_,rfl,rfl,rfl,cq⟩;obtain ⟨m11,a11,w11⟩:=z0C hu h (i:=11) (o:=11) (by rw [hs];decide) hq ⟨_,rfl,rfl,rfl,cq⟩;have hcs:=zo5 ((z3X hu h).1.trans hs) a0 a1 a2 a3 a4 a5 a6 a7 a8 a9 a10 a11;obtain ⟨_,T,e0,hT,hTk⟩:=z7R (E:=z8Q) Tryz.underlying22 (by kernel_rfl) zgK h0;obtain ⟨_,L,e1,hL,hLk⟩:=z7R (E:=z8P) Tryz.underlying23 (by kernel_rfl) zgJ h1;obtain ⟨_,S,e3,hS,_⟩:=z7Q Tryz.underlying24 hi ci h3;obtain ⟨_,Q,e4,hQ,_⟩:=z7Q Tryz.underlying24 hi ci h4;obtain ⟨_,M,e5,hM,_⟩:=z7Q Tryz.underlying24 hi ci h5;simp only [List.cons.injEq,and_true] at e0 e1 e3 e4 e5;subst e0;subst e1;subst e3;subst e4;subst e5;obtain ⟨ts,lt,ht⟩:=zhX hTk;obtain ⟨ls,ll,hl⟩:=zhW hLk;have r7:=zbk w7;have r8:=zbk w8;have g7:((m7.toNat:Nat):Int)=m7:=Int.toNat_of_nonneg r7.1;have g8:((m8.toNat:Nat):Int)=m8:=Int.toNat_of_nonneg r8.1;refine ⟨⟨ts,ls,m2,S,Q,M,m6,m7.toNat,m8.toNat,m9,m10,m11⟩,⟨_,_,_,_,_,?_,⟨T,hT,lt,fun t h=>(ht t h).1⟩,⟨L,hL,ll,fun t h=>(hl t h).1⟩,hS,hQ,hM⟩,⟨fun t h=>(ht t h).2,fun t h=>(hl t h).2,?_,?_,ziS w10,ziS w11⟩⟩
 ·rw [← Array.toArray_toList (xs:=cs),hcs];show Value.agg _=Value.agg _;rw [g7,g8]
 ·have:=r7.2;show m7.toNat<_;omega
 ·have:=r8.2;show m8.toNat<_;omega
end
end Go.Proofs.YthcfimbidmogkaaGreatDoor
namespace Go.Proofs.YthcfimbidmogkaaGreatDoor
open Go.RowKit Go.Sx Go.Dl Go.Lk Go.Rq Go.Au
theorem z4u {c:Cf} (h:z7T c):z5a c :=
 ⟨by have:=h.nt;omega,by have:=h.nl;omega,by have:=h.ns;omega,by have:=h.nq;omega,by have:=h.nm;omega,fun t ht=>by have:=(h.t t ht).2.2.2.2.2;omega,fun t ht=>by have:=(h.l t ht).2;omega⟩
theorem z9Q {f:Nat→HP} {n i:Nat} (h:i<n):∃ R,z0F f n=f i*R:=by
 obtain ⟨R,e⟩:=z8M f h;exact ⟨R,by rw [← e (f i),z10]⟩
theorem z4T {w0 w:World} {κ:IntKind} {v:Value} {ll:List (List Int)} {F:HP} (hs:Sat w0 w (rwP κ v ll*F)):z8J κ w v ll:=by
 obtain ⟨ms,h⟩:=hs.ex_out;obtain ⟨e,h⟩:=(h.perm (zb _ _ _)).pur_out;have h1:Sat w0 w (z7 v ms*(zZ κ ms (fun i=>ll.getD i []) ll.length*F)):=h.perm (by ac_rfl);refine ⟨ms,h1.rdR,e,fun i hi=>?_⟩;obtain ⟨R,er⟩:=z9Q (f:=fun i=>z5 κ (ms.getD i mv0).v (ll.getD i [])) hi;have h2:Sat w0 w (z5 κ (ms.getD i mv0).v (ll.getD i [])*(R*(z7 v ms*F))):=h1.perm (by unfold zZ;rw [er];ac_rfl);exact h2.rdN
theorem zmx {w0 w:World} {v:Value} {l:List (Ts×List Int)} {F:HP} (hs:Sat w0 w (tkP v l*F)):zj0 w v l:=by
 obtain ⟨ts,h⟩:=hs.ex_out;obtain ⟨e,h⟩:=(h.perm (zb _ _ _)).pur_out;have h1:Sat w0 w (z7 v ts*(z9O ts (fun i=>(l.getD i (ts0,[])).2) l.length*F)):=h.perm (by ac_rfl);refine ⟨ts,h1.rdR,e,fun i hi=>?_⟩;obtain ⟨R,er⟩:=z9Q (f:=fun i=>z5 .u32 (.slice (ts.getD i tr0).a (ts.getD i tr0).n (ts.getD i tr0).c) (l.getD i (ts0,[])).2) hi;have h2:Sat w0 w (z5 .u32 (.slice (ts.getD i tr0).a (ts.getD i tr0).n (ts.getD i tr0).c) (l.getD i (ts0,[])).2*(R*(z7 v ts*F))):=h1.perm (by unfold z9O;rw [er];ac_rfl);exact h2.rdN
theorem zmw {w0 w:World} {s:Sn} {y:Sv} {F:HP} (hs:Sat w0 w (stH y s*F)):zjC w (.agg (stL s y).toArray) s:=by
 unfold stH at hs;have h1:=hs.perm (zb _ _ _);have h2:=h1.drop.perm (zb _ _ _);have h3:=h2.drop.perm (zb _ _ _);have h4:=h3.drop.perm (zb _ _ _);have h5:=h4.drop.perm (zb _ _ _);have h6:=h5.drop.perm (zb _ _ _);have h7:=h6.drop.perm (zb _ _ _);have h8:=h7.drop.perm (zb _ _ _);have h9:=h8.drop.perm (zb _ _ _);have h10:=h9.drop.perm (zb _ _ _);have h11:=h10.drop.perm (zb _ _ _);exact ⟨y,rfl,h1.rdN,z4T h2,zmx h3,z4T h4,h5.rdN,z4T h6,h7.rdN,z4T h8,z4T h9,z4T h10,z4T h11,h11.drop.rdR⟩
theorem isN {κ:IntKind} {w:World} {v:Value} {l:List Int} (h:RdN κ w v l):∃ (p:Option Addr) (n c:Nat),v=.slice p n c:=by
 obtain ⟨a,c,e⟩:=z4r h;exact ⟨a,_,c,e⟩
theorem isR {α:Type} {sz:Nat} [E:Enc α sz] {w:World} {v:Value} {l:List α} (h:RdR w v l):∃ (p:Option Addr) (n c:Nat),v=.slice p n c:=by
 obtain ⟨a,c,e⟩:=zcc h;exact ⟨a,_,c,e⟩
theorem isW {κ:IntKind} {w:World} {v:Value} {l:List (List Int)} (h:z8J κ w v l):∃ (p:Option Addr) (n c:Nat),v=.slice p n c:=by
 obtain ⟨a,c,_,_,e,_⟩:=h.form;exact ⟨a,_,c,e⟩
theorem isT {w:World} {v:Value} {l:List (Ts×List Int)} (h:zj0 w v l):∃ (p:Option Addr) (n c:Nat),v=.slice p n c:=by
 obtain ⟨a,c,_,_,e,_⟩:=h.form;exact ⟨a,_,c,e⟩
theorem zcn {w0 w:World} {s:Sn} {y:Sv} {F:HP} (hs:Sat w0 w (stH y s*F)):∃ (pim:Option Addr) (nim:Nat) (cim:Nat) (pmm:Option Addr) (nmm:Nat) (cmm:Nat) (ptt:Option Addr) (ntt:Nat) (ctt:Nat) (prr:Option Addr) (nrr:Nat) (crr:Nat) (poo:Option Addr) (noo:Nat) (coo:Nat) (pll:Option Addr) (nll:Nat) (cll:Nat) (pss:Option Addr) (nss:Nat) (css:Nat) (pkk:Option Addr) (nkk:Nat) (ckk:Nat) (pqq:Option Addr) (nqq:Nat) (cqq:Nat) (psd:Option Addr) (nsd:Nat) (csd:Nat) (prc:Option Addr) (nrc:Nat) (crc:Nat) (pdd:Option Addr) (ndd:Nat) (cdd:Nat),y=⟨.slice pim nim cim,.slice pmm nmm cmm,.slice ptt ntt ctt,.slice prr nrr crr,.slice poo noo coo,.slice pll nll cll,.slice pss nss css,.slice pkk nkk ckk,.slice pqq nqq cqq,.slice psd nsd csd,.slice prc nrc crc,.slice pdd ndd cdd⟩:=by
 unfold stH at hs;have h1:=hs.perm (zb _ _ _);have h2:=h1.drop.perm (zb _ _ _);have h3:=h2.drop.perm (zb _ _ _);have h4:=h3.drop.perm (zb _ _ _);have h5:=h4.drop.perm (zb _ _ _);have h6:=h5.drop.perm (zb _ _ _);have h7:=h6.drop.perm (zb _ _ _);have h8:=h7.drop.perm (zb _ _ _);have h9:=h8.drop.perm (zb _ _ _);have h10:=h9.drop.perm (zb _ _ _);have h11:=h10.drop.perm (zb _ _ _);obtain ⟨pim,nim,cim,eim⟩:=isN h1.rdN;obtain ⟨pmm,nmm,cmm,emm⟩:=isW (z4T h2);obtain ⟨ptt,ntt,ctt,ett⟩:=isT (zmx h3);obtain ⟨prr,nrr,crr,err⟩:=isW (z4T h4);obtain ⟨poo,noo,coo,eoo⟩:=isN h5.rdN;obtain ⟨pll,nll,cll,ell⟩:=isW (z4T h6);obtain ⟨pss,nss,css,ess⟩:=isN h7.rdN;obtain ⟨pkk,nkk,ckk,ekk⟩:=isW (z4T h8);obtain ⟨pqq,nqq,cqq,eqq⟩:=isW (z4T h9);obtain ⟨psd,nsd,csd,esd⟩:=isW (z4T h10);obtain ⟨prc,nrc,crc,erc⟩:=isW (z4T h11);obtain ⟨pdd,ndd,cdd,edd⟩:=isR h11.drop.rdR;refine ⟨pim,nim,cim,pmm,nmm,cmm,ptt,ntt,ctt,prr,nrr,crr,poo,noo,coo,pll,nll,cll,pss,nss,css,pkk,nkk,ckk,pqq,nqq,cqq,psd,nsd,csd,prc,nrc,crc,pdd,ndd,cdd,?_⟩
 cases y
 simp only at eim emm ett err eoo ell ess ekk eqq esd erc edd;simp only [eim,emm,ett,err,eoo,ell,ess,ekk,eqq,esd,erc,edd]
end Go.Proofs.YthcfimbidmogkaaGreatDoor
