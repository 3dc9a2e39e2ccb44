/-
  Parts of the proof: SameC.
-/
import Derived.Test.YtlbjjoeocdimfaaGreatDoorKD2
import Derived.Test.YtlbjjoeocdimfaaGreatDoorKD5
import Derived.Test.YtlbjjoeocdimfaaGreatDoorKD8
import Derived.Test.YtlbjjoeocdimfaaGreatDoorKD14
import Derived.Test.YtlbjjoeocdimfaaGreatDoorKD15
import Derived.Test.YtlbjjoeocdimfaaGreatDoorWP0
set_option linter.unusedVariables false
set_option linter.unusedSimpArgs false
set_option maxHeartbeats 32000000
set_option maxRecDepth 100000
namespace Go.Proofs.YtlbjjoeocdimfaaGreatDoor
open Go.RowKit Go.Sx Go.Dl Go.Lk Go.Rq Go.Au
theorem zh8 {l m:List Ck} (hlen:l.length=m.length) {k:Nat} (hk:k<l.length) (h:l.take k=m.take k) (e:l.getD k (0,0)=m.getD k (0,0)):l.take (k+1)=m.take (k+1):=by
 rw [List.take_succ_eq_append_getElem hk,List.take_succ_eq_append_getElem (by omega),h];have e1:l.getD k (0,0)=l[k]:=by simp [List.getD,hk]
 have e2:m.getD k (0,0)=m[k]:=by simp [List.getD,show k<m.length by omega]
 rw [← e1,← e2,e]
theorem zgb {w:World} {v:Value} {l:List Ck} (h:RdR w v l):∃ a cap b off,v=.slice a l.length cap∧l.length≤9223372036854775807∧(l≠[]→a=some ⟨b,off,none⟩)∧∀ k,k<l.length→w.cell? ⟨b,off+k*2,none⟩=some (.int .i64 (l.getD k (0,0)).1)∧w.cell? ⟨b,off+k*2+1,none⟩=some (.int .i64 (l.getD k (0,0)).2):=by
 obtain ⟨a,cap,b,off,h1,h2,h3,h4,h5⟩:=h;refine ⟨a,cap,b,off,h1,by unfold maxLen at h3;omega,h4,fun k hk=>⟨?_,?_⟩⟩
 ·exact h5 (k*2) _ (by have:=z0Y (E:=z5i) (l:=l) (k:=k) (c:=0) hk (by decide);rw [Nat.add_zero] at this;rw [this];rfl)
 ·have:=h5 (k*2+1) _ (by rw [z0Y (E:=z5i) (l:=l) (k:=k) (c:=1) hk (by decide)];rfl)
  rwa [← Nat.add_assoc] at this
theorem zjQ (v u:Value) (l m:List Ck) (w:World) (h:RdR w v l) (hm:RdR w u m) :
  Calls Tryz.prog 69 #[v,u] w (z9P (.bool (decide (l=m))) w):=by
 obtain ⟨a,cap,b,off,rfl,hbig,ha,hc⟩:=zgb h;obtain ⟨la,lcap,lb,loff,rfl,hlbig,hla,hlc⟩:=zgb hm;clear h hm
 by_cases hlen:l.length=m.length
 ·have hb:((l.length:Int) != (m.length:Int))=false:=by simp [hlen]
  have hlen':=hid hlen;clear hlen
  go_enter Tryz.func69,Tryz.ntmps69
  go_wp2_with fail
  go_loopw [5] (fun i wr=>∃ k n:Nat,k≤l.length∧i=.int .i64 k∧l.take k=m.take k∧wr=w.drewN n) (fun i _=>l.length-(intOf i).toNat)
  case atStart=>exact ⟨0,0,Nat.zero_le _,rfl,rfl,rfl⟩
  case round =>
   obtain ⟨k,n,hk,rfl,heq,rfl⟩:=hrel;have heq:=hid heq
   by_cases hlt:k<l.length
   ·have hlt2:k<m.length:=by have:=hlen'.out;omega
    obtain rfl:=ha (by intro h;simp [h] at hlt);obtain rfl:=hla (by intro h;simp [h] at hlt2);have c1:=(hc k hlt).1;have c2:=(hlc k hlt2).1;have c3:=(hc k hlt).2;have c4:=(hlc k hlt2).2;have hnext:=hid (fun e=>zh8 hlen'.out hlt heq.out e);have hne:Hid (l.getD k (0,0)≠m.getD k (0,0)→l≠m):=fun h e=>h (by rw [e]);generalize l.getD k (0,0)=x at c1 c3 hnext hne;generalize m.getD k (0,0)=y at c2 c4 hnext hne;clear hc hlc ha hla;obtain ⟨x1,x2⟩:=x;obtain ⟨y1,y2⟩:=y;dsimp only at c1 c2 c3 c4
    by_cases hxy:x1=y1
    ·subst hxy
     by_cases hxy2:x2=y2
     ·subst hxy2;go_wp2_with fail;go_quiet (fail);go_wp2;go_roundw
      case rel=>exact ⟨k+1,_,by omega,by go_num,hnext.out trivial,rfl⟩
      case measure=>simp [intOf];omega
     ·have hb2:(x2==y2)=false:=by simp [hxy2]
      have hd:decide (l=m)=false:=decide_eq_false (hne.out fun e=>hxy2 (Prod.mk.inj e).2);go_wp2_with fail;go_quiet (fail);go_wp2;go_ret;exact ⟨by rw [hd];rfl,n+nq,by simp⟩
    ·have hb2:(x1==y1)=false:=by simp [hxy]
     have hd:decide (l=m)=false:=decide_eq_false (hne.out fun e=>hxy (Prod.mk.inj e).1);go_wp2_with fail;go_quiet (fail);go_wp2;go_ret;exact ⟨by rw [hd];rfl,n+nq,by simp⟩
   ·have hd:decide (l=m)=true:=decide_eq_true (by have h1:=heq.out;rw [List.take_of_length_le (by omega),List.take_of_length_le (by have:=hlen'.out;omega)] at h1;exact h1);clear hc hlc ha hla;go_wp2_with fail;go_ret;exact ⟨by rw [hd];rfl,_,rfl⟩
 ·have hb:((l.length:Int) != (m.length:Int))=true:=by simp;omega
  have hd:decide (l=m)=false:=decide_eq_false (fun e=>hlen (by rw [e]));clear hc hlc ha hla
  go_enter Tryz.func69,Tryz.ntmps69
  go_wp2_with fail;go_ret;exact ⟨by rw [hd];rfl,0,rfl⟩
theorem zlf {l m:List (Ts×List Int)} (hlen:l.length=m.length) {k:Nat} (hk:k<l.length) (h:l.take k=m.take k) (e:l.getD k (ts0,[])=m.getD k (ts0,[])):l.take (k+1)=m.take (k+1):=by
 rw [List.take_succ_eq_append_getElem hk,List.take_succ_eq_append_getElem (by omega),h];have e1:l.getD k (ts0,[])=l[k]:=by simp [List.getD,hk]
 have e2:m.getD k (ts0,[])=m[k]:=by simp [List.getD,show k<m.length by omega]
 rw [← e1,← e2,e]
theorem zmE {s t:Sn} (a:s.iat=t.iat) (b:s.irg=t.irg) (d:s.imem=t.imem) (c2:s.mems=t.mems) (c3:s.ready=t.ready) (c4:s.owners=t.owners) (c5:s.lockers=t.lockers) (c6:s.sems=t.sems) (c7:s.takers=t.takers) (c8:s.queues=t.queues) (c9:s.senders=t.senders) (c10:s.receivers=t.receivers) (c11:s.dues=t.dues)
  (f1:s.count=t.count) (f2:s.cycle=t.cycle) (f3:s.run=t.run) (f4:s.isr=t.isr) (f5:s.pend=t.pend) (f6:s.mask=t.mask) (f7:s.tasks=t.tasks) (f8:s.reads=t.reads) (hs:s.stopped=t.stopped):s=t:=by
 cases s
 cases t
 simp_all
theorem zgi (v u:Value) (s t:Sn) (z:Bool) (hz:z=true↔s=t) (w0:World) (h1:zjC w0 v s) (h2:zjC w0 u t) :
  Calls Tryz.prog 17 #[v,u] w0 (zp w0 (.bool z) emp):=by
 have hs:=Sat.start w0;obtain ⟨y1,rfl,a1,a2,a3,a4,a5,a6,a7,a8,a9,a10,a11,a12⟩:=h1.out;obtain ⟨y2,rfl,b1,b2,b3,b4,b5,b6,b7,b8,b9,b10,b11,b12⟩:=h2.out;clear h1 h2;obtain ⟨qim1,qmm1,qtt1,qrr1,qoo1,qll1,qss1,qkk1,qqq1,qsd1,qrc1,qdd1⟩:=y1;obtain ⟨qim2,qmm2,qtt2,qrr2,qoo2,qll2,qss2,qkk2,qqq2,qsd2,qrc2,qdd2⟩:=y2;dsimp only at *;have hCx:=hid (fun (w:World) (h:Sat w0 w any)=>zaX s.iat t.iat s.irg t.irg _ _ s.imem t.imem w (a1.later h) (b1.later h));have hMm:=hid (fun (w:World) (h:Sat w0 w any)=>zdk _ _ s.mems t.mems w (a2.later h) (b2.later h));have hRr:=hid (fun (w:World) (h:Sat w0 w any)=>z7A _ _ s.ready t.ready w (a4.later h) (b4.later h));have hOo:=hid (fun w P h=>zm2 _ _ s.owners t.owners w0 w P h (a5.later h) (b5.later h));have hLl:=hid (fun (w:World) (h:Sat w0 w any)=>z7A _ _ s.lockers t.lockers w (a6.later h) (b6.later h));have hSs:=hid (fun w P h=>zm2 _ _ s.sems t.sems w0 w P h (a7.later h) (b7.later h));have hKk:=hid (fun (w:World) (h:Sat w0 w any)=>z7A _ _ s.takers t.takers w (a8.later h) (b8.later h));have hQq:=hid (fun (w:World) (h:Sat w0 w any)=>zdk _ _ s.queues t.queues w (a9.later h) (b9.later h));have hSd:=hid (fun (w:World) (h:Sat w0 w any)=>z7A _ _ s.senders t.senders w (a10.later h) (b10.later h));have hRc:=hid (fun (w:World) (h:Sat w0 w any)=>z7A _ _ s.receivers t.receivers w (a11.later h) (b11.later h));have hDd:=hid (fun (w:World) (h:Sat w0 w any)=>zjQ _ _ s.dues t.dues w (a12.later h) (b12.later h));obtain ⟨im1,imc1,rfl⟩:=z4r a1;obtain ⟨im2,imc2,rfl⟩:=z4r b1;obtain ⟨mm1,mmc1,_,_,rfl,_,_,_⟩:=a2.form;obtain ⟨mm2,mmc2,_,_,rfl,_,_,_⟩:=b2.form;obtain ⟨tt1,ttc1,tb1,to1,rfl,tbig1,ha1,hc1⟩:=a3.form;have Ha1:=hid ha1;have Hc1:=hid hc1;clear ha1 hc1;obtain ⟨tt2,ttc2,tb2,to2,rfl,tbig2,ha2,hc2⟩:=b3.form;have Ha2:=hid ha2;have Hc2:=hid hc2;clear ha2 hc2;obtain ⟨rr1,rrc1,_,_,rfl,_,_,_⟩:=a4.form;obtain ⟨rr2,rrc2,_,_,rfl,_,_,_⟩:=b4.form;obtain ⟨oo1,ooc1,rfl⟩:=z4r a5;obtain ⟨oo2,ooc2,rfl⟩:=z4r b5;obtain ⟨ll1,llc1,_,_,rfl,_,_,_⟩:=a6.form;obtain ⟨ll2,llc2,_,_,rfl,_,_,_⟩:=b6.form;obtain ⟨ss1,ssc1,rfl⟩:=z4r a7;obtain ⟨ss2,ssc2,rfl⟩:=z4r b7;obtain ⟨kk1,kkc1,_,_,rfl,_,_,_⟩:=a8.form;obtain ⟨kk2,kkc2,_,_,rfl,_,_,_⟩:=b8.form;obtain ⟨qq1,qqc1,_,_,rfl,_,_,_⟩:=a9.form;obtain ⟨qq2,qqc2,_,_,rfl,_,_,_⟩:=b9.form;obtain ⟨sd1,sdc1,_,_,rfl,_,_,_⟩:=a10.form;obtain ⟨sd2,sdc2,_,_,rfl,_,_,_⟩:=b10.form;obtain ⟨rc1,rcc1,_,_,rfl,_,_,_⟩:=a11.form;obtain ⟨rc2,rcc2,_,_,rfl,_,_,_⟩:=b11.form;obtain ⟨dd1,ddc1,rfl⟩:=zcc a12;obtain ⟨dd2,ddc2,rfl⟩:=zcc b12;clear a1 b1 a2 b2 a3 b3 a4 b4 a5 b5 a6 b6 a7 b7 a8 b8 a9 b9 a10 b10 a11 b11 a12 b12;have Hz:=hid hz;clear hz
 change Hid (∀ w,Sat w0 w any→Calls Tryz.prog 64 #[.agg #[.int .i64 s.iat,.int .u32 s.irg.r0,.int .u32 s.irg.r1,.int .u32 s.irg.r2,.int .u32 s.irg.r3,.int .u32 s.irg.r4,.int .u32 s.irg.r5,.int .u32 s.irg.r6,.int .u32 s.irg.r7,.slice im1 s.imem.length imc1],.agg #[.int .i64 t.iat,.int .u32 t.irg.r0,.int .u32 t.irg.r1,.int .u32 t.irg.r2,.int .u32 t.irg.r3,.int .u32 t.irg.r4,.int .u32 t.irg.r5,.int .u32 t.irg.r6,.int .u32 t.irg.r7,.slice im2 t.imem.length imc2]] w _) at hCx
 show Calls Tryz.prog 17 #[.agg #[.int .u64 s.count,.int .u64 s.cycle,.int .i64 s.run,.int .i64 s.isr,.int .i64 s.iat,.int .u32 s.irg.r0,.int .u32 s.irg.r1,.int .u32 s.irg.r2,.int .u32 s.irg.r3,.int .u32 s.irg.r4,.int .u32 s.irg.r5,.int .u32 s.irg.r6,.int .u32 s.irg.r7,.slice im1 (s.imem).length imc1,.slice mm1 (s.mems).length mmc1,.int .u32 s.pend,.int .u32 s.mask,.slice tt1 (s.tasks).length ttc1,.slice rr1 (s.ready).length rrc1,.slice oo1 (s.owners).length ooc1,.slice ll1 (s.lockers).length llc1,.slice ss1 (s.sems).length ssc1,.slice kk1 (s.takers).length kkc1,.slice qq1 (s.queues).length qqc1,.slice sd1 (s.senders).length sdc1,.slice rc1 (s.receivers).length rcc1,.slice dd1 (s.dues).length ddc1,.int .u64 s.reads,.bool s.stopped],.agg #[.int .u64 t.count,.int .u64 t.cycle,.int .i64 t.run,.int .i64 t.isr,.int .i64 t.iat,.int .u32 t.irg.r0,.int .u32 t.irg.r1,.int .u32 t.irg.r2,.int .u32 t.irg.r3,.int .u32 t.irg.r4,.int .u32 t.irg.r5,.int .u32 t.irg.r6,.int .u32 t.irg.r7,.slice im2 (t.imem).length imc2,.slice mm2 (t.mems).length mmc2,.int .u32 t.pend,.int .u32 t.mask,.slice tt2 (t.tasks).length ttc2,.slice rr2 (t.ready).length rrc2,.slice oo2 (t.owners).length ooc2,.slice ll2 (t.lockers).length llc2,.slice ss2 (t.sems).length ssc2,.slice kk2 (t.takers).length kkc2,.slice qq2 (t.queues).length qqc2,.slice sd2 (t.senders).length sdc2,.slice rc2 (t.receivers).length rcc2,.slice dd2 (t.dues).length ddc2,.int .u64 t.reads,.bool t.stopped]] w0 _;obtain ⟨xCx,hxCx⟩:∃ x,x=decide (s.iat=t.iat∧s.irg=t.irg∧s.imem=t.imem):=⟨_,rfl⟩;rw [← hxCx] at hCx;have HxCx:=hid hxCx;clear hxCx;obtain ⟨xMm,hxMm⟩:∃ x,x=decide (s.mems=t.mems):=⟨_,rfl⟩;rw [← hxMm] at hMm;have HxMm:=hid hxMm;clear hxMm;obtain ⟨xRr,hxRr⟩:∃ x,x=decide (s.ready=t.ready):=⟨_,rfl⟩;rw [← hxRr] at hRr;have HxRr:=hid hxRr;clear hxRr;obtain ⟨xOo,hxOo⟩:∃ x,x=decide (s.owners=t.owners):=⟨_,rfl⟩;rw [← hxOo] at hOo;have HxOo:=hid hxOo;clear hxOo;obtain ⟨xLl,hxLl⟩:∃ x,x=decide (s.lockers=t.lockers):=⟨_,rfl⟩;rw [← hxLl] at hLl;have HxLl:=hid hxLl;clear hxLl;obtain ⟨xSs,hxSs⟩:∃ x,x=decide (s.sems=t.sems):=⟨_,rfl⟩;rw [← hxSs] at hSs;have HxSs:=hid hxSs;clear hxSs;obtain ⟨xKk,hxKk⟩:∃ x,x=decide (s.takers=t.takers):=⟨_,rfl⟩;rw [← hxKk] at hKk;have HxKk:=hid hxKk;clear hxKk;obtain ⟨xQq,hxQq⟩:∃ x,x=decide (s.queues=t.queues):=⟨_,rfl⟩;rw [← hxQq] at hQq;have HxQq:=hid hxQq;clear hxQq;obtain ⟨xSd,hxSd⟩:∃ x,x=decide (s.senders=t.senders):=⟨_,rfl⟩;rw [← hxSd] at hSd;have HxSd:=hid hxSd;clear hxSd;obtain ⟨xRc,hxRc⟩:∃ x,x=decide (s.receivers=t.receivers):=⟨_,rfl⟩;rw [← hxRc] at hRc;have HxRc:=hid hxRc;clear hxRc;obtain ⟨xDd,hxDd⟩:∃ x,x=decide (s.dues=t.dues):=⟨_,rfl⟩;rw [← hxDd] at hDd;have HxDd:=hid hxDd;clear hxDd
 by_cases e_count:s.count=t.count
 case neg =>
  have hb:(s.count != t.count)=true:=by simp [e_count]
  have hd:z=false:=eqB Hz.out (fun h=>e_count (by rw [h]));subst hd;clear e_count Hz
  go_enter Tryz.func17,Tryz.ntmps17
  go_wp2_with fail;go_ret;exact ⟨rfl,z3⟩
 have b_count:(s.count != t.count)=false:=by simp [e_count]
 have E_count:=hid e_count;clear e_count
 by_cases e_cycle:s.cycle=t.cycle
 case neg =>
  have hb:(s.cycle != t.cycle)=true:=by simp [e_cycle]
  have hd:z=false:=eqB Hz.out (fun h=>e_cycle (by rw [h]));subst hd;clear e_cycle Hz
  go_enter Tryz.func17,Tryz.ntmps17
  go_wp2_with fail;go_ret;exact ⟨rfl,z3⟩
 have b_cycle:(s.cycle != t.cycle)=false:=by simp [e_cycle]
 have E_cycle:=hid e_cycle;clear e_cycle
 by_cases e_run:s.run=t.run
 case neg =>
  have hb:(s.run != t.run)=true:=by simp [e_run]
  have hd:z=false:=eqB Hz.out (fun h=>e_run (by rw [h]));subst hd;clear e_run Hz
  go_enter Tryz.func17,Tryz.ntmps17
  go_wp2_with fail;go_ret;exact ⟨rfl,z3⟩
 have b_run:(s.run != t.run)=false:=by simp [e_run]
 have E_run:=hid e_run;clear e_run
 by_cases e_isr:s.isr=t.isr
 case neg =>
  have hb:(s.isr != t.isr)=true:=by simp [e_isr]
  have hd:z=false:=eqB Hz.out (fun h=>e_isr (by rw [h]));subst hd;clear e_isr Hz
  go_enter Tryz.func17,Tryz.ntmps17
  go_wp2_with fail;go_ret;exact ⟨rfl,z3⟩
 have b_isr:(s.isr != t.isr)=false:=by simp [e_isr]
 have E_isr:=hid e_isr;clear e_isr
 go_enter Tryz.func17,Tryz.ntmps17
 go_wp2_with fail;refine (hCx.out _ z3).mono ?_;rintro en wCx ⟨rfl,hpCx⟩;have hsCx:=Sat.past (w0:=w0) z6 hpCx;clear hpCx
 cases xCx
 case false =>
  have hd:z=false:=eqB Hz.out (fun h=>(of_decide_eq_false HxCx.out.symm) ⟨by rw [h],by rw [h],by rw [h]⟩);subst hd;go_wp2_with fail;go_ret;exact ⟨rfl,z3⟩
 go_wp2_with fail;refine (hMm.out _ z3).mono ?_;rintro en wMm ⟨rfl,hpMm⟩;have hsMm:=Sat.past (w0:=w0) z6 hpMm;clear hpMm
 cases xMm
 case false =>
  have hd:z=false:=eqB Hz.out (fun h=>(of_decide_eq_false HxMm.out.symm) (by rw [h]));subst hd;go_wp2_with fail;go_ret;exact ⟨rfl,z3⟩
 by_cases e_pend:s.pend=t.pend
 case neg =>
  have hb:((s.pend:Int) != (t.pend:Int))=true:=by simp;omega
  have hd:z=false:=eqB Hz.out (fun h=>e_pend (by rw [h]));subst hd;clear Hz;go_wp2_with fail;go_ret;exact ⟨rfl,z3⟩
 have b_pend:((s.pend:Int) != (t.pend:Int))=false:=by simp [e_pend]
 have E_pend:=hid e_pend;clear e_pend
 by_cases e_mask:s.mask=t.mask
 case neg =>
  have hb:((s.mask:Int) != (t.mask:Int))=true:=by simp;omega
  have hd:z=false:=eqB Hz.out (fun h=>e_mask (by rw [h]));subst hd;clear Hz;go_wp2_with fail;go_ret;exact ⟨rfl,z3⟩
 have b_mask:((s.mask:Int) != (t.mask:Int))=false:=by simp [e_mask]
 have E_mask:=hid e_mask;clear e_mask
 by_cases e_len:s.tasks.length=t.tasks.length
 case neg =>
  have hb:((s.tasks.length:Int) != (t.tasks.length:Int))=true:=by simp;omega
  have hd:z=false:=eqB Hz.out (fun h=>e_len (by rw [h]));subst hd;clear Hz;go_wp2_with fail;go_ret;exact ⟨rfl,z3⟩
 have b_len:((s.tasks.length:Int) != (t.tasks.length:Int))=false:=by simp [e_len]
 have E_len:=hid e_len;clear e_len;go_wp2_with fail;refine z9 (w0:=w0) ?_;intro w1 hs1;clear hsMm
 go_loopw [5] (fun i wr=>∃ k:Nat,k≤s.tasks.length∧i=.int .i64 k∧s.tasks.take k=t.tasks.take k∧Sat w0 wr (pts w0.heap.size 0 [.int .u64 s.count,.int .u64 s.cycle,.int .i64 s.run,.int .i64 s.isr,.int .i64 s.iat,.int .u32 s.irg.r0,.int .u32 s.irg.r1,.int .u32 s.irg.r2,.int .u32 s.irg.r3,.int .u32 s.irg.r4,.int .u32 s.irg.r5,.int .u32 s.irg.r6,.int .u32 s.irg.r7,.slice im1 (s.imem).length imc1,.slice mm1 (s.mems).length mmc1,.int .u32 s.pend,.int .u32 s.mask,.slice tt1 (s.tasks).length ttc1,.slice rr1 (s.ready).length rrc1,.slice oo1 (s.owners).length ooc1,.slice ll1 (s.lockers).length llc1,.slice ss1 (s.sems).length ssc1,.slice kk1 (s.takers).length kkc1,.slice qq1 (s.queues).length qqc1,.slice sd1 (s.senders).length sdc1,.slice rc1 (s.receivers).length rcc1,.slice dd1 (s.dues).length ddc1,.int .u64 s.reads,.bool s.stopped]*(pts (w0.heap.size+1) 0 [.int .u64 t.count,.int .u64 t.cycle,.int .i64 t.run,.int .i64 t.isr,.int .i64 t.iat,.int .u32 t.irg.r0,.int .u32 t.irg.r1,.int .u32 t.irg.r2,.int .u32 t.irg.r3,.int .u32 t.irg.r4,.int .u32 t.irg.r5,.int .u32 t.irg.r6,.int .u32 t.irg.r7,.slice im2 (t.imem).length imc2,.slice mm2 (t.mems).length mmc2,.int .u32 t.pend,.int .u32 t.mask,.slice tt2 (t.tasks).length ttc2,.slice rr2 (t.ready).length rrc2,.slice oo2 (t.owners).length ooc2,.slice ll2 (t.lockers).length llc2,.slice ss2 (t.sems).length ssc2,.slice kk2 (t.takers).length kkc2,.slice qq2 (t.queues).length qqc2,.slice sd2 (t.senders).length sdc2,.slice rc2 (t.receivers).length rcc2,.slice dd2 (t.dues).length ddc2,.int .u64 t.reads,.bool t.stopped]*any))) (fun i _=>s.tasks.length-(intOf i).toNat)
 case atStart=>exact ⟨0,Nat.zero_le _,rfl,rfl,z3⟩
 case round =>
  obtain ⟨k,hk,rfl,heq,hsr⟩:=hrel;clear hs1;have heq:=hid heq
  by_cases hlt:k<s.tasks.length
  ·have hlt2:k<t.tasks.length:=by have:=E_len.out;omega
   obtain rfl:=Ha1.out (by intro h;simp [h] at hlt);obtain rfl:=Ha2.out (by intro h;simp [h] at hlt2);obtain ⟨ka1,kn1,kc1,oc1,r1⟩:=Hc1.out k hlt;obtain ⟨ka2,kn2,kc2,oc2,r2⟩:=Hc2.out k hlt2;have d1:decide (k<s.tasks.length)=true:=decide_eq_true hlt;have i1:(k:Int)<(s.tasks.length:Int):=by omega
   have i2:(k:Int)<(t.tasks.length:Int):=by omega
   have hnext:=hid (fun e=>zlf E_len.out hlt heq.out e);have hne:Hid (s.tasks.getD k (ts0,[])≠t.tasks.getD k (ts0,[])→s.tasks≠t.tasks):=fun h e=>h (by rw [e]);generalize s.tasks.getD k (ts0,[])=x at r1 oc1 hnext hne;generalize t.tasks.getD k (ts0,[])=y at r2 oc2 hnext hne;obtain ⟨p,pm⟩:=x;obtain ⟨q,qm⟩:=y;dsimp only at r1 r2 oc1 oc2;haveI o1_0:Old w0 tb1 (to1+k*15) (.int .i64 p.st):=⟨oc1 0 _ rfl⟩;haveI o1_1:Old w0 tb1 (to1+k*15+1) (.int .i64 p.lev):=⟨oc1 1 _ rfl⟩;haveI o1_2:Old w0 tb1 (to1+k*15+2) (.int .i64 p.on):=⟨oc1 2 _ rfl⟩;haveI o1_3:Old w0 tb1 (to1+k*15+3) (.int .i64 p.late):=⟨oc1 3 _ rfl⟩;haveI o1_4:Old w0 tb1 (to1+k*15+4) (.int .u32 p.job):=⟨oc1 4 _ rfl⟩;haveI o1_5:Old w0 tb1 (to1+k*15+5) (.int .i64 p.at_):=⟨oc1 5 _ rfl⟩;haveI o1_6:Old w0 tb1 (to1+k*15+6) (.int .u32 p.rg.r0):=⟨oc1 6 _ rfl⟩;haveI o1_7:Old w0 tb1 (to1+k*15+7) (.int .u32 p.rg.r1):=⟨oc1 7 _ rfl⟩;haveI o1_8:Old w0 tb1 (to1+k*15+8) (.int .u32 p.rg.r2):=⟨oc1 8 _ rfl⟩;haveI o1_9:Old w0 tb1 (to1+k*15+9) (.int .u32 p.rg.r3):=⟨oc1 9 _ rfl⟩;haveI o1_10:Old w0 tb1 (to1+k*15+10) (.int .u32 p.rg.r4):=⟨oc1 10 _ rfl⟩;haveI o1_11:Old w0 tb1 (to1+k*15+11) (.int .u32 p.rg.r5):=⟨oc1 11 _ rfl⟩;haveI o1_12:Old w0 tb1 (to1+k*15+12) (.int .u32 p.rg.r6):=⟨oc1 12 _ rfl⟩;haveI o1_13:Old w0 tb1 (to1+k*15+13) (.int .u32 p.rg.r7):=⟨oc1 13 _ rfl⟩;haveI o1_14:Old w0 tb1 (to1+k*15+14) (.slice ka1 kn1 kc1):=⟨oc1 14 _ rfl⟩;haveI o2_0:Old w0 tb2 (to2+k*15) (.int .i64 q.st):=⟨oc2 0 _ rfl⟩;haveI o2_1:Old w0 tb2 (to2+k*15+1) (.int .i64 q.lev):=⟨oc2 1 _ rfl⟩;haveI o2_2:Old w0 tb2 (to2+k*15+2) (.int .i64 q.on):=⟨oc2 2 _ rfl⟩;haveI o2_3:Old w0 tb2 (to2+k*15+3) (.int .i64 q.late):=⟨oc2 3 _ rfl⟩;haveI o2_4:Old w0 tb2 (to2+k*15+4) (.int .u32 q.job):=⟨oc2 4 _ rfl⟩;haveI o2_5:Old w0 tb2 (to2+k*15+5) (.int .i64 q.at_):=⟨oc2 5 _ rfl⟩;haveI o2_6:Old w0 tb2 (to2+k*15+6) (.int .u32 q.rg.r0):=⟨oc2 6 _ rfl⟩;haveI o2_7:Old w0 tb2 (to2+k*15+7) (.int .u32 q.rg.r1):=⟨oc2 7 _ rfl⟩;haveI o2_8:Old w0 tb2 (to2+k*15+8) (.int .u32 q.rg.r2):=⟨oc2 8 _ rfl⟩;haveI o2_9:Old w0 tb2 (to2+k*15+9) (.int .u32 q.rg.r3):=⟨oc2 9 _ rfl⟩;haveI o2_10:Old w0 tb2 (to2+k*15+10) (.int .u32 q.rg.r4):=⟨oc2 10 _ rfl⟩;haveI o2_11:Old w0 tb2 (to2+k*15+11) (.int .u32 q.rg.r5):=⟨oc2 11 _ rfl⟩;haveI o2_12:Old w0 tb2 (to2+k*15+12) (.int .u32 q.rg.r6):=⟨oc2 12 _ rfl⟩;haveI o2_13:Old w0 tb2 (to2+k*15+13) (.int .u32 q.rg.r7):=⟨oc2 13 _ rfl⟩;haveI o2_14:Old w0 tb2 (to2+k*15+14) (.slice ka2 kn2 kc2):=⟨oc2 14 _ rfl⟩;clear oc1 oc2
   by_cases hxy:p=q∧pm=qm
   ·have hA:=hid (fun (w:World) (h:Sat w0 w any)=>z7B p q _ _ pm qm true (by simp [hxy]) w (r1.later h) (r2.later h))
    change Hid (∀ w,Sat w0 w any→Calls Tryz.prog 66 #[.agg #[.int .i64 p.st,.int .i64 p.lev,.int .i64 p.on,.int .i64 p.late,.int .u32 p.job,.int .i64 p.at_,.int .u32 p.rg.r0,.int .u32 p.rg.r1,.int .u32 p.rg.r2,.int .u32 p.rg.r3,.int .u32 p.rg.r4,.int .u32 p.rg.r5,.int .u32 p.rg.r6,.int .u32 p.rg.r7,.slice ka1 kn1 kc1],.agg #[.int .i64 q.st,.int .i64 q.lev,.int .i64 q.on,.int .i64 q.late,.int .u32 q.job,.int .i64 q.at_,.int .u32 q.rg.r0,.int .u32 q.rg.r1,.int .u32 q.rg.r2,.int .u32 q.rg.r3,.int .u32 q.rg.r4,.int .u32 q.rg.r5,.int .u32 q.rg.r6,.int .u32 q.rg.r7,.slice ka2 kn2 kc2]] w _) at hA
    clear r1 r2;have hxy:=hid hxy;go_wp2_with fail;refine z2t (fun w'=>Sat w0 w' (pts w0.heap.size 0 [.int .u64 s.count,.int .u64 s.cycle,.int .i64 s.run,.int .i64 s.isr,.int .i64 s.iat,.int .u32 s.irg.r0,.int .u32 s.irg.r1,.int .u32 s.irg.r2,.int .u32 s.irg.r3,.int .u32 s.irg.r4,.int .u32 s.irg.r5,.int .u32 s.irg.r6,.int .u32 s.irg.r7,.slice im1 (s.imem).length imc1,.slice mm1 (s.mems).length mmc1,.int .u32 s.pend,.int .u32 s.mask,.slice (some ⟨tb1,to1,none⟩) (s.tasks).length ttc1,.slice rr1 (s.ready).length rrc1,.slice oo1 (s.owners).length ooc1,.slice ll1 (s.lockers).length llc1,.slice ss1 (s.sems).length ssc1,.slice kk1 (s.takers).length kkc1,.slice qq1 (s.queues).length qqc1,.slice sd1 (s.senders).length sdc1,.slice rc1 (s.receivers).length rcc1,.slice dd1 (s.dues).length ddc1,.int .u64 s.reads,.bool s.stopped]*(pts (w0.heap.size+1) 0 [.int .u64 t.count,.int .u64 t.cycle,.int .i64 t.run,.int .i64 t.isr,.int .i64 t.iat,.int .u32 t.irg.r0,.int .u32 t.irg.r1,.int .u32 t.irg.r2,.int .u32 t.irg.r3,.int .u32 t.irg.r4,.int .u32 t.irg.r5,.int .u32 t.irg.r6,.int .u32 t.irg.r7,.slice im2 (t.imem).length imc2,.slice mm2 (t.mems).length mmc2,.int .u32 t.pend,.int .u32 t.mask,.slice (some ⟨tb2,to2,none⟩) (t.tasks).length ttc2,.slice rr2 (t.ready).length rrc2,.slice oo2 (t.owners).length ooc2,.slice ll2 (t.lockers).length llc2,.slice ss2 (t.sems).length ssc2,.slice kk2 (t.takers).length kkc2,.slice qq2 (t.queues).length qqc2,.slice sd2 (t.senders).length sdc2,.slice rc2 (t.receivers).length rcc2,.slice dd2 (t.dues).length ddc2,.int .u64 t.reads,.bool t.stopped]*any))) [0,1,0,6,8,0,32,0,192,256,528,1024] 12 (.read 0 (.read 1 (.read 2 (.read 3 (.read 4 (.read 5 (.read 6 (.read 7 (.read 8 (.read 9 (.run 10 (.read 11 .done)))))))))))) (by kernel_rfl) (by kernel_rfl) (fun _ _ _ _ h=>h) zk ?_
    iterate 10 ((first | (refine zpP rfl (by rfl) ?_;apply Exists.intro;refine ⟨fun w hSw=>?_,?_⟩;focus ((try dsimp only at hSw);go_simp;try with_reducible rfl)) | refine zpO rfl (by rfl) ?_);simp only [Act.put,Go.zqA,Go.zqP,Go.zqQ])
    refine z0d (by rfl) (by rfl) ?hx (hA.out _ z3) ?_
    case hx=>go_simp
    rintro en w3 ⟨rfl,hp3⟩;have hs3:=Sat.past (w0:=w0) z6 hp3;clear hp3 hsr;refine ⟨_,rfl,_,fun _ h=>h,zk,?_⟩;simp only [Act.put,Go.zqA,Go.zqP,Go.zqQ]
    iterate 1 ((first | (refine zpP rfl (by rfl) ?_;apply Exists.intro;refine ⟨fun w hSw=>?_,?_⟩;focus ((try dsimp only at hSw);go_simp;try with_reducible rfl)) | refine zpO rfl (by rfl) ?_);simp only [Act.put,Go.zqA,Go.zqP,Go.zqQ])
    refine z16 ?_;go_wp2_with fail;go_roundw
    case rel=>exact ⟨k+1,by omega,by go_num,hnext.out (by rw [hxy.out.1,hxy.out.2]),z3⟩
    case measure=>simp [intOf];omega
   ·have hA:=hid (fun (w:World) (h:Sat w0 w any)=>z7B p q _ _ pm qm false (by simp;exact fun a b=>hxy ⟨a,b⟩) w (r1.later h) (r2.later h))
    change Hid (∀ w,Sat w0 w any→Calls Tryz.prog 66 #[.agg #[.int .i64 p.st,.int .i64 p.lev,.int .i64 p.on,.int .i64 p.late,.int .u32 p.job,.int .i64 p.at_,.int .u32 p.rg.r0,.int .u32 p.rg.r1,.int .u32 p.rg.r2,.int .u32 p.rg.r3,.int .u32 p.rg.r4,.int .u32 p.rg.r5,.int .u32 p.rg.r6,.int .u32 p.rg.r7,.slice ka1 kn1 kc1],.agg #[.int .i64 q.st,.int .i64 q.lev,.int .i64 q.on,.int .i64 q.late,.int .u32 q.job,.int .i64 q.at_,.int .u32 q.rg.r0,.int .u32 q.rg.r1,.int .u32 q.rg.r2,.int .u32 q.rg.r3,.int .u32 q.rg.r4,.int .u32 q.rg.r5,.int .u32 q.rg.r6,.int .u32 q.rg.r7,.slice ka2 kn2 kc2]] w _) at hA
    have hd:z=false:=eqB Hz.out (fun h=>hne.out (fun e=>hxy (by simpa using e)) (by rw [h]));subst hd;clear r1 r2 hxy;go_wp2_with fail;refine z2t (fun w'=>Sat w0 w' (pts w0.heap.size 0 [.int .u64 s.count,.int .u64 s.cycle,.int .i64 s.run,.int .i64 s.isr,.int .i64 s.iat,.int .u32 s.irg.r0,.int .u32 s.irg.r1,.int .u32 s.irg.r2,.int .u32 s.irg.r3,.int .u32 s.irg.r4,.int .u32 s.irg.r5,.int .u32 s.irg.r6,.int .u32 s.irg.r7,.slice im1 (s.imem).length imc1,.slice mm1 (s.mems).length mmc1,.int .u32 s.pend,.int .u32 s.mask,.slice (some ⟨tb1,to1,none⟩) (s.tasks).length ttc1,.slice rr1 (s.ready).length rrc1,.slice oo1 (s.owners).length ooc1,.slice ll1 (s.lockers).length llc1,.slice ss1 (s.sems).length ssc1,.slice kk1 (s.takers).length kkc1,.slice qq1 (s.queues).length qqc1,.slice sd1 (s.senders).length sdc1,.slice rc1 (s.receivers).length rcc1,.slice dd1 (s.dues).length ddc1,.int .u64 s.reads,.bool s.stopped]*(pts (w0.heap.size+1) 0 [.int .u64 t.count,.int .u64 t.cycle,.int .i64 t.run,.int .i64 t.isr,.int .i64 t.iat,.int .u32 t.irg.r0,.int .u32 t.irg.r1,.int .u32 t.irg.r2,.int .u32 t.irg.r3,.int .u32 t.irg.r4,.int .u32 t.irg.r5,.int .u32 t.irg.r6,.int .u32 t.irg.r7,.slice im2 (t.imem).length imc2,.slice mm2 (t.mems).length mmc2,.int .u32 t.pend,.int .u32 t.mask,.slice (some ⟨tb2,to2,none⟩) (t.tasks).length ttc2,.slice rr2 (t.ready).length rrc2,.slice oo2 (t.owners).length ooc2,.slice ll2 (t.lockers).length llc2,.slice ss2 (t.sems).length ssc2,.slice kk2 (t.takers).length kkc2,.slice qq2 (t.queues).length qqc2,.slice sd2 (t.senders).length sdc2,.slice rc2 (t.receivers).length rcc2,.slice dd2 (t.dues).length ddc2,.int .u64 t.reads,.bool t.stopped]*any))) [0,1,0,6,8,0,32,0,192,256,528,1024] 12 (.read 0 (.read 1 (.read 2 (.read 3 (.read 4 (.read 5 (.read 6 (.read 7 (.read 8 (.read 9 (.run 10 (.read 11 .done)))))))))))) (by kernel_rfl) (by kernel_rfl) (fun _ _ _ _ h=>h) zk ?_
    iterate 10 ((first | (refine zpP rfl (by rfl) ?_;apply Exists.intro;refine ⟨fun w hSw=>?_,?_⟩;focus ((try dsimp only at hSw);go_simp;try with_reducible rfl)) | refine zpO rfl (by rfl) ?_);simp only [Act.put,Go.zqA,Go.zqP,Go.zqQ])
    refine z0d (by rfl) (by rfl) ?hx (hA.out _ z3) ?_
    case hx=>go_simp
    rintro en w3 ⟨rfl,hp3⟩;have hs3:=Sat.past (w0:=w0) z6 hp3;clear hp3 hsr;refine ⟨_,rfl,_,fun _ h=>h,zk,?_⟩;simp only [Act.put,Go.zqA,Go.zqP,Go.zqQ]
    iterate 1 ((first | (refine zpP rfl (by rfl) ?_;apply Exists.intro;refine ⟨fun w hSw=>?_,?_⟩;focus ((try dsimp only at hSw);go_simp;try with_reducible rfl)) | refine zpO rfl (by rfl) ?_);simp only [Act.put,Go.zqA,Go.zqP,Go.zqQ])
    refine z16 ?_;go_wp2_with fail;go_ret;exact ⟨rfl,z3⟩
  ·have hT:s.tasks=t.tasks:=by
    have h1:=heq.out;rw [List.take_of_length_le (by omega),List.take_of_length_le (by have:=E_len.out;omega)] at h1;exact h1
   have HT:=hid hT;have hkn:k=s.tasks.length:=by omega
   have d1:decide (k<s.tasks.length)=false:=by simp;omega
   have d1':decide (s.tasks.length<s.tasks.length)=false:=by simp
   subst hkn;clear hT hlt hk;go_wp2_with fail;refine (hRr.out _ z3).mono ?_;rintro en wRr ⟨rfl,hpRr⟩;have hsRr:=Sat.past (w0:=w0) z6 hpRr;clear hpRr
   cases xRr
   case false =>
    have hd:z=false:=eqB Hz.out (fun h=>(of_decide_eq_false HxRr.out.symm) (by rw [h]));subst hd;go_wp2_with fail;go_ret;exact ⟨rfl,z3⟩
   go_wp2_with fail;refine (hOo.out _ _ z6).mono ?_;rintro en wOo ⟨rfl,hsOo⟩
   cases xOo
   case false =>
    have hd:z=false:=eqB Hz.out (fun h=>(of_decide_eq_false HxOo.out.symm) (by rw [h]));subst hd;go_wp2_with fail;go_ret;exact ⟨rfl,z3⟩
   go_wp2_with fail;refine (hLl.out _ z3).mono ?_;rintro en wLl ⟨rfl,hpLl⟩;have hsLl:=Sat.past (w0:=w0) z6 hpLl;clear hpLl
   cases xLl
   case false =>
    have hd:z=false:=eqB Hz.out (fun h=>(of_decide_eq_false HxLl.out.symm) (by rw [h]));subst hd;go_wp2_with fail;go_ret;exact ⟨rfl,z3⟩
   go_wp2_with fail;refine (hSs.out _ _ z6).mono ?_;rintro en wSs ⟨rfl,hsSs⟩
   cases xSs
   case false =>
    have hd:z=false:=eqB Hz.out (fun h=>(of_decide_eq_false HxSs.out.symm) (by rw [h]));subst hd;go_wp2_with fail;go_ret;exact ⟨rfl,z3⟩
   go_wp2_with fail;refine (hKk.out _ z3).mono ?_;rintro en wKk ⟨rfl,hpKk⟩;have hsKk:=Sat.past (w0:=w0) z6 hpKk;clear hpKk
   cases xKk
   case false =>
    have hd:z=false:=eqB Hz.out (fun h=>(of_decide_eq_false HxKk.out.symm) (by rw [h]));subst hd;go_wp2_with fail;go_ret;exact ⟨rfl,z3⟩
   go_wp2_with fail;refine (hQq.out _ z3).mono ?_;rintro en wQq ⟨rfl,hpQq⟩;have hsQq:=Sat.past (w0:=w0) z6 hpQq;clear hpQq
   cases xQq
   case false =>
    have hd:z=false:=eqB Hz.out (fun h=>(of_decide_eq_false HxQq.out.symm) (by rw [h]));subst hd;go_wp2_with fail;go_ret;exact ⟨rfl,z3⟩
   go_wp2_with fail;refine (hSd.out _ z3).mono ?_;rintro en wSd ⟨rfl,hpSd⟩;have hsSd:=Sat.past (w0:=w0) z6 hpSd;clear hpSd
   cases xSd
   case false =>
    have hd:z=false:=eqB Hz.out (fun h=>(of_decide_eq_false HxSd.out.symm) (by rw [h]));subst hd;go_wp2_with fail;go_ret;exact ⟨rfl,z3⟩
   go_wp2_with fail;refine (hRc.out _ z3).mono ?_;rintro en wRc ⟨rfl,hpRc⟩;have hsRc:=Sat.past (w0:=w0) z6 hpRc;clear hpRc
   cases xRc
   case false =>
    have hd:z=false:=eqB Hz.out (fun h=>(of_decide_eq_false HxRc.out.symm) (by rw [h]));subst hd;go_wp2_with fail;go_ret;exact ⟨rfl,z3⟩
   go_wp2_with fail;refine (hDd.out _ z3).mono ?_;rintro en wDd ⟨rfl,nDd,rfl⟩
   cases xDd
   case false =>
    have hd:z=false:=eqB Hz.out (fun h=>(of_decide_eq_false HxDd.out.symm) (by rw [h]));subst hd;go_wp2_with fail;go_ret;exact ⟨rfl,z3⟩
   by_cases er:s.reads=t.reads
   case neg =>
    have hb:(s.reads==t.reads)=false:=by simp [er]
    have hd:z=false:=eqB Hz.out (fun h=>er (by rw [h]));subst hd;clear er;go_wp2_with fail;go_ret;exact ⟨rfl,z3⟩
   have br:(s.reads==t.reads)=true:=by simp [er]
   have Er:=hid er;clear er;have hd:z=(s.stopped==t.stopped):=by
    have hi:(s.stopped==t.stopped)=true↔s=t:=by
     rw [beq_iff_eq];refine ⟨fun hs=>?_,fun h=>by rw [h]⟩;have c1:=of_decide_eq_true HxCx.out.symm;have c2:=of_decide_eq_true HxMm.out.symm;have c3:=of_decide_eq_true HxRr.out.symm;have c4:=of_decide_eq_true HxOo.out.symm;have c5:=of_decide_eq_true HxLl.out.symm;have c6:=of_decide_eq_true HxSs.out.symm;have c7:=of_decide_eq_true HxKk.out.symm;have c8:=of_decide_eq_true HxQq.out.symm;have c9:=of_decide_eq_true HxSd.out.symm;have c10:=of_decide_eq_true HxRc.out.symm;have c11:=of_decide_eq_true HxDd.out.symm;have f1:=E_count.out;have f2:=E_cycle.out;have f3:=E_run.out;have f4:=E_isr.out;have f5:=E_pend.out;have f6:=E_mask.out;have f7:=HT.out;have f8:=Er.out;exact zmE c1.1 c1.2.1 c1.2.2 c2 c3 c4 c5 c6 c7 c8 c9 c10 c11 f1 f2 f3 f4 f5 f6 f7 f8 hs
    have hz:=Hz.out.trans hi.symm;exact Bool.eq_iff_iff.2 hz
   have Hd:=hid hd;clear hd;go_wp2_with fail;go_ret;refine ⟨?_,z3⟩;rw [Hd.out];rfl
end Go.Proofs.YtlbjjoeocdimfaaGreatDoor
