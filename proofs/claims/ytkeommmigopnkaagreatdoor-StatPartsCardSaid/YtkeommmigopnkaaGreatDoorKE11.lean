/-
  Parts of the proof: StN StQ StR RefI.
-/
import Derived.Test.YtkeommmigopnkaaGreatDoorKE2
import Derived.Test.YtkeommmigopnkaaGreatDoorKE6
import Derived.Test.YtkeommmigopnkaaGreatDoorKE8
import Derived.Test.YtkeommmigopnkaaGreatDoorKE10
set_option linter.unusedVariables false
set_option linter.unusedSimpArgs false
set_option maxHeartbeats 32000000
set_option maxRecDepth 100000
namespace Go.Proofs.YtkeommmigopnkaaGreatDoor
open Go.RowKit Go.Sx Go.Dl Go.Lk Go.Rq Go.Au Go.Hi Go.St
@[go_sem] theorem field_ft_s (a b c d:Int) (w:World):Sem.run Tryz.prog (Instr.field 80 (.agg #[.int .i64 a,.int .i64 b,.int .i64 c,.int .i64 d]) 0) w=.ok (.int .i64 a) w:=by kernel_rfl
def stCh (c:Cf) (l:List Ev):Int:=if (confF c).err=0 then (if 0≤chkI l∨l.any (strayE c.ts.length)=true then 1 else 0) else 3
theorem any_next (p:Ev→Bool) {l:List Ev} {k:Nat} (h:k<l.length):(l.take (k+1)).any p=((l.take k).any p || p (evg l k)):=by
 rw [List.take_add_one,List.getElem?_eq_getElem h,List.any_append];unfold evg;rw [List.getD_eq_getElem?_getD,List.getElem?_eq_getElem h];simp
theorem any_at {p:Ev→Bool} {l:List Ev} {k:Nat} (h:k<l.length) (hp:p (evg l k)=true):l.any p=true:=by
 refine List.any_eq_true.2 ⟨evg l k,?_,hp⟩;unfold evg;rw [List.getD_eq_getElem?_getD,List.getElem?_eq_getElem h];exact List.getElem_mem h
theorem evg_mem {l:List Ev} {k:Nat} (h:k<l.length):evg l k∈l:=by
 unfold evg;rw [List.getD_eq_getElem?_getD,List.getElem?_eq_getElem h];exact List.getElem_mem h
theorem stCheck3 (v u:Value) (c:Cf) (rg:CfRng c) (l:List Ev) (hl:l.length<900000) (hev:∀ e∈l,EvOk e) (he:(confF c).err≠0) (w0 w:World) (F:HP) (hr:RdCf w0 v c) (hst:StaysE w0 F u l) (hs:Sat w0 w F) :
  Calls Tryz.prog 19 #[v,u] w (RetV w0 (.int .i64 (stCh c l)) F):=by
 obtain ⟨ua,uc,rfl⟩:∃ ua uc,u=.slice ua l.length uc:=by
  obtain ⟨a,cap,b,off,e,_⟩:=hst w hs;exact ⟨a,cap,e⟩
 have hA:=hid (fun (w:World) (h:Sat w0 w any)=>confCheck v c rg w (hr.later h));have hB:=hid (fun (w:World) (G:HP) (h:Sat w0 w (F*G))=>auCheck (.slice ua l.length uc) l (by omega) hev w0 w (F*G) h (fun w hh=>hst w (show Sat w0 w F from own_left)));have hC:=hid (show stCh c l=3 from if_neg he);have e1:((confF c).err != 0)=true:=by simp [he]
 clear he;have Hst:=hid hst;have Hev:=hid hev;obtain ⟨ta,la,sa,qa,ma,tc,lc,sc,qc,mc,rfl,h1,h2,h3,h4,h5⟩:=hr.form;clear hr h1 h2 h3 h4 h5 hst hev
 go_enter Tryz.func19,Tryz.ntmps19
 go_wp2_with fail;refine (hA.out _ own_left).mono ?_;rintro en w1 ⟨rfl,hs1⟩;have hs2:=Sat.past (w0:=w0) own_it hs1;clear hs1 hs hA;unfold ftV;go_wp2_with fail;go_ret;exact ⟨by rw [hC.out];rfl,own_left⟩
theorem stCheck1 (v u:Value) (c:Cf) (rg:CfRng c) (l:List Ev) (hl:l.length<900000) (hev:∀ e∈l,EvOk e) (he:(confF c).err=0) (h0:0≤chkI l) (w0 w:World) (F:HP) (hr:RdCf w0 v c) (hst:StaysE w0 F u l) (hs:Sat w0 w F) :
  Calls Tryz.prog 19 #[v,u] w (RetV w0 (.int .i64 (stCh c l)) F):=by
 obtain ⟨ua,uc,rfl⟩:∃ ua uc,u=.slice ua l.length uc:=by
  obtain ⟨a,cap,b,off,e,_⟩:=hst w hs;exact ⟨a,cap,e⟩
 have hA:=hid (fun (w:World) (h:Sat w0 w any)=>confCheck v c rg w (hr.later h));have hB:=hid (fun (w:World) (G:HP) (h:Sat w0 w (F*G))=>auCheck (.slice ua l.length uc) l (by omega) hev w0 w (F*G) h (fun w hh=>hst w (show Sat w0 w F from own_left)));have hC:=hid (show stCh c l=1 from (if_pos he).trans (if_pos (.inl h0)));have e1:((confF c).err != 0)=false:=by simp [he]
 clear he;have Hst:=hid hst;have Hev:=hid hev;obtain ⟨ta,la,sa,qa,ma,tc,lc,sc,qc,mc,rfl,h1,h2,h3,h4,h5⟩:=hr.form;clear hr h1 h2 h3 h4 h5 hst hev
 go_enter Tryz.func19,Tryz.ntmps19
 go_wp2_with fail;refine (hA.out _ own_left).mono ?_;rintro en w1 ⟨rfl,hs1⟩;have hs2:=Sat.past (w0:=w0) own_it hs1;clear hs1 hs hA;unfold ftV;go_wp2_with fail;have hs4:Sat w0 w1 (F*(pts w.heap.size 0 [.slice ta c.ts.length tc,.slice la c.ls.length lc,.int .i64 c.mutexes,.slice sa c.sems.length sc,.slice qa c.queues.length qc,.slice ma c.timers.length mc,.int .i64 c.table,.int .u32 c.mask,.int .u32 c.filter,.int .i64 c.charge,.int .u64 c.cycle,.int .u64 c.count]*any)):=own_left;refine (hB.out _ _ hs4).mono ?_;rintro en w2 ⟨rfl,hs3⟩;clear hs2 hs4 hB;go_wp2_with fail;go_ret;exact ⟨by rw [hC.out];rfl,own_left⟩
theorem stCheck0 (v u:Value) (c:Cf) (rg:CfRng c) (l:List Ev) (hl:l.length<900000) (hev:∀ e∈l,EvOk e) (he:(confF c).err=0) (h0:¬ 0≤chkI l) (w0 w:World) (F:HP) (hr:RdCf w0 v c) (hst:StaysE w0 F u l) (hs:Sat w0 w F) :
  Calls Tryz.prog 19 #[v,u] w (RetV w0 (.int .i64 (stCh c l)) F):=by
 obtain ⟨ua,uc,rfl⟩:∃ ua uc,u=.slice ua l.length uc:=by
  obtain ⟨a,cap,b,off,e,_⟩:=hst w hs;exact ⟨a,cap,e⟩
 have hA:=hid (fun (w:World) (h:Sat w0 w any)=>confCheck v c rg w (hr.later h));have hB:=hid (fun (w:World) (G:HP) (h:Sat w0 w (F*G))=>auCheck (.slice ua l.length uc) l (by omega) hev w0 w (F*G) h (fun w hh=>hst w (show Sat w0 w F from own_left)));have hC:=hid (show stCh c l=(if l.any (strayE c.ts.length)=true then 1 else 0) by unfold stCh;rw [if_pos he];simp [h0]);have e1:((confF c).err != 0)=false:=by simp [he]
 have hn64:=(confF_ok rg he).1;clear he;have Hst:=hid hst;have Hev:=hid hev;obtain ⟨ta,la,sa,qa,ma,tc,lc,sc,qc,mc,rfl,h1,h2,h3,h4,h5⟩:=hr.form;clear hr h1 h2 h3 h4 h5 hst hev
 go_enter Tryz.func19,Tryz.ntmps19
 go_wp2_with fail;refine (hA.out _ own_left).mono ?_;rintro en w1 ⟨rfl,hs1⟩;have hs2:=Sat.past (w0:=w0) own_it hs1;clear hs1 hs hA;unfold ftV;go_wp2_with fail;have hs4:Sat w0 w1 (F*(pts w.heap.size 0 [.slice ta c.ts.length tc,.slice la c.ls.length lc,.int .i64 c.mutexes,.slice sa c.sems.length sc,.slice qa c.queues.length qc,.slice ma c.timers.length mc,.int .i64 c.table,.int .u32 c.mask,.int .u32 c.filter,.int .i64 c.charge,.int .u64 c.cycle,.int .u64 c.count]*any)):=own_left;refine (hB.out _ _ hs4).mono ?_;rintro en w2 ⟨rfl,hs3⟩;clear hs2 hs4 hB;go_wp2_with fail;refine wp_gen (w0:=w0) ?_;intro wx hsx;generalize w.heap.size=cb at *;clear hs3
 go_loopw [16] (fun i wr=>∃ k:Nat,k≤l.length∧i=.int .i64 k∧(l.take k).any (strayE c.ts.length)=false∧Sat w0 wr (pts cb 0 [.slice ta c.ts.length tc,.slice la c.ls.length lc,.int .i64 c.mutexes,.slice sa c.sems.length sc,.slice qa c.queues.length qc,.slice ma c.timers.length mc,.int .i64 c.table,.int .u32 c.mask,.int .u32 c.filter,.int .i64 c.charge,.int .u64 c.cycle,.int .u64 c.count]*(F*any))) (fun i _=>l.length-(intOf i).toNat)
 case atStart=>exact ⟨0,Nat.zero_le _,rfl,rfl,own_left⟩
 case round =>
  obtain ⟨k,hk,rfl,hnone,hsr⟩:=hrel;clear hsx
  by_cases hlt:k<l.length
  ·have d1:decide (k<l.length)=true:=decide_eq_true hlt;have i1:(k:Int)<(l.length:Int):=by omega
   obtain ⟨eg,eo,rfl,hrow0⟩:=rdR_at (k:=k) (Hst.out wr own_left) hlt;have hrow:wr.rangeAt eg (eo+k*6) (evCells (evg l k)):=hrow0;have hE:=Hev.out _ (evg_mem hlt);have hnx:=hid (show (l.take (k+1)).any (strayE c.ts.length)=strayE c.ts.length (evg l k) by rw [any_next _ hlt,hnone,Bool.false_or]);have hat:=hid (fun hp=>any_at (p:=strayE c.ts.length) hlt hp);have hLk:=hid (fun (w:World) (G:HP) (hs:Sat w0 w G)=>stStray c.ts.length hn64 (evg l k) (hE.a) (hE.b) w0 w G hs);generalize evg l k=e at hrow hnx hLk hat;clear hrow0 hE hnone;obtain ⟨z,hz⟩:∃ z,z=strayE c.ts.length e:=⟨_,rfl⟩;rw [← hz] at hnx hat hLk;clear hz;obtain ⟨ek,cy,co,a,b,vv⟩:=e
   cases z
   case false =>
    go_wp2_with (first | (refine wpList_load_mid rfl _ _ rfl _ _ rfl _ _ hrow Tryz.underlying45 rfl (by kernel_rfl) ?_) | (refine wpList_store_sat (w0:=w0) (cells:=[.int .i64 ek,.int .u64 cy,.int .u64 co,.int .u32 a,.int .u32 b,.int .u32 vv]) (old:=[.int .i64 0,.int .u64 0,.int .u64 0,.int .u32 0,.int .u32 0,.int .u32 0]) rfl rfl rfl rfl own rfl (by kernel_rfl) rfl ?_;intro wS hsS) | (refine wpList_load_sat (w0:=w0) (cells:=[.int .i64 ek,.int .u64 cy,.int .u64 co,.int .u32 a,.int .u32 b,.int .u32 vv]) rfl rfl rfl own Tryz.underlying45 rfl (by kernel_rfl) ?_));refine (hLk.out _ _ own_it).mono ?_;rintro en w4 ⟨rfl,hs4⟩;clear hsr hsS hrow;go_wp2_with fail;go_roundw
    case rel=>exact ⟨k+1,by omega,by go_num,hnx.out,own_left⟩
    case measure=>simp [intOf];omega
   case true =>
    have hq:=hid (show stCh c l=1 by rw [hC.out,if_pos (hat.out rfl)]);go_wp2_with (first | (refine wpList_load_mid rfl _ _ rfl _ _ rfl _ _ hrow Tryz.underlying45 rfl (by kernel_rfl) ?_) | (refine wpList_store_sat (w0:=w0) (cells:=[.int .i64 ek,.int .u64 cy,.int .u64 co,.int .u32 a,.int .u32 b,.int .u32 vv]) (old:=[.int .i64 0,.int .u64 0,.int .u64 0,.int .u32 0,.int .u32 0,.int .u32 0]) rfl rfl rfl rfl own rfl (by kernel_rfl) rfl ?_;intro wS hsS) | (refine wpList_load_sat (w0:=w0) (cells:=[.int .i64 ek,.int .u64 cy,.int .u64 co,.int .u32 a,.int .u32 b,.int .u32 vv]) rfl rfl rfl own Tryz.underlying45 rfl (by kernel_rfl) ?_));refine (hLk.out _ _ own_it).mono ?_;rintro en w4 ⟨rfl,hs4⟩;clear hsr hsS hrow;go_wp2_with fail;go_ret;exact ⟨by rw [hq.out];rfl,own_left⟩
  ·have d1:decide (k<l.length)=false:=decide_eq_false hlt;obtain rfl:k=l.length:=by omega
   rw [List.take_length] at hnone;have hq:=hid (show stCh c l=0 by rw [hC.out,hnone];rfl);clear hnone hC;go_wp2_with fail;go_ret;exact ⟨by rw [hq.out];rfl,own_left⟩
theorem stCheck (v u:Value) (c:Cf) (rg:CfRng c) (l:List Ev) (hl:l.length<900000) (hev:∀ e∈l,EvOk e) (w0 w:World) (F:HP) (hr:RdCf w0 v c) (hst:StaysE w0 F u l) (hs:Sat w0 w F) :
  Calls Tryz.prog 19 #[v,u] w (RetV w0 (.int .i64 (stCh c l)) F):=by
 by_cases he:(confF c).err=0
 ·by_cases h0:0≤chkI l
  ·exact stCheck1 v u c rg l hl hev he h0 w0 w F hr hst hs
  ·exact stCheck0 v u c rg l hl hev he h0 w0 w F hr hst hs
 ·exact stCheck3 v u c rg l hl hev he w0 w F hr hst hs
end Go.Proofs.YtkeommmigopnkaaGreatDoor
namespace Go.Proofs.YtkeommmigopnkaaGreatDoor
open Go.RowKit Go.Sx Go.Au Go.Hi Go.St
def tskE (e:Ev):Int :=
 if e.k=1∨e.k=3∨e.k=4∨e.k=18∨e.k=24 then -1
 else if e.k=2∨e.k=20 then (if e.b<64 then e.b else -1)
 else (if e.a<64 then e.a else -1)
theorem stray_tsk {n:Nat} (hn:n≤64) (e:Ev):strayE n e=(decide ((n:Int)≤tskE e) || (decide (e.k=5) && outT n e.b)):=by
 unfold strayE tskE outT
 by_cases h1:e.k=1∨e.k=3∨e.k=4∨e.k=18∨e.k=24
 ·rw [if_pos h1,if_pos h1];rw [decide_eq_false (show ¬ (n:Int)≤-1 by omega),decide_eq_false (show ¬ e.k=5 by omega)];rfl
 ·rw [if_neg h1,if_neg h1]
  by_cases h2:e.k=2∨e.k=20
  ·rw [if_pos h2,if_pos h2,decide_eq_false (show ¬ e.k=5 by omega),Bool.false_and,Bool.or_false]
   by_cases h3:e.b<64
   ·rw [if_pos h3,decide_eq_true h3,Bool.true_and];exact decide_eq_decide.2 (by omega)
   ·rw [if_neg h3,decide_eq_false h3,Bool.false_and,decide_eq_false (by omega)]
  ·rw [if_neg h2,if_neg h2];have key:(decide (e.a<64) && decide (n≤e.a))=decide ((n:Int)≤if e.a<64 then (e.a:Int) else -1):=by
    by_cases h3:e.a<64
    ·rw [if_pos h3,decide_eq_true h3,Bool.true_and];exact decide_eq_decide.2 (by omega)
    ·rw [if_neg h3,decide_eq_false h3,Bool.false_and,decide_eq_false (by omega)]
   rw [← key]
   by_cases h5:e.k=5
   ·rw [if_pos h5,decide_eq_true h5,Bool.true_and]
   ·rw [if_neg h5,decide_eq_false h5,Bool.false_and,Bool.or_false]
theorem rTask1 (cy co:Int) (a b v:Nat) (ha:a<4294967296) (hb:b<4294967296) (w0 w:World) (F:HP) (hs:Sat w0 w F) :
  Calls Tryz.prog 23 #[evX ⟨1,cy,co,a,b,v⟩] w (RetV w0 (.int .i64 (tskE ⟨1,cy,co,a,b,v⟩)) F):=by
 have ua:IntKind.i64.wrap (a:Int)=a:=by rw [IntKind.wrap_i64];omega
 have ub:IntKind.i64.wrap (b:Int)=b:=by rw [IntKind.wrap_i64];omega
 have hr:Hid (tskE ⟨1,cy,co,a,b,v⟩=-1):=rfl
 go_enter Tryz.func23,Tryz.ntmps23
 go_wp2_with fail;go_ret;exact ⟨by rw [hr.out];rfl,own_left⟩
theorem rTask3 (cy co:Int) (a b v:Nat) (ha:a<4294967296) (hb:b<4294967296) (w0 w:World) (F:HP) (hs:Sat w0 w F) :
  Calls Tryz.prog 23 #[evX ⟨3,cy,co,a,b,v⟩] w (RetV w0 (.int .i64 (tskE ⟨3,cy,co,a,b,v⟩)) F):=by
 have ua:IntKind.i64.wrap (a:Int)=a:=by rw [IntKind.wrap_i64];omega
 have ub:IntKind.i64.wrap (b:Int)=b:=by rw [IntKind.wrap_i64];omega
 have hr:Hid (tskE ⟨3,cy,co,a,b,v⟩=-1):=rfl
 go_enter Tryz.func23,Tryz.ntmps23
 go_wp2_with fail;go_ret;exact ⟨by rw [hr.out];rfl,own_left⟩
theorem rTask4 (cy co:Int) (a b v:Nat) (ha:a<4294967296) (hb:b<4294967296) (w0 w:World) (F:HP) (hs:Sat w0 w F) :
  Calls Tryz.prog 23 #[evX ⟨4,cy,co,a,b,v⟩] w (RetV w0 (.int .i64 (tskE ⟨4,cy,co,a,b,v⟩)) F):=by
 have ua:IntKind.i64.wrap (a:Int)=a:=by rw [IntKind.wrap_i64];omega
 have ub:IntKind.i64.wrap (b:Int)=b:=by rw [IntKind.wrap_i64];omega
 have hr:Hid (tskE ⟨4,cy,co,a,b,v⟩=-1):=rfl
 go_enter Tryz.func23,Tryz.ntmps23
 go_wp2_with fail;go_ret;exact ⟨by rw [hr.out];rfl,own_left⟩
theorem rTask18 (cy co:Int) (a b v:Nat) (ha:a<4294967296) (hb:b<4294967296) (w0 w:World) (F:HP) (hs:Sat w0 w F) :
  Calls Tryz.prog 23 #[evX ⟨18,cy,co,a,b,v⟩] w (RetV w0 (.int .i64 (tskE ⟨18,cy,co,a,b,v⟩)) F):=by
 have ua:IntKind.i64.wrap (a:Int)=a:=by rw [IntKind.wrap_i64];omega
 have ub:IntKind.i64.wrap (b:Int)=b:=by rw [IntKind.wrap_i64];omega
 have hr:Hid (tskE ⟨18,cy,co,a,b,v⟩=-1):=rfl
 go_enter Tryz.func23,Tryz.ntmps23
 go_wp2_with fail;go_ret;exact ⟨by rw [hr.out];rfl,own_left⟩
theorem rTask24 (cy co:Int) (a b v:Nat) (ha:a<4294967296) (hb:b<4294967296) (w0 w:World) (F:HP) (hs:Sat w0 w F) :
  Calls Tryz.prog 23 #[evX ⟨24,cy,co,a,b,v⟩] w (RetV w0 (.int .i64 (tskE ⟨24,cy,co,a,b,v⟩)) F):=by
 have ua:IntKind.i64.wrap (a:Int)=a:=by rw [IntKind.wrap_i64];omega
 have ub:IntKind.i64.wrap (b:Int)=b:=by rw [IntKind.wrap_i64];omega
 have hr:Hid (tskE ⟨24,cy,co,a,b,v⟩=-1):=rfl
 go_enter Tryz.func23,Tryz.ntmps23
 go_wp2_with fail;go_ret;exact ⟨by rw [hr.out];rfl,own_left⟩
theorem rTask2t (cy co:Int) (a b v:Nat) (ha:a<4294967296) (hb:b<4294967296) (h:b<64) (w0 w:World) (F:HP) (hs:Sat w0 w F) :
  Calls Tryz.prog 23 #[evX ⟨2,cy,co,a,b,v⟩] w (RetV w0 (.int .i64 (tskE ⟨2,cy,co,a,b,v⟩)) F):=by
 have ua:IntKind.i64.wrap (a:Int)=a:=by rw [IntKind.wrap_i64];omega
 have ub:IntKind.i64.wrap (b:Int)=b:=by rw [IntKind.wrap_i64];omega
 have hr:Hid (tskE ⟨2,cy,co,a,b,v⟩=b):=if_pos h;have i1:¬ (64:Int)≤(b:Int):=by omega
 go_enter Tryz.func23,Tryz.ntmps23
 go_wp2_with fail;go_ret;exact ⟨by rw [hr.out];rfl,own_left⟩
theorem rTask2f (cy co:Int) (a b v:Nat) (ha:a<4294967296) (hb:b<4294967296) (h:¬ b<64) (w0 w:World) (F:HP) (hs:Sat w0 w F) :
  Calls Tryz.prog 23 #[evX ⟨2,cy,co,a,b,v⟩] w (RetV w0 (.int .i64 (tskE ⟨2,cy,co,a,b,v⟩)) F):=by
 have ua:IntKind.i64.wrap (a:Int)=a:=by rw [IntKind.wrap_i64];omega
 have ub:IntKind.i64.wrap (b:Int)=b:=by rw [IntKind.wrap_i64];omega
 have hr:Hid (tskE ⟨2,cy,co,a,b,v⟩=-1):=if_neg h;have i1:(64:Int)≤(b:Int):=by omega
 go_enter Tryz.func23,Tryz.ntmps23
 go_wp2_with fail;go_ret;exact ⟨by rw [hr.out];rfl,own_left⟩
theorem rTask20t (cy co:Int) (a b v:Nat) (ha:a<4294967296) (hb:b<4294967296) (h:b<64) (w0 w:World) (F:HP) (hs:Sat w0 w F) :
  Calls Tryz.prog 23 #[evX ⟨20,cy,co,a,b,v⟩] w (RetV w0 (.int .i64 (tskE ⟨20,cy,co,a,b,v⟩)) F):=by
 have ua:IntKind.i64.wrap (a:Int)=a:=by rw [IntKind.wrap_i64];omega
 have ub:IntKind.i64.wrap (b:Int)=b:=by rw [IntKind.wrap_i64];omega
 have hr:Hid (tskE ⟨20,cy,co,a,b,v⟩=b):=if_pos h;have i1:¬ (64:Int)≤(b:Int):=by omega
 go_enter Tryz.func23,Tryz.ntmps23
 go_wp2_with fail;go_ret;exact ⟨by rw [hr.out];rfl,own_left⟩
theorem rTask20f (cy co:Int) (a b v:Nat) (ha:a<4294967296) (hb:b<4294967296) (h:¬ b<64) (w0 w:World) (F:HP) (hs:Sat w0 w F) :
  Calls Tryz.prog 23 #[evX ⟨20,cy,co,a,b,v⟩] w (RetV w0 (.int .i64 (tskE ⟨20,cy,co,a,b,v⟩)) F):=by
 have ua:IntKind.i64.wrap (a:Int)=a:=by rw [IntKind.wrap_i64];omega
 have ub:IntKind.i64.wrap (b:Int)=b:=by rw [IntKind.wrap_i64];omega
 have hr:Hid (tskE ⟨20,cy,co,a,b,v⟩=-1):=if_neg h;have i1:(64:Int)≤(b:Int):=by omega
 go_enter Tryz.func23,Tryz.ntmps23
 go_wp2_with fail;go_ret;exact ⟨by rw [hr.out];rfl,own_left⟩
theorem rTaskOt (k:Int) (cy co:Int) (a b v:Nat) (ha:a<4294967296) (hb:b<4294967296) (hk:k≠1∧k≠3∧k≠4∧k≠18∧k≠24∧k≠2∧k≠20) (h:a<64) (w0 w:World) (F:HP) (hs:Sat w0 w F) :
  Calls Tryz.prog 23 #[evX ⟨k,cy,co,a,b,v⟩] w (RetV w0 (.int .i64 (tskE ⟨k,cy,co,a,b,v⟩)) F):=by
 have ua:IntKind.i64.wrap (a:Int)=a:=by rw [IntKind.wrap_i64];omega
 have ub:IntKind.i64.wrap (b:Int)=b:=by rw [IntKind.wrap_i64];omega
 have hr:Hid (tskE ⟨k,cy,co,a,b,v⟩=a):=by unfold Hid tskE;dsimp only;rw [if_neg (by omega),if_neg (by omega),if_pos h]
 have i1:¬ (64:Int)≤(a:Int):=by omega
 obtain ⟨k1,k2,k3,k4,k5,k6,k7⟩:=hk;have f1:(k==1)=false:=by simp [k1]
 have f2:(k==3)=false:=by simp [k2]
 have f3:(k==4)=false:=by simp [k3]
 have f4:(k==18)=false:=by simp [k4]
 have f5:(k==24)=false:=by simp [k5]
 have f6:(k==2)=false:=by simp [k6]
 have f7:(k==20)=false:=by simp [k7]
 clear k1 k2 k3 k4 k5 k6 k7
 go_enter Tryz.func23,Tryz.ntmps23
 go_wp2_with fail;go_ret;exact ⟨by rw [hr.out];rfl,own_left⟩
theorem rTaskOf (k:Int) (cy co:Int) (a b v:Nat) (ha:a<4294967296) (hb:b<4294967296) (hk:k≠1∧k≠3∧k≠4∧k≠18∧k≠24∧k≠2∧k≠20) (h:¬ a<64) (w0 w:World) (F:HP) (hs:Sat w0 w F) :
  Calls Tryz.prog 23 #[evX ⟨k,cy,co,a,b,v⟩] w (RetV w0 (.int .i64 (tskE ⟨k,cy,co,a,b,v⟩)) F):=by
 have ua:IntKind.i64.wrap (a:Int)=a:=by rw [IntKind.wrap_i64];omega
 have ub:IntKind.i64.wrap (b:Int)=b:=by rw [IntKind.wrap_i64];omega
 have hr:Hid (tskE ⟨k,cy,co,a,b,v⟩=-1):=by unfold Hid tskE;dsimp only;rw [if_neg (by omega),if_neg (by omega),if_neg h]
 have i1:(64:Int)≤(a:Int):=by omega
 obtain ⟨k1,k2,k3,k4,k5,k6,k7⟩:=hk;have f1:(k==1)=false:=by simp [k1]
 have f2:(k==3)=false:=by simp [k2]
 have f3:(k==4)=false:=by simp [k3]
 have f4:(k==18)=false:=by simp [k4]
 have f5:(k==24)=false:=by simp [k5]
 have f6:(k==2)=false:=by simp [k6]
 have f7:(k==20)=false:=by simp [k7]
 clear k1 k2 k3 k4 k5 k6 k7
 go_enter Tryz.func23,Tryz.ntmps23
 go_wp2_with fail;go_ret;exact ⟨by rw [hr.out];rfl,own_left⟩
theorem rTask (e:Ev) (ha:e.a<4294967296) (hb:e.b<4294967296) (w0 w:World) (F:HP) (hs:Sat w0 w F) :
  Calls Tryz.prog 23 #[evX e] w (RetV w0 (.int .i64 (tskE e)) F):=by
 obtain ⟨k,cy,co,a,b,v⟩:=e
 by_cases h1:k=1
 ·subst h1;exact rTask1 cy co a b v ha hb w0 w F hs
 by_cases h3:k=3
 ·subst h3;exact rTask3 cy co a b v ha hb w0 w F hs
 by_cases h4:k=4
 ·subst h4;exact rTask4 cy co a b v ha hb w0 w F hs
 by_cases h18:k=18
 ·subst h18;exact rTask18 cy co a b v ha hb w0 w F hs
 by_cases h24:k=24
 ·subst h24;exact rTask24 cy co a b v ha hb w0 w F hs
 by_cases h2:k=2
 ·subst h2
  by_cases h:b<64
  ·exact rTask2t cy co a b v ha hb h w0 w F hs
  ·exact rTask2f cy co a b v ha hb h w0 w F hs
 by_cases h20:k=20
 ·subst h20
  by_cases h:b<64
  ·exact rTask20t cy co a b v ha hb h w0 w F hs
  ·exact rTask20f cy co a b v ha hb h w0 w F hs
 by_cases h:a<64
 ·exact rTaskOt k cy co a b v ha hb ⟨h1,h3,h4,h18,h24,h2,h20⟩ h w0 w F hs
 ·exact rTaskOf k cy co a b v ha hb ⟨h1,h3,h4,h18,h24,h2,h20⟩ h w0 w F hs
end Go.Proofs.YtkeommmigopnkaaGreatDoor
namespace Go.Proofs.YtkeommmigopnkaaGreatDoor
open Go.RowKit Go.Sx Go.Dl Go.Lk Go.Rq Go.Au Go.Hi Go.St
theorem rCheck3 (v u:Value) (c:Cf) (rg:CfRng c) (l:List Ev) (hl:l.length<900000) (hev:∀ e∈l,EvOk e) (he:(confF c).err≠0) (w0 w:World) (F:HP) (hr:RdCf w0 v c) (hst:StaysE w0 F u l) (hs:Sat w0 w F)
  (hA0:∀ w,Sat w0 w any→Calls Tryz.prog 21 #[v] w (fun e w'=>∃ f:Ft,e=.returned (ftV f)∧Sat w w' emp∧(f.err=0↔(confF c).err=0)))
  (hB0:∀ w G,Sat w0 w (F*G)→Calls Tryz.prog 22 #[u] w (RetV w0 (.int .i64 (chkI l)) (F*G))) :
  Calls Tryz.prog 9 #[v,u] w (RetV w0 (.int .i64 (stCh c l)) F):=by
 obtain ⟨ua,uc,rfl⟩:∃ ua uc,u=.slice ua l.length uc:=by
  obtain ⟨a,cap,b,off,e,_⟩:=hst w hs;exact ⟨a,cap,e⟩
 have hA:=hid hA0;have hB:=hid hB0;have hC:=hid (show stCh c l=3 from if_neg he);have Hst:=hid hst;have Hev:=hid hev;obtain ⟨ta,la,sa,qa,ma,tc,lc,sc,qc,mc,rfl,h1,h2,h3,h4,h5⟩:=hr.form;clear hr h1 h2 h3 h4 h5 hst hev hA0 hB0
 go_enter Tryz.func9,Tryz.ntmps9
 go_wp2_with fail;refine (hA.out _ own_left).mono ?_;rintro en w1 ⟨f,rfl,hs1,hf⟩;have hs2:=Sat.past (w0:=w0) own_it hs1;have e1:(f.err != 0)=true:=by simp [hf,he]
 clear hs1 hs hA hf he;unfold ftV;go_wp2_with fail;go_ret;exact ⟨by rw [hC.out];rfl,own_left⟩
theorem rCheck1 (v u:Value) (c:Cf) (rg:CfRng c) (l:List Ev) (hl:l.length<900000) (hev:∀ e∈l,EvOk e) (he:(confF c).err=0) (h0:0≤chkI l) (w0 w:World) (F:HP) (hr:RdCf w0 v c) (hst:StaysE w0 F u l) (hs:Sat w0 w F)
  (hA0:∀ w,Sat w0 w any→Calls Tryz.prog 21 #[v] w (fun e w'=>∃ f:Ft,e=.returned (ftV f)∧Sat w w' emp∧(f.err=0↔(confF c).err=0)))
  (hB0:∀ w G,Sat w0 w (F*G)→Calls Tryz.prog 22 #[u] w (RetV w0 (.int .i64 (chkI l)) (F*G))) :
  Calls Tryz.prog 9 #[v,u] w (RetV w0 (.int .i64 (stCh c l)) F):=by
 obtain ⟨ua,uc,rfl⟩:∃ ua uc,u=.slice ua l.length uc:=by
  obtain ⟨a,cap,b,off,e,_⟩:=hst w hs;exact ⟨a,cap,e⟩
 have hA:=hid hA0;have hB:=hid hB0;have hC:=hid (show stCh c l=1 from (if_pos he).trans (if_pos (.inl h0)));have Hst:=hid hst;have Hev:=hid hev;obtain ⟨ta,la,sa,qa,ma,tc,lc,sc,qc,mc,rfl,h1,h2,h3,h4,h5⟩:=hr.form;clear hr h1 h2 h3 h4 h5 hst hev hA0 hB0
 go_enter Tryz.func9,Tryz.ntmps9
 go_wp2_with fail;refine (hA.out _ own_left).mono ?_;rintro en w1 ⟨f,rfl,hs1,hf⟩;have hs2:=Sat.past (w0:=w0) own_it hs1;have e1:(f.err != 0)=false:=by simp [hf,he]
 clear hs1 hs hA hf he;unfold ftV;go_wp2_with fail;have hs4:Sat w0 w1 (F*(pts w.heap.size 0 [.slice ta c.ts.length tc,.slice la c.ls.length lc,.int .i64 c.mutexes,.slice sa c.sems.length sc,.slice qa c.queues.length qc,.slice ma c.timers.length mc,.int .i64 c.table,.int .u32 c.mask,.int .u32 c.filter,.int .i64 c.charge,.int .u64 c.cycle,.int .u64 c.count]*any)):=own_left;refine (hB.out _ _ hs4).mono ?_;rintro en w2 ⟨rfl,hs3⟩;clear hs2 hs4 hB;go_wp2_with fail;go_ret;exact ⟨by rw [hC.out];rfl,own_left⟩
theorem rCheck0 (v u:Value) (c:Cf) (rg:CfRng c) (l:List Ev) (hl:l.length<900000) (hev:∀ e∈l,EvOk e) (he:(confF c).err=0) (h0:¬ 0≤chkI l) (w0 w:World) (F:HP) (hr:RdCf w0 v c) (hst:StaysE w0 F u l) (hs:Sat w0 w F)
  (hA0:∀ w,Sat w0 w any→Calls Tryz.prog 21 #[v] w (fun e w'=>∃ f:Ft,e=.returned (ftV f)∧Sat w w' emp∧(f.err=0↔(confF c).err=0)))
  (hB0:∀ w G,Sat w0 w (F*G)→Calls Tryz.prog 22 #[u] w (RetV w0 (.int .i64 (chkI l)) (F*G))) :
  Calls Tryz.prog 9 #[v,u] w (RetV w0 (.int .i64 (stCh c l)) F):=by
 obtain ⟨ua,uc,rfl⟩:∃ ua uc,u=.slice ua l.length uc:=by
  obtain ⟨a,cap,b,off,e,_⟩:=hst w hs;exact ⟨a,cap,e⟩
 have hA:=hid hA0;have hB:=hid hB0;have hC:=hid (show stCh c l=(if l.any (strayE c.ts.length)=true then 1 else 0) by unfold stCh;rw [if_pos he];simp [h0]);have hn64:=(confF_ok rg he).1;have Hst:=hid hst;have Hev:=hid hev;obtain ⟨ta,la,sa,qa,ma,tc,lc,sc,qc,mc,rfl,h1,h2,h3,h4,h5⟩:=hr.form;clear hr h1 h2 h3 h4 h5 hst hev hA0 hB0
 go_enter Tryz.func9,Tryz.ntmps9
 go_wp2_with fail;refine (hA.out _ own_left).mono ?_;rintro en w1 ⟨f,rfl,hs1,hf⟩;have hs2:=Sat.past (w0:=w0) own_it hs1;have e1:(f.err != 0)=false:=by simp [hf,he]
 clear hs1 hs hA hf he;unfold ftV;go_wp2_with fail;have hs4:Sat w0 w1 (F*(pts w.heap.size 0 [.slice ta c.ts.length tc,.slice la c.ls.length lc,.int .i64 c.mutexes,.slice sa c.sems.length sc,.slice qa c.queues.length qc,.slice ma c.timers.length mc,.int .i64 c.table,.int .u32 c.mask,.int .u32 c.filter,.int .i64 c.charge,.int .u64 c.cycle,.int .u64 c.count]*any)):=own_left;refine (hB.out _ _ hs4).mono ?_;rintro en w2 ⟨rfl,hs3⟩;clear hs2 hs4 hB;go_wp2_with fail;refine wp_gen (w0:=w0) ?_;intro wx hsx;generalize w.heap.size=cb at *;clear hs3
 go_loopw [5] (fun i wr=>∃ k:Nat,k≤l.length∧i=.int .i64 k∧(l.take k).any (strayE c.ts.length)=false∧Sat w0 wr (pts cb 0 [.slice ta c.ts.length tc,.slice la c.ls.length lc,.int .i64 c.mutexes,.slice sa c.sems.length sc,.slice qa c.queues.length qc,.slice ma c.timers.length mc,.int .i64 c.table,.int .u32 c.mask,.int .u32 c.filter,.int .i64 c.charge,.int .u64 c.cycle,.int .u64 c.count]*(F*any))) (fun i _=>l.length-(intOf i).toNat)
 case atStart=>exact ⟨0,Nat.zero_le _,rfl,rfl,own_left⟩
 case round =>
  obtain ⟨k,hk,rfl,hnone,hsr⟩:=hrel;clear hsx
  by_cases hlt:k<l.length
  ·have d1:decide (k<l.length)=true:=decide_eq_true hlt;have i1:(k:Int)<(l.length:Int):=by omega
   obtain ⟨eg,eo,rfl,hrow0⟩:=rdR_at (k:=k) (Hst.out wr own_left) hlt;have hE:=Hev.out _ (evg_mem hlt);have hRow:=hid (fun (w:World) (G:HP) (h:Sat w0 w (F*G))=>(show w.rangeAt eg (eo+k*6) (evCells (evg l k)) by
    obtain ⟨g2,o2,e,hrow⟩:=rdR_at (k:=k) (Hst.out w own_left) hlt;simp only [Option.some.injEq,Addr.mk.injEq] at e;obtain ⟨rfl,rfl,_⟩:=e;exact hrow))
   have hnx:=hid (show (l.take (k+1)).any (strayE c.ts.length)=strayE c.ts.length (evg l k) by rw [any_next _ hlt,hnone,Bool.false_or]);have hat:=hid (fun hp=>any_at (p:=strayE c.ts.length) hlt hp);have hLk:=hid (fun (w:World) (G:HP) (hs:Sat w0 w G)=>rTask (evg l k) hE.a hE.b w0 w G hs);have hsy:=hid (stray_tsk hn64 (evg l k));have hb0:=hE.b;generalize evg l k=e at hRow hnx hLk hat hsy hb0;clear hrow0 hE hnone;obtain ⟨ek,cy,co,a,b,vv⟩:=e;dsimp only at hb0;have ub:IntKind.i64.wrap (b:Int)=b:=by rw [IntKind.wrap_i64];omega
   obtain ⟨T,hT⟩:∃ T,T=tskE ⟨ek,cy,co,a,b,vv⟩:=⟨_,rfl⟩;rw [← hT] at hLk hsy;clear hT
   by_cases hz1:(c.ts.length:Int)≤T
   ·have hst1:=hid (show strayE c.ts.length ⟨ek,cy,co,a,b,vv⟩=true by rw [hsy.out,decide_eq_true hz1];rfl);have hq:=hid (show stCh c l=1 by rw [hC.out,if_pos (hat.out hst1.out)]);have d2:decide ((c.ts.length:Int)≤T)=true:=decide_eq_true hz1;go_wp2_with fail;refine wp_gen (w0:=w0) ?_;intro wz hsz;refine wp_region_early (fun w'=>Sat w0 w' (pts cb 0 [.slice ta c.ts.length tc,.slice la c.ls.length lc,.int .i64 c.mutexes,.slice sa c.sems.length sc,.slice qa c.queues.length qc,.slice ma c.timers.length mc,.int .i64 c.table,.int .u32 c.mask,.int .u32 c.filter,.int .i64 c.charge,.int .u64 c.cycle,.int .u64 c.count]*(F*any))) [(0,true),(1,true),(2,true),(3,true),(5,true),(6,true),(7,true),(4,false),(8,true),(9,true),(10,true),(11,true),(12,true),(13,true),(14,true),(15,true),(16,true),(17,true),(18,true),(19,true),(20,true),(21,true),(22,true),(23,true),(24,true),(25,true),(26,true),(27,true),(28,true),(29,true),(30,true),(31,true),(32,true),(33,true),(34,true),(35,true),(36,true)] (by kernel_rfl) (by kernel_rfl) (fun _ _ _ _ h=>h) own_any2 ?_
    iterate 3 (first | refine early_S ?_ | refine early_N ?_)
    refine early_load_row (cells:=[.int .i64 ek,.int .u64 cy,.int .u64 co,.int .u32 a,.int .u32 b,.int .u32 vv]) rfl rfl rfl rfl (fun w h=>hRow.out w _ h.drop) Tryz.underlying45 rfl (by kernel_rfl) ?_;simp only [Act.put,zqA,zqP,zqQ]
    iterate 3 (first | refine early_S ?_ | refine early_N ?_)
    refine early_G rfl (by rfl) (fun K hK=>?_);go_wp2_with fail;refine (hLk.out _ _ own_it).mono ?_;rintro en w4 ⟨rfl,hs4⟩;go_wp2_with fail;refine ⟨own_any2,?_⟩
    iterate 29 (first | refine early_S ?_ | refine early_N ?_)
    refine early_done ?_;clear hsr hsz;go_wp2_with fail;go_ret;exact ⟨by rw [hq.out];rfl,own_left⟩
   ·have d2:decide ((c.ts.length:Int)≤T)=false:=decide_eq_false hz1
    by_cases h5:ek=5
    ·have e5:(ek==5)=true:=by simp [h5]
     have e5d:=hid (decide_eq_true h5);clear h5
     by_cases h6:b<64
     ·have d6:decide (b<64)=true:=decide_eq_true h6;have i6:(b:Int)<64:=by omega
      by_cases h7:c.ts.length≤b
      ·have d7:decide (c.ts.length≤b)=true:=decide_eq_true h7;have i7:(c.ts.length:Int)≤(b:Int):=by omega
       have hst1:=hid (show strayE c.ts.length ⟨ek,cy,co,a,b,vv⟩=true by rw [hsy.out,d2,e5d.out];unfold outT;rw [d6,d7];rfl);have hq:=hid (show stCh c l=1 by rw [hC.out,if_pos (hat.out hst1.out)]);go_wp2_with fail;refine wp_gen (w0:=w0) ?_;intro wz hsz;refine wp_region_early (fun w'=>Sat w0 w' (pts cb 0 [.slice ta c.ts.length tc,.slice la c.ls.length lc,.int .i64 c.mutexes,.slice sa c.sems.length sc,.slice qa c.queues.length qc,.slice ma c.timers.length mc,.int .i64 c.table,.int .u32 c.mask,.int .u32 c.filter,.int .i64 c.charge,.int .u64 c.cycle,.int .u64 c.count]*(F*any))) [(0,true),(1,true),(2,true),(3,true),(5,true),(6,true),(7,true),(4,false),(8,true),(9,true),(10,true),(11,true),(12,true),(13,true),(14,true),(15,true),(16,true),(17,true),(18,true),(19,true),(20,true),(21,true),(22,true),(23,true),(24,true),(25,true),(26,true),(27,true),(28,true),(29,true),(30,true),(31,true),(32,true),(33,true),(34,true),(35,true),(36,true)] (by kernel_rfl) (by kernel_rfl) (fun _ _ _ _ h=>h) own_any2 ?_
       iterate 3 (first | refine early_S ?_ | refine early_N ?_)
       refine early_load_row (cells:=[.int .i64 ek,.int .u64 cy,.int .u64 co,.int .u32 a,.int .u32 b,.int .u32 vv]) rfl rfl rfl rfl (fun w h=>hRow.out w _ h.drop) Tryz.underlying45 rfl (by kernel_rfl) ?_;simp only [Act.put,zqA,zqP,zqQ]
       iterate 3 (first | refine early_S ?_ | refine early_N ?_)
       refine early_G rfl (by rfl) (fun K hK=>?_);go_wp2_with fail;refine (hLk.out _ _ own_it).mono ?_;rintro en w4 ⟨rfl,hs4⟩;go_wp2_with fail;refine ⟨own_any2,?_⟩
       iterate 6 (first | refine early_S ?_ | refine early_N ?_)
       refine early_T rfl (by rfl) ⟨.int .i64 ek,fun w hSw=>?_,?_⟩
       ·have h0:=hRow.out w _ hSw.drop 0 _ rfl
        try rw [Nat.add_zero] at h0
        go_simp
        try with_reducible rfl
       simp only [Act.put,zqA,zqP,zqQ]
       iterate 6 (first | refine early_S ?_ | refine early_N ?_)
       refine early_T rfl (by rfl) ⟨.int .u32 b,fun w hSw=>?_,?_⟩
       ·have h0:=hRow.out w _ hSw.drop 4 _ rfl
        try rw [Nat.add_zero] at h0
        go_simp
        try with_reducible rfl
       simp only [Act.put,zqA,zqP,zqQ]
       iterate 7 (first | refine early_S ?_ | refine early_N ?_)
       refine early_T rfl (by rfl) ⟨.int .u32 b,fun w hSw=>?_,?_⟩
       ·have h0:=hRow.out w _ hSw.drop 4 _ rfl
        try rw [Nat.add_zero] at h0
        go_simp
        try with_reducible rfl
       simp only [Act.put,zqA,zqP,zqQ]
       iterate 7 (first | refine early_S ?_ | refine early_N ?_)
       refine early_done ?_;clear hsr hsz;go_wp2_with fail;go_ret;exact ⟨by rw [hq.out];rfl,own_left⟩
      ·have d7:decide (c.ts.length≤b)=false:=decide_eq_false h7;have i7:¬ (c.ts.length:Int)≤(b:Int):=by omega
       have hst1:=hid (show strayE c.ts.length ⟨ek,cy,co,a,b,vv⟩=false by rw [hsy.out,d2,e5d.out];unfold outT;rw [d6,d7];rfl);go_wp2_with fail;refine wp_gen (w0:=w0) ?_;intro wz hsz;refine wp_region_early (fun w'=>Sat w0 w' (pts cb 0 [.slice ta c.ts.length tc,.slice la c.ls.length lc,.int .i64 c.mutexes,.slice sa c.sems.length sc,.slice qa c.queues.length qc,.slice ma c.timers.length mc,.int .i64 c.table,.int .u32 c.mask,.int .u32 c.filter,.int .i64 c.charge,.int .u64 c.cycle,.int .u64 c.count]*(F*any))) [(0,true),(1,true),(2,true),(3,true),(5,true),(6,true),(7,true),(4,false),(8,true),(9,true),(10,true),(11,true),(12,true),(13,true),(14,true),(15,true),(16,true),(17,true),(18,true),(19,true),(20,true),(21,true),(22,true),(23,true),(24,true),(25,true),(26,true),(27,true),(28,true),(29,true),(30,true),(31,true),(32,true),(33,true),(34,true),(35,true),(36,true)] (by kernel_rfl) (by kernel_rfl) (fun _ _ _ _ h=>h) own_any2 ?_
       iterate 3 (first | refine early_S ?_ | refine early_N ?_)
       refine early_load_row (cells:=[.int .i64 ek,.int .u64 cy,.int .u64 co,.int .u32 a,.int .u32 b,.int .u32 vv]) rfl rfl rfl rfl (fun w h=>hRow.out w _ h.drop) Tryz.underlying45 rfl (by kernel_rfl) ?_;simp only [Act.put,zqA,zqP,zqQ]
       iterate 3 (first | refine early_S ?_ | refine early_N ?_)
       refine early_G rfl (by rfl) (fun K hK=>?_);go_wp2_with fail;refine (hLk.out _ _ own_it).mono ?_;rintro en w4 ⟨rfl,hs4⟩;go_wp2_with fail;refine ⟨own_any2,?_⟩
       iterate 6 (first | refine early_S ?_ | refine early_N ?_)
       refine early_T rfl (by rfl) ⟨.int .i64 ek,fun w hSw=>?_,?_⟩
       ·have h0:=hRow.out w _ hSw.drop 0 _ rfl
        try rw [Nat.add_zero] at h0
        go_simp
        try with_reducible rfl
       simp only [Act.put,zqA,zqP,zqQ]
       iterate 6 (first | refine early_S ?_ | refine early_N ?_)
       refine early_T rfl (by rfl) ⟨.int .u32 b,fun w hSw=>?_,?_⟩
       ·have h0:=hRow.out w _ hSw.drop 4 _ rfl
        try rw [Nat.add_zero] at h0
        go_simp
        try with_reducible rfl
       simp only [Act.put,zqA,zqP,zqQ]
       iterate 7 (first | refine early_S ?_ | refine early_N ?_)
       refine early_T rfl (by rfl) ⟨.int .u32 b,fun w hSw=>?_,?_⟩
       ·have h0:=hRow.out w _ hSw.drop 4 _ rfl
        try rw [Nat.add_zero] at h0
        go_simp
        try with_reducible rfl
       simp only [Act.put,zqA,zqP,zqQ]
       iterate 7 (first | refine early_S ?_ | refine early_N ?_)
       refine early_done ?_;clear hsr hsz;go_wp2_with fail;go_roundw
       case rel=>exact ⟨k+1,by omega,by go_num,by rw [hnx.out,hst1.out],own_left⟩
       case measure=>simp [intOf];omega
     ·have d6:decide (b<64)=false:=decide_eq_false h6;have c6:(b<64)=False:=eq_false h6;have i6:((b:Int)<64)=False:=eq_false (by omega);have hst1:=hid (show strayE c.ts.length ⟨ek,cy,co,a,b,vv⟩=false by rw [hsy.out,d2,e5d.out];unfold outT;rw [d6];rfl);clear h6;go_wp2_with fail;refine wp_gen (w0:=w0) ?_;intro wz hsz;refine wp_region_early (fun w'=>Sat w0 w' (pts cb 0 [.slice ta c.ts.length tc,.slice la c.ls.length lc,.int .i64 c.mutexes,.slice sa c.sems.length sc,.slice qa c.queues.length qc,.slice ma c.timers.length mc,.int .i64 c.table,.int .u32 c.mask,.int .u32 c.filter,.int .i64 c.charge,.int .u64 c.cycle,.int .u64 c.count]*(F*any))) [(0,true),(1,true),(2,true),(3,true),(5,true),(6,true),(7,true),(4,false),(8,true),(9,true),(10,true),(11,true),(12,true),(13,true),(14,true),(15,true),(16,true),(17,true),(18,true),(19,true),(20,true),(21,true),(22,true),(23,true),(24,true),(25,true),(26,true),(27,true),(28,true),(29,true),(30,true),(31,true),(32,true),(33,true),(34,true),(35,true),(36,true)] (by kernel_rfl) (by kernel_rfl) (fun _ _ _ _ h=>h) own_any2 ?_
      iterate 3 (first | refine early_S ?_ | refine early_N ?_)
      refine early_load_row (cells:=[.int .i64 ek,.int .u64 cy,.int .u64 co,.int .u32 a,.int .u32 b,.int .u32 vv]) rfl rfl rfl rfl (fun w h=>hRow.out w _ h.drop) Tryz.underlying45 rfl (by kernel_rfl) ?_;simp only [Act.put,zqA,zqP,zqQ]
      iterate 3 (first | refine early_S ?_ | refine early_N ?_)
      refine early_G rfl (by rfl) (fun K hK=>?_);go_wp2_with fail;refine (hLk.out _ _ own_it).mono ?_;rintro en w4 ⟨rfl,hs4⟩;go_wp2_with fail;refine ⟨own_any2,?_⟩
      iterate 6 (first | refine early_S ?_ | refine early_N ?_)
      refine early_T rfl (by rfl) ⟨.int .i64 ek,fun w hSw=>?_,?_⟩
      ·have h0:=hRow.out w _ hSw.drop 0 _ rfl
       try rw [Nat.add_zero] at h0
       go_simp
       try with_reducible rfl
      simp only [Act.put,zqA,zqP,zqQ]
      iterate 6 (first | refine early_S ?_ | refine early_N ?_)
      refine early_T rfl (by rfl) ⟨.int .u32 b,fun w hSw=>?_,?_⟩
      ·have h0:=hRow.out w _ hSw.drop 4 _ rfl
       try rw [Nat.add_zero] at h0
       go_simp
       try with_reducible rfl
      simp only [Act.put,zqA,zqP,zqQ]
      iterate 15 (first | refine early_S ?_ | refine early_N ?_)
      refine early_done ?_;clear hsr hsz;go_wp2_with fail;go_roundw
      case rel=>exact ⟨k+1,by omega,by go_num,by rw [hnx.out,hst1.out],own_left⟩
      case measure=>simp [intOf];omega
    ·have e5:(ek==5)=false:=by simp [h5]
     have hst1:=hid (show strayE c.ts.length ⟨ek,cy,co,a,b,vv⟩=false by rw [hsy.out,d2,decide_eq_false h5];rfl);go_wp2_with fail;refine wp_gen (w0:=w0) ?_;intro wz hsz;refine wp_region_early (fun w'=>Sat w0 w' (pts cb 0 [.slice ta c.ts.length tc,.slice la c.ls.length lc,.int .i64 c.mutexes,.slice sa c.sems.length sc,.slice qa c.queues.length qc,.slice ma c.timers.length mc,.int .i64 c.table,.int .u32 c.mask,.int .u32 c.filter,.int .i64 c.charge,.int .u64 c.cycle,.int .u64 c.count]*(F*any))) [(0,true),(1,true),(2,true),(3,true),(5,true),(6,true),(7,true),(4,false),(8,true),(9,true),(10,true),(11,true),(12,true),(13,true),(14,true),(15,true),(16,true),(17,true),(18,true),(19,true),(20,true),(21,true),(22,true),(23,true),(24,true),(25,true),(26,true),(27,true),(28,true),(29,true),(30,true),(31,true),(32,true),(33,true),(34,true),(35,true),(36,true)] (by kernel_rfl) (by kernel_rfl) (fun _ _ _ _ h=>h) own_any2 ?_
     iterate 3 (first | refine early_S ?_ | refine early_N ?_)
     refine early_load_row (cells:=[.int .i64 ek,.int .u64 cy,.int .u64 co,.int .u32 a,.int .u32 b,.int .u32 vv]) rfl rfl rfl rfl (fun w h=>hRow.out w _ h.drop) Tryz.underlying45 rfl (by kernel_rfl) ?_;simp only [Act.put,zqA,zqP,zqQ]
     iterate 3 (first | refine early_S ?_ | refine early_N ?_)
     refine early_G rfl (by rfl) (fun K hK=>?_);go_wp2_with fail;refine (hLk.out _ _ own_it).mono ?_;rintro en w4 ⟨rfl,hs4⟩;go_wp2_with fail;refine ⟨own_any2,?_⟩
     iterate 6 (first | refine early_S ?_ | refine early_N ?_)
     refine early_T rfl (by rfl) ⟨.int .i64 ek,fun w hSw=>?_,?_⟩
     ·have h0:=hRow.out w _ hSw.drop 0 _ rfl
      try rw [Nat.add_zero] at h0
      go_simp
      try with_reducible rfl
     simp only [Act.put,zqA,zqP,zqQ]
     iterate 22 (first | refine early_S ?_ | refine early_N ?_)
     refine early_done ?_;clear hsr hsz;go_wp2_with fail;go_roundw
     case rel=>exact ⟨k+1,by omega,by go_num,by rw [hnx.out,hst1.out],own_left⟩
     case measure=>simp [intOf];omega
  ·have d1:decide (k<l.length)=false:=decide_eq_false hlt;obtain rfl:k=l.length:=by omega
   rw [List.take_length] at hnone;have hq:=hid (show stCh c l=0 by rw [hC.out,hnone];rfl);clear hnone hC;go_wp2_with fail;go_ret;exact ⟨by rw [hq.out];rfl,own_left⟩
end Go.Proofs.YtkeommmigopnkaaGreatDoor
namespace Go.Proofs.YtkeommmigopnkaaGreatDoor
open Go.RowKit Go.Sx
def hasS (u:Nat):ByteArray:=⟨(((if u.testBit 0 then [65] else []:List UInt8)++((if u.testBit 1 then [66] else [])++((if u.testBit 2 then [67] else [])++((if u.testBit 3 then [68] else [])++(if u.testBit 4 then [75] else [])))))).toArray⟩
theorem refHas (op:Int) (w:World):Calls Tryz.prog 131 #[.int .i64 op] w fun e w'=>e=.returned (.string (hasS (usesOf op)))∧w=w':=by
 by_cases h:1≤op∧op≤38
 ·rcases op_cases h with rfl | rfl | rfl | rfl | rfl | rfl | rfl | rfl | rfl | rfl | rfl | rfl | rfl | rfl | rfl | rfl | rfl | rfl | rfl | rfl | rfl | rfl | rfl | rfl | rfl | rfl | rfl | rfl | rfl | rfl | rfl | rfl | rfl | rfl | rfl | rfl | rfl | rfl
  all_goals
   clear h
   go_enter Tryz.func131,Tryz.ntmps131
   go_wp2;go_ret;exact ⟨rfl,rfl⟩
 ·have hu:usesOf op=0:=by unfold usesOf;repeat rw [if_neg (by omega)]
  rw [hu];clear hu
  go_enter Tryz.func131,Tryz.ntmps131
  go_wp2
  all_goals
   go_ret;exact ⟨rfl,rfl⟩
def inS (s:ByteArray) (c:Int):Bool:=s.data.toList.any fun b=>decide ((b.toNat:Int)=c)
theorem inS_at {s:ByteArray} {c:Int} {k:Nat} (hk:k<s.size) (h:((s[k]'hk).toNat:Int)=c):inS s c=true:=by
 unfold inS;rw [List.any_eq_true];exact ⟨s[k],by rw [ByteArray.getElem_eq_getElem_data];exact Array.getElem_mem_toList ..,by simpa using h⟩
theorem inS_none {s:ByteArray} {c:Int} (h:∀ k (hk:k<s.size),((s[k]'hk).toNat:Int)≠c):inS s c=false:=by
 unfold inS;rw [List.any_eq_false];intro b hb;obtain ⟨k,hk,rfl⟩:=List.getElem_of_mem hb;have e:=h k (show k<s.data.size by rw [← Array.length_toList];exact hk);rw [ByteArray.getElem_eq_getElem_data] at e;rw [Array.getElem_toList];exact fun h2=>e (of_decide_eq_true h2)
theorem refIn (s:ByteArray) (hs:s.size≤100) (c:Int) (w:World):Calls Tryz.prog 132 #[.string s,.int .u8 c] w fun e w'=>e=.returned (.bool (inS s c))∧w=w':=by
 go_enter Tryz.func132,Tryz.ntmps132
 go_wp2_with fail
 go_loopw [5] (fun i wr=>∃ k:Nat,k≤s.size∧i=.int .i64 k∧wr=w∧∀ j (hj:j<s.size),j<k→((s[j]'hj).toNat:Int)≠c) (fun i _=>s.size-(intOf i).toNat)
 case atStart=>exact ⟨0,Nat.zero_le _,rfl,by first | rfl | trivial,fun _ _ h=>absurd h (by omega)⟩
 case round =>
  obtain ⟨k,hk,rfl,rfl,hb⟩:=hrel;have Hb:=hid hb;clear hb
  by_cases hlt:k<s.size
  ·have d1:decide ((k:Int)<(s.size:Int))=true:=by simp;omega
   have i1:(k:Int)<s.size:=by omega
   by_cases e:((s[k]'hlt).toNat:Int)=c
   ·have hx:=hid (inS_at hlt e);go_wp2_with fail
    all_goals
     go_ret;exact ⟨by rw [hx.out];rfl,by first | rfl | trivial⟩
   ·have hb2:=hid (show ∀ j (hj:j<s.size),j<k+1→((s[j]'hj).toNat:Int)≠c from fun j hj h=>by
     rcases Nat.lt_or_ge j k with h1 | h1
     ·exact Hb.out j hj h1
     ·obtain rfl:j=k:=by omega
      exact e)
    go_wp2_with fail;go_roundw
    case rel=>exact ⟨k+1,by omega,by go_num,by first | rfl | trivial,hb2.out⟩
    case measure=>simp [intOf];omega
  ·have hx:=hid (inS_none fun j hj=>Hb.out j hj (by omega));have d1:decide ((k:Int)<(s.size:Int))=false:=by simp;omega
   have i1:¬ (k:Int)<s.size:=by omega
   go_wp2_with fail
   all_goals
    go_ret;exact ⟨by rw [hx.out];rfl,by first | rfl | trivial⟩
theorem hasS_small (u:Nat) (h:u=17∨u=3∨u=19∨u=16∨u=1∨u=31∨u=21∨u=29∨u=5∨u=7∨u=0):(hasS u).size≤100∧inS (hasS u) 65=u.testBit 0∧inS (hasS u) 66=u.testBit 1∧inS (hasS u) 67=u.testBit 2∧inS (hasS u) 68=u.testBit 3∧inS (hasS u) 75=u.testBit 4:=by
 rcases h with rfl | rfl | rfl | rfl | rfl | rfl | rfl | rfl | rfl | rfl | rfl<;>decide
end Go.Proofs.YtkeommmigopnkaaGreatDoor
