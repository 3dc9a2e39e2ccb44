/-
  Parts of the proof: StPb.
-/
import Derived.Test.YtkeommmigopnkaaGreatDoorKE15
set_option linter.unusedVariables false
set_option linter.unusedSimpArgs false
set_option maxHeartbeats 32000000
set_option maxRecDepth 100000
namespace Go.Sx
open Go.RowKit
section
variable {α:Type} {sz:Nat} {E:Enc α sz}
theorem exec_slice_to {P:Program} {w:World} {ev:Operand→Value} {t e bytes:Nat} {z:Value} {s hi:Operand} {sa:Option Addr} {sn sc:Nat} {j:Int} {op:Oper} [ET:ElemR P t α sz E e bytes z] (ho:op.op=.slice t s none (some hi) none) (hv:ev s=.slice sa sn sc) (hhi:ev hi=.int .i64 j) (h0:0≤j) (h1:j≤sn) (hn:sn≤sc) :
  (execOp ev op).run P w=.ok (.value (sliced sa 0 j.toNat sc sz)) w:=by
 obtain ⟨e1,e2⟩:=slicedR_go (w:=w) ET.el;have hrun:(Instr.sliceAt t (.slice sa sn sc) none (some (.int .i64 j)) none).run P w=.ok (sliced sa 0 j.toNat sc sz) w:=by
  rw [run_sliceAt_slice w t _ _ _ _ e1,run_slice_h w t sa sn sc e1 .i64 j h0 (by omega),e2];rfl
 unfold execOp;simp only [ho,Option.map,hv,hhi,hrun,Sem.run_bind,Sem.run_pure,Result.andThen_ok]
end
end Go.Sx
namespace Go.Proofs.YtkeommmigopnkaaGreatDoor
open Go.RowKit Go.Sx Go.Dl Go.Lk Go.Rq Go.Au Go.Hi Go.St
abbrev jbZ:List Value:=[.int .i64 0,.int .u32 0,.int .u64 0,.int .u64 0,.bool false,.bool false,.int .u64 0,.int .u64 0,.bool false]
theorem chk_take:∀ {l:List Ev} {A:Au} {n:Nat},chk A l=none→chk A (l.take n)=none
 | [],A,n,_=>by rw [List.take_nil];rfl
 | e::l,A,0,_=>rfl
 | e::l,A,n+1,h=>by
  obtain ⟨h1,h2⟩:=chk_cons h;show (match nxt A e with | none=>some 0 | some B=>(chk B (l.take n)).map (· + 1)) = none;unfold Go.Au.nxt;rw [if_pos h1];dsimp only;rw [chk_take (n:=n) h2];rfl
theorem stCh_take {c:Cf} {l:List Ev} (h:stCh c l=0) (n:Nat):stCh c (l.take n)=0:=by
 unfold stCh at h ⊢
 by_cases he:(confF c).err=0
 ·rw [if_pos he] at h ⊢;rw [if_neg]
  by_cases h1:0≤chkI l∨l.any (strayE c.ts.length)=true
  ·rw [if_pos h1] at h;cases h
  ·rintro (q | q)
   ·refine h1 (.inl ?_);have hc:chk au0 l≠none:=fun hn=>by
     have:=chk_take (n:=n) hn;unfold chkI at q;rw [this] at q;exact absurd q (by decide)
    unfold chkI
    cases e:chk au0 l with
    | none=>exact absurd e hc
    | some k=>exact Int.natCast_nonneg k
   ·refine h1 (.inr ?_);obtain ⟨x,hx,h2⟩:=List.any_eq_true.1 q;exact List.any_eq_true.2 ⟨x,List.mem_of_mem_take hx,h2⟩
 ·rw [if_neg he] at h;cases h
theorem span_of {c:Cf} {l:List Ev} (G:GoodE c l) (h:FewP l):∀ i,i<l.length→(evg l i).co≤(evg l 0).co+1000:=fun i hi=>by
 have a:=chk_co G.ck i (l.length-1) (by omega) (by omega);have b:=chk_co G.ck 0 (l.length-1) (by omega) (by omega);have f:=fun j (hj:j<l.length)=>(G.ft _ (evg_mem hj)).1.co;have f0:=f 0 (by omega);have f1:=f (l.length-1) (by omega)
 rcases h.2 with h | h | h
 ·omega
 ·omega
 ·have e:w64 ((evg l (l.length-1)).co-(evg l 0).co)=(evg l (l.length-1)).co-(evg l 0).co:=Int.emod_eq_of_lt (by omega) (by omega);omega
theorem partsW (v u:Value) (c:Cf) (rg:CfRng c) (l:List Ev) (hev:∀ e∈l,EvOk e) (a2:Int) (w0:World) (hr:RdCf w0 v c) (hu:RdR w0 u l) (hT:Tab w0) (z2:-9223372036854775808≤a2∧a2≤9223372036854775807) :
  Calls Tryz.prog 4 #[v,u,.int .i64 a2] w0 (RetV w0 (.bool true) emp):=by
 have hs:=Sat.start w0;have hA:=hid (fun (w:World) (h:Sat w0 w any)=>lawAwake28 w (hT.later h));have hF:=hid (fun (w:World) (h:Sat w0 w any)=>hFew v u c l w (hr.later h) (hu.later h));have hC:=hid (fun (hl:l.length≤600) (w:World) (G:HP) (h:Sat w0 w G)=>rCheck v u c rg l (by omega) hev w0 w G hr (staysE_old hu) h);have hJ:=hid (fun (hl:l.length≤600) (w:World) (G:HP) (h:Sat w0 w G)=>stJobs v u c rg l (by omega) hev w0 w G hr (staysE_old hu) h);have hK0:=hid (fun (x:Value) (L:List Ev) (hL:∀ e∈L,EvOk e) (hl:L.length≤600) (hx:RdR w0 x L) (w:World) (G:HP) (h:Sat w0 w G)=>stJobs v x c rg L (by omega) hL w0 w G hr (staysE_old hx) h);have Hev:=hid hev;have HGe:=hid (fun (h:stCh c l=0)=>good_of rg hev h);obtain ⟨ua,uc,rfl⟩:∃ ua uc,u=.slice ua l.length uc:=by
  obtain ⟨a,cap,b,off,e,_⟩:=hu;exact ⟨a,cap,e⟩
 have hcap:=hu.caps;unfold maxLen at hcap;have Hu:=hid hu;obtain ⟨ta,la,sa,qa,ma,tc,lc,sc,qc,mc,rfl,h1,h2,h3,h4,h5⟩:=hr.form;clear hr hu h1 h2 h3 h4 h5 hT hev rg
 go_enter Tryz.func4,Tryz.ntmps4
 go_wp2_with fail;refine (hA.out _ own_left).mono ?_;rintro en w1 ⟨rfl,hp⟩;have hs1:=Sat.past (w0:=w0) own_it hp;clear hp hs;go_wp2_with fail;refine (hF.out _ own_left).mono ?_;rintro en w2 ⟨z,rfl,hp,hz⟩;have hs2:=Sat.past (w0:=w0) own_it hp;clear hp hs1 hF
 cases z
 ·clear hz;go_wp2_with fail;refine (hA.out _ own_left).mono ?_;rintro en w9 ⟨rfl,hp⟩;have hs9:=Sat.past (w0:=w0) own_it hp;clear hp;go_wp2_with fail;go_ret;exact ⟨rfl,own_left⟩
 have Hfew:=hid (hz rfl);have H6:=hid Hfew.out.1;clear hz
 by_cases hn:a2<0
 ·have dn:decide (a2<0)=true:=decide_eq_true hn;clear hn;go_wp2_with fail;refine (hA.out _ own_left).mono ?_;rintro en w9 ⟨rfl,hp⟩;have hs9:=Sat.past (w0:=w0) own_it hp;clear hp;go_wp2_with fail;go_ret;exact ⟨rfl,own_left⟩
 have dn:decide (a2<0)=false:=decide_eq_false hn
 by_cases hm:(l.length:Int)<a2
 ·have dm:decide ((l.length:Int)<a2)=true:=decide_eq_true hm;clear hm;go_wp2_with fail;refine (hA.out _ own_left).mono ?_;rintro en w9 ⟨rfl,hp⟩;have hs9:=Sat.past (w0:=w0) own_it hp;clear hp;go_wp2_with fail;go_ret;exact ⟨rfl,own_left⟩
 obtain ⟨n,rfl⟩:∃ n:Nat,a2=n:=⟨a2.toNat,by omega⟩;have hnl:n≤l.length:=by omega
 have dm:decide (l.length<n)=false:=decide_eq_false (by omega);clear hn hm dn;go_wp2_with fail;refine (hC.out H6.out _ _ own_it).mono ?_;rintro en w3 ⟨rfl,hs3⟩;generalize w0.heap.size=cb at *;clear hs2 hC
 by_cases h0:stCh c l=0
 ·have H0:=hid h0;have H1:=hid (stCh_take h0 n);have HG:=hid (HGe.out h0);have HS:=hid (span_of HG.out Hfew.out);have e1:(stCh c l != 0)=false:=by simp [h0]
  clear h0 HGe;obtain ⟨px,hpx⟩:=partR_sliced (E:=encEv) (ad:=ua) (n:=l.length) (c:=uc) (l:=l) 0 n (Nat.zero_le _) hnl;have hpl:((l.take n).drop 0).length=n:=by rw [List.drop_zero,List.length_take];omega
  rw [hpl,Nat.sub_zero,List.drop_zero] at hpx;have HPv:=hid ((hpx w0 Hu.out).1);have hPt:=hid (hK0.out (.slice px n uc) (l.take n) (fun e he=>Hev.out e (List.mem_of_mem_take he)) (by rw [List.length_take];have:=H6.out;omega) ((hpx w0 Hu.out).2));clear hpx hpl hK0
  by_cases b0:n=0
  ·have HPl:=hid (parts_plain HG.out HS.out hnl (.inl b0));have g1:decide (0<n)=false:=decide_eq_false (by omega);have g1i:¬ (0:Int)<(n:Int):=by omega
   clear b0;go_wp2_with fail;refine wp_gen (w0:=w0) ?_;intro wy hsy;clear hs3;refine wp_region_early (fun w'=>Sat w0 w' (pts cb 0 [.slice ta c.ts.length tc,.slice la c.ls.length lc,.int .i64 c.mutexes,.slice sa c.sems.length sc,.slice qa c.queues.length qc,.slice ma c.timers.length mc,.int .i64 c.table,.int .u32 c.mask,.int .u32 c.filter,.int .i64 c.charge,.int .u64 c.cycle,.int .u64 c.count]*any)) [(0,true),(1,true),(2,true),(3,true),(4,true),(5,true),(6,true),(7,true),(8,true),(9,true),(10,true),(11,true),(12,true),(13,true),(14,true),(15,true),(16,true),(17,true),(18,true),(19,true),(20,true),(21,true)] (by kernel_rfl) (by kernel_rfl) (fun _ _ _ _ h=>h) own_left ?_
   iterate 22 (first | refine early_S ?_ | refine early_N ?_)
   refine early_done ?_;have hs3:=hsy;clear hsy;go_wp2_with fail;refine (hJ.out H6.out _ _ own_it).mono ?_;rintro en w4 hJ1
   rcases hJ1 with ⟨hx,_,_⟩ | ⟨_,aa,ka,rfl,hs4⟩
   ·exact absurd H0.out hx
   clear hs3 hJ;go_wp2_with fail;refine wp_gen (w0:=w0) ?_;intro wz hsz;clear hs4;refine wp_region_early (fun w'=>Sat w0 w' (pts cb 0 [.slice ta c.ts.length tc,.slice la c.ls.length lc,.int .i64 c.mutexes,.slice sa c.sems.length sc,.slice qa c.queues.length qc,.slice ma c.timers.length mc,.int .i64 c.table,.int .u32 c.mask,.int .u32 c.filter,.int .i64 c.charge,.int .u64 c.cycle,.int .u64 c.count]*(recsP (.slice aa (Bk.read (tks0 c) l).jb.length ka) (Bk.read (tks0 c) l).jb*any))) [(0,true),(1,true),(2,true),(3,true),(4,false),(5,true),(6,true),(7,true),(8,true),(9,true)] (by kernel_rfl) (by kernel_rfl) (fun _ _ _ _ h=>h) own_left ?_
   iterate 3 (first | refine early_S ?_ | refine early_N ?_)
   refine early_T rfl (by rfl) ⟨.slice px n uc,fun w hSw=>(exec_slice_to (E:=encEv) rfl rfl rfl (by omega) (by omega) hcap.2.1).trans (by rw [Int.toNat_natCast,HPv.out]),?_⟩;simp only [Act.put,zqA,zqP,zqQ];refine early_G rfl (by rfl) (fun K hK=>?_);go_wp2_with fail;refine (hPt.out _ _ own_it).mono ?_;rintro en w5 hJ2
   rcases hJ2 with ⟨hx,_,_⟩ | ⟨_,pa,kp,rfl,hs5⟩
   ·exact absurd H1.out hx
   go_wp2_with fail;refine ⟨own_left,?_⟩
   iterate 5 (first | refine early_S ?_ | refine early_N ?_)
   refine early_done ?_;clear hsz hPt;obtain ⟨AL,hAL⟩:∃ L,L=(Bk.read (tks0 c) l).jb:=⟨_,rfl⟩;obtain ⟨PL,hPL⟩:∃ L,L=(Bk.read (tks0 c) (l.take n)).jb:=⟨_,rfl⟩;rw [← hAL,← hPL] at HPl hs5;simp only [← hAL,← hPL];clear hAL hPL;have hle:PL.length≤AL.length:=HPl.out.1;have d3:decide (AL.length<PL.length)=false:=decide_eq_false (by omega);go_wp2_with fail;refine wp_gen (w0:=w0) ?_;intro wx hsx;clear hs5
   go_loopw [90] (fun i wr=>∃ k:Nat,k≤PL.length∧i=.int .i64 k∧Sat w0 wr (recsP (.slice pa PL.length kp) PL*(recsP (.slice aa AL.length ka) AL*any))) (fun i _=>PL.length-(intOf i).toNat)
   case atStart=>exact ⟨0,Nat.zero_le _,rfl,own_left⟩
   case round =>
    obtain ⟨k,hk,rfl,hsr⟩:=hrel;clear hsx
    by_cases hlt:k<PL.length
    ·have hlt2:k<AL.length:=by omega
     have d1:decide (k<PL.length)=true:=decide_eq_true hlt;have i1:(k:Int)<(PL.length:Int):=by omega
     have d2:decide (k<AL.length)=true:=decide_eq_true hlt2;have i2:(k:Int)<(AL.length:Int):=by omega
     have hq:=hid (HPl.out.2 k hlt);have hcp:=(hsr.pull (Q:=recsP (.slice pa PL.length kp) PL)).rdR.caps;unfold maxLen at hcp;obtain ⟨pg,po,rfl⟩:=recs_at (hsr.pull (Q:=recsP (.slice pa PL.length kp) PL)) (by omega);obtain ⟨ag,ao,rfl⟩:=recs_at (hsr.pull (Q:=recsP (.slice aa AL.length ka) AL)) (by omega);have HrP:=hid (fun (w:World) (G:HP) (h:Sat w0 w (recsP (.slice (some ⟨pg,po,none⟩) PL.length kp) PL*G))=>(show w.rangeAt pg (po+k*9) (jbCells (jg PL k)) from recs_row h hlt rfl));have HrA:=hid (fun (w:World) (G:HP) (h:Sat w0 w (recsP (.slice (some ⟨ag,ao,none⟩) AL.length ka) AL*G))=>(show w.rangeAt ag (ao+k*9) (jbCells (jg AL k)) from recs_row h hlt2 rfl));generalize jg PL k=xj at *;generalize jg AL k=xk at *;obtain ⟨jt,jn,jr,jf,je,jm,jl,jb,jy⟩:=xj;obtain ⟨kt,kn,kr,kf,ke,km,kl,kb,ky⟩:=xk;obtain ⟨q1,q2,q3⟩:=hq.out;dsimp only at q1 q2 q3;have c1:decide (kb<jb)=false:=decide_eq_false (by omega);have c2:decide (kl<jl)=false:=decide_eq_false (by omega);clear q1 q2
     cases je with
     | false =>
      clear q3;go_wp2_with (first | (refine wpList_load_mid rfl _ _ rfl _ _ rfl _ _ (HrP.out _ _ own) Tryz.underlying47 rfl (by kernel_rfl) ?_) | (refine wpList_load_mid rfl _ _ rfl _ _ rfl _ _ (HrA.out _ _ own) Tryz.underlying47 rfl (by kernel_rfl) ?_) | (refine wpList_store_sat (w0:=w0) (cells:=jbCells ⟨jt,jn,jr,jf,false,jm,jl,jb,jy⟩) (old:=jbZ) rfl rfl rfl rfl own rfl (by kernel_rfl) rfl ?_;intro wS hsS) | (refine wpList_store_sat (w0:=w0) (cells:=jbCells ⟨kt,kn,kr,kf,ke,km,kl,kb,ky⟩) (old:=jbZ) rfl rfl rfl rfl own rfl (by kernel_rfl) rfl ?_;intro wS hsS));go_roundw
      case rel=>exact ⟨k+1,by omega,by go_num,own_left⟩
      case measure=>simp [intOf];omega
     | true =>
      obtain ⟨q4,q5⟩:=q3 rfl;simp only [Jb.mk.injEq] at q5;obtain ⟨rfl,rfl,rfl,rfl,rfl,rfl,rfl,_,rfl⟩:=q5;clear q3 q4;go_wp2_with (first | (refine wpList_load_mid rfl _ _ rfl _ _ rfl _ _ (HrP.out _ _ own) Tryz.underlying47 rfl (by kernel_rfl) ?_) | (refine wpList_load_mid rfl _ _ rfl _ _ rfl _ _ (HrA.out _ _ own) Tryz.underlying47 rfl (by kernel_rfl) ?_) | (refine wpList_store_sat (w0:=w0) (cells:=jbCells ⟨kt,kn,kr,kf,true,km,kl,jb,ky⟩) (old:=jbZ) rfl rfl rfl rfl own rfl (by kernel_rfl) rfl ?_;intro wS hsS) | (refine wpList_store_sat (w0:=w0) (cells:=jbCells ⟨kt,kn,kr,kf,true,km,kl,kb,ky⟩) (old:=jbZ) rfl rfl rfl rfl own rfl (by kernel_rfl) rfl ?_;intro wS hsS));go_roundw
      case rel=>exact ⟨k+1,by omega,by go_num,own_left⟩
      case measure=>simp [intOf];omega
    ·have d1:decide (k<PL.length)=false:=decide_eq_false hlt;go_wp2_with fail;go_ret;exact ⟨rfl,own_left⟩
  ·have g1:decide (0<n)=true:=decide_eq_true (by omega)
   by_cases b1:n=l.length
   ·have HPl:=hid (parts_plain HG.out HS.out hnl (.inr (.inl b1)));have g2:decide (n<l.length)=false:=decide_eq_false (by omega);clear b1;go_wp2_with fail;refine wp_gen (w0:=w0) ?_;intro wy hsy;clear hs3;refine wp_region_early (fun w'=>Sat w0 w' (pts cb 0 [.slice ta c.ts.length tc,.slice la c.ls.length lc,.int .i64 c.mutexes,.slice sa c.sems.length sc,.slice qa c.queues.length qc,.slice ma c.timers.length mc,.int .i64 c.table,.int .u32 c.mask,.int .u32 c.filter,.int .i64 c.charge,.int .u64 c.cycle,.int .u64 c.count]*any)) [(0,true),(1,true),(2,true),(3,true),(4,true),(5,true),(6,true),(7,true),(8,true),(9,true),(10,true),(11,true),(12,true),(13,true),(14,true),(15,true),(16,true),(17,true),(18,true),(19,true),(20,true),(21,true)] (by kernel_rfl) (by kernel_rfl) (fun _ _ _ _ h=>h) own_left ?_
    iterate 22 (first | refine early_S ?_ | refine early_N ?_)
    refine early_done ?_;have hs3:=hsy;clear hsy;go_wp2_with fail;refine (hJ.out H6.out _ _ own_it).mono ?_;rintro en w4 hJ1
    rcases hJ1 with ⟨hx,_,_⟩ | ⟨_,aa,ka,rfl,hs4⟩
    ·exact absurd H0.out hx
    clear hs3 hJ;go_wp2_with fail;refine wp_gen (w0:=w0) ?_;intro wz hsz;clear hs4;refine wp_region_early (fun w'=>Sat w0 w' (pts cb 0 [.slice ta c.ts.length tc,.slice la c.ls.length lc,.int .i64 c.mutexes,.slice sa c.sems.length sc,.slice qa c.queues.length qc,.slice ma c.timers.length mc,.int .i64 c.table,.int .u32 c.mask,.int .u32 c.filter,.int .i64 c.charge,.int .u64 c.cycle,.int .u64 c.count]*(recsP (.slice aa (Bk.read (tks0 c) l).jb.length ka) (Bk.read (tks0 c) l).jb*any))) [(0,true),(1,true),(2,true),(3,true),(4,false),(5,true),(6,true),(7,true),(8,true),(9,true)] (by kernel_rfl) (by kernel_rfl) (fun _ _ _ _ h=>h) own_left ?_
    iterate 3 (first | refine early_S ?_ | refine early_N ?_)
    refine early_T rfl (by rfl) ⟨.slice px n uc,fun w hSw=>(exec_slice_to (E:=encEv) rfl rfl rfl (by omega) (by omega) hcap.2.1).trans (by rw [Int.toNat_natCast,HPv.out]),?_⟩;simp only [Act.put,zqA,zqP,zqQ];refine early_G rfl (by rfl) (fun K hK=>?_);go_wp2_with fail;refine (hPt.out _ _ own_it).mono ?_;rintro en w5 hJ2
    rcases hJ2 with ⟨hx,_,_⟩ | ⟨_,pa,kp,rfl,hs5⟩
    ·exact absurd H1.out hx
    go_wp2_with fail;refine ⟨own_left,?_⟩
    iterate 5 (first | refine early_S ?_ | refine early_N ?_)
    refine early_done ?_;clear hsz hPt;obtain ⟨AL,hAL⟩:∃ L,L=(Bk.read (tks0 c) l).jb:=⟨_,rfl⟩;obtain ⟨PL,hPL⟩:∃ L,L=(Bk.read (tks0 c) (l.take n)).jb:=⟨_,rfl⟩;rw [← hAL,← hPL] at HPl hs5;simp only [← hAL,← hPL];clear hAL hPL;have hle:PL.length≤AL.length:=HPl.out.1;have d3:decide (AL.length<PL.length)=false:=decide_eq_false (by omega);go_wp2_with fail;refine wp_gen (w0:=w0) ?_;intro wx hsx;clear hs5
    go_loopw [90] (fun i wr=>∃ k:Nat,k≤PL.length∧i=.int .i64 k∧Sat w0 wr (recsP (.slice pa PL.length kp) PL*(recsP (.slice aa AL.length ka) AL*any))) (fun i _=>PL.length-(intOf i).toNat)
    case atStart=>exact ⟨0,Nat.zero_le _,rfl,own_left⟩
    case round =>
     obtain ⟨k,hk,rfl,hsr⟩:=hrel;clear hsx
     by_cases hlt:k<PL.length
     ·have hlt2:k<AL.length:=by omega
      have d1:decide (k<PL.length)=true:=decide_eq_true hlt;have i1:(k:Int)<(PL.length:Int):=by omega
      have d2:decide (k<AL.length)=true:=decide_eq_true hlt2;have i2:(k:Int)<(AL.length:Int):=by omega
      have hq:=hid (HPl.out.2 k hlt);have hcp:=(hsr.pull (Q:=recsP (.slice pa PL.length kp) PL)).rdR.caps;unfold maxLen at hcp;obtain ⟨pg,po,rfl⟩:=recs_at (hsr.pull (Q:=recsP (.slice pa PL.length kp) PL)) (by omega);obtain ⟨ag,ao,rfl⟩:=recs_at (hsr.pull (Q:=recsP (.slice aa AL.length ka) AL)) (by omega);have HrP:=hid (fun (w:World) (G:HP) (h:Sat w0 w (recsP (.slice (some ⟨pg,po,none⟩) PL.length kp) PL*G))=>(show w.rangeAt pg (po+k*9) (jbCells (jg PL k)) from recs_row h hlt rfl));have HrA:=hid (fun (w:World) (G:HP) (h:Sat w0 w (recsP (.slice (some ⟨ag,ao,none⟩) AL.length ka) AL*G))=>(show w.rangeAt ag (ao+k*9) (jbCells (jg AL k)) from recs_row h hlt2 rfl));generalize jg PL k=xj at *;generalize jg AL k=xk at *;obtain ⟨jt,jn,jr,jf,je,jm,jl,jb,jy⟩:=xj;obtain ⟨kt,kn,kr,kf,ke,km,kl,kb,ky⟩:=xk;obtain ⟨q1,q2,q3⟩:=hq.out;dsimp only at q1 q2 q3;have c1:decide (kb<jb)=false:=decide_eq_false (by omega);have c2:decide (kl<jl)=false:=decide_eq_false (by omega);clear q1 q2
      cases je with
      | false =>
       clear q3;go_wp2_with (first | (refine wpList_load_mid rfl _ _ rfl _ _ rfl _ _ (HrP.out _ _ own) Tryz.underlying47 rfl (by kernel_rfl) ?_) | (refine wpList_load_mid rfl _ _ rfl _ _ rfl _ _ (HrA.out _ _ own) Tryz.underlying47 rfl (by kernel_rfl) ?_) | (refine wpList_store_sat (w0:=w0) (cells:=jbCells ⟨jt,jn,jr,jf,false,jm,jl,jb,jy⟩) (old:=jbZ) rfl rfl rfl rfl own rfl (by kernel_rfl) rfl ?_;intro wS hsS) | (refine wpList_store_sat (w0:=w0) (cells:=jbCells ⟨kt,kn,kr,kf,ke,km,kl,kb,ky⟩) (old:=jbZ) rfl rfl rfl rfl own rfl (by kernel_rfl) rfl ?_;intro wS hsS));go_roundw
       case rel=>exact ⟨k+1,by omega,by go_num,own_left⟩
       case measure=>simp [intOf];omega
      | true =>
       obtain ⟨q4,q5⟩:=q3 rfl;simp only [Jb.mk.injEq] at q5;obtain ⟨rfl,rfl,rfl,rfl,rfl,rfl,rfl,_,rfl⟩:=q5;clear q3 q4;go_wp2_with (first | (refine wpList_load_mid rfl _ _ rfl _ _ rfl _ _ (HrP.out _ _ own) Tryz.underlying47 rfl (by kernel_rfl) ?_) | (refine wpList_load_mid rfl _ _ rfl _ _ rfl _ _ (HrA.out _ _ own) Tryz.underlying47 rfl (by kernel_rfl) ?_) | (refine wpList_store_sat (w0:=w0) (cells:=jbCells ⟨kt,kn,kr,kf,true,km,kl,jb,ky⟩) (old:=jbZ) rfl rfl rfl rfl own rfl (by kernel_rfl) rfl ?_;intro wS hsS) | (refine wpList_store_sat (w0:=w0) (cells:=jbCells ⟨kt,kn,kr,kf,true,km,kl,kb,ky⟩) (old:=jbZ) rfl rfl rfl rfl own rfl (by kernel_rfl) rfl ?_;intro wS hsS));go_roundw
       case rel=>exact ⟨k+1,by omega,by go_num,own_left⟩
       case measure=>simp [intOf];omega
     ·have d1:decide (k<PL.length)=false:=decide_eq_false hlt;go_wp2_with fail;go_ret;exact ⟨rfl,own_left⟩
   ·have g2:decide (n<l.length)=true:=decide_eq_true (by omega);have g3:(n:Int)<(l.length:Int):=by omega
    obtain ⟨eg,eo,rfl,_⟩:=rdR_at (k:=0) Hu.out (by omega);have HX:=hid (fun (w:World) (G:HP) (h:Sat w0 w G)=>ev_cell (Hu.out.later h) (k:=n) (by omega));have HY:=hid (fun (w:World) (G:HP) (h:Sat w0 w G)=>ev_cell (Hu.out.later h) (k:=n-1) (by omega));have u9:IntKind.i64.wrap ((n:Int)-1)=((n-1:Nat):Int):=by rw [IntKind.wrap_i64];omega
    have d9:decide (n-1<l.length)=true:=decide_eq_true (by omega);have i9:((n-1:Nat):Int)<(l.length:Int):=by omega
    have HB:=hid (fun (h:(evg l n).co≠(evg l (n-1)).co)=>parts_plain HG.out HS.out hnl (.inr (.inr h)));generalize (evg l n).co=cn at HX HB;generalize (evg l (n-1)).co=cp at HY HB
    by_cases heq:cn=cp
    ·have ee:(cn==cp)=true:=by simp [heq]
     clear heq;go_wp2_with fail;refine wp_gen (w0:=w0) ?_;intro wy hsy;clear hs3;refine wp_region_early (fun w'=>Sat w0 w' (pts cb 0 [.slice ta c.ts.length tc,.slice la c.ls.length lc,.int .i64 c.mutexes,.slice sa c.sems.length sc,.slice qa c.queues.length qc,.slice ma c.timers.length mc,.int .i64 c.table,.int .u32 c.mask,.int .u32 c.filter,.int .i64 c.charge,.int .u64 c.cycle,.int .u64 c.count]*any)) [(0,true),(1,true),(2,true),(3,true),(4,true),(5,true),(6,true),(7,true),(8,true),(9,true),(10,true),(11,true),(12,true),(13,true),(14,true),(15,true),(16,true),(17,true),(18,true),(19,true),(20,true),(21,true)] (by kernel_rfl) (by kernel_rfl) (fun _ _ _ _ h=>h) own_left ?_
     iterate 13 (first | refine early_S ?_ | refine early_N ?_)
     refine early_T rfl (by rfl) ⟨.int .u64 cn,fun w hSw=>?_,?_⟩
     ·have h0:=HX.out w _ hSw
      go_simp
      try with_reducible rfl
     simp only [Act.put,zqA,zqP,zqQ]
     iterate 5 (first | refine early_S ?_ | refine early_N ?_)
     refine early_T rfl (by rfl) ⟨.int .u64 cp,fun w hSw=>?_,?_⟩
     ·have h0:=HY.out w _ hSw
      go_simp
      try with_reducible rfl
     simp only [Act.put,zqA,zqP,zqQ]
     iterate 2 (first | refine early_S ?_ | refine early_N ?_)
     refine early_done ?_;have hs3:=hsy;clear hsy;go_wp2_with fail;go_ret;exact ⟨rfl,own_left⟩
    ·have HPl:=hid (HB.out heq);have ee:(cn==cp)=false:=by simp [heq]
     clear heq HB;go_wp2_with fail;refine wp_gen (w0:=w0) ?_;intro wy hsy;clear hs3;refine wp_region_early (fun w'=>Sat w0 w' (pts cb 0 [.slice ta c.ts.length tc,.slice la c.ls.length lc,.int .i64 c.mutexes,.slice sa c.sems.length sc,.slice qa c.queues.length qc,.slice ma c.timers.length mc,.int .i64 c.table,.int .u32 c.mask,.int .u32 c.filter,.int .i64 c.charge,.int .u64 c.cycle,.int .u64 c.count]*any)) [(0,true),(1,true),(2,true),(3,true),(4,true),(5,true),(6,true),(7,true),(8,true),(9,true),(10,true),(11,true),(12,true),(13,true),(14,true),(15,true),(16,true),(17,true),(18,true),(19,true),(20,true),(21,true)] (by kernel_rfl) (by kernel_rfl) (fun _ _ _ _ h=>h) own_left ?_
     iterate 13 (first | refine early_S ?_ | refine early_N ?_)
     refine early_T rfl (by rfl) ⟨.int .u64 cn,fun w hSw=>?_,?_⟩
     ·have h0:=HX.out w _ hSw
      go_simp
      try with_reducible rfl
     simp only [Act.put,zqA,zqP,zqQ]
     iterate 5 (first | refine early_S ?_ | refine early_N ?_)
     refine early_T rfl (by rfl) ⟨.int .u64 cp,fun w hSw=>?_,?_⟩
     ·have h0:=HY.out w _ hSw
      go_simp
      try with_reducible rfl
     simp only [Act.put,zqA,zqP,zqQ]
     iterate 2 (first | refine early_S ?_ | refine early_N ?_)
     refine early_done ?_;have hs3:=hsy;clear hsy;go_wp2_with fail;refine (hJ.out H6.out _ _ own_it).mono ?_;rintro en w4 hJ1
     rcases hJ1 with ⟨hx,_,_⟩ | ⟨_,aa,ka,rfl,hs4⟩
     ·exact absurd H0.out hx
     clear hs3 hJ;go_wp2_with fail;refine wp_gen (w0:=w0) ?_;intro wz hsz;clear hs4;refine wp_region_early (fun w'=>Sat w0 w' (pts cb 0 [.slice ta c.ts.length tc,.slice la c.ls.length lc,.int .i64 c.mutexes,.slice sa c.sems.length sc,.slice qa c.queues.length qc,.slice ma c.timers.length mc,.int .i64 c.table,.int .u32 c.mask,.int .u32 c.filter,.int .i64 c.charge,.int .u64 c.cycle,.int .u64 c.count]*(recsP (.slice aa (Bk.read (tks0 c) l).jb.length ka) (Bk.read (tks0 c) l).jb*any))) [(0,true),(1,true),(2,true),(3,true),(4,false),(5,true),(6,true),(7,true),(8,true),(9,true)] (by kernel_rfl) (by kernel_rfl) (fun _ _ _ _ h=>h) own_left ?_
     iterate 3 (first | refine early_S ?_ | refine early_N ?_)
     refine early_T rfl (by rfl) ⟨.slice px n uc,fun w hSw=>(exec_slice_to (E:=encEv) rfl rfl rfl (by omega) (by omega) hcap.2.1).trans (by rw [Int.toNat_natCast,HPv.out]),?_⟩;simp only [Act.put,zqA,zqP,zqQ];refine early_G rfl (by rfl) (fun K hK=>?_);go_wp2_with fail;refine (hPt.out _ _ own_it).mono ?_;rintro en w5 hJ2
     rcases hJ2 with ⟨hx,_,_⟩ | ⟨_,pa,kp,rfl,hs5⟩
     ·exact absurd H1.out hx
     go_wp2_with fail;refine ⟨own_left,?_⟩
     iterate 5 (first | refine early_S ?_ | refine early_N ?_)
     refine early_done ?_;clear hsz hPt;obtain ⟨AL,hAL⟩:∃ L,L=(Bk.read (tks0 c) l).jb:=⟨_,rfl⟩;obtain ⟨PL,hPL⟩:∃ L,L=(Bk.read (tks0 c) (l.take n)).jb:=⟨_,rfl⟩;rw [← hAL,← hPL] at HPl hs5;simp only [← hAL,← hPL];clear hAL hPL;have hle:PL.length≤AL.length:=HPl.out.1;have d3:decide (AL.length<PL.length)=false:=decide_eq_false (by omega);go_wp2_with fail;refine wp_gen (w0:=w0) ?_;intro wx hsx;clear hs5
     go_loopw [90] (fun i wr=>∃ k:Nat,k≤PL.length∧i=.int .i64 k∧Sat w0 wr (recsP (.slice pa PL.length kp) PL*(recsP (.slice aa AL.length ka) AL*any))) (fun i _=>PL.length-(intOf i).toNat)
     case atStart=>exact ⟨0,Nat.zero_le _,rfl,own_left⟩
     case round =>
      obtain ⟨k,hk,rfl,hsr⟩:=hrel;clear hsx
      by_cases hlt:k<PL.length
      ·have hlt2:k<AL.length:=by omega
       have d1:decide (k<PL.length)=true:=decide_eq_true hlt;have i1:(k:Int)<(PL.length:Int):=by omega
       have d2:decide (k<AL.length)=true:=decide_eq_true hlt2;have i2:(k:Int)<(AL.length:Int):=by omega
       have hq:=hid (HPl.out.2 k hlt);have hcp:=(hsr.pull (Q:=recsP (.slice pa PL.length kp) PL)).rdR.caps;unfold maxLen at hcp;obtain ⟨pg,po,rfl⟩:=recs_at (hsr.pull (Q:=recsP (.slice pa PL.length kp) PL)) (by omega);obtain ⟨ag,ao,rfl⟩:=recs_at (hsr.pull (Q:=recsP (.slice aa AL.length ka) AL)) (by omega);have HrP:=hid (fun (w:World) (G:HP) (h:Sat w0 w (recsP (.slice (some ⟨pg,po,none⟩) PL.length kp) PL*G))=>(show w.rangeAt pg (po+k*9) (jbCells (jg PL k)) from recs_row h hlt rfl));have HrA:=hid (fun (w:World) (G:HP) (h:Sat w0 w (recsP (.slice (some ⟨ag,ao,none⟩) AL.length ka) AL*G))=>(show w.rangeAt ag (ao+k*9) (jbCells (jg AL k)) from recs_row h hlt2 rfl));generalize jg PL k=xj at *;generalize jg AL k=xk at *;obtain ⟨jt,jn,jr,jf,je,jm,jl,jb,jy⟩:=xj;obtain ⟨kt,kn,kr,kf,ke,km,kl,kb,ky⟩:=xk;obtain ⟨q1,q2,q3⟩:=hq.out;dsimp only at q1 q2 q3;have c1:decide (kb<jb)=false:=decide_eq_false (by omega);have c2:decide (kl<jl)=false:=decide_eq_false (by omega);clear q1 q2
       cases je with
       | false =>
        clear q3;go_wp2_with (first | (refine wpList_load_mid rfl _ _ rfl _ _ rfl _ _ (HrP.out _ _ own) Tryz.underlying47 rfl (by kernel_rfl) ?_) | (refine wpList_load_mid rfl _ _ rfl _ _ rfl _ _ (HrA.out _ _ own) Tryz.underlying47 rfl (by kernel_rfl) ?_) | (refine wpList_store_sat (w0:=w0) (cells:=jbCells ⟨jt,jn,jr,jf,false,jm,jl,jb,jy⟩) (old:=jbZ) rfl rfl rfl rfl own rfl (by kernel_rfl) rfl ?_;intro wS hsS) | (refine wpList_store_sat (w0:=w0) (cells:=jbCells ⟨kt,kn,kr,kf,ke,km,kl,kb,ky⟩) (old:=jbZ) rfl rfl rfl rfl own rfl (by kernel_rfl) rfl ?_;intro wS hsS));go_roundw
        case rel=>exact ⟨k+1,by omega,by go_num,own_left⟩
        case measure=>simp [intOf];omega
       | true =>
        obtain ⟨q4,q5⟩:=q3 rfl;simp only [Jb.mk.injEq] at q5;obtain ⟨rfl,rfl,rfl,rfl,rfl,rfl,rfl,_,rfl⟩:=q5;clear q3 q4;go_wp2_with (first | (refine wpList_load_mid rfl _ _ rfl _ _ rfl _ _ (HrP.out _ _ own) Tryz.underlying47 rfl (by kernel_rfl) ?_) | (refine wpList_load_mid rfl _ _ rfl _ _ rfl _ _ (HrA.out _ _ own) Tryz.underlying47 rfl (by kernel_rfl) ?_) | (refine wpList_store_sat (w0:=w0) (cells:=jbCells ⟨kt,kn,kr,kf,true,km,kl,jb,ky⟩) (old:=jbZ) rfl rfl rfl rfl own rfl (by kernel_rfl) rfl ?_;intro wS hsS) | (refine wpList_store_sat (w0:=w0) (cells:=jbCells ⟨kt,kn,kr,kf,true,km,kl,kb,ky⟩) (old:=jbZ) rfl rfl rfl rfl own rfl (by kernel_rfl) rfl ?_;intro wS hsS));go_roundw
        case rel=>exact ⟨k+1,by omega,by go_num,own_left⟩
        case measure=>simp [intOf];omega
      ·have d1:decide (k<PL.length)=false:=decide_eq_false hlt;go_wp2_with fail;go_ret;exact ⟨rfl,own_left⟩
 ·have e1:(stCh c l != 0)=true:=by simp [h0]
  clear h0;go_wp2_with fail;refine (hA.out _ own_left).mono ?_;rintro en w9 ⟨rfl,hp⟩;have hs9:=Sat.past (w0:=w0) own_it hp;clear hp;go_wp2_with fail;go_ret;exact ⟨rfl,own_left⟩
theorem statParts_walk (v0:Value) (c:Cf) (v1:Value) (n1:Nat) (f1:Nat→Nat→Int) (a2:Int) (w0:World) (hr:RdCf w0 v0 c) (rg:CfRng c) (h1:RdK kEv w0 v1 n1 f1) (z2:(Lit.int .i64 a2).wf=true) (hT:Tab w0) :
  Calls Tryz.prog 4 #[v0,v1,.int .i64 a2] w0 (RetV w0 (.bool true) emp):=by
 obtain ⟨l,_,hu,hev⟩:=evs_of_RdK h1;have hz:(decide (-9223372036854775808≤a2) && decide (a2≤9223372036854775807))=true:=z2;simp only [Bool.and_eq_true,decide_eq_true_eq] at hz;exact partsW v0 v1 c rg l hev a2 w0 hr hu hT hz
end Go.Proofs.YtkeommmigopnkaaGreatDoor
